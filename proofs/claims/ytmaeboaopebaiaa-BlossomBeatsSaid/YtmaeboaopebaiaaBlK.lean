/-
  Matchings in any graph, in plain words: lists of edges and matchings; edges that bear other numbers; rising lists with the same elements. No program in sight.
-/
import Derived.Test.YtmaeboaopebaiaaPkU
set_option linter.unusedSimpArgs false
set_option linter.unusedVariables false
namespace Go.Mz

theorem dg_two {e : Nat → Edg} {m : Nat → Int} {v : Int} {i j k : Nat} (hij : i < j) (hj : j < k) (hi' : (e (m i).toNat).fr = v ∨ (e (m i).toNat).to = v) (hj' : (e (m j).toNat).fr = v ∨ (e (m j).toNat).to = v) : 2 ≤ dg e m k v := by
  have one : ∀ t, ((e (m t).toNat).fr = v ∨ (e (m t).toNat).to = v) → dg e m t v + 1 ≤ dg e m (t + 1) v := fun t ht => by
    show dg e m t v + 1 ≤ dg e m t v + (if _ then 1 else 0) + (if _ then 1 else 0)
    rcases ht with ht | ht
    · rw [if_pos ht]; omega
    · rw [if_pos ht]; omega
  have h1 := one i hi'
  have h2 := one j hj'
  have h3 := dg_mono (e := e) (m := m) (v := v) (j := i + 1) (k := j) (by omega)
  have h4 := dg_mono (e := e) (m := m) (v := v) (j := j + 1) (k := k) (by omega)
  omega

section
variable {M n : Nat} {e : Nat → Edg}

theorem psum_cnt {p : Nat → Bool} : ∀ {N : Nat}, psum (fun v => if p v = true then 1 else 0) N = (cnt p N : Int)
  | 0 => rfl
  | N + 1 => by
    show psum _ N + (if p N = true then (1 : Int) else 0) = ((cnt p N + (if p N = true then 1 else 0) : Nat) : Int)
    rw [psum_cnt]
    by_cases h : p N = true
    · rw [if_pos h, if_pos h]; omega
    · rw [if_neg h, if_neg h]; omega

/-- edges that are taken, as a matching -/
theorem Tkn.mm (hr : Right (M : Int) n e) {m : Nat → Int} {k : Nat} (h : Tkn (M : Int) n e m k fun _ => 1) : ∃ b', MM M n (ef e) (et e) M b' ∧ cnt (fun v => decide (b' v = -1)) M + 2 * k = M ∧ ∀ v, v < M → (b' v = -1 ↔ dg e m k (v : Int) = 0) := by
  classical
  let At : Nat → Nat → Prop := fun v j => j < k ∧ ((e (m j).toNat).fr = (v : Int) ∨ (e (m j).toNat).to = (v : Int))
  have hch : ∀ v, ∃ x : Int, (∃ j, At v j ∧ x = m j) ∨ ((¬ ∃ j, At v j) ∧ x = -1) := fun v => by
    by_cases hv : ∃ j, At v j
    · obtain ⟨j, hj⟩ := hv
      exact ⟨m j, .inl ⟨j, hj, rfl⟩⟩
    · exact ⟨-1, .inr ⟨hv, rfl⟩⟩
  obtain ⟨b', hb⟩ := Classical.axiomOfChoice hch
  have hle : ∀ v, v < M → dg e m k (v : Int) ≤ 1 := fun v hv => by
    have := h.mst (v : Int) (by omega) (by omega)
    omega
  have uniq : ∀ v, v < M → ∀ i j, At v i → At v j → i = j := fun v hv i j hi hj => by
    rcases Nat.lt_trichotomy i j with hh | hh | hh
    · have := dg_two hh hj.1 hi.2 hj.2; have := hle v hv; omega
    · exact hh
    · have := dg_two hh hi.1 hj.2 hi.2; have := hle v hv; omega
  have zero : ∀ v, v < M → (b' v = -1 ↔ dg e m k (v : Int) = 0) := fun v hv => by
    constructor
    · intro e1
      rcases hb v with ⟨j, hj, e2⟩ | ⟨hno, _⟩
      · have := (h.ris j hj.1).1; omega
      · exact dg_none fun i hi => ⟨fun hh => hno ⟨i, hi, .inl hh⟩, fun hh => hno ⟨i, hi, .inr hh⟩⟩
    · intro e1
      rcases hb v with ⟨j, hj, e2⟩ | ⟨_, e2⟩
      · exfalso
        have h1 : dg e m (j + 1) (v : Int) ≤ dg e m k (v : Int) := dg_mono hj.1
        have h2 : 1 ≤ dg e m (j + 1) (v : Int) := by
          show 1 ≤ dg e m j _ + (if _ then 1 else 0) + (if _ then 1 else 0)
          rcases hj.2 with hh | hh
          · rw [if_pos hh]; omega
          · rw [if_pos hh]; omega
        omega
      · exact e2
  refine ⟨b', fun v hv _ => ?_, ?_, zero⟩
  · rcases hb v with ⟨j, hj, e2⟩ | ⟨_, e2⟩
    · right
      have hjr := h.ris j hj.1
      obtain ⟨i, hi⟩ : ∃ i : Nat, m j = i := ⟨(m j).toNat, by omega⟩
      have hin : i < n := by omega
      obtain ⟨f1, f2⟩ := hr.ends hin
      have hnl := h.nl j hj.1
      rw [hi, Int.toNat_natCast] at hnl
      have hjv := hj.2
      rw [hi, Int.toNat_natCast] at hjv
      have hen : En n (ef e) (et e) i v := ⟨hin, fun hh => hnl (by unfold lp; omega), by omega⟩
      have hoM := hen.ot.nd hr.nds
      refine ⟨i, by rw [e2, hi], hen, by omega, ?_⟩
      have hat : At (ot (ef e) (et e) i v) j := ⟨hj.1, by
        rw [hi, Int.toNat_natCast]
        have := hen.ot.2.2
        omega⟩
      rcases hb (ot (ef e) (et e) i v) with ⟨j', hj', e3⟩ | ⟨hno, _⟩
      · have := uniq _ hoM j j' hat hj'
        rw [e3, ← this, hi]
      · exact (hno ⟨j, hat⟩).elim
    · exact .inl e2
  · have hw := weight_sum (fun _ => 1) hr h.ris
    rw [Int.toNat_natCast] at hw
    have h1 : psum (fun v => (1 : Int) * (dg e m k (v : Int) : Int)) M = psum (fun v => if (!decide (b' v = -1)) = true then 1 else 0) M := psum_congr fun v hv => by
      have h2 := hle v hv
      have h3 := zero v hv
      by_cases hz : b' v = -1
      · rw [h3.1 hz]; simp [hz]
      · have : dg e m k (v : Int) ≠ 0 := fun hh => hz (h3.2 hh)
        have : dg e m k (v : Int) = 1 := by omega
        rw [this]; simp [hz]
    have h2 : psum (fun j => (1 : Int) + 1) k = 2 * (k : Int) := by
      have : ∀ k : Nat, psum (fun j => (1 : Int) + 1) k = 2 * (k : Int) := fun k => by
        induction k with
        | zero => rfl
        | succ k ih => show psum (fun j => (1 : Int) + 1) k + ((1 : Int) + 1) = _; rw [ih]; omega
      exact this k
    rw [h1, psum_cnt, h2] at hw
    have h3 := cnt_full (fun v => decide (b' v = -1)) M
    omega

/-- a node is taken out, with its mate -/
theorem MM.drop {n : Nat} {fr to : Nat → Nat} {b : Nat → Int} (hN : Nds M n fr to) (h : MM M n fr to M b) (v : Nat) : ∃ b2, MM M n fr to M b2 ∧ (v < M → b2 v = -1) ∧ (∀ u, u < M → b2 u = -1 ∨ b2 u = b u) ∧ cnt (fun u => decide (b2 u = -1)) M ≤ cnt (fun u => decide (b u = -1)) M + 2 := by
  by_cases hv : v < M ∧ 0 ≤ b v
  · obtain ⟨hv, h0⟩ := hv
    obtain ⟨i, ei, hi, em, _, hbm, hmm⟩ := h.en hv (by omega) h0
    have hmM := h.ltN hN hv h0
    have hne : mt fr to b v ≠ v := by rw [em]; exact hi.ne
    refine ⟨upf (upf b v (-1)) (mt fr to b v) (-1), fun u hu _ => ?_, fun _ => by rw [upf_ne hne.symm, upf_same], fun u hu => ?_, ?_⟩
    · by_cases e1 : u = mt fr to b v
      · left; rw [e1, upf_same]
      · rw [upf_ne e1]
        by_cases e2 : u = v
        · left; rw [e2, upf_same]
        · rw [upf_ne e2]
          rcases h u hu (by omega) with e3 | ⟨j, e3, hj, hjo, hb⟩
          · exact .inl e3
          · right
            have hmu : mt fr to b u = ot fr to j u := by unfold mt; rw [e3, Int.toNat_natCast]
            have h0u : 0 ≤ b u := by omega
            have n1 : ot fr to j u ≠ v := fun hh => e1 (by rw [← hh, ← hmu]; exact ((h.en hu (by omega) h0u).choose_spec.2.2.2.2.2).symm)
            have n2 : ot fr to j u ≠ mt fr to b v := fun hh => e2 (h.inj hu hv h0u h0 (by rw [hmu, hh]))
            exact ⟨j, e3, hj, hjo, by rw [upf_ne n2, upf_ne n1]; exact hb⟩
    · by_cases e1 : u = mt fr to b v
      · left; rw [e1, upf_same]
      · rw [upf_ne e1]
        by_cases e2 : u = v
        · left; rw [e2, upf_same]
        · right; rw [upf_ne e2]
    · have c1 := cnt_less (p := fun u => decide (upf (upf b v (-1)) (mt fr to b v) (-1) u = -1)) (q := fun u => decide (upf b v (-1) u = -1)) hmM (decide_eq_true upf_same) (decide_eq_false (by rw [upf_ne hne, hbm]; omega)) (fun u _ hne' => by rw [upf_ne hne'])
      have c2 := cnt_less (p := fun u => decide (upf b v (-1) u = -1)) (q := fun u => decide (b u = -1)) hv (decide_eq_true upf_same) (decide_eq_false (by omega)) (fun u _ hne' => by rw [upf_ne hne'])
      omega
  · refine ⟨b, h, fun hh => ?_, fun u _ => .inr rfl, by omega⟩
    exact h.neg hh (by omega) (Classical.byContradiction fun hn => hv ⟨hh, by omega⟩)
end
end Go.Mz
