/-
  Joined: BlK, LBlA, LBlT.
-/
import Derived.Test.YtmaeboaopebaiaaPkU
import Derived.Test.YtmaeboaopebaiaaPkM
import Derived.Test.YtmaeboaopebaiaaPkT
import Derived.Test.YtmaeboaopebaiaaGL17
import Derived.Test.YtmaeboaopebaiaaRefA
import Derived.Test.YtmaeboaopebaiaaRfK
import Derived.Test.YtmaeboaopebaiaaGLBT
set_option linter.unusedSimpArgs false
set_option linter.unusedVariables false
/-
  Matchings in any graph, in plain words: lists of edges and matchings; edges that bear other numbers; rising lists with the same elements. No program in sight.
-/
namespace Go.Mz

theorem ris_same {m m' : Nat → Int} {k k' : Nat} {N : Int} (h : Ris m k N) (h' : Ris m' k' N) (he : ∀ x, In m k x ↔ In m' k' x) : k = k' ∧ ∀ i, i < k → m i = m' i := by
  have key : ∀ {m m' : Nat → Int} {k k' : Nat}, Ris m k N → Ris m' k' N → (∀ x, In m k x ↔ In m' k' x) → ∀ i, i < k → i < k' ∧ m i = m' i := by
    intro m m' k k' h h' he i
    induction i using Nat.strongRecOn with
    | _ i ih =>
      intro hi
      obtain ⟨t, ht, et'⟩ := (he (m i)).1 ⟨i, hi, rfl⟩
      have hti : i ≤ t := Classical.byContradiction fun hn => by
        have := (ih t (by omega) (by omega)).2
        have := h.lt (i := t) (j := i) (by omega) hi
        omega
      have hik : i < k' := by omega
      refine ⟨hik, ?_⟩
      obtain ⟨s, hs, es⟩ := (he (m' i)).2 ⟨i, hik, rfl⟩
      have hsi : i ≤ s := Classical.byContradiction fun hn => by
        have h1 := (ih s (by omega) (by omega)).2
        have h2 := h'.lt (i := s) (j := i) (by omega) hik
        omega
      have h1 : m' i ≤ m' t := by
        rcases Nat.lt_or_ge i t with hh | hh
        · have := h'.lt hh ht; omega
        · have : t = i := by omega
          rw [this]; exact Int.le_refl _
      have h2 : m i ≤ m s := by
        rcases Nat.lt_or_ge i s with hh | hh
        · have := h.lt hh hs; omega
        · have : s = i := by omega
          rw [this]; exact Int.le_refl _
      omega
  have a := key h h' he
  have b := key h' h fun x => (he x).symm
  refine ⟨?_, fun i hi => (a i hi).2⟩
  rcases Nat.lt_trichotomy k k' with hh | hh | hh
  · have := (b k hh).1; omega
  · exact hh
  · have := (a k' hh).1; omega

theorem dg_two {e : Nat → Edg} {m : Nat → Int} {v : Int} {i j k : Nat} (hij : i < j) (hj : j < k) (hi' : (e (m i).toNat).fr = v ∨ (e (m i).toNat).to = v) (hj' : (e (m j).toNat).fr = v ∨ (e (m j).toNat).to = v) : 2 ≤ dg e m k v := by
  have one : ∀ t, ((e (m t).toNat).fr = v ∨ (e (m t).toNat).to = v) → dg e m t v + 1 ≤ dg e m (t + 1) v := fun t ht => by
    show dg e m t v + 1 ≤ dg e m t v + (if _ then 1 else 0) + (if _ then 1 else 0)
    rcases ht with ht | ht
    · rw [if_pos ht]; omega
    · rw [if_pos ht]; omega
  have h1 := one i hi'
  have h2 := one j hj'
  have h3 := dg_mono (e := e) (m := m) (v := v) (j := i + 1) (k := j) (by omega)
  have h4 := dg_mono (e := e) (m := m) (v := v) (j := j + 1) (k := k) (by omega)
  omega

section
variable {M n : Nat} {e : Nat → Edg}

theorem psum_cnt {p : Nat → Bool} : ∀ {N : Nat}, psum (fun v => if p v = true then 1 else 0) N = (cnt p N : Int)
  | 0 => rfl
  | N + 1 => by
    show psum _ N + (if p N = true then (1 : Int) else 0) = ((cnt p N + (if p N = true then 1 else 0) : Nat) : Int)
    rw [psum_cnt]
    by_cases h : p N = true
    · rw [if_pos h, if_pos h]; omega
    · rw [if_neg h, if_neg h]; omega

/-- edges that are taken, as a matching -/
theorem Tkn.mm (hr : Right (M : Int) n e) {m : Nat → Int} {k : Nat} (h : Tkn (M : Int) n e m k fun _ => 1) : ∃ b', MM M n (ef e) (et e) M b' ∧ cnt (fun v => decide (b' v = -1)) M + 2 * k = M ∧ ∀ v, v < M → (b' v = -1 ↔ dg e m k (v : Int) = 0) := by
  classical
  let At : Nat → Nat → Prop := fun v j => j < k ∧ ((e (m j).toNat).fr = (v : Int) ∨ (e (m j).toNat).to = (v : Int))
  have hch : ∀ v, ∃ x : Int, (∃ j, At v j ∧ x = m j) ∨ ((¬ ∃ j, At v j) ∧ x = -1) := fun v => by
    by_cases hv : ∃ j, At v j
    · obtain ⟨j, hj⟩ := hv
      exact ⟨m j, .inl ⟨j, hj, rfl⟩⟩
    · exact ⟨-1, .inr ⟨hv, rfl⟩⟩
  obtain ⟨b', hb⟩ := Classical.axiomOfChoice hch
  have hle : ∀ v, v < M → dg e m k (v : Int) ≤ 1 := fun v hv => by
    have := h.mst (v : Int) (by omega) (by omega)
    omega
  have uniq : ∀ v, v < M → ∀ i j, At v i → At v j → i = j := fun v hv i j hi hj => by
    rcases Nat.lt_trichotomy i j with hh | hh | hh
    · have := dg_two hh hj.1 hi.2 hj.2; have := hle v hv; omega
    · exact hh
    · have := dg_two hh hi.1 hj.2 hi.2; have := hle v hv; omega
  have zero : ∀ v, v < M → (b' v = -1 ↔ dg e m k (v : Int) = 0) := fun v hv => by
    constructor
    · intro e1
      rcases hb v with ⟨j, hj, e2⟩ | ⟨hno, _⟩
      · have := (h.ris j hj.1).1; omega
      · exact dg_none fun i hi => ⟨fun hh => hno ⟨i, hi, .inl hh⟩, fun hh => hno ⟨i, hi, .inr hh⟩⟩
    · intro e1
      rcases hb v with ⟨j, hj, e2⟩ | ⟨_, e2⟩
      · exfalso
        have h1 : dg e m (j + 1) (v : Int) ≤ dg e m k (v : Int) := dg_mono hj.1
        have h2 : 1 ≤ dg e m (j + 1) (v : Int) := by
          show 1 ≤ dg e m j _ + (if _ then 1 else 0) + (if _ then 1 else 0)
          rcases hj.2 with hh | hh
          · rw [if_pos hh]; omega
          · rw [if_pos hh]; omega
        omega
      · exact e2
  refine ⟨b', fun v hv _ => ?_, ?_, zero⟩
  · rcases hb v with ⟨j, hj, e2⟩ | ⟨_, e2⟩
    · right
      have hjr := h.ris j hj.1
      obtain ⟨i, hi⟩ : ∃ i : Nat, m j = i := ⟨(m j).toNat, by omega⟩
      have hin : i < n := by omega
      obtain ⟨f1, f2⟩ := hr.ends hin
      have hnl := h.nl j hj.1
      rw [hi, Int.toNat_natCast] at hnl
      have hjv := hj.2
      rw [hi, Int.toNat_natCast] at hjv
      have hen : En n (ef e) (et e) i v := ⟨hin, fun hh => hnl (by unfold lp; omega), by omega⟩
      have hoM := hen.ot.nd hr.nds
      refine ⟨i, by rw [e2, hi], hen, by omega, ?_⟩
      have hat : At (ot (ef e) (et e) i v) j := ⟨hj.1, by
        rw [hi, Int.toNat_natCast]
        have := hen.ot.2.2
        omega⟩
      rcases hb (ot (ef e) (et e) i v) with ⟨j', hj', e3⟩ | ⟨hno, _⟩
      · have := uniq _ hoM j j' hat hj'
        rw [e3, ← this, hi]
      · exact (hno ⟨j, hat⟩).elim
    · exact .inl e2
  · have hw := weight_sum (fun _ => 1) hr h.ris
    rw [Int.toNat_natCast] at hw
    have h1 : psum (fun v => (1 : Int) * (dg e m k (v : Int) : Int)) M = psum (fun v => if (!decide (b' v = -1)) = true then 1 else 0) M := psum_congr fun v hv => by
      have h2 := hle v hv
      have h3 := zero v hv
      by_cases hz : b' v = -1
      · rw [h3.1 hz]; simp [hz]
      · have : dg e m k (v : Int) ≠ 0 := fun hh => hz (h3.2 hh)
        have : dg e m k (v : Int) = 1 := by omega
        rw [this]; simp [hz]
    have h2 : psum (fun j => (1 : Int) + 1) k = 2 * (k : Int) := by
      have : ∀ k : Nat, psum (fun j => (1 : Int) + 1) k = 2 * (k : Int) := fun k => by
        induction k with
        | zero => rfl
        | succ k ih => show psum (fun j => (1 : Int) + 1) k + ((1 : Int) + 1) = _; rw [ih]; omega
      exact this k
    rw [h1, psum_cnt, h2] at hw
    have h3 := cnt_full (fun v => decide (b' v = -1)) M
    omega

/-- the edges bear other numbers -/
theorem MM.ren {n n' : Nat} {fr to fr' to' : Nat → Nat} {b : Nat → Int} (h : MM M n fr to M b) (π : Nat → Nat) (hπ : ∀ v i : Nat, v < M → b v = (i : Int) → π i < n' ∧ ((fr' (π i) = fr i ∧ to' (π i) = to i) ∨ (fr' (π i) = to i ∧ to' (π i) = fr i))) (hN : Nds M n fr to) :
    MM M n' fr' to' M (fun v => if b v < 0 then -1 else (π (b v).toNat : Int)) ∧ ∀ v, v < M → ((if b v < 0 then -1 else (π (b v).toNat : Int)) = -1 ↔ b v = -1) := by
  constructor
  · intro v hv _
    by_cases h0 : b v < 0
    · left; show (if b v < 0 then (-1 : Int) else _) = -1; rw [if_pos h0]
    · right
      obtain ⟨i, ei, hi, em, _, hbm, _⟩ := h.en hv (by omega) (by omega)
      obtain ⟨h1, h2⟩ := hπ v i hv ei
      rw [em] at hbm
      have hoM := hi.ot.nd hN
      have eo : ot fr' to' (π i) v = ot fr to i v := by unfold ot; omega
      refine ⟨π i, by show (if b v < 0 then (-1 : Int) else (π (b v).toNat : Int)) = _; rw [if_neg h0, ei, Int.toNat_natCast], ⟨h1, ?_, ?_⟩, by rw [eo]; omega, ?_⟩
      · have := hi.2.1; omega
      · have := hi.2.2; omega
      · rw [eo]
        show (if b (ot fr to i v) < 0 then (-1 : Int) else (π (b (ot fr to i v)).toNat : Int)) = _
        rw [if_neg (by rw [hbm]; omega), hbm, Int.toNat_natCast]
  · intro v hv
    by_cases h0 : b v < 0
    · rw [if_pos h0]; exact ⟨fun _ => (h.lt_iff hv).1 h0, fun _ => rfl⟩
    · rw [if_neg h0]; exact ⟨fun hh => by omega, fun hh => by omega⟩

/-- a node is taken out, with its mate -/
theorem MM.drop {n : Nat} {fr to : Nat → Nat} {b : Nat → Int} (hN : Nds M n fr to) (h : MM M n fr to M b) (v : Nat) : ∃ b2, MM M n fr to M b2 ∧ (v < M → b2 v = -1) ∧ (∀ u, u < M → b2 u = -1 ∨ b2 u = b u) ∧ cnt (fun u => decide (b2 u = -1)) M ≤ cnt (fun u => decide (b u = -1)) M + 2 := by
  by_cases hv : v < M ∧ 0 ≤ b v
  · obtain ⟨hv, h0⟩ := hv
    obtain ⟨i, ei, hi, em, _, hbm, hmm⟩ := h.en hv (by omega) h0
    have hmM := h.ltN hN hv h0
    have hne : mt fr to b v ≠ v := by rw [em]; exact hi.ne
    refine ⟨upf (upf b v (-1)) (mt fr to b v) (-1), fun u hu _ => ?_, fun _ => by rw [upf_ne hne.symm, upf_same], fun u hu => ?_, ?_⟩
    · by_cases e1 : u = mt fr to b v
      · left; rw [e1, upf_same]
      · rw [upf_ne e1]
        by_cases e2 : u = v
        · left; rw [e2, upf_same]
        · rw [upf_ne e2]
          rcases h u hu (by omega) with e3 | ⟨j, e3, hj, hjo, hb⟩
          · exact .inl e3
          · right
            have hmu : mt fr to b u = ot fr to j u := by unfold mt; rw [e3, Int.toNat_natCast]
            have h0u : 0 ≤ b u := by omega
            have n1 : ot fr to j u ≠ v := fun hh => e1 (by rw [← hh, ← hmu]; exact ((h.en hu (by omega) h0u).choose_spec.2.2.2.2.2).symm)
            have n2 : ot fr to j u ≠ mt fr to b v := fun hh => e2 (h.inj hu hv h0u h0 (by rw [hmu, hh]))
            exact ⟨j, e3, hj, hjo, by rw [upf_ne n2, upf_ne n1]; exact hb⟩
    · by_cases e1 : u = mt fr to b v
      · left; rw [e1, upf_same]
      · rw [upf_ne e1]
        by_cases e2 : u = v
        · left; rw [e2, upf_same]
        · right; rw [upf_ne e2]
    · have c1 := cnt_less (p := fun u => decide (upf (upf b v (-1)) (mt fr to b v) (-1) u = -1)) (q := fun u => decide (upf b v (-1) u = -1)) hmM (decide_eq_true upf_same) (decide_eq_false (by rw [upf_ne hne, hbm]; omega)) (fun u _ hne' => by rw [upf_ne hne'])
      have c2 := cnt_less (p := fun u => decide (upf b v (-1) u = -1)) (q := fun u => decide (b u = -1)) hv (decide_eq_true upf_same) (decide_eq_false (by omega)) (fun u _ hne' => by rw [upf_ne hne'])
      omega
  · refine ⟨b, h, fun hh => ?_, fun u _ => .inr rfl, by omega⟩
    exact h.neg hh (by omega) (Classical.byContradiction fun hn => hv ⟨hh, by omega⟩)
end
end Go.Mz

/-
  Walks of the statements of layer 17: the trial that each of them makes first; BlossomSolves.
-/
namespace Go.Mz

theorem mm_of {M n : Nat} {fr to : Nat → Nat} {b : Nat → Int} (h : ∀ v, v < M → b v = -1 ∨ (0 ≤ b v ∧ (b v).toNat < n ∧ fr (b v).toNat ≠ to (b v).toNat ∧ (v = fr (b v).toNat ∨ v = to (b v).toNat) ∧ ot fr to (b v).toNat v ≠ M ∧ b (ot fr to (b v).toNat v) = b v)) : MM M n fr to M b := fun v hv _ => by
  rcases h v hv with e | ⟨h0, h1, h2, h3, h4, h5⟩
  · exact .inl e
  · exact .inr ⟨(b v).toNat, by omega, ⟨h1, h2, h3⟩, h4, by rw [h5]; omega⟩

/-- a circle of five, and a sixth node -/
def fi17 : Nat → Edg
  | 0 => (0, 1, 0, 0)
  | 1 => (1, 2, 0, 0)
  | 2 => (2, 3, 0, 0)
  | 3 => (3, 4, 0, 0)
  | 4 => (4, 0, 0, 0)
  | _ => (0, 5, 0, 0)

/-- a star -/
def st17 : Nat → Edg
  | 0 => (0, 1, 0, 0)
  | 1 => (0, 2, 0, 0)
  | _ => (3, 0, 0, 0)

theorem fi17_right : Right ((6 : Nat) : Int) 6 fi17 := by
  refine ⟨by decide, by decide, by decide, fun i hi => ?_⟩
  have : i = 0 ∨ i = 1 ∨ i = 2 ∨ i = 3 ∨ i = 4 ∨ i = 5 := by omega
  rcases this with rfl | rfl | rfl | rfl | rfl | rfl <;> constructor <;> decide

theorem st17_right : Right ((4 : Nat) : Int) 3 st17 := by
  refine ⟨by decide, by decide, by decide, fun i hi => ?_⟩
  have : i = 0 ∨ i = 1 ∨ i = 2 := by omega
  rcases this with rfl | rfl | rfl <;> constructor <;> decide

def fiB : Nat → Int
  | 0 => 5
  | 5 => 5
  | 1 => 1
  | 2 => 1
  | 3 => 3
  | 4 => 3
  | _ => -1

theorem fi17_most {g cv : Nat → Int} {k q : Nat} (h : BlA 6 6 fi17 g k cv q) : k = 3 ∧ g 2 = 5 := by
  have h1 := h.mx fiB (mm_of (by decide))
  have e1 : cnt (fun u => decide (fiB u = -1)) 6 = 0 := by decide
  obtain ⟨b', _, h2⟩ := h.ex
  have hk : k = 3 := by omega
  subst hk
  refine ⟨rfl, ?_⟩
  have hris := h.lrg.tk.ris
  have r0 := hris 0 (by omega)
  have r1 := hris 1 (by omega)
  have r2 := hris 2 (by omega)
  have r01 : g 0 < g 1 := r1.2.2 (by decide)
  have r12 : g 1 < g 2 := r2.2.2 (by decide)
  -- all six nodes are matched, so the last one is
  have h5 := all_one fi17_right h.lrg.tk (by decide) 5 (by decide)
  refine Classical.byContradiction fun hne => ?_
  have hlt : ∀ i, i < 3 → g i ≤ 4 := fun i hi => by
    have : i = 0 ∨ i = 1 ∨ i = 2 := by omega
    rcases this with rfl | rfl | rfl <;> omega
  have h6 : dg fi17 g 3 ((5 : Nat) : Int) = 0 := dg_none fun i hi => by
    have h7 := (hris i hi).1
    have h8 := hlt i hi
    have : (g i).toNat = 0 ∨ (g i).toNat = 1 ∨ (g i).toNat = 2 ∨ (g i).toNat = 3 ∨ (g i).toNat = 4 := by omega
    rcases this with e' | e' | e' | e' | e' <;> rw [e'] <;> decide
  omega

def stB (w : Nat) (x : Int) : Nat → Int := fun v => if v = 0 ∨ v = w then x else -1

theorem st17_most {g cv : Nat → Int} {k q : Nat} (h : BlA 4 3 st17 g k cv q) : k = 1 ∧ q = 1 ∧ cv 0 = 0 := by
  have h1 := h.mx (stB 1 0) (mm_of (by decide))
  have e1 : cnt (fun u => decide (stB 1 0 u = -1)) 4 = 2 := by decide
  have hk1 : 1 ≤ k := by omega
  have hris := h.lrg.tk.ris
  have all0 : ∀ i, i < 3 → (st17 i).fr = 0 ∨ (st17 i).to = 0 := fun i hi => by
    have : i = 0 ∨ i = 1 ∨ i = 2 := by omega
    rcases this with rfl | rfl | rfl <;> decide
  have hk : k = 1 := by
    refine Classical.byContradiction fun hne => ?_
    have r0 := hris 0 (by omega)
    have r1 := hris 1 (by omega)
    have h2 : dg st17 g 2 0 ≤ dg st17 g k 0 := dg_mono (by omega)
    have h3 := h.lrg.tk.mst 0 (by decide) (by decide)
    have a0 := all0 (g 0).toNat (by omega)
    have a1 := all0 (g 1).toNat (by omega)
    have h4 : 2 ≤ dg st17 g 2 0 := by
      show 2 ≤ 0 + (if _ then 1 else 0) + (if _ then 1 else 0) + (if _ then 1 else 0) + (if _ then 1 else 0)
      rcases a0 with a0 | a0 <;> rcases a1 with a1 | a1 <;> rw [if_pos a0, if_pos a1] <;> omega
    omega
  subst hk
  have hend : ∀ i v, En 3 (ef st17) (et st17) i v → v = 0 ∨ ot (ef st17) (et st17) i v = 0 := fun i v hi => by
    have hin := hi.1
    have hv := hi.2.2
    have : i = 0 ∨ i = 1 ∨ i = 2 := by omega
    rcases this with rfl | rfl | rfl
    · have e1 : ef st17 0 = 0 := rfl
      have e2 : et st17 0 = 1 := rfl
      unfold ot; omega
    · have e1 : ef st17 1 = 0 := rfl
      have e2 : et st17 1 = 2 := rfl
      unfold ot; omega
    · have e1 : ef st17 2 = 3 := rfl
      have e2 : et st17 2 = 0 := rfl
      unfold ot; omega
  have n0 : ¬ Dv 4 3 (ef st17) (et st17) 1 0 := fun ⟨b', hb', hb0, hc⟩ => by
    have : ∀ v, v < 4 → decide (b' v = -1) = true := fun v hv => by
      refine decide_eq_true ?_
      rcases hb' v hv (by omega) with e' | ⟨i, e', hi, _, e2⟩
      · exact e'
      · rcases hend i v hi with hh | hh
        · rw [hh]; exact hb0
        · rw [hh] at e2; omega
    rw [cnt_all this] at hc
    omega
  have d1 : Dv 4 3 (ef st17) (et st17) 1 1 := ⟨stB 2 1, mm_of (by decide), by decide, by decide⟩
  have d2 : Dv 4 3 (ef st17) (et st17) 1 2 := ⟨stB 1 0, mm_of (by decide), by decide, by decide⟩
  have d3 : Dv 4 3 (ef st17) (et st17) 1 3 := ⟨stB 1 0, mm_of (by decide), by decide, by decide⟩
  have in0 : In cv q ((0 : Nat) : Int) := (h.set 0).2 ⟨by decide, n0, 0, ⟨by decide, by decide, .inl rfl⟩, d1⟩
  have only : ∀ j, j < q → cv j = 0 := fun j hj => by
    have hr := h.lrg.ris j hj
    obtain ⟨x, hx⟩ : ∃ x : Nat, cv j = x := ⟨(cv j).toNat, by omega⟩
    obtain ⟨hx4, hnd, _⟩ := (h.set x).1 ⟨j, hj, hx⟩
    have : x = 0 := by
      refine Classical.byContradiction fun hne => hnd ?_
      have : x = 1 ∨ x = 2 ∨ x = 3 := by omega
      rcases this with rfl | rfl | rfl
      · exact d1
      · exact d2
      · exact d3
    omega
  obtain ⟨i, hi, _⟩ := in0
  refine ⟨rfl, ?_, only 0 (by omega)⟩
  refine Classical.byContradiction fun hne => ?_
  have := (h.lrg.ris 1 (by omega)).2.2 (by decide)
  have a0 := only 0 (by omega)
  have a1 := only 1 (by omega)
  simp only [Nat.sub_self] at this
  omega

section
variable {E : Value → Hp → Prop}

theorem lfive17 {H : Hp} {K : Int → Option Addr → Nat → Nat → Hp → Prop} (kk : ∀ H' p, Step (fun _ => False) H H' → Rdr H' p 6 fi17 → K ((6 : Nat) : Int) p 6 6 H') : compasslaw17_five.call E H K := by
  refine compasslaw17_five.of (compasslaw17_five.run_eq ?_)
  unfold compasslaw17_five.run_t
  refine nwk fun b1 H1 hb1 e1 s1 => ?_
  refine nwk fun b2 H2 hb2 e2 s2 => ?_
  have e12 := s2.keep _ _ e1 fun h => h
  have d12 : b1 ≠ b2 := fun h => by rw [h] at e1; rw [e1] at hb2; cases hb2
  refine stk e12 rfl rfl fun H3 e3 s3 => ?_
  have e23 := s3.keep _ _ e2 fun h => d12 h.symm
  simp only [get_at e3, List.getElem?_cons_zero, List.getElem?_cons_succ, ldI_mk, ldS_mk]
  refine kk H3 _ ((s1.and s2).own s3 fun y hy => hy ▸ hb1) fun i hi => ⟨b2, 0, rfl, fun j hj => ?_⟩
  have hi' : i = 0 ∨ i = 1 ∨ i = 2 ∨ i = 3 ∨ i = 4 ∨ i = 5 := by omega
  have hj' : j = 0 ∨ j = 1 ∨ j = 2 ∨ j = 3 := by have : El.w Edg = 4 := rfl; omega
  rw [get_at e23]
  rcases hi' with rfl | rfl | rfl | rfl | rfl | rfl <;> rcases hj' with rfl | rfl | rfl | rfl <;> rfl

theorem lawake17 {H : Hp} {K : Bool → Hp → Prop} (kk : ∀ H', Step (fun _ => False) H H' → K true H') : compasslaw17_awake.call E H K := by
  refine compasslaw17_awake.of (compasslaw17_awake.run_eq ?_)
  unfold compasslaw17_awake.run_t
  refine lfive17 fun H1 p s1 he => ?_
  refine blsolve (M := 6) he fi17_right fun H2 mp mn mc g cp cn cc cv s2 r1 r2 f1 f2 f12 hA => ?_
  obtain ⟨rfl, g2⟩ := fi17_most hA
  refine nwk fun b1 H3 hb1 e1 s3 => ?_
  have he3 : Rdr H3 (some ⟨b1, 0, none⟩) 3 st17 := fun i hi => ⟨b1, 0, rfl, fun j hj => by
    have hi' : i = 0 ∨ i = 1 ∨ i = 2 := by omega
    have hj' : j = 0 ∨ j = 1 ∨ j = 2 ∨ j = 3 := by have : El.w Edg = 4 := rfl; omega
    rw [get_at e1]
    rcases hi' with rfl | rfl | rfl <;> rcases hj' with rfl | rfl | rfl | rfl <;> rfl⟩
  refine blsolve (M := 4) he3 st17_right fun H4 mp' mn' mc' g' cp' cn' cc' cv' s4 r1' r2' f1' f2' f12' hA' => ?_
  obtain ⟨rfl, rfl, c0⟩ := st17_most hA'
  have r14 := r1.keep (s3.and s4) fun _ _ h => h
  refine bct rfl ?_
  refine bct rfl ?_
  refine r14.ixI (by decide) (by decide) ?_
  refine bct g2 ?_
  refine bct rfl ?_
  refine bct rfl ?_
  refine bct rfl ?_
  refine r2'.ixI (by decide) (by decide) ?_
  have e0 : cv' (0 : Int).toNat = 0 := c0
  rw [e0]
  exact kk H4 (((s1.and s2).and s3).and s4)
end
end Go.Mz

/-
  BlossomTurns, walked: whatever the graph and the node, it answers true and leaves what was there as it was.
-/
namespace Go.Mz

/-- no larger, if its edges are among the other's -/
theorem BlA.le {M n n' k k' q q' : Nat} {e e' : Nat → Edg} {m m' set set' : Nat → Int} (hr : Right (M : Int) n e) (h : BlA M n e m k set q) (h' : BlA M n' e' m' k' set' q') (π : Nat → Nat) (hπ : ∀ i, i < n → π i < n' ∧ ((ef e' (π i) = ef e i ∧ et e' (π i) = et e i) ∨ (ef e' (π i) = et e i ∧ et e' (π i) = ef e i))) : k ≤ k' := by
  obtain ⟨b', hb', hc⟩ := h.ex
  obtain ⟨h1, h2⟩ := hb'.ren π (fun v i hv hi => by
    obtain ⟨j, ej, hj, _⟩ := hb'.en hv (by omega) (by omega)
    have : i = j := by omega
    subst this
    exact hπ i hj.1) hr.nds
  have h3 := h'.mx _ h1
  have h4 : cnt (fun u => decide ((if b' u < 0 then -1 else (π (b' u).toNat : Int)) = -1)) M = cnt (fun u => decide (b' u = -1)) M := cnt_congr fun u hu => by rw [decide_eq_decide]; exact h2 u hu
  omega

/-- no more than one fewer, if all edges but those at one node are there -/
theorem BlA.less {M n n' k k' q q' v : Nat} {e e' : Nat → Edg} {m m' set set' : Nat → Int} (hr : Right (M : Int) n e) (h : BlA M n e m k set q) (h' : BlA M n' e' m' k' set' q') (hv : ∀ i, i < n → (M ≤ v ∨ (ef e i ≠ v ∧ et e i ≠ v)) → ∃ j, j < n' ∧ e' j = e i) : k ≤ k' + 1 := by
  classical
  obtain ⟨b', hb', hc⟩ := h.ex
  obtain ⟨b2, h1, h2, h3, h4⟩ := hb'.drop hr.nds v
  have hch : ∀ i, ∃ j, (i < n → (M ≤ v ∨ (ef e i ≠ v ∧ et e i ≠ v)) → j < n' ∧ e' j = e i) := fun i => by
    by_cases hi : i < n ∧ (M ≤ v ∨ (ef e i ≠ v ∧ et e i ≠ v))
    · obtain ⟨j, hj⟩ := hv i hi.1 hi.2
      exact ⟨j, fun _ _ => hj⟩
    · exact ⟨0, fun a b => (hi ⟨a, b⟩).elim⟩
  obtain ⟨π, hπ⟩ := Classical.axiomOfChoice hch
  obtain ⟨h5, h6⟩ := h1.ren (n' := n') (fr' := ef e') (to' := et e') π (fun u i hu hi => by
    obtain ⟨j, ej, hj, em, _, hbm, _⟩ := h1.en hu (by omega) (by omega)
    have : i = j := by omega
    subst this
    have hok : M ≤ v ∨ (ef e i ≠ v ∧ et e i ≠ v) := by
      by_cases hvM : v < M
      · right
        have hb2 := h2 hvM
        rw [em] at hbm
        have h7 := hj.2.2
        constructor
        · intro hh
          by_cases huv : u = v
          · rw [huv, hb2] at ej; omega
          · have : ot (ef e) (et e) i u = v := by unfold ot; omega
            rw [this, hb2] at hbm; omega
        · intro hh
          by_cases huv : u = v
          · rw [huv, hb2] at ej; omega
          · have : ot (ef e) (et e) i u = v := by unfold ot; omega
            rw [this, hb2] at hbm; omega
      · exact .inl (by omega)
    obtain ⟨a, b⟩ := hπ i hj.1 hok
    exact ⟨a, .inl ⟨by unfold ef; rw [b], by unfold et; rw [b]⟩⟩) hr.nds
  have h7 := h'.mx _ h5
  have h8 : cnt (fun u => decide ((if b2 u < 0 then -1 else (π (b2 u).toNat : Int)) = -1)) M = cnt (fun u => decide (b2 u = -1)) M := cnt_congr fun u hu => by rw [decide_eq_decide]; exact h6 u hu
  omega

/-- the same nodes may be left out -/
theorem Dv.ren {M n n' k : Nat} {fr to fr' to' : Nat → Nat} (hN : Nds M n fr to) (π : Nat → Nat) (hπ : ∀ i, i < n → π i < n' ∧ ((fr' (π i) = fr i ∧ to' (π i) = to i) ∨ (fr' (π i) = to i ∧ to' (π i) = fr i))) {v : Nat} (hv : v < M) (h : Dv M n fr to k v) : Dv M n' fr' to' k v := by
  obtain ⟨b', hb', hbv, hc⟩ := h
  obtain ⟨h1, h2⟩ := hb'.ren (n' := n') (fr' := fr') (to' := to') π (fun v i hv hi => by
    obtain ⟨j, ej, hj, _⟩ := hb'.en hv (by omega) (by omega)
    have : i = j := by omega
    subst this
    exact hπ i hj.1) hN
  refine ⟨_, h1, (h2 v hv).2 hbv, ?_⟩
  have h4 : cnt (fun u => decide ((if b' u < 0 then -1 else (π (b' u).toNat : Int)) = -1)) M = cnt (fun u => decide (b' u = -1)) M := cnt_congr fun u hu => by rw [decide_eq_decide]; exact h2 u hu
  omega

/-- the set is the same when edges are turned about and stand in another order -/
theorem BlA.turned {M n k k' q q' : Nat} {e e' : Nat → Edg} {m m' set set' : Nat → Int} (hr : Right (M : Int) n e) (hr' : Right (M : Int) n e') (h : BlA M n e m k set q) (h' : BlA M n e' m' k' set' q') (he : ∀ i, i < n → e' i = trn (e (n - 1 - i))) : k = k' ∧ q = q' ∧ ∀ i, i < q → set i = set' i := by
  have f1 : ∀ i, i < n → ef e' i = et e (n - 1 - i) ∧ et e' i = ef e (n - 1 - i) := fun i hi => by
    unfold ef et; rw [he i hi]; exact ⟨rfl, rfl⟩
  have p1 : ∀ i, i < n → n - 1 - i < n ∧ ((ef e' (n - 1 - i) = ef e i ∧ et e' (n - 1 - i) = et e i) ∨ (ef e' (n - 1 - i) = et e i ∧ et e' (n - 1 - i) = ef e i)) := fun i hi => by
    have := f1 (n - 1 - i) (by omega)
    rw [show n - 1 - (n - 1 - i) = i by omega] at this
    exact ⟨by omega, .inr this⟩
  have p2 : ∀ i, i < n → n - 1 - i < n ∧ ((ef e (n - 1 - i) = ef e' i ∧ et e (n - 1 - i) = et e' i) ∨ (ef e (n - 1 - i) = et e' i ∧ et e (n - 1 - i) = ef e' i)) := fun i hi => by
    have := f1 i hi
    exact ⟨by omega, .inr ⟨this.2.symm, this.1.symm⟩⟩
  have k1 := h.le hr h' (fun i => n - 1 - i) p1
  have k2 := h'.le hr' h (fun i => n - 1 - i) p2
  have ek : k = k' := by omega
  subst ek
  have dv : ∀ v, v < M → (Dv M n (ef e) (et e) k v ↔ Dv M n (ef e') (et e') k v) := fun v hv => ⟨Dv.ren hr.nds _ p1 hv, Dv.ren hr'.nds _ p2 hv⟩
  have en : ∀ i v, En n (ef e) (et e) i v → En n (ef e') (et e') (n - 1 - i) v ∧ ot (ef e') (et e') (n - 1 - i) v = ot (ef e) (et e) i v := fun i v hi => by
    obtain ⟨a, b⟩ := p1 i hi.1
    have h2 := hi.2.1
    have h3 := hi.2.2
    exact ⟨⟨a, by omega, by omega⟩, by unfold ot; omega⟩
  have en' : ∀ i v, En n (ef e') (et e') i v → En n (ef e) (et e) (n - 1 - i) v ∧ ot (ef e) (et e) (n - 1 - i) v = ot (ef e') (et e') i v := fun i v hi => by
    obtain ⟨a, b⟩ := p2 i hi.1
    have h2 := hi.2.1
    have h3 := hi.2.2
    exact ⟨⟨a, by omega, by omega⟩, by unfold ot; omega⟩
  have hset : ∀ v, SetP M n (ef e) (et e) k v ↔ SetP M n (ef e') (et e') k v := fun v => by
    constructor
    · rintro ⟨hv, h1, i, hi, h2⟩
      obtain ⟨a, b⟩ := en i v hi
      exact ⟨hv, fun hd => h1 ((dv v hv).2 hd), _, a, by rw [b]; exact (dv _ (hi.ot.nd hr.nds)).1 h2⟩
    · rintro ⟨hv, h1, i, hi, h2⟩
      obtain ⟨a, b⟩ := en' i v hi
      exact ⟨hv, fun hd => h1 ((dv v hv).1 hd), _, a, by rw [b]; exact (dv _ (hi.ot.nd hr'.nds)).2 h2⟩
  refine ⟨rfl, ris_same h.lrg.ris h'.lrg.ris fun x => ?_⟩
  constructor
  · rintro ⟨i, hi, ei⟩
    have hri := h.lrg.ris i hi
    obtain ⟨y, hy⟩ : ∃ y : Nat, x = y := ⟨x.toNat, by omega⟩
    rw [hy]
    exact (h'.set y).2 ((hset y).1 ((h.set y).1 ⟨i, hi, by omega⟩))
  · rintro ⟨i, hi, ei⟩
    have hri := h'.lrg.ris i hi
    obtain ⟨y, hy⟩ : ∃ y : Nat, x = y := ⟨x.toNat, by omega⟩
    rw [hy]
    exact (h.set y).2 ((hset y).2 ((h'.set y).1 ⟨i, hi, by omega⟩))

theorem RightE.trn {N : Int} {x : Edg} (h : RightE N x) : RightE N (trn x) := ⟨h.t0, h.t1, h.f0, h.f1, h.c0, h.c1, h.k0, h.k1⟩

section
variable {E : Value → Hp → Prop}

theorem lints17 {p q : Option Addr} {n m c1 c2 : Nat} {f g : Nat → Int} {H : Hp} {K : Bool → Hp → Prop} (hp : Rdr H p n f) (hq : Rdr H q m g) (hn : n < 2 ^ 62) (hnm : n = m) (hfg : ∀ i, i < n → f i = g i) (kk : K true H) : compasslaw17_ints.call p n c1 q m c2 E H K := by
  subst hnm
  refine compasslaw17_ints.of (compasslaw17_ints.run_eq ?_)
  unfold compasslaw17_ints.run_t
  refine bcn (fun h => (h rfl).elim) fun _ => ?_
  refine compasslaw17_ints.l1_rule (fun ap an ac bp bn bc t12 t13 H' => ap = p ∧ an = n ∧ bp = q ∧ bn = n ∧ t12 = n ∧ H' = H ∧ ∃ i : Nat, t13 = i ∧ i ≤ n) (fun ap an ac bp bn bc t12 t13 H' => n - t13.toNat) ?_ ⟨rfl, rfl, rfl, rfl, rfl, rfl, 0, rfl, Nat.zero_le _⟩
  rintro ap an ac bp bn bc' t12 t13 H' ⟨rfl, rfl, rfl, rfl, rfl, rfl, i, rfl, hi⟩ X hX
  refine compasslaw17_ints.b1_eq ?_
  unfold compasslaw17_ints.b1_t
  refine bc (fun hlt => ?_) fun hge => kk
  refine hp.ixI (by omega) (by omega) ?_
  refine hq.ixI (by omega) (by omega) ?_
  refine bcn (fun h => (h (hfg _ (by omega))).elim) fun _ => ?_
  rw [i64w (by omega) (by omega)]
  exact hX _ _ _ _ _ _ _ _ _ ⟨rfl, rfl, rfl, rfl, rfl, rfl, i + 1, by omega, by omega⟩ (by omega)

end
end Go.Mz
