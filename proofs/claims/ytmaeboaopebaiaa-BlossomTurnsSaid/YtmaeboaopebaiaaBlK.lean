/-
  Matchings in any graph, in plain words: lists of edges and matchings; edges that bear other numbers; rising lists with the same elements. No program in sight.
-/
import Derived.Test.YtmaeboaopebaiaaPkU
set_option linter.unusedSimpArgs false
set_option linter.unusedVariables false
namespace Go.Mz

theorem ris_same {m m' : Nat → Int} {k k' : Nat} {N : Int} (h : Ris m k N) (h' : Ris m' k' N) (he : ∀ x, In m k x ↔ In m' k' x) : k = k' ∧ ∀ i, i < k → m i = m' i := by
  have key : ∀ {m m' : Nat → Int} {k k' : Nat}, Ris m k N → Ris m' k' N → (∀ x, In m k x ↔ In m' k' x) → ∀ i, i < k → i < k' ∧ m i = m' i := by
    intro m m' k k' h h' he i
    induction i using Nat.strongRecOn with
    | _ i ih =>
      intro hi
      obtain ⟨t, ht, et'⟩ := (he (m i)).1 ⟨i, hi, rfl⟩
      have hti : i ≤ t := Classical.byContradiction fun hn => by
        have := (ih t (by omega) (by omega)).2
        have := h.lt (i := t) (j := i) (by omega) hi
        omega
      have hik : i < k' := by omega
      refine ⟨hik, ?_⟩
      obtain ⟨s, hs, es⟩ := (he (m' i)).2 ⟨i, hik, rfl⟩
      have hsi : i ≤ s := Classical.byContradiction fun hn => by
        have h1 := (ih s (by omega) (by omega)).2
        have h2 := h'.lt (i := s) (j := i) (by omega) hik
        omega
      have h1 : m' i ≤ m' t := by
        rcases Nat.lt_or_ge i t with hh | hh
        · have := h'.lt hh ht; omega
        · have : t = i := by omega
          rw [this]; exact Int.le_refl _
      have h2 : m i ≤ m s := by
        rcases Nat.lt_or_ge i s with hh | hh
        · have := h.lt hh hs; omega
        · have : s = i := by omega
          rw [this]; exact Int.le_refl _
      omega
  have a := key h h' he
  have b := key h' h fun x => (he x).symm
  refine ⟨?_, fun i hi => (a i hi).2⟩
  rcases Nat.lt_trichotomy k k' with hh | hh | hh
  · have := (b k hh).1; omega
  · exact hh
  · have := (a k' hh).1; omega

section
variable {M n : Nat} {e : Nat → Edg}

/-- the edges bear other numbers -/
theorem MM.ren {n n' : Nat} {fr to fr' to' : Nat → Nat} {b : Nat → Int} (h : MM M n fr to M b) (π : Nat → Nat) (hπ : ∀ v i : Nat, v < M → b v = (i : Int) → π i < n' ∧ ((fr' (π i) = fr i ∧ to' (π i) = to i) ∨ (fr' (π i) = to i ∧ to' (π i) = fr i))) (hN : Nds M n fr to) :
    MM M n' fr' to' M (fun v => if b v < 0 then -1 else (π (b v).toNat : Int)) ∧ ∀ v, v < M → ((if b v < 0 then -1 else (π (b v).toNat : Int)) = -1 ↔ b v = -1) := by
  constructor
  · intro v hv _
    by_cases h0 : b v < 0
    · left; show (if b v < 0 then (-1 : Int) else _) = -1; rw [if_pos h0]
    · right
      obtain ⟨i, ei, hi, em, _, hbm, _⟩ := h.en hv (by omega) (by omega)
      obtain ⟨h1, h2⟩ := hπ v i hv ei
      rw [em] at hbm
      have hoM := hi.ot.nd hN
      have eo : ot fr' to' (π i) v = ot fr to i v := by unfold ot; omega
      refine ⟨π i, by show (if b v < 0 then (-1 : Int) else (π (b v).toNat : Int)) = _; rw [if_neg h0, ei, Int.toNat_natCast], ⟨h1, ?_, ?_⟩, by rw [eo]; omega, ?_⟩
      · have := hi.2.1; omega
      · have := hi.2.2; omega
      · rw [eo]
        show (if b (ot fr to i v) < 0 then (-1 : Int) else (π (b (ot fr to i v)).toNat : Int)) = _
        rw [if_neg (by rw [hbm]; omega), hbm, Int.toNat_natCast]
  · intro v hv
    by_cases h0 : b v < 0
    · rw [if_pos h0]; exact ⟨fun _ => (h.lt_iff hv).1 h0, fun _ => rfl⟩
    · rw [if_neg h0]; exact ⟨fun hh => by omega, fun hh => by omega⟩

/-- a node is taken out, with its mate -/
theorem MM.drop {n : Nat} {fr to : Nat → Nat} {b : Nat → Int} (hN : Nds M n fr to) (h : MM M n fr to M b) (v : Nat) : ∃ b2, MM M n fr to M b2 ∧ (v < M → b2 v = -1) ∧ (∀ u, u < M → b2 u = -1 ∨ b2 u = b u) ∧ cnt (fun u => decide (b2 u = -1)) M ≤ cnt (fun u => decide (b u = -1)) M + 2 := by
  by_cases hv : v < M ∧ 0 ≤ b v
  · obtain ⟨hv, h0⟩ := hv
    obtain ⟨i, ei, hi, em, _, hbm, hmm⟩ := h.en hv (by omega) h0
    have hmM := h.ltN hN hv h0
    have hne : mt fr to b v ≠ v := by rw [em]; exact hi.ne
    refine ⟨upf (upf b v (-1)) (mt fr to b v) (-1), fun u hu _ => ?_, fun _ => by rw [upf_ne hne.symm, upf_same], fun u hu => ?_, ?_⟩
    · by_cases e1 : u = mt fr to b v
      · left; rw [e1, upf_same]
      · rw [upf_ne e1]
        by_cases e2 : u = v
        · left; rw [e2, upf_same]
        · rw [upf_ne e2]
          rcases h u hu (by omega) with e3 | ⟨j, e3, hj, hjo, hb⟩
          · exact .inl e3
          · right
            have hmu : mt fr to b u = ot fr to j u := by unfold mt; rw [e3, Int.toNat_natCast]
            have h0u : 0 ≤ b u := by omega
            have n1 : ot fr to j u ≠ v := fun hh => e1 (by rw [← hh, ← hmu]; exact ((h.en hu (by omega) h0u).choose_spec.2.2.2.2.2).symm)
            have n2 : ot fr to j u ≠ mt fr to b v := fun hh => e2 (h.inj hu hv h0u h0 (by rw [hmu, hh]))
            exact ⟨j, e3, hj, hjo, by rw [upf_ne n2, upf_ne n1]; exact hb⟩
    · by_cases e1 : u = mt fr to b v
      · left; rw [e1, upf_same]
      · rw [upf_ne e1]
        by_cases e2 : u = v
        · left; rw [e2, upf_same]
        · right; rw [upf_ne e2]
    · have c1 := cnt_less (p := fun u => decide (upf (upf b v (-1)) (mt fr to b v) (-1) u = -1)) (q := fun u => decide (upf b v (-1) u = -1)) hmM (decide_eq_true upf_same) (decide_eq_false (by rw [upf_ne hne, hbm]; omega)) (fun u _ hne' => by rw [upf_ne hne'])
      have c2 := cnt_less (p := fun u => decide (upf b v (-1) u = -1)) (q := fun u => decide (b u = -1)) hv (decide_eq_true upf_same) (decide_eq_false (by omega)) (fun u _ hne' => by rw [upf_ne hne'])
      omega
  · refine ⟨b, h, fun hh => ?_, fun u _ => .inr rfl, by omega⟩
    exact h.neg hh (by omega) (Classical.byContradiction fun hn => hv ⟨hh, by omega⟩)
end
end Go.Mz
