/-
  The document's functions of layer 3, walked: Copy and Same.
-/
import Derived.Test.YthcehonpfnmpiaaGreatPkM
import Derived.Test.YthcehonpfnmpiaaGreatMzZ
import Derived.Test.YthcehonpfnmpiaaGreatGRfc
set_option linter.unusedSimpArgs false
set_option linter.unusedVariables false
namespace Go.Mz
section
variable {E : Value → Hp → Prop}

/-- two graphs with the same nodes and the same edges are the same -/
theorem rsame3 {N : Int} {p p' : Option Addr} {n c c' : Nat} {e : Nat → Edg} {H : Hp} {K : Bool → Hp → Prop} (he : Rdr H p n e) (he' : Rdr H p' n e) (hn : n < 2 ^ 62)
    (kk : ∀ H', Step (fun _ => False) H H' → K true H') : compassref03_Same.call N p n c N p' n c' E H K := by
  refine compassref03_Same.of (compassref03_Same.run_eq ?_)
  unfold compassref03_Same.run_t
  refine nwk fun b1 H1 hb1 e1 s1 => ?_
  refine nwk fun b2 H2 hb2 e2 s2 => ?_
  have e12 := s2.keep _ _ e1 fun h => h
  have s02 := s1.and s2
  simp only [get_at e12, get_at e2, List.getElem?_cons_zero, List.getElem?_cons_succ, ldI_mk, ldS_mk]
  refine bcn (fun h => (h trivial).elim) fun _ => ?_
  try simp only [get_at e12, get_at e2, List.getElem?_cons_zero, List.getElem?_cons_succ, ldI_mk, ldS_mk]
  refine bcn (fun h => (h trivial).elim) fun _ => ?_
  have f1 := he.keep s02 fun _ _ _ h => h
  have f2 := he'.keep s02 fun _ _ _ h => h
  refine compassref03_Same.l1_rule (fun a2 b3 i5 H' => b1 = a2 ∧ b2 = b3 ∧ H2 = H' ∧ ∃ i : Nat, i5 = i ∧ i ≤ n) (fun a2 b3 i5 H' => n - i5.toNat) ?_ ⟨rfl, rfl, rfl, 0, rfl, by omega⟩
  rintro a2 b3 i5 H' ⟨rfl, rfl, rfl, i, rfl, hi⟩ X hX
  refine compassref03_Same.b1_eq ?_
  unfold compassref03_Same.b1_t
  simp only [get_at e12, get_at e2, List.getElem?_cons_zero, List.getElem?_cons_succ, ldI_mk, ldS_mk]
  refine bc (fun hlt => ?_) fun hge => kk _ s02
  refine f1.edge (by omega) (by omega) ?_
  refine f2.edge (by omega) (by omega) ?_
  simp only [Int.toNat_natCast, decide_true, Bool.and_self, Bool.not_true]
  refine bcb (fun h => by cases h) fun _ => ?_
  rw [i64w (by omega) (by omega)]
  exact hX _ _ _ _ ⟨rfl, rfl, rfl, i + 1, by omega, by omega⟩ (by omega)

/-- a graph's copy: its own edges -/
theorem rcopy {N : Int} {p : Option Addr} {n c : Nat} {e : Nat → Edg} {H : Hp} {K : Int → Option Addr → Nat → Nat → Hp → Prop} (he : Rdr H p n e) (hn : n ≤ 4398046511104)
    (kk : ∀ H' p' c' e', Step (fun _ => False) H H' → Row H' p' n c' e' → (∀ i, i < n → e' i = e i) → (∀ y, fpS p' y → H y = none) → K N p' n c' H') : compassref03_Copy.call N p n c E H K := by
  refine compassref03_Copy.of (compassref03_Copy.run_eq ?_)
  unfold compassref03_Copy.run_t
  refine nwk fun b1 H1 hb1 e1 s1 => ?_
  refine nwk fun b2 H2 hb2 e2 s2 => ?_
  have e12 := s2.keep _ _ e1 fun h => h
  simp only [get_at e12, List.getElem?_cons_zero, List.getElem?_cons_succ, ldI_mk, ldS_mk]
  refine nwst rfl rfl fun b3 H4 hb3 e3 s4 => ?_
  have e14 := s4.keep _ _ e12 fun h => h
  have e24 := s4.keep _ _ e2 fun h => h
  have s04 := (s1.and s2).and s4
  have f2 : H b2 = none := s1.mono _ hb2
  have f3 : H b3 = none := (s1.and s2).mono _ hb3
  have d12 : b2 ≠ b1 := fun h => by rw [h, e1] at hb2; cases hb2
  have d13 : b3 ≠ b1 := fun h => by rw [h, e12] at hb3; cases hb3
  have d23 : b3 ≠ b2 := fun h => by rw [h, e2] at hb3; cases hb3
  refine compassref03_Copy.l1_rule (fun g1 t2 out3 i4 H' => g1 = b1 ∧ t2 = b2 ∧ out3 = b3 ∧ ∃ (i : Nat) (p' : Option Addr) (c' : Nat) (e' : Nat → Edg), i4 = i ∧ i ≤ n ∧ Step (fun _ => False) H H' ∧ H' b1 = some ⟨[.int .i64 N, .slice p n c], 24⟩ ∧ H' b2 = some ⟨[.int .i64 0, .slice none 0 0], 24⟩ ∧ H' b3 = some ⟨[.int .i64 N, .slice p' i c'], 24⟩ ∧
      Row H' p' i c' e' ∧ (∀ j, j < i → e' j = e j) ∧ (∀ y, fpS p' y → H y = none) ∧ ¬ fpS p' b1 ∧ ¬ fpS p' b2 ∧ ¬ fpS p' b3)
    (fun g1 t2 out3 i4 H' => n - i4.toNat) ?_ ⟨rfl, rfl, rfl, 0, none, 0, fun _ => (0, 0, 0, 0), rfl, Nat.zero_le _, s04, e14, e24, e3, Row.nil, fun j hj => by omega, fun y h => by rw [fpS_none] at h; exact h.elim, fun h => by rw [fpS_none] at h; exact h.elim, fun h => by rw [fpS_none] at h; exact h.elim, fun h => by rw [fpS_none] at h; exact h.elim⟩
  rintro g1 t2 out3 i4 H5 ⟨rfl, rfl, rfl, i, p', c', e', rfl, hi, s5, q1, q2, q3, r5, hee, ff, n1, n2, n3⟩ X hX
  refine compassref03_Copy.b1_eq ?_
  unfold compassref03_Copy.b1_t
  simp only [get_at q1, List.getElem?_cons_zero, List.getElem?_cons_succ, ldI_mk, ldS_mk]
  refine bc (fun hlt => ?_) fun hge => ?_
  · simp only [get_at q3, get_at q1, List.getElem?_cons_zero, List.getElem?_cons_succ, ldI_mk, ldS_mk]
    refine (he.keep s5 fun _ _ _ h => h).edge (by omega) (by omega) ?_
    rw [Int.toNat_natCast]
    refine Row.appW (α := Edg) r5 (e i) rfl (by omega) (by omega) fun p6 c6 H6 r6 s6 f6 => ?_
    have live5 : ∀ {b : Nat} {x : Blk}, H5 b = some x → H5 b ≠ none := fun h h' => by rw [h] at h'; cases h'
    have q16 := s6.keep _ _ q1 n1
    have q26 := s6.keep _ _ q2 n2
    have q36 := s6.keep _ _ q3 n3
    have m1 : ¬ fpS p6 g1 := fun h => (f6 _ h).elim n1 (live5 q1)
    have m2 : ¬ fpS p6 t2 := fun h => (f6 _ h).elim n2 (live5 q2)
    have m3 : ¬ fpS p6 out3 := fun h => (f6 _ h).elim n3 (live5 q3)
    refine stp q36 (by simp) rfl fun H7 q37 s7 => ?_
    replace q37 : H7 out3 = some ⟨[.int .i64 N, .slice p6 (i + 1) c6], 24⟩ := q37
    rw [i64w (by omega) (by omega)]
    refine hX _ _ _ _ _ ⟨rfl, rfl, rfl, i + 1, p6, c6, upf e' i (e i), by omega, by omega, (s5.own s6 ff).own s7 (fun y hy => hy ▸ f3), s7.keep _ _ q16 (fun h => d13 h.symm), s7.keep _ _ q26 (fun h => d23 h.symm), q37, r6.keep s7 (fun y hy h => m3 (h ▸ hy)), fun j hj => ?_, fun y hy => ?_, m1, m2, m3⟩ (by omega)
    · by_cases ej : j = i
      · subst ej; rw [upf_same]
      · rw [upf_ne ej]; exact hee j (by omega)
    · rcases f6 y hy with h | h
      · exact ff y h
      · exact s5.mono y h
  · have hin : i = n := by omega
    subst hin
    refine compassref03_Copy.j1_eq ?_
    unfold compassref03_Copy.j1_t
    simp only [get_at q3, List.getElem?_cons_zero, List.getElem?_cons_succ, ldI_mk, ldS_mk]
    refine stk q2 rfl rfl fun H6 q6 s6 => ?_
    simp only [get_at q6, List.getElem?_cons_zero, List.getElem?_cons_succ, ldI_mk, ldS_mk]
    exact kk H6 p' c' e' (s5.own s6 fun y hy => hy ▸ f2) (r5.keep s6 fun y hy h => n2 (h ▸ hy)) hee ff
end
end Go.Mz
