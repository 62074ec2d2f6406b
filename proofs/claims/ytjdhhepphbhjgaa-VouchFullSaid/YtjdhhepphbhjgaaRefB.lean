/-
  The document's functions of layer 12, walked, more: Has, Covers, Covered, Pots, Heaviest.
-/
import Derived.Test.YtjdhhepphbhjgaaRefA
import Derived.Test.YtjdhhepphbhjgaaGReb
set_option linter.unusedSimpArgs false
set_option linter.unusedVariables false
namespace Go.Mz
section
variable {E : Value → Hp → Prop}

theorem rhas {p : Option Addr} {k c : Nat} {m : Nat → Int} {x : Int} {H : Hp} {K : Bool → Hp → Prop} (hm : Rdr H p k m) (hk : k < 2 ^ 63) (kt : In m k x → K true H) (kf : ¬ In m k x → K false H) : compassref12_Has.call p k c x E H K := by
  refine compassref12_Has.of (compassref12_Has.run_eq ?_)
  unfold compassref12_Has.run_t
  refine compassref12_Has.l1_rule (fun tp tn tc x1 i5 H' => p = tp ∧ k = tn ∧ x = x1 ∧ H = H' ∧ ∃ i : Nat, i5 = i ∧ i ≤ k ∧ ¬ In m i x)
    (fun tp tn tc x1 i5 H' => k - i5.toNat) ?_ ⟨rfl, rfl, rfl, rfl, 0, rfl, by omega, fun ⟨i, hi, _⟩ => by omega⟩
  rintro tp tn tc x1 i5 H' ⟨rfl, rfl, rfl, rfl, i, rfl, hi, hn⟩ X hX
  refine compassref12_Has.b1_eq ?_
  unfold compassref12_Has.b1_t
  refine bc (fun hlt => ?_) fun hge => ?_
  · refine hm.ixI (by omega) (by omega) ?_
    simp only [Int.toNat_natCast]
    refine bc (fun h => kt ⟨i, by omega, h⟩) fun h => ?_
    rw [i64w (by omega) (by omega)]
    refine hX _ _ _ _ _ _ ⟨rfl, rfl, rfl, rfl, i + 1, by omega, by omega, fun ⟨j, hj, hv⟩ => ?_⟩ (by omega)
    by_cases ej : j = i
    · subst ej; exact h hv
    · exact hn ⟨j, by omega, hv⟩
  · have : i = k := by omega
    subst this
    exact kf hn

theorem rcovers {N : Int} {ep : Option Addr} {n ec : Nat} {e : Nat → Edg} {p : Option Addr} {q c : Nat} {cv : Nat → Int} {H : Hp} {K : Bool → Hp → Prop} (he : Rdr H ep n e) (hn : n ≤ 4096) (hm : Rdr H p q cv) (hq : q < 2 ^ 63)
    (kt : ∀ H', Step (fun _ => False) H H' → Cvr e n cv q → K true H') (kf : ∀ H', Step (fun _ => False) H H' → ¬ Cvr e n cv q → K false H') : compassref12_Covers.call N ep n ec p q c E H K := by
  refine compassref12_Covers.of (compassref12_Covers.run_eq ?_)
  unfold compassref12_Covers.run_t
  refine nwk fun b1 H1 hb1 e1 s1 => ?_
  refine compassref12_Covers.l1_rule (fun tp tn tc g2 i5 H' => p = tp ∧ q = tn ∧ b1 = g2 ∧ ∃ i : Nat, i5 = i ∧ i ≤ n ∧ Step (fun _ => False) H1 H' ∧ Cvr e i cv q)
    (fun tp tn tc g2 i5 H' => n - i5.toNat) ?_ ⟨rfl, rfl, rfl, 0, rfl, by omega, .refl, fun i hi => by omega⟩
  rintro tp tn tc g2 i5 H2 ⟨rfl, rfl, rfl, i, rfl, hi, s2, hcv⟩ X hX
  have s02 := s1.and s2
  have e12 := s2.keep _ _ e1 fun h => h
  refine compassref12_Covers.b1_eq ?_
  unfold compassref12_Covers.b1_t
  simp only [get_at e12, List.getElem?_cons_zero, List.getElem?_cons_succ, ldI_mk, ldS_mk]
  refine bc (fun hlt => ?_) fun hge => ?_
  · refine (he.keep s02 fun _ _ _ h => h).edge (by omega) (by omega) ?_
    simp only [Int.toNat_natCast]
    refine nwst rfl rfl fun b3 H3 hb3 e3 s3 => ?_
    simp only [get_at e3, List.getElem?_cons_zero, List.getElem?_cons_succ, ldI_mk, ldS_mk]
    have hm3 := hm.keep (s02.and s3) fun _ _ _ h => h
    have next : (lp (e i) ∨ In cv q (e i).fr ∨ In cv q (e i).to) → compassref12_Covers.j1 p q tc b1 (i : Int) X E H3 K := fun h => by
      refine compassref12_Covers.j1_eq ?_
      unfold compassref12_Covers.j1_t
      rw [i64w (by omega) (by omega)]
      refine hX _ _ _ _ _ _ ⟨rfl, rfl, rfl, i + 1, by omega, by omega, s2.and s3, fun j hj => ?_⟩ (by omega)
      by_cases ej : j = i
      · subst ej; exact h
      · exact hcv j (by omega)
    refine bcn (fun hl => ?_) fun hl => next (.inl hl)
    refine rhas hm3 hq (fun h => bcb (fun h' => by cases h') fun _ => next (.inr (.inl h))) fun h1 => ?_
    refine bcb (fun _ => ?_) fun h' => by cases h'
    simp only [get_at e3, List.getElem?_cons_zero, List.getElem?_cons_succ, ldI_mk, ldS_mk]
    refine rhas hm3 hq (fun h => bcb (fun h' => by cases h') fun _ => next (.inr (.inr h))) fun h2 => ?_
    refine bcb (fun _ => kf _ (s02.and s3) fun hh => ?_) fun h' => by cases h'
    rcases hh i (by omega) with h | h | h
    · exact hl h
    · exact h1 h
    · exact h2 h
  · have : i = n := by omega
    subst this
    exact kt _ s02 hcv

/-- a number for each node, none too great -/
def Pots (N : Int) (pot : Nat → Int) (q : Nat) : Prop := (q : Int) = N ∧ ∀ v, v < q → -4398046511104 ≤ pot v ∧ pot v ≤ 4398046511104

end
end Go.Mz
