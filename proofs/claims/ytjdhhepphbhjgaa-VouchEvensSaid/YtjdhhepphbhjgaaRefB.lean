/-
  The document's functions of layer 12, walked, more: Has, Covers, Covered, Pots, Heaviest.
-/
import Derived.Test.YtjdhhepphbhjgaaRefA
import Derived.Test.YtjdhhepphbhjgaaGReb
set_option linter.unusedSimpArgs false
set_option linter.unusedVariables false
namespace Go.Mz
section
variable {E : Value → Hp → Prop}

theorem rhas {p : Option Addr} {k c : Nat} {m : Nat → Int} {x : Int} {H : Hp} {K : Bool → Hp → Prop} (hm : Rdr H p k m) (hk : k < 2 ^ 63) (kt : In m k x → K true H) (kf : ¬ In m k x → K false H) : compassref12_Has.call p k c x E H K := by
  refine compassref12_Has.of (compassref12_Has.run_eq ?_)
  unfold compassref12_Has.run_t
  refine compassref12_Has.l1_rule (fun tp tn tc x1 i5 H' => p = tp ∧ k = tn ∧ x = x1 ∧ H = H' ∧ ∃ i : Nat, i5 = i ∧ i ≤ k ∧ ¬ In m i x)
    (fun tp tn tc x1 i5 H' => k - i5.toNat) ?_ ⟨rfl, rfl, rfl, rfl, 0, rfl, by omega, fun ⟨i, hi, _⟩ => by omega⟩
  rintro tp tn tc x1 i5 H' ⟨rfl, rfl, rfl, rfl, i, rfl, hi, hn⟩ X hX
  refine compassref12_Has.b1_eq ?_
  unfold compassref12_Has.b1_t
  refine bc (fun hlt => ?_) fun hge => ?_
  · refine hm.ixI (by omega) (by omega) ?_
    simp only [Int.toNat_natCast]
    refine bc (fun h => kt ⟨i, by omega, h⟩) fun h => ?_
    rw [i64w (by omega) (by omega)]
    refine hX _ _ _ _ _ _ ⟨rfl, rfl, rfl, rfl, i + 1, by omega, by omega, fun ⟨j, hj, hv⟩ => ?_⟩ (by omega)
    by_cases ej : j = i
    · subst ej; exact h hv
    · exact hn ⟨j, by omega, hv⟩
  · have : i = k := by omega
    subst this
    exact kf hn

/-- a number for each node, none too great -/
def Pots (N : Int) (pot : Nat → Int) (q : Nat) : Prop := (q : Int) = N ∧ ∀ v, v < q → -4398046511104 ≤ pot v ∧ pot v ≤ 4398046511104

theorem rpots {N : Int} {ep : Option Addr} {n ec : Nat} {vp : Option Addr} {q vc : Nat} {pot : Nat → Int} {H : Hp} {K : Bool → Hp → Prop} (hv : Rdr H vp q pot) (hq : q < 2 ^ 63)
    (kt : ∀ H', Step (fun _ => False) H H' → Pots N pot q → K true H') (kf : ∀ H', Step (fun _ => False) H H' → ¬ Pots N pot q → K false H') : compassref11_Pots.call N ep n ec vp q vc E H K := by
  refine compassref11_Pots.of (compassref11_Pots.run_eq ?_)
  unfold compassref11_Pots.run_t
  refine nwk fun b1 H1 hb1 e1 s1 => ?_
  simp only [get_at e1, List.getElem?_cons_zero, List.getElem?_cons_succ, ldI_mk, ldS_mk]
  refine bcn (fun h => kf _ s1 fun hh => h hh.1) fun hqN => ?_
  have hv1 := hv.keep s1 fun _ _ _ h => h
  refine compassref11_Pots.l1_rule (fun tp tn tc g2 v5 H' => vp = tp ∧ q = tn ∧ b1 = g2 ∧ H1 = H' ∧ ∃ i : Nat, v5 = i ∧ i ≤ q ∧ ∀ v, v < i → -4398046511104 ≤ pot v ∧ pot v ≤ 4398046511104)
    (fun tp tn tc g2 v5 H' => q - v5.toNat) ?_ ⟨rfl, rfl, rfl, rfl, 0, rfl, by omega, fun v hv => by omega⟩
  rintro tp tn tc g2 v5 H' ⟨rfl, rfl, rfl, rfl, i, rfl, hi, hb⟩ X hX
  refine compassref11_Pots.b1_eq ?_
  unfold compassref11_Pots.b1_t
  simp only [get_at e1, List.getElem?_cons_zero, List.getElem?_cons_succ, ldI_mk, ldS_mk]
  refine bc (fun hlt => ?_) fun hge => ?_
  · refine hv1.ixI (by omega) (by omega) ?_
    simp only [Int.toNat_natCast]
    refine bc (fun h => kf _ s1 fun hh => by have := (hh.2 i (by omega)).1; omega) fun h1 => ?_
    refine hv1.ixI (by omega) (by omega) ?_
    simp only [Int.toNat_natCast]
    refine bc (fun h => kf _ s1 fun hh => by have := (hh.2 i (by omega)).2; omega) fun h2 => ?_
    rw [i64w (by omega) (by omega)]
    refine hX _ _ _ _ _ _ ⟨rfl, rfl, rfl, rfl, i + 1, by omega, by omega, fun v hv => ?_⟩ (by omega)
    by_cases ev : v = i
    · subst ev; exact ⟨by omega, by omega⟩
    · exact hb v (by omega)
  · have : i = q := by omega
    subst this
    exact kt _ s1 ⟨hqN, hb⟩

end
end Go.Mz
