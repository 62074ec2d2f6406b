/-
  The document's functions of layer 12, walked, more: Has, Covers, Covered, Pots, Heaviest.
-/
import Derived.Test.YtbocpfdlfnodfaaRefA
import Derived.Test.YtbocpfdlfnodfaaGReb
set_option linter.unusedSimpArgs false
set_option linter.unusedVariables false
namespace Go.Mz
section
variable {E : Value → Hp → Prop}

theorem rhas {p : Option Addr} {k c : Nat} {m : Nat → Int} {x : Int} {H : Hp} {K : Bool → Hp → Prop} (hm : Rdr H p k m) (hk : k < 2 ^ 63) (kt : In m k x → K true H) (kf : ¬ In m k x → K false H) : compassref12_Has.call p k c x E H K := by
  refine compassref12_Has.of (compassref12_Has.run_eq ?_)
  unfold compassref12_Has.run_t
  refine compassref12_Has.l1_rule (fun tp tn tc x1 i5 H' => p = tp ∧ k = tn ∧ x = x1 ∧ H = H' ∧ ∃ i : Nat, i5 = i ∧ i ≤ k ∧ ¬ In m i x)
    (fun tp tn tc x1 i5 H' => k - i5.toNat) ?_ ⟨rfl, rfl, rfl, rfl, 0, rfl, by omega, fun ⟨i, hi, _⟩ => by omega⟩
  rintro tp tn tc x1 i5 H' ⟨rfl, rfl, rfl, rfl, i, rfl, hi, hn⟩ X hX
  refine compassref12_Has.b1_eq ?_
  unfold compassref12_Has.b1_t
  refine bc (fun hlt => ?_) fun hge => ?_
  · refine hm.ixI (by omega) (by omega) ?_
    simp only [Int.toNat_natCast]
    refine bc (fun h => kt ⟨i, by omega, h⟩) fun h => ?_
    rw [i64w (by omega) (by omega)]
    refine hX _ _ _ _ _ _ ⟨rfl, rfl, rfl, rfl, i + 1, by omega, by omega, fun ⟨j, hj, hv⟩ => ?_⟩ (by omega)
    by_cases ej : j = i
    · subst ej; exact h hv
    · exact hn ⟨j, by omega, hv⟩
  · have : i = k := by omega
    subst this
    exact kf hn

/-- a number for each node, none too great -/
def Pots (N : Int) (pot : Nat → Int) (q : Nat) : Prop := (q : Int) = N ∧ ∀ v, v < q → -4398046511104 ≤ pot v ∧ pot v ≤ 4398046511104

end
end Go.Mz
