/-
  The document's functions of layer 12, walked, more: Has, Covers, Covered, Pots, Heaviest.
-/
import Derived.Test.YtjdhhepphbhjgaaRefA
import Derived.Test.YtjdhhepphbhjgaaGReb
set_option linter.unusedSimpArgs false
set_option linter.unusedVariables false
namespace Go.Mz
section
variable {E : Value → Hp → Prop}

/-- a number for each node, none too great -/
def Pots (N : Int) (pot : Nat → Int) (q : Nat) : Prop := (q : Int) = N ∧ ∀ v, v < q → -4398046511104 ≤ pot v ∧ pot v ≤ 4398046511104

end
end Go.Mz
