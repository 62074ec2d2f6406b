/-
  The document's functions of layer 12, walked, more: Doubled.
-/
import Derived.Test.YtjdhhepphbhjgaaRefH
set_option linter.unusedSimpArgs false
set_option linter.unusedVariables false
namespace Go.Mz
section
variable {E : Value → Hp → Prop}

open Classical in
theorem prW_comm {Y : Nat → Int} {z : Nat → Int} {ln : Nat → Nat} {nd : Nat → Nat → Int} {sn : Nat} {u v : Int} : prW Y z ln nd sn u v = prW Y z ln nd sn v u := by
  have h : (fun i => if In (nd i) (ln i) u ∧ In (nd i) (ln i) v then z i else 0) = fun i => if In (nd i) (ln i) v ∧ In (nd i) (ln i) u then z i else 0 := by
    funext i
    by_cases h1 : In (nd i) (ln i) u <;> by_cases h2 : In (nd i) (ln i) v <;> simp [h1, h2]
  unfold prW
  rw [Int.add_comm (Y u.toNat), h]

end
end Go.Mz
