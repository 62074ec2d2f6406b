/-
  Rising lists of numbers as sets: how many they hold, and how many edges of such a list end at a node. No program in sight.
-/
import Derived.Test.YtmaeboaopebaiaaPkM
set_option linter.unusedSimpArgs false
set_option linter.unusedVariables false
namespace Go.Mz

theorem dg_succ {e : Nat → Edg} {m : Nat → Int} {k : Nat} {v : Int} : dg e m (k + 1) v = dg e m k v + (if (e (m k).toNat).fr = v then 1 else 0) + (if (e (m k).toNat).to = v then 1 else 0) := rfl

end Go.Mz
