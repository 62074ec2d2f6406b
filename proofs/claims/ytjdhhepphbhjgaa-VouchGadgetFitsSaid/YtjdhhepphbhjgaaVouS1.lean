/-
  Plain laws: covers and potentials bound every matching. No program in sight.
-/
import Derived.Test.YtjdhhepphbhjgaaPkV
import Derived.Test.YtjdhhepphbhjgaaPkM
set_option linter.unusedSimpArgs false
set_option linter.unusedVariables false
namespace Go.Mz

theorem dg_succ {e : Nat → Edg} {m : Nat → Int} {k : Nat} {v : Int} : dg e m (k + 1) v = dg e m k v + (if (e (m k).toNat).fr = v then 1 else 0) + (if (e (m k).toNat).to = v then 1 else 0) := rfl

end Go.Mz
