/-
  Plain law: no raw edges, with so many at each node at most, are more than a set of the gadget's nodes allows: they make a matching of the gadget, edge by edge. No program in sight.
-/
import Derived.Test.YtmaeboaopebaiaaPkT
import Derived.Test.YtmaeboaopebaiaaPkM
import Derived.Test.YtmaeboaopebaiaaPkX
set_option linter.unusedSimpArgs false
set_option linter.unusedVariables false
namespace Go.Mz

/-! ### Copies of nodes -/

end Go.Mz
