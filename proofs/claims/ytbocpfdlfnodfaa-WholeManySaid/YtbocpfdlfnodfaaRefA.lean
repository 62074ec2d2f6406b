/-
  The document's functions of layers 3, 11 and 12, walked: Check, Costs, Rising, At, Taken, Matching, Cost.
-/
import Derived.Test.YtbocpfdlfnodfaaPkX
import Derived.Test.YtbocpfdlfnodfaaGRea
set_option linter.unusedSimpArgs false
set_option linter.unusedVariables false
namespace Go.Mz
section
variable {E : Value → Hp → Prop}

end
end Go.Mz
