/-
  The document's functions of layer 12, walked, more: Weights, Worth, Pair, Cheapest.
-/
import Derived.Test.YtjdhhepphbhjgaaRefB
import Derived.Test.YtjdhhepphbhjgaaPkW
import Derived.Test.YtjdhhepphbhjgaaGRed
set_option linter.unusedSimpArgs false
set_option linter.unusedVariables false
namespace Go.Mz
section
variable {E : Value → Hp → Prop}

end
end Go.Mz
