/-
  The document's functions of layer 3, walked: Copy and Same.
-/
import Derived.Test.YtmaeboaopebaiaaPkV
import Derived.Test.YtmaeboaopebaiaaMzZ
import Derived.Test.YtmaeboaopebaiaaPkM
import Derived.Test.YtmaeboaopebaiaaGRfc
set_option linter.unusedSimpArgs false
set_option linter.unusedVariables false
namespace Go.Mz
section
variable {E : Value → Hp → Prop}

/-- an edge turned about -/
def trn (x : Edg) : Edg := (x.to, x.fr, x.cp, x.co)

end
end Go.Mz
