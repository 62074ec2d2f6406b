/-
  Joined: GrA, GrB.
-/
import Derived.Test.YtajgpmohnbjpcaaPkM
import Derived.Test.YtajgpmohnbjpcaaMzZ
import Derived.Test.YtajgpmohnbjpcaaGGra
import Derived.Test.YtajgpmohnbjpcaaGRfc
set_option linter.unusedSimpArgs false
set_option linter.unusedVariables false
/-
  Walks of layer 3: Check of a graph.
-/
namespace Go.Mz
section
variable {E : Value → Hp → Prop}

end
end Go.Mz

/-
  The document's functions of layer 3, walked: Check.
-/
namespace Go.Mz
section
variable {E : Value → Hp → Prop}

end
end Go.Mz
