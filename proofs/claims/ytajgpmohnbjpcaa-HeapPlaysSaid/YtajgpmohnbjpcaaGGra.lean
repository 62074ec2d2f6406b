/-
  The shallow texts of functions (Gra), each with a kernel-checked equation to the translated code. It proves nothing of the program by itself.
-/
import Derived.Test.YtajgpmohnbjpcaaTab
set_option linter.unusedVariables false
set_option maxRecDepth 100000
namespace Go.Mz
/-! ### compass/graph.Check (56) -/
/-! ### compass/graph.label (61) -/
end Go.Mz
