/-
  The shallow texts of functions (Rec), each with a kernel-checked equation to the translated code. It proves nothing of the program by itself.
-/
import Derived.Test.YthcehonpfnmpiaaTab
set_option linter.unusedVariables false
set_option maxRecDepth 100000
namespace Go.Mz
/-! ### compass/compassref04.Parts (9) -/
/-! ### compass/compassref04.Numbered (19) -/
end Go.Mz
