/-
  The shallow texts of functions (Rfc), each with a kernel-checked equation to the translated code. It proves nothing of the program by itself.
-/
import Derived.Test.YtajgpmohnbjpcaaTab
set_option linter.unusedVariables false
set_option maxRecDepth 100000
namespace Go.Mz
/-! ### compass/compassref04.Levels (32) -/
/-! ### compass/compassref03.Copy (39) -/
/-! ### compass/compassref03.Same (40) -/
/-! ### compass/compassref04.Wrong (49) -/
/-! ### compass/compassref04.Circle (54) -/
/-! ### compass/compassref03.Check (57) -/
/-! ### compass/compassref03.Bad (62) -/
end Go.Mz
