/-
  The shallow texts of functions (Rea), each with a kernel-checked equation to the translated code. It proves nothing of the program by itself.
-/
import Derived.Test.YtmaeboaopebaiaaTab
set_option linter.unusedVariables false
set_option maxRecDepth 100000
namespace Go.Mz
/-! ### compass/compassref03.Check (17) -/
/-! ### compass/compassref12.Matches (22) -/
/-! ### compass/compassref12.At (23) -/
/-! ### compass/compassref03.Bad (48) -/
/-! ### compass/compassref12.Matching (49) -/
/-! ### compass/compassref12.Rising (50) -/
/-! ### compass/compassref12.Taken (54) -/
/-! ### compass/compassref12.ones (55) -/
end Go.Mz
