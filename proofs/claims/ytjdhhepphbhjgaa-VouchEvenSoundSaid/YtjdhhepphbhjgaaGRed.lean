/-
  The shallow texts of functions (Red), each with a kernel-checked equation to the translated code. It proves nothing of the program by itself.
-/
import Derived.Test.YtjdhhepphbhjgaaTab
set_option linter.unusedVariables false
set_option maxRecDepth 100000
namespace Go.Mz
/-! ### compass/compassref12.Cheapest (22) -/
/-! ### compass/compassref12.Weights (62) -/
/-! ### compass/compassref12.Pair (63) -/
/-! ### compass/compassref12.Worth (64) -/
end Go.Mz
