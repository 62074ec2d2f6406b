/-
  The shallow texts of functions (Reb), each with a kernel-checked equation to the translated code. It proves nothing of the program by itself.
-/
import Derived.Test.YtjdhhepphbhjgaaTab
set_option linter.unusedVariables false
set_option maxRecDepth 100000
namespace Go.Mz
/-! ### compass/compassref12.Covered (43) -/
/-! ### compass/compassref12.Heaviest (44) -/
/-! ### compass/compassref12.Covers (85) -/
/-! ### compass/compassref11.Pots (86) -/
/-! ### compass/compassref12.Has (90) -/
end Go.Mz
