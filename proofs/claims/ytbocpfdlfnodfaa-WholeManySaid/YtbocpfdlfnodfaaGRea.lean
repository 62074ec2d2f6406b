/-
  The shallow texts of functions (Rea), each with a kernel-checked equation to the translated code. It proves nothing of the program by itself.
-/
import Derived.Test.YtbocpfdlfnodfaaTab
set_option linter.unusedVariables false
set_option maxRecDepth 100000
namespace Go.Mz
/-! ### compass/compassref12.Taken (14) -/
/-! ### compass/compassref12.Rising (25) -/
/-! ### compass/compassref12.At (27) -/
/-! ### compass/compassref03.Check (47) -/
/-! ### compass/compassref03.Bad (59) -/
end Go.Mz
