/-
  The shallow texts of functions (Pai), each with a kernel-checked equation to the translated code. It proves nothing of the program by itself.
-/
import Derived.Test.YtajgpmohnbjpcaaTab
set_option linter.unusedVariables false
set_option maxRecDepth 100000
namespace Go.Mz
/-! ### (*compass/heaps.pairing).lower (85) -/
/-! ### (*compass/heaps.pairing).pop (86) -/
/-! ### (*compass/heaps.pairing).push (87) -/
/-! ### (*compass/heaps.pairing).top (88) -/
/-! ### (*compass/heaps.pairing).meld (89) -/
end Go.Mz
