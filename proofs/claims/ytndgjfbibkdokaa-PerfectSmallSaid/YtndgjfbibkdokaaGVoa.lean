/-
  The shallow texts of functions (Voa), each with a kernel-checked equation to the translated code. It proves nothing of the program by itself.
-/
import Derived.Test.YtndgjfbibkdokaaTab
set_option linter.unusedVariables false
set_option maxRecDepth 100000
namespace Go.Mz
/-! ### compass/vouch.Cheapest (26) -/
/-! ### compass/vouch.NoPerfect (28) -/
/-! ### compass/vouch.Cheapest$1 (41) -/
/-! ### compass/vouch.right (42) -/
/-! ### compass/vouch.matched (43) -/
/-! ### compass/vouch.one (44) -/
/-! ### compass/vouch.need (45) -/
/-! ### compass/vouch.weigh (46) -/
/-! ### compass/vouch.loop (47) -/
/-! ### compass/vouch.cost (48) -/
/-! ### compass/vouch.NoPerfect$1 (57) -/
/-! ### compass/vouch.odd (58) -/
/-! ### compass/vouch.marked (59) -/
/-! ### compass/vouch.rising (72) -/
/-! ### compass/vouch.weigh$1 (73) -/
end Go.Mz
