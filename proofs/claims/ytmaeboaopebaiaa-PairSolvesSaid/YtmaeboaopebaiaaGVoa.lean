/-
  The shallow texts of functions (Voa), each with a kernel-checked equation to the translated code. It proves nothing of the program by itself.
-/
import Derived.Test.YtmaeboaopebaiaaTab
set_option linter.unusedVariables false
set_option maxRecDepth 100000
namespace Go.Mz
/-! ### compass/vouch.Covered (34) -/
/-! ### compass/vouch.Largest (36) -/
/-! ### compass/vouch.NoPerfect (37) -/
/-! ### compass/vouch.Covered$1 (62) -/
/-! ### compass/vouch.right (63) -/
/-! ### compass/vouch.matched (64) -/
/-! ### compass/vouch.one (65) -/
/-! ### compass/vouch.marked (66) -/
/-! ### compass/vouch.need (67) -/
/-! ### compass/vouch.loop (68) -/
/-! ### compass/vouch.Largest$1 (69) -/
/-! ### compass/vouch.odd (70) -/
/-! ### compass/vouch.NoPerfect$1 (71) -/
/-! ### compass/vouch.rising (86) -/
end Go.Mz
