/-
  The shallow texts of functions (Sho), each with a kernel-checked equation to the translated code. It proves nothing of the program by itself.
-/
import Derived.Test.YtajgpmohnbjpcaaTab
set_option linter.unusedVariables false
set_option maxRecDepth 100000
namespace Go.Mz
/-! ### compass/short.Dijkstra (26) -/
/-! ### compass/short.Bellman (31) -/
/-! ### compass/short.Way (34) -/
/-! ### compass/short.Potentials (37) -/
/-! ### compass/short.wrong (47) -/
/-! ### compass/short.empty (48) -/
/-! ### compass/short.relax (52) -/
/-! ### compass/short.round (53) -/
/-! ### slices.Reverse[[]int,int] (55) -/
end Go.Mz
