/-
  The shallow texts of functions (Rfb), each with a kernel-checked equation to the translated code. It proves nothing of the program by itself.
-/
import Derived.Test.YtajgpmohnbjpcaaTab
set_option linter.unusedVariables false
set_option maxRecDepth 100000
namespace Go.Mz
/-! ### compass/compassref08.Dijkstra (27) -/
/-! ### compass/compassref08.Dist (28) -/
/-! ### compass/compassref08.Tree (30) -/
/-! ### compass/compassref08.Way (35) -/
/-! ### compass/compassref08.Cost (36) -/
/-! ### compass/compassref08.Potentials (38) -/
/-! ### compass/compassref08.rounds (50) -/
/-! ### compass/compassref08.settled (51) -/
end Go.Mz
