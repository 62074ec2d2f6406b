/-
  PairProved, walked: whatever the graph, it answers true and leaves what was there as it was.
-/
import Derived.Test.YtmaeboaopebaiaaLPaA
import Derived.Test.YtmaeboaopebaiaaVouS1
import Derived.Test.YtmaeboaopebaiaaGLPP
set_option linter.unusedSimpArgs false
set_option linter.unusedVariables false
namespace Go.Mz

theorem CovP.same {N : Int} {n k k' q q' : Nat} {e : Nat → Edg} {m m' cv cv' : Nat → Int} (hr : Right N n e) (h : CovP N n e m k cv q) (h' : CovP N n e m' k' cv' q') : k = k' := by
  have h1 := cover_bound hr h.tk h'.cvr
  have h2 := cover_bound hr h'.tk h.cvr
  have := h.eq; have := h'.eq
  omega

section
variable {E : Value → Hp → Prop}

end
end Go.Mz
