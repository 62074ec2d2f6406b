/-
  SpanHolds, walked: whatever the graph, it answers true and leaves what was there as it was.
-/
import Derived.Test.YthcehonpfnmpiaaGreatPkT
import Derived.Test.YthcehonpfnmpiaaGreatGLSH
set_option linter.unusedSimpArgs false
set_option linter.unusedVariables false
namespace Go.Mz

theorem Lst.of {R S : Nat → Nat → Prop} {L : Nat → Nat} (h : Lst R L) (e : ∀ u v, Cn S u v ↔ Cn R u v) : Lst S L :=
  ⟨fun v => (e _ _).2 (h.cn v), fun u v k => h.le u v ((e _ _).1 k)⟩

/-- what the graph with some edges alone joins -/
theorem prs_sel {e es : Nat → Edg} {n : Nat} {l : List Nat} (hl : ∀ x ∈ l, x < n) (he : ∀ i, i < l.length → es i = lsG e l i) {u v : Nat} : Cn (Prs (ePr es) l.length) u v ↔ Cn (Sel (ePr e) n fun t => t ∈ l) u v := by
  have ep : ∀ i (hi : i < l.length), ePr es i = ePr e l[i] := fun i hi => by
    unfold ePr
    rw [he i hi, lsG, List.getElem?_eq_getElem hi]; rfl
  constructor
  · refine fun h => h.mono fun x y ⟨i, hi, e1, e2⟩ => .edge ⟨l[i], hl _ (List.getElem_mem hi), List.getElem_mem hi, ?_, ?_⟩
    · rw [e1, ep i hi]
    · rw [e2, ep i hi]
  · refine fun h => h.mono fun x y ⟨t, ht, hm, e1, e2⟩ => ?_
    obtain ⟨i, hi, et⟩ := List.mem_iff_getElem.1 hm
    exact .edge ⟨i, hi, by rw [e1, ep i hi, et], by rw [e2, ep i hi, et]⟩

theorem right_sel {N : Int} {e es : Nat → Edg} {n : Nat} {l : List Nat} (hr : Right N n e) (hl : ∀ x ∈ l, x < n) (hlen : l.length ≤ 4096) (he : ∀ i, i < l.length → es i = lsG e l i) : Right N l.length es :=
  ⟨hr.N0, hr.N1, hlen, fun i hi => by
    rw [he i hi, lsG, List.getElem?_eq_getElem hi]
    exact hr.ed _ (hl _ (List.getElem_mem hi))⟩

section
variable {E : Value → Hp → Prop}

end
end Go.Mz
