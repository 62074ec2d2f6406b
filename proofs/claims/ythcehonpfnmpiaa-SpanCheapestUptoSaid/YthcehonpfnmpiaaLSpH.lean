/-
  SpanHolds, walked: whatever the graph, it answers true and leaves what was there as it was.
-/
import Derived.Test.YthcehonpfnmpiaaPkT
import Derived.Test.YthcehonpfnmpiaaGLSH
set_option linter.unusedSimpArgs false
set_option linter.unusedVariables false
namespace Go.Mz

theorem Lst.of {R S : Nat → Nat → Prop} {L : Nat → Nat} (h : Lst R L) (e : ∀ u v, Cn S u v ↔ Cn R u v) : Lst S L :=
  ⟨fun v => (e _ _).2 (h.cn v), fun u v k => h.le u v ((e _ _).1 k)⟩

theorem prs_all {pr : Nat → Nat × Nat} {n u v : Nat} : Cn (Prs pr n) u v ↔ Cn (Sel pr n fun _ => True) u v :=
  ⟨fun h => h.mono fun _ _ ⟨i, hi, e1, e2⟩ => .edge ⟨i, hi, trivial, e1, e2⟩, fun h => h.mono fun _ _ ⟨i, hi, _, e1, e2⟩ => .edge ⟨i, hi, e1, e2⟩⟩

/-- what the graph with some edges alone joins -/
theorem prs_sel {e es : Nat → Edg} {n : Nat} {l : List Nat} (hl : ∀ x ∈ l, x < n) (he : ∀ i, i < l.length → es i = lsG e l i) {u v : Nat} : Cn (Prs (ePr es) l.length) u v ↔ Cn (Sel (ePr e) n fun t => t ∈ l) u v := by
  have ep : ∀ i (hi : i < l.length), ePr es i = ePr e l[i] := fun i hi => by
    unfold ePr
    rw [he i hi, lsG, List.getElem?_eq_getElem hi]; rfl
  constructor
  · refine fun h => h.mono fun x y ⟨i, hi, e1, e2⟩ => .edge ⟨l[i], hl _ (List.getElem_mem hi), List.getElem_mem hi, ?_, ?_⟩
    · rw [e1, ep i hi]
    · rw [e2, ep i hi]
  · refine fun h => h.mono fun x y ⟨t, ht, hm, e1, e2⟩ => ?_
    obtain ⟨i, hi, et⟩ := List.mem_iff_getElem.1 hm
    exact .edge ⟨i, hi, by rw [e1, ep i hi, et], by rw [e2, ep i hi, et]⟩

/-- how many parts were met -/
theorem pno_step {R : Nat → Nat → Prop} {L : Nat → Nat} (h : Lst R L) (v : Nat) : max (cnt (fun w => L w == w) v) (pno L v + 1) = cnt (fun w => L w == w) (v + 1) := by
  have hs := h.self (v := v)
  unfold pno
  show _ = cnt (fun w => L w == w) v + if (fun w => L w == w) v then 1 else 0
  by_cases e : L v = v
  · rw [e, if_pos (by simp [e])]
    omega
  · rw [if_neg (by simpa using e)]
    have h1 : cnt (fun w => L w == w) (L v + 1) ≤ cnt (fun w => L w == w) v := by
      have : ∀ d, cnt (fun w => L w == w) (L v + 1) ≤ cnt (fun w => L w == w) (L v + 1 + d) := fun d => by
        induction d with
        | zero => exact Nat.le_refl _
        | succ d ih =>
          show _ ≤ cnt (fun w => L w == w) (L v + 1 + d) + _
          omega
      have := this (v - (L v + 1))
      rwa [show L v + 1 + (v - (L v + 1)) = v by omega] at this
    have h2 : cnt (fun w => L w == w) (L v + 1) = cnt (fun w => L w == w) (L v) + 1 := by
      show cnt (fun w => L w == w) (L v) + (if (fun w => L w == w) (L v) then 1 else 0) = _
      rw [if_pos (by simp [h.idem])]
    omega

open Classical in
theorem frs_count {e : Nat → Edg} {n : Nat} : (frs e n).length = cnt (fun t => decide (InF e n t)) n := by
  have key : ∀ (p : Nat → Bool) m, ((List.range m).filter p).length = cnt p m := fun p m => by
    induction m with
    | zero => rfl
    | succ m ih =>
      rw [List.range_succ, List.filter_append, List.length_append, ih]
      show _ = cnt p m + _
      cases h : p m with
      | true => simp [h]
      | false => simp [h]
  exact key _ n

theorem right_rng {N : Int} {n : Nat} {e : Nat → Edg} (hr : Right N n e) : ∀ i, i < n → (ePr e i).1 < N.toNat ∧ (ePr e i).2 < N.toNat := fun i hi => by
  have hx := hr.ed i hi
  have hf0 := hx.f0; have hf1 := hx.f1; have ht0 := hx.t0; have ht1 := hx.t1
  unfold ePr
  exact ⟨by show (e i).fr.toNat < _; omega, by show (e i).to.toNat < _; omega⟩

section
variable {E : Value → Hp → Prop}

end
end Go.Mz
