/-
  Plain law: a matching of the gadget takes no more edges than the graph has that are no loops, and those that can be taken. No program in sight.
-/
import Derived.Test.YtjdhhepphbhjgaaVouX1
set_option linter.unusedSimpArgs false
set_option linter.unusedVariables false
namespace Go.Mz

/-- marks of the edges that are told by a list -/
theorem marks {g : Nat → Edg} {L : Nat} : ∀ {M : List Nat}, (∀ x ∈ M, x < L) → (∀ v, dgl g M v ≤ 1) → ∃ T : Nat → Bool, (∀ v, tdeg g T L v = dgl g M v) ∧ cnt T L = M.length ∧ ∀ k, T k = true → k ∈ M
  | [], _, _ => ⟨fun _ => false, fun v => tdeg_none fun _ _ => rfl, cnt_none fun _ _ => rfl, fun k h => by cases h⟩
  | x :: M, h, hd => by
    obtain ⟨T, h1, h2, h3⟩ := marks (g := g) (L := L) (M := M) (fun y hy => h y (by simp [hy])) fun v => by
      have := hd v
      rw [dgl_cons] at this; omega
    have hxL := h x (by simp)
    have hx : T x = false := by
      cases hh : T x with
      | false => rfl
      | true =>
        have t := tdeg_at (e := g) (v := (g x).fr) hh hxL
        have := hd (g x).fr
        rw [dgl_cons, ← h1] at this
        rw [if_pos rfl] at t this
        omega
    refine ⟨fun k => T k || decide (k = x), fun v => ?_, ?_, fun k hk => ?_⟩
    · rw [tdeg_one hx (fun i => rfl), h1, if_pos hxL, dgl_cons]; omega
    · rw [cnt_less (q := T) hxL (by simp) hx fun i _ hne => by simp [hne], h2]; rfl
    · simp only [Bool.or_eq_true, decide_eq_true_eq] at hk
      rcases hk with hk | rfl
      · exact List.mem_cons_of_mem _ (h3 k hk)
      · simp

end Go.Mz
