/-
  Lists of those that are marked, in order. Plain.
-/
import Derived.Test.YtmaeboaopebaiaaPkM
set_option linter.unusedSimpArgs false
set_option linter.unusedVariables false
namespace Go.Mz

/-- the first n that are marked, one after the other -/
def pk (P : Nat → Bool) (n : Nat) : List Nat := (List.range n).filter P

theorem pk_succ {P : Nat → Bool} {n : Nat} : pk P (n + 1) = if P n then pk P n ++ [n] else pk P n := by
  unfold pk
  rw [List.range_succ, List.filter_append]
  split
  · rename_i h; simp [h]
  · rename_i h; simp [h]

theorem pk_mem {P : Nat → Bool} {n x : Nat} : x ∈ pk P n ↔ x < n ∧ P x = true := by unfold pk; rw [List.mem_filter, List.mem_range]

theorem pk_len {P : Nat → Bool} : ∀ {n : Nat}, (pk P n).length = cnt P n
  | 0 => rfl
  | n + 1 => by
    rw [pk_succ]
    show _ = cnt P n + _
    rw [← pk_len]
    split <;> simp

theorem lsF_get {l : List Nat} {i : Nat} (h : i < l.length) : lsF l i = (l[i] : Int) := by unfold lsF; rw [List.getElem?_eq_getElem h]; rfl

theorem lsF_left {l r : List Nat} {i : Nat} (h : i < l.length) : lsF (l ++ r) i = lsF l i := by unfold lsF; rw [List.getElem?_append_left h]
theorem lsF_last {l : List Nat} {x : Nat} : lsF (l ++ [x]) l.length = (x : Int) := by unfold lsF; simp

theorem pk_ris {P : Nat → Bool} : ∀ {n : Nat}, Ris (lsF (pk P n)) (pk P n).length n
  | 0 => fun i hi => by cases hi
  | n + 1 => by
    rw [pk_succ]
    have ih := pk_ris (P := P) (n := n)
    split
    · intro i hi
      rw [List.length_append] at hi
      simp only [List.length_singleton] at hi
      by_cases e : i = (pk P n).length
      · subst e
        rw [lsF_last]
        refine ⟨by omega, by omega, fun h0 => ?_⟩
        rw [lsF_left (by omega)]
        have := ih ((pk P n).length - 1) (by omega)
        omega
      · have := ih i (by omega)
        rw [lsF_left (by omega)]
        refine ⟨by omega, by omega, fun h0 => ?_⟩
        rw [lsF_left (by omega)]
        exact this.2.2 h0
    · intro i hi
      have := ih i hi
      exact ⟨this.1, by omega, this.2.2⟩

theorem pk_nodup {P : Nat → Bool} {n : Nat} : (pk P n).Nodup := List.nodup_range.sublist List.filter_sublist

/-- a list without two of the same has as many as are marked, if those are its members -/
theorem cnt_mem : ∀ {l : List Nat} {S : Nat → Bool} {n : Nat}, l.Nodup → (∀ v, v ∈ l ↔ S v = true ∧ v < n) → cnt S n = l.length
  | [], S, n, _, hm => by
    rw [cnt_none fun v hv => by
      cases hh : S v with
      | false => rfl
      | true => exact absurd ((hm v).2 ⟨hh, hv⟩) (by simp)]; rfl
  | v :: l, S, n, hnd, hm => by
    have hv := (hm v).1 (by simp)
    have hnd' := List.nodup_cons.1 hnd
    have h1 := cnt_less (p := S) (q := upf S v false) hv.2 hv.1 upf_same fun i _ hne => (upf_ne hne).symm
    have h2 := cnt_mem (l := l) (S := upf S v false) (n := n) hnd'.2 (fun u => by
      by_cases e : u = v
      · subst e; rw [upf_same]; exact ⟨fun h => absurd h hnd'.1, fun h => by cases h.1⟩
      · rw [upf_ne e, ← hm u]; simp [e])
    rw [h1, h2]; rfl
end Go.Mz
