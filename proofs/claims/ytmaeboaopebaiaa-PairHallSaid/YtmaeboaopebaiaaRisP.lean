/-
  Rising lists of numbers as sets: how many they hold, and how many edges of such a list end at a node. No program in sight.
-/
import Derived.Test.YtmaeboaopebaiaaPkM
set_option linter.unusedSimpArgs false
set_option linter.unusedVariables false
namespace Go.Mz

theorem dg_succ {e : Nat → Edg} {m : Nat → Int} {k : Nat} {v : Int} : dg e m (k + 1) v = dg e m k v + (if (e (m k).toNat).fr = v then 1 else 0) + (if (e (m k).toNat).to = v then 1 else 0) := rfl

theorem cnt_add {p : Nat → Bool} {m : Nat} : ∀ {k : Nat}, cnt p (m + k) = cnt p m + cnt (fun j => p (m + j)) k
  | 0 => rfl
  | k + 1 => by
    show cnt p (m + k) + _ = cnt p m + (cnt (fun j => p (m + j)) k + _)
    rw [cnt_add, Nat.add_assoc]
    rfl

open Classical in
theorem rise_in {m : Nat → Int} {n : Int} : ∀ {k : Nat}, Ris m (k + 1) n → (decide (In m k (m k)) = false) ∧ ∀ i : Nat, decide (In m (k + 1) (i : Int)) = (decide (In m k (i : Int)) || decide (i = (m k).toNat)) := by
  intro k h
  have h0 := (h k (by omega)).1
  refine ⟨decide_eq_false fun ⟨j, hj, he⟩ => ?_, fun i => ?_⟩
  · have := h.lt hj (by omega); omega
  · rw [← Bool.decide_or]
    refine decide_eq_decide.2 ⟨fun ⟨j, hj, he⟩ => ?_, fun hh => ?_⟩
    · by_cases ej : j = k
      · subst ej; exact .inr (by omega)
      · exact .inl ⟨j, by omega, he⟩
    · rcases hh with ⟨j, hj, he⟩ | he
      · exact ⟨j, by omega, he⟩
      · exact ⟨k, by omega, by omega⟩

open Classical in
theorem rise_cnt {m : Nat → Int} {n : Nat} : ∀ {k : Nat}, Ris m k n → cnt (fun i => decide (In m k (i : Int))) n = k := by
  intro k
  induction k with
  | zero => intro _; exact cnt_none fun j _ => decide_eq_false fun ⟨i, hi, _⟩ => by omega
  | succ k ih =>
    intro h
    have hk := h k (by omega)
    obtain ⟨h1, h2⟩ := rise_in h
    rw [cnt_less (q := fun i => decide (In m k (i : Int))) (b := (m k).toNat) (by omega) (by rw [h2]; simp) (by
      show decide (In m k (((m k).toNat : Nat) : Int)) = false
      rw [show (((m k).toNat : Nat) : Int) = m k by omega]; exact h1) fun i _ hne => by rw [h2]; simp [hne], ih (h.cut (by omega))]
end Go.Mz
