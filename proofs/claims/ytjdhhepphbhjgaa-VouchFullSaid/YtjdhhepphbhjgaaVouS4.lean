/-
  Plain law: no raw edges, with so many at each node at most, are more than a set of the gadget's nodes allows: they make a matching of the gadget, edge by edge. No program in sight.
-/
import Derived.Test.YtjdhhepphbhjgaaVouS2
import Derived.Test.YtjdhhepphbhjgaaPkX
set_option linter.unusedSimpArgs false
set_option linter.unusedVariables false
namespace Go.Mz

/-- how many of the edges that are told by a list end at a node -/
def dgl (g : Nat → Edg) : List Nat → Int → Nat
  | [], _ => 0
  | x :: M, v => dgl g M v + (if (g x).fr = v then 1 else 0) + (if (g x).to = v then 1 else 0)

theorem dgl_cons {g : Nat → Edg} {x : Nat} {M : List Nat} {v : Int} : dgl g (x :: M) v = dgl g M v + (if (g x).fr = v then 1 else 0) + (if (g x).to = v then 1 else 0) := rfl

/-- how many of the first edges that are marked end at a node -/
def tdeg (e : Nat → Edg) (T : Nat → Bool) : Nat → Int → Nat
  | 0, _ => 0
  | i + 1, v => tdeg e T i v + if T i then (if (e i).fr = v then 1 else 0) + (if (e i).to = v then 1 else 0) else 0

theorem tdeg_one {e : Nat → Edg} {T T' : Nat → Bool} {x : Nat} {v : Int} (hx : T' x = false) (h : ∀ i, T i = (T' i || decide (i = x))) : ∀ i, tdeg e T i v = tdeg e T' i v + if x < i then (if (e x).fr = v then 1 else 0) + (if (e x).to = v then 1 else 0) else 0
  | 0 => rfl
  | i + 1 => by
    show tdeg e T i v + _ = tdeg e T' i v + _ + _
    rw [tdeg_one hx h i, h i]
    by_cases e1 : i = x
    · subst e1
      rw [if_neg (show ¬ i < i by omega), if_pos (show i < i + 1 by omega), hx]
      simp
    · by_cases e2 : x < i
      · rw [if_pos e2, if_pos (show x < i + 1 by omega)]
        simp [e1]; omega
      · rw [if_neg e2, if_neg (show ¬ x < i + 1 by omega)]
        simp [e1]

theorem tdeg_none {e : Nat → Edg} {T : Nat → Bool} {v : Int} : ∀ {i : Nat}, (∀ j, j < i → T j = false) → tdeg e T i v = 0
  | 0, _ => rfl
  | i + 1, h => by
    show tdeg e T i v + _ = 0
    rw [tdeg_none fun j hj => h j (by omega), h i (by omega)]
    rfl

open Classical in
theorem rise_in {m : Nat → Int} {n : Int} : ∀ {k : Nat}, Ris m (k + 1) n → (decide (In m k (m k)) = false) ∧ ∀ i : Nat, decide (In m (k + 1) (i : Int)) = (decide (In m k (i : Int)) || decide (i = (m k).toNat)) := by
  intro k h
  have h0 := (h k (by omega)).1
  refine ⟨decide_eq_false fun ⟨j, hj, he⟩ => ?_, fun i => ?_⟩
  · have := h.lt hj (by omega); omega
  · rw [← Bool.decide_or]
    refine decide_eq_decide.2 ⟨fun ⟨j, hj, he⟩ => ?_, fun hh => ?_⟩
    · by_cases ej : j = k
      · subst ej; exact .inr (by omega)
      · exact .inl ⟨j, by omega, he⟩
    · rcases hh with ⟨j, hj, he⟩ | he
      · exact ⟨j, by omega, he⟩
      · exact ⟨k, by omega, by omega⟩

open Classical in
theorem rise_deg {e : Nat → Edg} {m : Nat → Int} {n : Nat} {v : Int} : ∀ {k : Nat}, Ris m k n → tdeg e (fun i => decide (In m k (i : Int))) n v = dg e m k v := by
  intro k
  induction k with
  | zero => intro _; exact tdeg_none fun j _ => decide_eq_false fun ⟨i, hi, _⟩ => by omega
  | succ k ih =>
    intro h
    have hk := h k (by omega)
    obtain ⟨h1, h2⟩ := rise_in h
    rw [tdeg_one (T' := fun i => decide (In m k (i : Int))) (x := (m k).toNat) (by
      show decide (In m k (((m k).toNat : Nat) : Int)) = false
      rw [show (((m k).toNat : Nat) : Int) = m k by omega]; exact h1) h2, ih (h.cut (by omega)), if_pos (by omega), dg_succ]
    omega

open Classical in
theorem rise_cnt {m : Nat → Int} {n : Nat} : ∀ {k : Nat}, Ris m k n → cnt (fun i => decide (In m k (i : Int))) n = k := by
  intro k
  induction k with
  | zero => intro _; exact cnt_none fun j _ => decide_eq_false fun ⟨i, hi, _⟩ => by omega
  | succ k ih =>
    intro h
    have hk := h k (by omega)
    obtain ⟨h1, h2⟩ := rise_in h
    rw [cnt_less (q := fun i => decide (In m k (i : Int))) (b := (m k).toNat) (by omega) (by rw [h2]; simp) (by
      show decide (In m k (((m k).toNat : Nat) : Int)) = false
      rw [show (((m k).toNat : Nat) : Int) = m k by omega]; exact h1) fun i _ hne => by rw [h2]; simp [hne], ih (h.cut (by omega))]

/-! ### Copies of nodes -/

end Go.Mz
