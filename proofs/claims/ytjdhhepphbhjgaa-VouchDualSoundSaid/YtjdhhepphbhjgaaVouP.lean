/-
  Plain laws of layer 12: what is a right graph, rising numbers, edges taken. No program in sight.
-/
import Derived.Test.YtjdhhepphbhjgaaMzX
set_option linter.unusedSimpArgs false
set_option linter.unusedVariables false
namespace Go.Mz

def badE (N : Int) (x : Edg) : Int :=
  if x.fr < 0 ∨ N ≤ x.fr ∨ x.to < 0 ∨ N ≤ x.to then 30
  else if 0 ≤ x.cp ∧ x.cp ≤ 1048576 ∧ -1048576 ≤ x.co ∧ x.co ≤ 1048576 then 0 else 31

def chkE (N : Int) (e : Nat → Edg) : Nat → Int
  | 0 => 0
  | i + 1 => if chkE N e i = 0 then badE N (e i) else chkE N e i

def chk (N : Int) (n : Nat) (e : Nat → Edg) : Int := if N < 0 ∨ 1024 < N ∨ 4096 < n then 3 else chkE N e n

structure RightE (N : Int) (x : Edg) : Prop where
  f0 : 0 ≤ x.fr
  f1 : x.fr < N
  t0 : 0 ≤ x.to
  t1 : x.to < N
  c0 : 0 ≤ x.cp
  c1 : x.cp ≤ 1048576
  k0 : -1048576 ≤ x.co
  k1 : x.co ≤ 1048576

theorem badE_zero {N : Int} {x : Edg} : badE N x = 0 ↔ RightE N x := by
  unfold badE
  constructor
  · intro h
    split at h
    · cases h
    · split at h
      · constructor <;> omega
      · cases h
  · intro h
    obtain ⟨h1, h2, h3, h4, h5, h6, h7, h8⟩ := h
    rw [if_neg (by omega), if_pos (by omega)]

theorem chkE_zero {N : Int} {e : Nat → Edg} {n : Nat} : chkE N e n = 0 ↔ ∀ i, i < n → RightE N (e i) := by
  induction n with
  | zero => simp [chkE]
  | succ n ih =>
    unfold chkE
    split
    · rename_i h
      rw [badE_zero]
      constructor
      · intro hr i hi
        by_cases hn : i = n
        · subst hn; exact hr
        · exact ih.1 h i (by omega)
      · intro hr; exact hr n (by omega)
    · rename_i h
      constructor
      · intro h'; exact absurd h' h
      · intro hr; exact absurd (ih.2 fun i hi => hr i (by omega)) h

theorem chkE_stay {N : Int} {e : Nat → Edg} {i : Nat} (h : chkE N e i ≠ 0) : ∀ d, chkE N e (i + d) = chkE N e i := by
  intro d
  induction d with
  | zero => rfl
  | succ d ih =>
    show (if chkE N e (i + d) = 0 then badE N (e (i + d)) else chkE N e (i + d)) = _
    rw [ih, if_neg h]

/-- a right graph -/
structure Right (N : Int) (n : Nat) (e : Nat → Edg) : Prop where
  N0 : 0 ≤ N
  N1 : N ≤ 1024
  n1 : n ≤ 4096
  ed : ∀ i, i < n → RightE N (e i)

theorem chk_zero {N : Int} {n : Nat} {e : Nat → Edg} : chk N n e = 0 ↔ Right N n e := by
  unfold chk
  constructor
  · intro h
    split at h
    · cases h
    · exact ⟨by omega, by omega, by omega, chkE_zero.1 h⟩
  · intro h
    have := h.N0; have := h.N1; have := h.n1
    rw [if_neg (by omega)]
    exact chkE_zero.2 h.ed

theorem chk_range (N : Int) (n : Nat) (e : Nat → Edg) : chk N n e = 0 ∨ chk N n e = 3 ∨ chk N n e = 30 ∨ chk N n e = 31 := by
  have key : ∀ n, chkE N e n = 0 ∨ chkE N e n = 30 ∨ chkE N e n = 31 := by
    intro n
    induction n with
    | zero => exact .inl rfl
    | succ n ih =>
      unfold chkE
      split
      · unfold badE
        split
        · exact .inr (.inl rfl)
        · split
          · exact .inl rfl
          · exact .inr (.inr rfl)
      · exact ih
  unfold chk
  split
  · exact .inr (.inl rfl)
  · rcases key n with h | h | h <;> omega

/-- numbers from 0 to n-1, rising -/
def Ris (m : Nat → Int) (k : Nat) (n : Int) : Prop := ∀ i, i < k → 0 ≤ m i ∧ m i < n ∧ (0 < i → m (i - 1) < m i)

theorem Ris.cut {m : Nat → Int} {k : Nat} {n : Int} (h : Ris m k n) {j : Nat} (hj : j ≤ k) : Ris m j n := fun i hi => h i (by omega)

theorem Ris.lt {m : Nat → Int} {k : Nat} {n : Int} (h : Ris m k n) : ∀ {i j : Nat}, i < j → j < k → m i < m j := by
  intro i j hij hj
  obtain ⟨d, rfl⟩ : ∃ d, j = i + 1 + d := ⟨j - (i + 1), by omega⟩
  clear hij
  induction d with
  | zero => have := (h (i + 1) (by omega)).2.2 (by omega); simpa using this
  | succ d ih =>
    have h1 := ih (by omega)
    have h2 := (h (i + 1 + (d + 1)) hj).2.2 (by omega)
    rw [show i + 1 + (d + 1) - 1 = i + 1 + d by omega] at h2
    omega

/-- a rising list is no longer than there are numbers -/
theorem Ris.len {m : Nat → Int} {k : Nat} {n : Int} (h : Ris m k n) : (k : Int) ≤ n ∨ k = 0 := by
  by_cases hk : k = 0
  · exact .inr hk
  · left
    have key : ∀ i, i < k → (i : Int) ≤ m i := by
      intro i
      induction i with
      | zero => intro hi; exact (h 0 hi).1
      | succ i ih => intro hi; have := ih (by omega); have := h.lt (i := i) (j := i + 1) (by omega) hi; omega
    have := key (k - 1) (by omega)
    have := (h (k - 1) (by omega)).2.1
    omega

/-- a number is among the first k -/
def In (m : Nat → Int) (k : Nat) (x : Int) : Prop := ∃ i, i < k ∧ m i = x

/-- how many of the first k taken edges end at a node -/
def dg (e : Nat → Edg) (m : Nat → Int) : Nat → Int → Nat
  | 0, _ => 0
  | k + 1, v => dg e m k v + (if (e (m k).toNat).fr = v then 1 else 0) + (if (e (m k).toNat).to = v then 1 else 0)

theorem dg_mono {e : Nat → Edg} {m : Nat → Int} {v : Int} : ∀ {j k : Nat}, j ≤ k → dg e m j v ≤ dg e m k v := by
  intro j k h
  obtain ⟨d, rfl⟩ : ∃ d, k = j + d := ⟨k - j, by omega⟩
  clear h
  induction d with
  | zero => exact Nat.le_refl _
  | succ d ih => show _ ≤ dg e m (j + d) v + _ + _; omega

theorem dg_le {e : Nat → Edg} {m : Nat → Int} {v : Int} : ∀ (k : Nat), dg e m k v ≤ 2 * k := by
  intro k
  induction k with
  | zero => exact Nat.le_refl _
  | succ k ih => show dg e m k v + _ + _ ≤ _; split <;> split <;> omega

def lp (x : Edg) : Prop := x.fr = x.to
instance (x : Edg) : Decidable (lp x) := inferInstanceAs (Decidable (x.1 = x.2.1))

/-- these edges are taken, with so many at each node at most that an edge ends at -/
structure Tkn (N : Int) (n : Nat) (e : Nat → Edg) (m : Nat → Int) (k : Nat) (most : Int → Int) : Prop where
  ris : Ris m k n
  nl : ∀ i, i < k → ¬ lp (e (m i).toNat)
  mst : ∀ v, 0 ≤ v → v < N → 0 < dg e m k v → (dg e m k v : Int) ≤ most v

/-- what edges cost together -/
def cst (e : Nat → Edg) (m : Nat → Int) : Nat → Int
  | 0 => 0
  | k + 1 => cst e m k + (e (m k).toNat).co

theorem cst_bound {e : Nat → Edg} {m : Nat → Int} {N : Int} {n : Nat} (h : Right N n e) : ∀ {k : Nat}, Ris m k n → -1048576 * (k : Int) ≤ cst e m k ∧ cst e m k ≤ 1048576 * (k : Int) := by
  intro k
  induction k with
  | zero => intro _; simp [cst]
  | succ k ih =>
    intro hr
    have := ih (hr.cut (by omega))
    have hm := hr k (by omega)
    have hx := h.ed (m k).toNat (by omega)
    have := hx.k0; have := hx.k1
    show _ ≤ cst e m k + (e (m k).toNat).co ∧ cst e m k + (e (m k).toNat).co ≤ _
    omega
end Go.Mz
