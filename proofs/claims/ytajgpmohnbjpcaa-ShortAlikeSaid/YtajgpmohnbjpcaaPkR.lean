/-
  Joined: RfA, RfB.
-/
import Derived.Test.YtajgpmohnbjpcaaPkB
import Derived.Test.YtajgpmohnbjpcaaPkG
import Derived.Test.YtajgpmohnbjpcaaGRfb
set_option linter.unusedSimpArgs false
set_option linter.unusedVariables false
/-
  The document's functions of layers 4 and 8, walked: Wrong, rounds, settled, Dist, Potentials.
-/
namespace Go.Mz
section
variable {E : Value → Hp → Prop}

end
end Go.Mz

/-
  The document's functions of layers 4 and 8, walked: Cost, Circle, Levels, Way, Tree.
-/
namespace Go.Mz
section
variable {E : Value → Hp → Prop}

/-- where the levels stand: D rounds are done, i edges of the next -/
structure Lvl (M n : Nat) (a b : Nat → Nat) (s : Nat) (lv : Nat → Int) (D i : Nat) : Prop where
  src : lv s = 0
  rng : ∀ v, v < M → lv v = -1 ∨ (0 ≤ lv v ∧ lv v ≤ (D : Int) + 1)
  rng0 : i = 0 → ∀ v, v < M → lv v ≤ (D : Int)
  old : ∀ j, j < n → 0 ≤ lv (a j) → lv (a j) < (D : Int) → 0 ≤ lv (b j)
  now : ∀ j, j < i → lv (a j) = (D : Int) → 0 ≤ lv (b j)
  gap : ∀ v, v < M → 0 < lv v → ∃ u, u < M ∧ lv u = lv v - 1

section
variable {M n s D i : Nat} {a b : Nat → Nat} {lv : Nat → Int}

theorem Lvl.skip (h : Lvl M n a b s lv D i) (ht : lv (a i) = (D : Int) → 0 ≤ lv (b i)) : Lvl M n a b s lv D (i + 1) :=
  ⟨h.src, h.rng, fun h => by omega, h.old, fun j hj hd => by
    by_cases e : j = i
    · subst e; exact ht hd
    · exact h.now j (by omega) hd, h.gap⟩

theorem Lvl.put (h : Lvl M n a b s lv D i) (ha : a i < M) (hb : b i < M) (hs : s < M) (h1 : lv (a i) = (D : Int)) (h2 : lv (b i) < 0) : Lvl M n a b s (upf lv (b i) ((D : Int) + 1)) D (i + 1) := by
  have sb : s ≠ b i := fun e => by have := h.src; rw [e] at this; omega
  have up : ∀ v, 0 ≤ lv v → upf lv (b i) ((D : Int) + 1) v = lv v := fun v hv => upf_ne fun e => by rw [e] at hv; omega
  have pos : ∀ v, 0 ≤ lv v → 0 ≤ upf lv (b i) ((D : Int) + 1) v := fun v hv => by rw [up v hv]; exact hv
  refine ⟨by rw [upf_ne sb]; exact h.src, fun v hv => ?_, fun h => by omega, fun j hj h3 h4 => ?_, fun j hj h3 => ?_, fun v hv h3 => ?_⟩
  · by_cases e : v = b i
    · subst e; rw [upf_same]; right; omega
    · rw [upf_ne e]; exact h.rng v hv
  · have hne : a j ≠ b i := fun e => by rw [e, upf_same] at h4; omega
    rw [upf_ne hne] at h3 h4
    exact pos _ (h.old j hj h3 h4)
  · have hne : a j ≠ b i := fun e => by rw [e, upf_same] at h3; omega
    rw [upf_ne hne] at h3
    by_cases e : j = i
    · subst e; rw [upf_same]; omega
    · exact pos _ (h.now j (by omega) h3)
  · by_cases e : v = b i
    · subst e
      refine ⟨a i, ha, ?_⟩
      rw [upf_same, up _ (by omega)]; omega
    · rw [upf_ne e] at h3
      obtain ⟨u, hu, h4⟩ := h.gap v hv h3
      refine ⟨u, hu, ?_⟩
      rw [upf_ne e, up u (by omega)]; exact h4

theorem Lvl.round (h : Lvl M n a b s lv D n) (ha : ∀ j, j < n → a j < M) : Lvl M n a b s lv (D + 1) 0 :=
  ⟨h.src, fun v hv => by rcases h.rng v hv with h | h <;> omega, fun _ v hv => by rcases h.rng v hv with h | h <;> omega, fun j hj h1 h2 => by
    by_cases e : lv (a j) = (D : Int)
    · exact h.now j hj e
    · exact h.old j hj h1 (by omega), fun j hj => by omega, h.gap⟩

/-- all that can be reached has a level -/
theorem Lvl.done (h : Lvl M n a b s lv M 0) (ha : ∀ j, j < n → a j < M) : ∀ j, j < n → 0 ≤ lv (a j) → 0 ≤ lv (b j) := by
  intro j hj h1
  by_cases e : lv (a j) < (M : Int)
  · exact h.old j hj h1 e
  · exfalso
    have key : ∀ d, d ≤ M → ∃ u, u < M ∧ lv u = ((M - d : Nat) : Int) := by
      intro d
      induction d with
      | zero => intro _; exact ⟨a j, ha j hj, by have := h.rng0 rfl _ (ha j hj); omega⟩
      | succ d ih =>
        intro hd
        obtain ⟨u, hu, h2⟩ := ih (by omega)
        obtain ⟨w, hw, h3⟩ := h.gap u hu (by omega)
        exact ⟨w, hw, by omega⟩
    have key' : ∀ l, l ≤ M → ∃ u, u < M ∧ lv u = (l : Int) := fun l hl => by
      obtain ⟨u, h1, h2⟩ := key (M - l) (by omega)
      exact ⟨u, h1, by omega⟩
    have : ∃ f : Nat → Nat, ∀ l, l ≤ M → f l < M ∧ lv (f l) = (l : Int) := by
      refine ⟨fun l => if h : l ≤ M then Classical.choose (key' l h) else 0, fun l hl => ?_⟩
      simp only [hl, dif_pos]
      exact Classical.choose_spec (key' l hl)
    obtain ⟨f, hf⟩ := this
    obtain ⟨x, y, h2, h3, h4⟩ := pigeon (M := M) (f := f) fun i hi => (hf i hi).1
    have h5 := (hf x (by omega)).2
    have h6 := (hf y h3).2
    rw [h4] at h5
    omega
end

end
end Go.Mz
