/-
  Plain laws: covers and potentials bound every matching. No program in sight.
-/
import Derived.Test.YtjdhhepphbhjgaaPkV
import Derived.Test.YtjdhhepphbhjgaaPkM
set_option linter.unusedSimpArgs false
set_option linter.unusedVariables false
namespace Go.Mz

theorem dg_succ {e : Nat → Edg} {m : Nat → Int} {k : Nat} {v : Int} : dg e m (k + 1) v = dg e m k v + (if (e (m k).toNat).fr = v then 1 else 0) + (if (e (m k).toNat).to = v then 1 else 0) := rfl

open Classical in
theorem cover_count {cv : Nat → Int} {N : Nat} : ∀ q, cnt (fun v => decide (In cv q (v : Int))) N ≤ q := by
  intro q
  induction q with
  | zero => rw [cnt_none fun v _ => decide_eq_false fun ⟨i, hi, _⟩ => by omega]; exact Nat.le_refl _
  | succ q ih =>
    by_cases h : 0 ≤ cv q ∧ cv q < N ∧ ¬ In cv q (cv q)
    · have : cnt (fun v => decide (In cv (q + 1) (v : Int))) N = cnt (fun v => decide (In cv q (v : Int))) N + 1 := by
        refine cnt_less (b := (cv q).toNat) (by omega) ?_ ?_ fun i hi hne => ?_
        · exact decide_eq_true ⟨q, by omega, by omega⟩
        · exact decide_eq_false (by rw [show (((cv q).toNat : Nat) : Int) = cv q by omega]; exact h.2.2)
        · refine decide_eq_decide.2 ⟨fun ⟨j, hj, hv⟩ => ?_, fun ⟨j, hj, hv⟩ => ⟨j, by omega, hv⟩⟩
          by_cases ej : j = q
          · subst ej; omega
          · exact ⟨j, by omega, hv⟩
      omega
    · have : cnt (fun v => decide (In cv (q + 1) (v : Int))) N = cnt (fun v => decide (In cv q (v : Int))) N := by
        refine cnt_congr fun i hi => decide_eq_decide.2 ⟨fun ⟨j, hj, hv⟩ => ?_, fun ⟨j, hj, hv⟩ => ⟨j, by omega, hv⟩⟩
        by_cases ej : j = q
        · subst ej
          by_cases h' : In cv j (cv j)
          · rwa [hv] at h'
          · exact absurd ⟨by omega, by omega, h'⟩ h
        · exact ⟨j, by omega, hv⟩
      omega

theorem psum_congr {f g : Nat → Int} {n : Nat} (h : ∀ i, i < n → f i = g i) : psum f n = psum g n := by
  induction n with
  | zero => rfl
  | succ n ih => simp only [psum]; rw [ih fun i hi => h i (by omega), h n (by omega)]

theorem psum_add {f g : Nat → Int} {n : Nat} : psum (fun i => f i + g i) n = psum f n + psum g n := by
  induction n with
  | zero => rfl
  | succ n ih => simp only [psum]; omega

theorem psum_zero {f : Nat → Int} {n : Nat} (h : ∀ i, i < n → f i = 0) : psum f n = 0 := by
  induction n with
  | zero => rfl
  | succ n ih => simp only [psum]; rw [ih fun i hi => h i (by omega), h n (by omega)]; rfl

theorem psum_le {f g : Nat → Int} {n : Nat} (h : ∀ i, i < n → f i ≤ g i) : psum f n ≤ psum g n := by
  induction n with
  | zero => exact Int.le_refl _
  | succ n ih => simp only [psum]; have := ih fun i hi => h i (by omega); have := h n (by omega); omega

end Go.Mz
