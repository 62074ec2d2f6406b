/-
  Plain laws: covers and potentials bound every matching. No program in sight.
-/
import Derived.Test.YtjdhhepphbhjgaaVouE
import Derived.Test.YtjdhhepphbhjgaaPl
set_option linter.unusedSimpArgs false
set_option linter.unusedVariables false
namespace Go.Mz

theorem dg_succ {e : Nat → Edg} {m : Nat → Int} {k : Nat} {v : Int} : dg e m (k + 1) v = dg e m k v + (if (e (m k).toNat).fr = v then 1 else 0) + (if (e (m k).toNat).to = v then 1 else 0) := rfl

theorem sm_single {N a : Nat} (ha : a < N) {g : Nat → Nat} : g a ≤ sm g N := le_sm ha

open Classical in
theorem cover_count {cv : Nat → Int} {N : Nat} : ∀ q, cnt (fun v => decide (In cv q (v : Int))) N ≤ q := by
  intro q
  induction q with
  | zero => rw [cnt_none fun v _ => decide_eq_false fun ⟨i, hi, _⟩ => by omega]; exact Nat.le_refl _
  | succ q ih =>
    by_cases h : 0 ≤ cv q ∧ cv q < N ∧ ¬ In cv q (cv q)
    · have : cnt (fun v => decide (In cv (q + 1) (v : Int))) N = cnt (fun v => decide (In cv q (v : Int))) N + 1 := by
        refine cnt_less (b := (cv q).toNat) (by omega) ?_ ?_ fun i hi hne => ?_
        · exact decide_eq_true ⟨q, by omega, by omega⟩
        · exact decide_eq_false (by rw [show (((cv q).toNat : Nat) : Int) = cv q by omega]; exact h.2.2)
        · refine decide_eq_decide.2 ⟨fun ⟨j, hj, hv⟩ => ?_, fun ⟨j, hj, hv⟩ => ⟨j, by omega, hv⟩⟩
          by_cases ej : j = q
          · subst ej; omega
          · exact ⟨j, by omega, hv⟩
      omega
    · have : cnt (fun v => decide (In cv (q + 1) (v : Int))) N = cnt (fun v => decide (In cv q (v : Int))) N := by
        refine cnt_congr fun i hi => decide_eq_decide.2 ⟨fun ⟨j, hj, hv⟩ => ?_, fun ⟨j, hj, hv⟩ => ⟨j, by omega, hv⟩⟩
        by_cases ej : j = q
        · subst ej
          by_cases h' : In cv j (cv j)
          · rwa [hv] at h'
          · exact absurd ⟨by omega, by omega, h'⟩ h
        · exact ⟨j, by omega, hv⟩
      omega

open Classical in
/-- no matching has more edges than there are nodes that cover all edges -/
theorem cover_bound {N : Int} {n : Nat} {e : Nat → Edg} {m : Nat → Int} {k : Nat} {cv : Nat → Int} {q : Nat} (hr : Right N n e) (ht : Tkn N n e m k fun _ => 1) (hc : Cvr e n cv q) : k ≤ q := by
  have h1 : ∀ j, j ≤ k → j ≤ sm (fun v => if In cv q (v : Int) then dg e m j v else 0) N.toNat := by
    intro j
    induction j with
    | zero => intro _; omega
    | succ j ih =>
      intro hj
      have hmj := ht.ris j (by omega)
      have hx := hr.ed (m j).toNat (by omega)
      have hf0 := hx.f0; have hf1 := hx.f1; have ht0 := hx.t0; have ht1 := hx.t1
      have hsplit : sm (fun v => if In cv q (v : Int) then dg e m (j + 1) v else 0) N.toNat = sm (fun v => if In cv q (v : Int) then dg e m j v else 0) N.toNat + sm (fun v => if In cv q (v : Int) then (if (e (m j).toNat).fr = v then 1 else 0) + (if (e (m j).toNat).to = v then 1 else 0) else 0) N.toNat := by
        rw [← sm_add]
        refine sm_congr fun v _ => ?_
        rw [dg_succ]
        split <;> omega
      have hone : 1 ≤ sm (fun v => if In cv q (v : Int) then (if (e (m j).toNat).fr = v then 1 else 0) + (if (e (m j).toNat).to = v then 1 else 0) else 0) N.toNat := by
        have hnl := ht.nl j (by omega)
        rcases hc (m j).toNat (by omega) with h | h | h
        · exact absurd h hnl
        · refine Nat.le_trans ?_ (le_sm (b := (e (m j).toNat).fr.toNat) (by omega))
          simp only [show (((e (m j).toNat).fr.toNat : Nat) : Int) = (e (m j).toNat).fr by omega, h, if_true]
          omega
        · refine Nat.le_trans ?_ (le_sm (b := (e (m j).toNat).to.toNat) (by omega))
          simp only [show (((e (m j).toNat).to.toNat : Nat) : Int) = (e (m j).toNat).to by omega, h, if_true]
          omega
      have := ih (by omega)
      omega
  have h2 : sm (fun v => if In cv q (v : Int) then dg e m k v else 0) N.toNat ≤ cnt (fun v => decide (In cv q (v : Int))) N.toNat := by
    rw [cnt_sm]
    refine sm_le fun v hv => ?_
    by_cases h : In cv q (v : Int)
    · simp only [h, if_true, decide_true]
      by_cases hd : 0 < dg e m k v
      · have := ht.mst v (by omega) (by omega) hd
        omega
      · omega
    · simp [h]
  have := h1 k (Nat.le_refl _)
  have := cover_count (cv := cv) (N := N.toNat) q
  omega

theorem psum_congr {f g : Nat → Int} {n : Nat} (h : ∀ i, i < n → f i = g i) : psum f n = psum g n := by
  induction n with
  | zero => rfl
  | succ n ih => simp only [psum]; rw [ih fun i hi => h i (by omega), h n (by omega)]

theorem psum_add {f g : Nat → Int} {n : Nat} : psum (fun i => f i + g i) n = psum f n + psum g n := by
  induction n with
  | zero => rfl
  | succ n ih => simp only [psum]; omega

theorem psum_zero {f : Nat → Int} {n : Nat} (h : ∀ i, i < n → f i = 0) : psum f n = 0 := by
  induction n with
  | zero => rfl
  | succ n ih => simp only [psum]; rw [ih fun i hi => h i (by omega), h n (by omega)]; rfl

theorem psum_le {f g : Nat → Int} {n : Nat} (h : ∀ i, i < n → f i ≤ g i) : psum f n ≤ psum g n := by
  induction n with
  | zero => exact Int.le_refl _
  | succ n ih => simp only [psum]; have := ih fun i hi => h i (by omega); have := h n (by omega); omega

theorem psum_single {a n : Nat} {x : Int} (ha : a < n) : psum (fun i => if i = a then x else 0) n = x := by
  induction n with
  | zero => omega
  | succ n ih =>
    simp only [psum]
    by_cases h : a = n
    · subst h
      rw [psum_zero fun i hi => if_neg (by omega), if_pos rfl]; omega
    · rw [ih (by omega), if_neg (by omega)]; omega

/-- weights of nodes, summed over the ends of edges taken -/
theorem weight_sum {N : Int} {n : Nat} {e : Nat → Edg} {m : Nat → Int} (w : Nat → Int) (hr : Right N n e) : ∀ {k : Nat}, Ris m k n → psum (fun v => w v * (dg e m k v : Int)) N.toNat = psum (fun j => w (e (m j).toNat).fr.toNat + w (e (m j).toNat).to.toNat) k := by
  intro k
  induction k with
  | zero => intro _; rw [psum_zero fun i _ => by simp [dg]]; rfl
  | succ k ih =>
    intro h
    have hmk := h k (by omega)
    have hx := hr.ed (m k).toNat (by omega)
    have hf0 := hx.f0; have hf1 := hx.f1; have ht0 := hx.t0; have ht1 := hx.t1
    have e1 : psum (fun v => w v * (dg e m (k + 1) v : Int)) N.toNat = psum (fun v => w v * (dg e m k v : Int)) N.toNat + (psum (fun v => if v = (e (m k).toNat).fr.toNat then w (e (m k).toNat).fr.toNat else 0) N.toNat + psum (fun v => if v = (e (m k).toNat).to.toNat then w (e (m k).toNat).to.toNat else 0) N.toNat) := by
      rw [← psum_add, ← psum_add]
      refine psum_congr fun v _ => ?_
      rw [dg_succ]
      by_cases h1 : v = (e (m k).toNat).fr.toNat <;> by_cases h2 : v = (e (m k).toNat).to.toNat
      · have q1 : (e (m k).toNat).fr = (v : Int) := by omega
        have q2 : (e (m k).toNat).to = (v : Int) := by omega
        rw [if_pos q1, if_pos q2, if_pos h1, if_pos h2, ← h1, ← h2]
        simp only [Int.natCast_add, Int.mul_add]; omega
      · have q1 : (e (m k).toNat).fr = (v : Int) := by omega
        have q2 : ¬ (e (m k).toNat).to = (v : Int) := by omega
        rw [if_pos q1, if_neg q2, if_pos h1, if_neg h2, ← h1]
        simp only [Int.natCast_add, Int.mul_add]; omega
      · have q1 : ¬ (e (m k).toNat).fr = (v : Int) := by omega
        have q2 : (e (m k).toNat).to = (v : Int) := by omega
        rw [if_neg q1, if_pos q2, if_neg h1, if_pos h2, ← h2]
        simp only [Int.natCast_add, Int.mul_add]; omega
      · have q1 : ¬ (e (m k).toNat).fr = (v : Int) := by omega
        have q2 : ¬ (e (m k).toNat).to = (v : Int) := by omega
        rw [if_neg q1, if_neg q2, if_neg h1, if_neg h2]
        simp only [Int.natCast_add, Int.mul_add]; omega
    rw [e1, ih (h.cut (by omega)), psum_single (by omega), psum_single (by omega)]
    simp only [psum]

/-- no matching costs more than potentials allow -/
theorem heavy_bound {N : Int} {n : Nat} {e : Nat → Edg} {m : Nat → Int} {k : Nat} {pot : Nat → Int} {q : Nat} (hr : Right N n e) (ht : Tkn N n e m k fun _ => 1) (hq : (q : Int) = N) (hb : ∀ v, v < q → 0 ≤ pot v)
    (hed : ∀ i, i < n → lp (e i) ∨ (e i).co ≤ pot (e i).fr.toNat + pot (e i).to.toNat) : cst e m k ≤ psum pot q := by
  have hN : N.toNat = q := by omega
  have h1 : cst e m k ≤ psum (fun j => pot (e (m j).toNat).fr.toNat + pot (e (m j).toNat).to.toNat) k := by
    have : ∀ j, j ≤ k → cst e m j ≤ psum (fun j => pot (e (m j).toNat).fr.toNat + pot (e (m j).toNat).to.toNat) j := by
      intro j
      induction j with
      | zero => intro _; exact Int.le_refl _
      | succ j ih =>
        intro hj
        have hmj := ht.ris j (by omega)
        have := (hed (m j).toNat (by omega)).resolve_left (ht.nl j (by omega))
        have := ih (by omega)
        simp only [cst, psum]
        omega
    exact this k (Nat.le_refl _)
  rw [← weight_sum pot hr ht.ris, hN] at h1
  refine Int.le_trans h1 (psum_le fun v hv => ?_)
  have hp := hb v hv
  have hd : dg e m k v ≤ 1 := by
    by_cases h : 0 < dg e m k v
    · have := ht.mst v (by omega) (by omega) h; omega
    · omega
  have : pot v * (dg e m k v : Int) ≤ pot v * 1 := Int.mul_le_mul_of_nonneg_left (by omega) hp
  omega
end Go.Mz
