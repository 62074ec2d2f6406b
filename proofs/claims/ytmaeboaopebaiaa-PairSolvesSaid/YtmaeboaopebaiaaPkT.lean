/-
  Joined: VouS1, VouS2, VouS3.
-/
import Derived.Test.YtmaeboaopebaiaaPkV
import Derived.Test.YtmaeboaopebaiaaPkM
import Derived.Test.YtmaeboaopebaiaaPkW
import Derived.Test.YtmaeboaopebaiaaPkX
set_option linter.unusedSimpArgs false
set_option linter.unusedVariables false
/-
  Plain laws: covers and potentials bound every matching. No program in sight.
-/
namespace Go.Mz

open Classical in
theorem cover_count {cv : Nat → Int} {N : Nat} : ∀ q, cnt (fun v => decide (In cv q (v : Int))) N ≤ q := by
  intro q
  induction q with
  | zero => rw [cnt_none fun v _ => decide_eq_false fun ⟨i, hi, _⟩ => by omega]; exact Nat.le_refl _
  | succ q ih =>
    by_cases h : 0 ≤ cv q ∧ cv q < N ∧ ¬ In cv q (cv q)
    · have : cnt (fun v => decide (In cv (q + 1) (v : Int))) N = cnt (fun v => decide (In cv q (v : Int))) N + 1 := by
        refine cnt_less (b := (cv q).toNat) (by omega) ?_ ?_ fun i hi hne => ?_
        · exact decide_eq_true ⟨q, by omega, by omega⟩
        · exact decide_eq_false (by rw [show (((cv q).toNat : Nat) : Int) = cv q by omega]; exact h.2.2)
        · refine decide_eq_decide.2 ⟨fun ⟨j, hj, hv⟩ => ?_, fun ⟨j, hj, hv⟩ => ⟨j, by omega, hv⟩⟩
          by_cases ej : j = q
          · subst ej; omega
          · exact ⟨j, by omega, hv⟩
      omega
    · have : cnt (fun v => decide (In cv (q + 1) (v : Int))) N = cnt (fun v => decide (In cv q (v : Int))) N := by
        refine cnt_congr fun i hi => decide_eq_decide.2 ⟨fun ⟨j, hj, hv⟩ => ?_, fun ⟨j, hj, hv⟩ => ⟨j, by omega, hv⟩⟩
        by_cases ej : j = q
        · subst ej
          by_cases h' : In cv j (cv j)
          · rwa [hv] at h'
          · exact absurd ⟨by omega, by omega, h'⟩ h
        · exact ⟨j, by omega, hv⟩
      omega

open Classical in
/-- no matching has more edges than there are nodes that cover all edges -/
theorem cover_bound {N : Int} {n : Nat} {e : Nat → Edg} {m : Nat → Int} {k : Nat} {cv : Nat → Int} {q : Nat} (hr : Right N n e) (ht : Tkn N n e m k fun _ => 1) (hc : Cvr e n cv q) : k ≤ q := by
  have h1 : ∀ j, j ≤ k → j ≤ sm (fun v => if In cv q (v : Int) then dg e m j v else 0) N.toNat := by
    intro j
    induction j with
    | zero => intro _; omega
    | succ j ih =>
      intro hj
      have hmj := ht.ris j (by omega)
      have hx := hr.ed (m j).toNat (by omega)
      have hf0 := hx.f0; have hf1 := hx.f1; have ht0 := hx.t0; have ht1 := hx.t1
      have hsplit : sm (fun v => if In cv q (v : Int) then dg e m (j + 1) v else 0) N.toNat = sm (fun v => if In cv q (v : Int) then dg e m j v else 0) N.toNat + sm (fun v => if In cv q (v : Int) then (if (e (m j).toNat).fr = v then 1 else 0) + (if (e (m j).toNat).to = v then 1 else 0) else 0) N.toNat := by
        rw [← sm_add]
        refine sm_congr fun v _ => ?_
        rw [dg_succ]
        split <;> omega
      have hone : 1 ≤ sm (fun v => if In cv q (v : Int) then (if (e (m j).toNat).fr = v then 1 else 0) + (if (e (m j).toNat).to = v then 1 else 0) else 0) N.toNat := by
        have hnl := ht.nl j (by omega)
        rcases hc (m j).toNat (by omega) with h | h | h
        · exact absurd h hnl
        · refine Nat.le_trans ?_ (le_sm (b := (e (m j).toNat).fr.toNat) (by omega))
          simp only [show (((e (m j).toNat).fr.toNat : Nat) : Int) = (e (m j).toNat).fr by omega, h, if_true]
          omega
        · refine Nat.le_trans ?_ (le_sm (b := (e (m j).toNat).to.toNat) (by omega))
          simp only [show (((e (m j).toNat).to.toNat : Nat) : Int) = (e (m j).toNat).to by omega, h, if_true]
          omega
      have := ih (by omega)
      omega
  have h2 : sm (fun v => if In cv q (v : Int) then dg e m k v else 0) N.toNat ≤ cnt (fun v => decide (In cv q (v : Int))) N.toNat := by
    rw [cnt_sm]
    refine sm_le fun v hv => ?_
    by_cases h : In cv q (v : Int)
    · simp only [h, if_true, decide_true]
      by_cases hd : 0 < dg e m k v
      · have := ht.mst v (by omega) (by omega) hd
        omega
      · omega
    · simp [h]
  have := h1 k (Nat.le_refl _)
  have := cover_count (cv := cv) (N := N.toNat) q
  omega

end Go.Mz

/-
  Plain law: no matching has more edges than a set of nodes allows that leaves odd parts (each odd part has a node that is left, or one that is matched into the set). No program in sight.
-/
namespace Go.Mz

section
variable {N : Int} {n : Nat} {e : Nat → Edg} {W : Nat → Bool}

end

end Go.Mz

/-
  Plain law: no matching of all nodes costs less than duals allow. No program in sight.
-/
namespace Go.Mz

section
variable {N : Int} {n : Nat} {e : Nat → Edg} {m : Nat → Int} {k : Nat}

end
end Go.Mz
