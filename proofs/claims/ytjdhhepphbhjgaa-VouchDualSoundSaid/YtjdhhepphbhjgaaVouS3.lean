/-
  Plain law: no matching of all nodes costs less than duals allow. No program in sight.
-/
import Derived.Test.YtjdhhepphbhjgaaVouS2
import Derived.Test.YtjdhhepphbhjgaaVouI
import Derived.Test.YtjdhhepphbhjgaaVouQ
set_option linter.unusedSimpArgs false
set_option linter.unusedVariables false
namespace Go.Mz

theorem psum_sub {f g : Nat → Int} {n : Nat} : psum (fun i => f i - g i) n = psum f n - psum g n := by
  induction n with
  | zero => rfl
  | succ n ih => simp only [psum]; omega

theorem psum_mulc {f : Nat → Int} {n : Nat} {x : Int} : psum (fun i => x * f i) n = x * psum f n := by
  induction n with
  | zero => simp [psum]
  | succ n ih => simp only [psum]; rw [ih, Int.mul_add]

theorem psum_swap {f : Nat → Nat → Int} {N M : Nat} : psum (fun i => psum (fun j => f i j) M) N = psum (fun j => psum (fun i => f i j) N) M := by
  induction N with
  | zero => exact (psum_zero fun _ _ => rfl).symm
  | succ N ih =>
    show psum (fun i => psum (fun j => f i j) M) N + psum (fun j => f N j) M = psum (fun j => psum (fun i => f i j) N + f N j) M
    rw [ih, psum_add]

theorem psum_sm {f : Nat → Nat} {n : Nat} : psum (fun i => (f i : Int)) n = (sm f n : Int) := by
  induction n with
  | zero => rfl
  | succ n ih => simp only [psum, sm, ih]; omega

section
variable {N : Int} {n : Nat} {e : Nat → Edg} {m : Nat → Int} {k : Nat}

/-- ends in a set of nodes are no more than these -/
theorem ends_in {W : Nat → Bool} (hr : Right N n e) (ht : Tkn N n e m k fun _ => 1) : sm (fun j => (if W (e (m j).toNat).fr.toNat then 1 else 0) + (if W (e (m j).toNat).to.toNat then 1 else 0)) k ≤ cnt W N.toNat := by
  have hd1 : ∀ v : Nat, v < N.toNat → dg e m k (v : Int) ≤ 1 := fun v hv => by
    by_cases h : 0 < dg e m k v
    · have := ht.mst v (by omega) (by omega) h; omega
    · omega
  have h1 := weight_sum (fun v => if W v then (1 : Int) else 0) hr ht.ris
  have h2 : psum (fun j => (if W (e (m j).toNat).fr.toNat then (1 : Int) else 0) + (if W (e (m j).toNat).to.toNat then (1 : Int) else 0)) k = (sm (fun j => (if W (e (m j).toNat).fr.toNat then 1 else 0) + (if W (e (m j).toNat).to.toNat then 1 else 0)) k : Int) := by
    rw [← psum_sm]
    refine psum_congr fun j _ => ?_
    split <;> split <;> rfl
  have h3 : psum (fun v => (if W v then (1 : Int) else 0) * (dg e m k (v : Int) : Int)) N.toNat ≤ (cnt W N.toNat : Int) := by
    rw [cnt_sm, ← psum_sm]
    refine psum_le fun v hv => ?_
    have := hd1 v hv
    split
    · simp; omega
    · simp
  omega

theorem all_one (hr : Right N n e) (ht : Tkn N n e m k fun _ => 1) (hall : 2 * (k : Int) = N) : ∀ v, v < N.toNat → dg e m k (v : Int) = 1 := by
  have hd1 : ∀ v : Nat, v < N.toNat → dg e m k (v : Int) ≤ 1 := fun v hv => by
    by_cases h : 0 < dg e m k v
    · have := ht.mst v (by omega) (by omega) h; omega
    · omega
  have h1 := weight_sum (fun _ => (1 : Int)) hr ht.ris
  have h2 : psum (fun _ => (1 : Int) + 1) k = 2 * k := by
    have : ∀ j, psum (fun _ => (1 : Int) + 1) j = 2 * j := by
      intro j
      induction j with
      | zero => rfl
      | succ j ih => simp only [psum, ih]; omega
    exact this k
  rw [h2] at h1
  have hc : ∀ M, psum (fun _ => (1 : Int)) M = M := by
    intro M
    induction M with
    | zero => rfl
    | succ M ih => simp only [psum, ih]; omega
  have h3 : psum (fun v => 1 - (dg e m k (v : Int) : Int)) N.toNat = 0 := by
    rw [psum_sub, hc]
    have : psum (fun v => (dg e m k (v : Int) : Int)) N.toNat = psum (fun v => (1 : Int) * (dg e m k (v : Int) : Int)) N.toNat := psum_congr fun v _ => by omega
    have := hr.N0
    omega
  intro v hv
  have key : ∀ M, M ≤ N.toNat → psum (fun v => 1 - (dg e m k (v : Int) : Int)) M ≤ psum (fun v => 1 - (dg e m k (v : Int) : Int)) N.toNat := fun M hM => psum_mono (fun v hv => by have := hd1 v hv; omega) hM (Nat.le_refl _)
  have k1 := key (v + 1) (by omega)
  have k0 : 0 ≤ psum (fun v => 1 - (dg e m k (v : Int) : Int)) v := psum_mono (f := fun v => 1 - (dg e m k (v : Int) : Int)) (N := N.toNat) (fun v hv => by have := hd1 v hv; omega) (Nat.zero_le v) (by omega)
  simp only [psum] at k1
  have := hd1 v hv
  omega

open Classical in
theorem dual_bound {Y : Nat → Int} {yn : Nat} {z : Nat → Int} {ln : Nat → Nat} {nd : Nat → Nat → Int} {sn : Nat} (hr : Right N n e) (ht : Tkn N n e m k fun _ => 1) (hall : 2 * (k : Int) = N) (hw : Wt N Y yn z ln nd sn)
    (hed : ∀ i, i < n → lp (e i) ∨ prW Y z ln nd sn (e i).fr (e i).to ≤ 2 * (e i).co) : wsum Y yn z ln sn ≤ 2 * cst e m k := by
  have hyn : N.toNat = yn := by have := hw.ylen; omega
  have hone := all_one hr ht hall
  -- each edge taken is dear enough
  have hA : psum (fun j => prW Y z ln nd sn (e (m j).toNat).fr (e (m j).toNat).to) k ≤ 2 * cst e m k := by
    have : ∀ j, j ≤ k → psum (fun j => prW Y z ln nd sn (e (m j).toNat).fr (e (m j).toNat).to) j ≤ 2 * cst e m j := by
      intro j
      induction j with
      | zero => intro _; exact Int.le_refl _
      | succ j ih =>
        intro hj
        have hmj := ht.ris j (by omega)
        have := (hed (m j).toNat (by omega)).resolve_left (ht.nl j (by omega))
        have := ih (by omega)
        simp only [psum, cst]
        omega
    exact this k (Nat.le_refl _)
  let B := fun i j => In (nd i) (ln i) (e (m j).toNat).fr ∧ In (nd i) (ln i) (e (m j).toNat).to
  have hB : psum (fun j => prW Y z ln nd sn (e (m j).toNat).fr (e (m j).toNat).to) k = psum Y yn - psum (fun i => psum (fun j => if B i j then z i else 0) k) sn := by
    have e1 : psum (fun j => prW Y z ln nd sn (e (m j).toNat).fr (e (m j).toNat).to) k = psum (fun j => Y (e (m j).toNat).fr.toNat + Y (e (m j).toNat).to.toNat) k - psum (fun j => psum (fun i => if B i j then z i else 0) sn) k := by
      rw [← psum_sub]; rfl
    rw [e1, psum_swap, ← weight_sum Y hr ht.ris, hyn]
    congr 1
    exact psum_congr fun v hv => by rw [hone v (by omega)]; simp
  have hC : ∀ i, i < sn → psum (fun j => if B i j then z i else 0) k ≤ z i * ((ln i / 2 : Nat) : Int) := fun i hi => by
    obtain ⟨_, hz, _⟩ := hw.sets i hi
    have e1 : psum (fun j => if B i j then z i else 0) k = z i * (sm (fun j => if B i j then 1 else 0) k : Int) := by
      rw [← psum_sm, ← psum_mulc]
      refine psum_congr fun j _ => ?_
      split <;> simp
    rw [e1]
    refine Int.mul_le_mul_of_nonneg_left ?_ hz.1
    have h1 := ends_in (W := fun v => decide (In (nd i) (ln i) (v : Int))) hr ht
    have h2 := cover_count (cv := nd i) (N := N.toNat) (ln i)
    have h3 : 2 * sm (fun j => if B i j then 1 else 0) k ≤ sm (fun j => (if decide (In (nd i) (ln i) (((e (m j).toNat).fr.toNat : Nat) : Int)) then 1 else 0) + (if decide (In (nd i) (ln i) (((e (m j).toNat).to.toNat : Nat) : Int)) then 1 else 0)) k := by
      have : ∀ j, j ≤ k → 2 * sm (fun j => if B i j then 1 else 0) j ≤ sm (fun j => (if decide (In (nd i) (ln i) (((e (m j).toNat).fr.toNat : Nat) : Int)) then 1 else 0) + (if decide (In (nd i) (ln i) (((e (m j).toNat).to.toNat : Nat) : Int)) then 1 else 0)) j := by
        intro j
        induction j with
        | zero => intro _; exact Nat.le_refl _
        | succ j ih =>
          intro hj
          have hmj := ht.ris j (by omega)
          have hx := hr.ed (m j).toNat (by omega)
          have hf0 := hx.f0; have ht0 := hx.t0
          have ih := ih (by omega)
          simp only [sm]
          by_cases hb : B i j
          · have b1 : In (nd i) (ln i) (((e (m j).toNat).fr.toNat : Nat) : Int) := by rw [show (((e (m j).toNat).fr.toNat : Nat) : Int) = (e (m j).toNat).fr by omega]; exact hb.1
            have b2 : In (nd i) (ln i) (((e (m j).toNat).to.toNat : Nat) : Int) := by rw [show (((e (m j).toNat).to.toNat : Nat) : Int) = (e (m j).toNat).to by omega]; exact hb.2
            rw [if_pos hb, if_pos (decide_eq_true b1), if_pos (decide_eq_true b2)]; omega
          · rw [if_neg hb]; omega
      exact this k (Nat.le_refl _)
    omega
  have hD : psum (fun i => psum (fun j => if B i j then z i else 0) k) sn ≤ psum (fun i => z i * ((ln i / 2 : Nat) : Int)) sn := psum_le hC
  unfold wsum
  omega
end
end Go.Mz
