/-
  Plain law: no other edges walked twice cost less. No program in sight.
-/
import Derived.Test.YtjdhhepphbhjgaaVouS5
set_option linter.unusedSimpArgs false
set_option linter.unusedVariables false
namespace Go.Mz

theorem dg_rng {N : Int} {n : Nat} {e : Nat → Edg} {m : Nat → Int} {v : Int} (hr : Right N n e) : ∀ {k : Nat}, Ris m k n → 0 < dg e m k v → 0 ≤ v ∧ v < N
  | 0, _, h => (Nat.lt_irrefl 0 h).elim
  | k + 1, hs, h => by
    rw [dg_succ] at h
    have hk := hs k (by omega)
    have hx := hr.ed (m k).toNat (by omega)
    have hf0 := hx.f0; have hf1 := hx.f1; have ht0 := hx.t0; have ht1 := hx.t1
    by_cases h1 : (e (m k).toNat).fr = v
    · omega
    · by_cases h2 : (e (m k).toNat).to = v
      · omega
      · rw [if_neg h1, if_neg h2] at h
        exact dg_rng (k := k) hr (hs.cut (by omega)) (by omega)

theorem psl_two {f : Nat → Nat → Int} : ∀ {p : List (Nat × Nat)}, psl (fun u w => 2 * f u w) p = 2 * psl f p
  | [] => rfl
  | y :: p => by
    show psl (fun u w => 2 * f u w) p + 2 * f y.1 y.2 = 2 * (psl f p + f y.1 y.2)
    rw [psl_two]; omega

theorem mem_odds {e : Nat → Edg} {n N v : Nat} : v ∈ odds e n N ↔ v < N ∧ deg e n (v : Int) % 2 = 1 := by
  unfold odds
  rw [List.mem_filter, List.mem_range]
  simp

open Classical in
theorem even_bound {N : Int} {n : Nat} {e : Nat → Edg} {tw : Nat → Int} {k dn : Nat} {dl : Nat → Sl} {row : Nat → Nat → Int} {Y : Nat → Int} {yn : Nat} {z : Nat → Int} {ln : Nat → Nat} {nd : Nat → Nat → Int} {sn : Nat} {o : Nat → Int} {ko : Nat}
    (hr : Right N n e) (hP : Pos n e) (hD : DblP N n e tw k dn dl row Y yn z ln nd sn) (ho : Ris o ko n) (hodd : odds (sub e o) ko N.toNat = odds e n N.toNat) : cst e tw k ≤ cst e o ko := by
  have hN0 := hr.N0
  obtain ⟨O, hO⟩ : ∃ O, odds e n N.toNat = O := ⟨_, rfl⟩
  have hnear := hD.near
  have hpr := hD.pr
  have hwt := hD.wt
  rw [hO] at hnear hpr hwt
  have hde : ∀ i, i < n → rowD row O.length (e i).fr.toNat (e i).to.toNat ≤ (e i).co := fun i hi => mx_le (hP i hi) fun j hj => by
    have := (hnear j hj).ed i hi
    omega
  obtain ⟨p, hp, hc⟩ := pairsOf rowD_met hr hP hde ho
  have hpar : ∀ v : Nat, v < N.toNat → (dg e o ko (v : Int) % 2 = 1 ↔ deg e n (v : Int) % 2 = 1) := fun v hv => by
    have h1 : v ∈ odds (sub e o) ko N.toNat ↔ v ∈ odds e n N.toNat := by rw [hodd]
    rw [mem_odds, mem_odds] at h1
    have h2 : deg (sub e o) ko (v : Int) = dg e o ko (v : Int) := dg_sub
    rw [h2] at h1
    exact ⟨fun h => (h1.1 ⟨hv, h⟩).2, fun h => (h1.2 ⟨hv, h⟩).2⟩
  have hpv : ∀ v : Nat, v < N.toNat → pdg p v = if deg e n (v : Int) % 2 = 1 then 1 else 0 := fun v hv => by
    have := hpar v hv
    rw [hp]
    split
    · rename_i h; exact this.2 h
    · rename_i h
      have : ¬ dg e o ko (v : Int) % 2 = 1 := fun h' => h (this.1 h')
      omega
  have hin : ∀ v : Nat, 1 ≤ pdg p v → v < N.toNat := fun v hv => by
    rw [hp] at hv
    have := dg_rng hr (v := (v : Int)) ho (by omega)
    omega
  have hbnd : ∀ x ∈ p, x.1 < N.toNat ∧ x.2 < N.toNat := fun x hx => by
    obtain ⟨h1, h2, _⟩ := pdg_mem hx
    exact ⟨hin _ h1, hin _ h2⟩
  have hat : ∀ v : Nat, v < N.toNat → 1 ≤ pdg p v → (odds e n v).length < O.length ∧ lsF O (odds e n v).length = v := fun v hv h1 => by
    have h := hpv v hv
    rw [← hO]
    refine odds_at ?_ hv
    by_cases h2 : deg e n (v : Int) % 2 = 1
    · exact h2
    · rw [if_neg h2] at h; omega
  -- each pair is dear enough
  have hA : psl (fun u w => prW Y z ln nd sn ((odds e n u).length : Int) ((odds e n w).length : Int)) p ≤ 2 * psl (rowD row O.length) p := by
    rw [← psl_two]
    refine psl_le fun x hx => ?_
    obtain ⟨h1, h2, h3⟩ := pdg_mem hx
    obtain ⟨b1, b2⟩ := hbnd x hx
    obtain ⟨p1, q1⟩ := hat _ b1 h1
    obtain ⟨p2, q2⟩ := hat _ b2 h2
    have hne : x.1 ≠ x.2 := fun he => by
      have := h3 he
      rw [hp] at this; omega
    have hij : (odds e n x.1).length ≠ (odds e n x.2).length := fun he => hne (by rw [he, q2] at q1; omega)
    have l1 := le_mx (f := fun j => max (row j x.1 - row j x.2) (row j x.2 - row j x.1)) p1
    have l2 := le_mx (f := fun j => max (row j x.1 - row j x.2) (row j x.2 - row j x.1)) p2
    have z1 := (hnear _ p1).zero
    have z2 := (hnear _ p2).zero
    rw [q1, Int.toNat_natCast] at z1
    rw [q2, Int.toNat_natCast] at z2
    show prW Y z ln nd sn _ _ ≤ 2 * mx (fun j => max (row j x.1 - row j x.2) (row j x.2 - row j x.1)) O.length
    rcases Nat.lt_or_ge (odds e n x.1).length (odds e n x.2).length with h | h
    · have := hpr _ p2 _ h
      rw [q2, Int.toNat_natCast] at this
      omega
    · have := hpr _ p1 _ (show (odds e n x.2).length < (odds e n x.1).length by omega)
      rw [q1, Int.toNat_natCast] at this
      rw [prW_comm]
      omega
  -- the pairs take each uneven node once
  have hY : ∀ g : Nat → Int, psl (fun u w => g (odds e n u).length + g (odds e n w).length) p = psum g O.length := fun g => by
    rw [psl_sum (f := fun u => g (odds e n u).length) hbnd, ← hO, ← psum_odds]
    refine psum_congr fun v hv => ?_
    rw [hpv v hv]
    split <;> simp
  have hB : psl (fun u w => prW Y z ln nd sn ((odds e n u).length : Int) ((odds e n w).length : Int)) p = psum Y O.length - psum (fun i => z i * psl (fun u w => if In (nd i) (ln i) ((odds e n u).length : Int) ∧ In (nd i) (ln i) ((odds e n w).length : Int) then 1 else 0) p) sn := by
    rw [← hY Y, ← psl_split (A := fun u w => Y (odds e n u).length + Y (odds e n w).length) (z := z) (sn := sn) (B := fun i u w => In (nd i) (ln i) ((odds e n u).length : Int) ∧ In (nd i) (ln i) ((odds e n w).length : Int))]
    congr 1
  have hC : psum (fun i => z i * psl (fun u w => if In (nd i) (ln i) ((odds e n u).length : Int) ∧ In (nd i) (ln i) ((odds e n w).length : Int) then 1 else 0) p) sn ≤ psum (fun i => z i * ((ln i / 2 : Nat) : Int)) sn := by
    refine psum_le fun i hi => ?_
    obtain ⟨_, hz, _⟩ := hwt.sets i hi
    refine Int.mul_le_mul_of_nonneg_left ?_ hz.1
    have h1 := hY fun j => if In (nd i) (ln i) (j : Int) then 1 else 0
    have h2 : psum (fun j => if In (nd i) (ln i) (j : Int) then (1 : Int) else 0) O.length = (cnt (fun j => decide (In (nd i) (ln i) (j : Int))) O.length : Int) := by
      rw [cnt_sm, ← psum_sm]
      refine psum_congr fun v _ => ?_
      by_cases h : In (nd i) (ln i) (v : Int) <;> simp [h]
    have h3 := cover_count (cv := nd i) (N := O.length) (ln i)
    have h4 : 2 * psl (fun u w => if In (nd i) (ln i) ((odds e n u).length : Int) ∧ In (nd i) (ln i) ((odds e n w).length : Int) then 1 else 0) p ≤ psl (fun u w => (if In (nd i) (ln i) ((odds e n u).length : Int) then (1 : Int) else 0) + (if In (nd i) (ln i) ((odds e n w).length : Int) then (1 : Int) else 0)) p := by
      rw [← psl_two]
      refine psl_le fun x _ => ?_
      by_cases c1 : In (nd i) (ln i) ((odds e n x.1).length : Int) <;> by_cases c2 : In (nd i) (ln i) ((odds e n x.2).length : Int) <;> simp [c1, c2]
    omega
  have hyl := hwt.ylen
  have hsum := hD.sum
  unfold wsum at hsum
  rw [show yn = O.length by omega] at hsum
  omega
end Go.Mz
