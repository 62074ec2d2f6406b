/-
  VouchFull, walked: whatever the graph and the number, it answers true and leaves what was there as it was.
-/
import Derived.Test.YtjdhhepphbhjgaaRefM
set_option linter.unusedSimpArgs false
set_option linter.unusedVariables false
namespace Go.Mz
section
variable {E : Value → Hp → Prop}

theorem lfull {N : Int} {ep : Option Addr} {n ec : Nat} {e : Nat → Edg} {left : Int} {H : Hp} {K : Bool → Hp → Prop} (he : Rdr H ep n e) (hn : n < 2 ^ 63)
    (kk : ∀ H', Step (fun _ => False) H H' → K true H') : compasslaw12_VouchFull.call N ep n ec left E H K := by
  refine compasslaw12_VouchFull.of (compasslaw12_VouchFull.run_eq ?_)
  unfold compasslaw12_VouchFull.run_t
  refine nwk fun b1 H1 hb1 e1 s1 => ?_
  refine lawake12 fun H2 s2 => ?_
  refine bcb (fun h => by cases h) fun _ => ?_
  have s02 := s1.and s2
  have e2 := s2.keep _ _ e1 fun h => h
  simp only [get_at e2, List.getElem?_cons_zero, List.getElem?_cons_succ, ldI_mk, ldS_mk]
  refine rcheck (he.keep s02 fun _ _ _ h => h) fun H3 a s3 => ?_
  have s03 := s02.and s3
  have e3 := s3.keep _ _ e2 fun h => h
  refine bcn (fun _ => kk _ s03) fun hc => ?_
  have hr := chk_zero.1 hc
  have hN0 := hr.N0
  simp only [get_at e3, List.getElem?_cons_zero, List.getElem?_cons_succ, ldI_mk, ldS_mk]
  refine bc (fun _ => kk _ s03) fun hN8' => ?_
  have hN : N ≤ 8 := by omega
  try simp only [get_at e3, List.getElem?_cons_zero, List.getElem?_cons_succ, ldI_mk, ldS_mk]
  refine bc (fun _ => kk _ s03) fun hn16 => ?_
  have hn1 : n ≤ 16 := by omega
  try simp only [get_at e3, List.getElem?_cons_zero, List.getElem?_cons_succ, ldI_mk, ldS_mk]
  refine rmost n (by omega) (he.keep s03 fun _ _ _ h => h) fun H4 p4 c4 M s4 hM r4 => ?_
  have s04 := s03.and s4
  have hMl := hM.1.1.len
  refine rsorted r4 hM.1.1 (by omega) fun p5 c5 H5 s5 r5 => ?_
  have s05 := s04.and s5
  have e5 := (s4.and s5).keep _ _ e3 fun h => h
  simp only [get_at e5, List.getElem?_cons_zero, List.getElem?_cons_succ, ldI_mk, ldS_mk]
  obtain ⟨T, hT, hTc⟩ := mst_mxw hM
  obtain ⟨U, _, hU⟩ := berge hr _ (fun _ => false) rfl T hT
  rw [cnt_const, hTc] at hU
  refine rbarrier (he.keep s05 fun _ _ _ h => h) hr hN (k := M.length) (by omega) ⟨U, by omega⟩ fun p6 c6 H6 P s6 r6 hP => ?_
  have s06 := s05.and s6
  have e6 := s6.keep _ _ e5 fun h => h
  have hpl : (pk P N.toNat).length ≤ 8 := by rw [pk_len]; have := cnt_le P N.toNat; omega
  simp only [get_at e6, List.getElem?_cons_zero, List.getElem?_cons_succ, ldI_mk, ldS_mk]
  have r56 := r5.keep s6 fun _ _ h => h
  have hTk : Tkn N n e (lsF M) M.length fun _ => 1 := ⟨hM.1.1, fun i hi hl => by
    have hri := hM.1.1 i hi
    have hd := hM.1.2 (e (lsF M i).toNat).fr
    have := dg_mono (e := e) (m := lsF M) (v := (e (lsF M i).toNat).fr) (j := i + 1) (k := M.length) (by omega)
    rw [dg_succ, if_pos rfl, if_pos (show (e (lsF M i).toNat).to = (e (lsF M i).toNat).fr from Eq.symm hl)] at this
    omega, fun v _ _ _ => by have := hM.1.2 v; omega⟩
  have hris : Ris (lsF (pk P N.toNat)) (pk P N.toNat).length N := by
    have := pk_ris (P := P) (n := N.toNat)
    rwa [show ((N.toNat : Nat) : Int) = N by omega] at this
  have hL : LrgP N n e (lsF M) M.length (lsF (pk P N.toNat)) (pk P N.toNat).length := ⟨hTk, hris, by rw [oddS_pk hr]; omega⟩
  refine vLargest (he.keep s06 fun _ _ _ h => h) hn r56.rdr (by omega) r6.rdr (by omega) fun H7 c7 s7 o7 => ?_
  have s07 := s06.and s7
  have hc7 : c7 = 0 := by
    rcases o7 with ⟨h, _⟩ | ⟨h1, h2⟩ | ⟨_, _, h⟩
    · exact h
    · exact absurd (h1.trans hc) h2
    · exact absurd hL h
  subst hc7
  rw [if_pos rfl]
  refine bcb (fun h => by cases h) fun _ => ?_
  refine bcn (fun h => (h rfl).elim) fun _ => ?_
  refine bcn (fun h => (h rfl).elim) fun _ => ?_
  have e7 := s7.keep _ _ e6 fun h => h
  simp only [get_at e7, List.getElem?_cons_zero, List.getElem?_cons_succ, ldI_mk, ldS_mk]
  have r67 := r6.keep s7 fun _ _ h => h
  refine vNoPerfect (he.keep s07 fun _ _ _ h => h) hn r67.rdr (by omega) fun H8 c8 s8 o8 => ?_
  have s08 := s07.and s8
  have e8 := s8.keep _ _ e7 fun h => h
  simp only [get_at e8, List.getElem?_cons_zero, List.getElem?_cons_succ, ldI_mk, ldS_mk, true_and]
  have hcond : (c8 = 0) ↔ 2 * (M.length : Int) < N := by
    have hlt : NopP N n e (lsF (pk P N.toNat)) (pk P N.toNat).length ↔ 2 * (M.length : Int) < N := by
      constructor
      · intro h
        have := h.lt
        rw [oddS_pk hr] at this
        omega
      · intro h
        exact ⟨hris, by rw [oddS_pk hr]; omega⟩
    rcases o8 with ⟨h, _, h2⟩ | ⟨h1, h2⟩ | ⟨h, _, h2⟩
    · exact ⟨fun _ => hlt.1 h2, fun _ => h⟩
    · exact absurd (h1.trans hc) h2
    · exact ⟨fun h' => (by rw [h] at h'; cases h'), fun h' => (h2 (hlt.2 h')).elim⟩
  rw [i64w (n := 2 * (M.length : Int)) (by omega) (by omega), decide_eq_decide.2 hcond, beq_self_eq_true]
  refine bcb (fun h => by cases h) fun _ => ?_
  try simp only [get_at e8, List.getElem?_cons_zero, List.getElem?_cons_succ, ldI_mk, ldS_mk]
  refine compasslaw12_VouchFull.l1_rule (fun l1' g2 mp mn mc n10 tp tn tc t78 t79 H' => left = l1' ∧ b1 = g2 ∧ p5 = mp ∧ M.length = mn ∧ n10 = M.length ∧ ep = tp ∧ n = tn ∧ t78 = n ∧ ∃ i : Nat, t79 = i ∧ i ≤ n ∧ Step (fun _ => False) H8 H' ∧ ∀ j, j < i → ¬ ((e j).fr < left ↔ (e j).to < left))
    (fun l1' g2 mp mn mc n10 tp tn tc t78 t79 H' => n - t79.toNat) ?_ ⟨rfl, rfl, rfl, rfl, rfl, rfl, rfl, rfl, 0, rfl, by omega, .refl, fun j hj => by omega⟩
  rintro l1' g2 mp mn mc n10 tp tn tc t78 t79 H9 ⟨rfl, rfl, rfl, rfl, rfl, rfl, rfl, rfl, i, rfl, hi, s9, hbip⟩ X hX
  have s09 := s08.and s9
  refine compasslaw12_VouchFull.b1_eq ?_
  unfold compasslaw12_VouchFull.b1_t
  refine bc (fun hlt => ?_) fun hge => ?_
  · refine (he.keep s09 fun _ _ _ h => h).edge (by omega) (by omega) ?_
    simp only [Int.toNat_natCast]
    refine nwst rfl rfl fun ba Ha hba ea sa => ?_
    simp only [get_at ea, List.getElem?_cons_zero, List.getElem?_cons_succ, ldI_mk]
    refine bcb (fun _ => kk _ (s09.and sa)) fun h => ?_
    rw [i64w (by omega) (by omega)]
    refine hX _ _ _ _ _ _ _ _ _ _ _ _ ⟨rfl, rfl, rfl, rfl, rfl, rfl, rfl, rfl, i + 1, by omega, by omega, s9.and sa, fun j hj => ?_⟩ (by omega)
    by_cases ej : j = i
    · subst ej
      intro hh
      rw [decide_eq_decide.2 hh, beq_self_eq_true] at h
      cases h
    · exact hbip j (by omega)
  · have : i = n := by omega
    subst this
    clear hX
    refine compasslaw12_VouchFull.j1_eq ?_
    unfold compasslaw12_VouchFull.j1_t
    have e9 := s9.keep _ _ e8 fun h => h
    simp only [get_at e9, List.getElem?_cons_zero, List.getElem?_cons_succ, ldI_mk, ldS_mk]
    refine rcover (he.keep s09 fun _ _ _ h => h) hr hN fun pa ca Ha Q sa ra hQ hopt => ?_
    have s0a := s09.and sa
    have ea := sa.keep _ _ e9 fun h => h
    simp only [get_at ea, List.getElem?_cons_zero, List.getElem?_cons_succ, ldI_mk, ldS_mk, true_and]
    obtain ⟨C, hC1, hC2⟩ := konig hr hbip hT
    have hql : (pk Q N.toNat).length ≤ 8 := by rw [pk_len]; have := cnt_le Q N.toNat; omega
    have h1 := hopt C fun j hj => .inr (hC1 j hj)
    have hcv := (cvr_pk hr).2 hQ
    have h2 := cover_bound hr hTk hcv
    have hcov : CovP N i e (lsF M) M.length (lsF (pk Q N.toNat)) (pk Q N.toNat).length := ⟨hTk, by
      have := pk_ris (P := Q) (n := N.toNat)
      rwa [show ((N.toNat : Nat) : Int) = N by omega] at this, hcv, by omega⟩
    refine vCovered (he.keep s0a fun _ _ _ h => h) hn (r56.keep (((s7.and s8).and s9).and sa) fun _ _ h => h).rdr (by omega) ra.rdr (by omega) fun Hb cb sb ob => ?_
    have hcb : cb = 0 := by
      rcases ob with ⟨h, _⟩ | ⟨h1, h2⟩ | ⟨_, _, h⟩
      · exact h
      · exact absurd (h1.trans hc) h2
      · exact absurd hcov h
    subst hcb
    rw [if_pos rfl]
    refine bct rfl ?_
    rw [decide_eq_true rfl]
    exact kk _ (s0a.and sb)
end
end Go.Mz
