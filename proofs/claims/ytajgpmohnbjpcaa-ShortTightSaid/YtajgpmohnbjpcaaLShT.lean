/-
  ShortTight, walked: whatever the graph and the node, it answers true and leaves what was there as it was.
-/
import Derived.Test.YtajgpmohnbjpcaaShA
import Derived.Test.YtajgpmohnbjpcaaMzS
import Derived.Test.YtajgpmohnbjpcaaGShG
set_option linter.unusedSimpArgs false
set_option linter.unusedVariables false
namespace Go.Mz
section
variable {E : Value → Hp → Prop}

theorem ltight {N s : Int} {ep : Option Addr} {n ec : Nat} {e : Nat → Edg} {H : Hp} {K : Bool → Hp → Prop} (he : Rdr H ep n e) (hn : n < 2 ^ 63)
    (kk : ∀ H', Step (fun _ => False) H H' → K true H') : compasslaw08_ShortTight.call N ep n ec s E H K := by
  refine compasslaw08_ShortTight.of (compasslaw08_ShortTight.run_eq ?_)
  unfold compasslaw08_ShortTight.run_t
  refine nwk fun b1 H1 hb1 e1 s1 => ?_
  refine lawake8 fun H2 s2 => ?_
  have e12 := s2.keep _ _ e1 fun h => h
  have s02 := s1.and s2
  refine bcb (fun h => by cases h) fun _ => ?_
  simp only [get_at e12, List.getElem?_cons_zero, List.getElem?_cons_succ, ldI_mk, ldS_mk]
  refine sbellman (he.keep s02 fun _ _ _ h => h) hn (fun hw H3 s3 => ?_) (fun hr hs0 hs1 H3 bd bv dist via s3 fd fv dv rD rV hS => ?_) fun hr hs0 hs1 H3 p m c f s3 rf ff hC => ?_
  · refine nwst rfl rfl fun b2 H5 hb2 e2 s5 => ?_
    refine bc (fun h => ?_) fun _ => ?_
    · exfalso
      have h1 := chk_range N n e
      unfold wrg at h
      split at h
      · split at h <;> cases h
      · omega
    · refine bcn (fun _ => kk H5 ((s02.and s3).and s5)) fun h => (hw h).elim
  · have hG := hr.gr
    have hN0 := hr.N0; have hN1 := hr.N1; have hn1 := hr.n1
    have hF : Far = 4611686018427387904 := rfl
    refine nwst rfl rfl fun b2 H5 hb2 e2 s5 => ?_
    have s35 := s3.and s5
    have e15 := s35.keep _ _ e12 fun h => h
    have s05 := s02.and s35
    have rD5 := rD.keep s5 fun _ _ h => h
    have rV5 := rV.keep s5 fun _ _ h => h
    refine bc (fun h => absurd h (by decide)) fun _ => ?_
    refine bcn (fun h => (h (by trivial)).elim) fun _ => ?_
    simp only [get_at e15, get_at e2, List.getElem?_cons_zero, List.getElem?_cons_succ, ldI_mk, ldS_mk]
    have es : s = (s.toNat : Int) := by omega
    have htree : ∀ K', (∀ H', Step (fun _ => False) H5 H' → K' true H') → compassref08_Tree.call N ep n ec s (some ⟨bd, 0, none⟩) N.toNat N.toNat (some ⟨bv, 0, none⟩) N.toNat N.toNat E H5 K' := fun K' hk => by
      rw [es]
      exact rtree (he.keep s05 fun _ _ _ h => h) hr (by omega) rD5.rdr rV5.rdr hS hk
    refine htree _ fun H7 s7 => ?_
    have e17 := s7.keep _ _ e15 fun h => h
    have e27 := s7.keep _ _ e2 fun h => h
    have s07 := s05.and s7
    have rD7 := rD5.keep s7 fun _ _ h => h
    refine bcb (fun h => by cases h) fun _ => ?_
    simp only [get_at e17, get_at e27, List.getElem?_cons_zero, List.getElem?_cons_succ, ldI_mk, ldS_mk]
    refine rD7.ixI (by omega) (by omega) ?_
    refine bcn (fun h => (h (hS.src hG (by omega)).2).elim) fun _ => ?_
    try simp only [get_at e17, get_at e27, List.getElem?_cons_zero, List.getElem?_cons_succ, ldI_mk, ldS_mk]
    refine compasslaw08_ShortTight.l1_rule (fun g2 t5 tp tn tc t54 t55 H' => g2 = b1 ∧ t5 = b2 ∧ tp = ep ∧ tn = n ∧ t54 = n ∧ ∃ i : Nat, t55 = i ∧ i ≤ n ∧ Step (fun _ => False) H7 H')
      (fun g2 t5 tp tn tc t54 t55 H' => n - t55.toNat) ?_ ⟨rfl, rfl, rfl, rfl, rfl, 0, rfl, Nat.zero_le _, .refl⟩
    rintro g2 t5 tp tn tc t54 t55 H8 ⟨rfl, rfl, rfl, rfl, rfl, i, rfl, hi, s8⟩ X hX
    have e18 := s8.keep _ _ e17 fun h => h
    have e28 := s8.keep _ _ e27 fun h => h
    have s08 := s07.and s8
    have rD8 := rD7.keep s8 fun _ _ h => h
    refine compasslaw08_ShortTight.b1_eq ?_
    unfold compasslaw08_ShortTight.b1_t
    refine bc (fun hlt => ?_) fun hge => ?_
    · obtain ⟨u, w, hu, hw, hun, hwn⟩ := (hr.ed i (by omega)).nat
      have eu : ga e i = u := by unfold ga; omega
      have ew : gb e i = w := by unfold gb; omega
      have hco : (e i).co = gc e i := rfl
      have hk0 := (hr.ed i (by omega)).k0
      have hk1 := (hr.ed i (by omega)).k1
      rw [hco] at hk0 hk1
      refine (he.keep s08 fun _ _ _ h => h).edge (by omega) (by omega) ?_
      simp only [Int.toNat_natCast]
      rw [hu, hw, hco]
      refine nwst rfl rfl fun b4 H9 hb4 e4 s9 => ?_
      have e29 := s9.keep _ _ e28 fun h => h
      have rD9 := rD8.keep s9 fun _ _ h => h
      have next : compasslaw08_ShortTight.j1 g2 t5 tp tn tc (tn : Int) (i : Int) X E H9 K := by
        refine compasslaw08_ShortTight.j1_eq ?_
        unfold compasslaw08_ShortTight.j1_t
        rw [i64w (by omega) (by omega)]
        exact hX _ _ _ _ _ _ _ _ ⟨rfl, rfl, rfl, rfl, rfl, i + 1, by omega, by omega, s8.and s9⟩ (by omega)
      simp only [get_at e29, get_at e4, List.getElem?_cons_zero, List.getElem?_cons_succ, ldI_mk, ldS_mk]
      refine rD9.ixI (by omega) (by omega) ?_
      refine bcn (fun hf => ?_) fun _ => next
      simp only [Int.toNat_natCast] at hf
      try simp only [get_at e29, get_at e4, List.getElem?_cons_zero, List.getElem?_cons_succ, ldI_mk, ldS_mk]
      refine rD9.ixI (by omega) (by omega) ?_
      try simp only [get_at e29, get_at e4, List.getElem?_cons_zero, List.getElem?_cons_succ, ldI_mk, ldS_mk]
      refine rD9.ixI (by omega) (by omega) ?_
      have hbu := hS.bnd u hun
      refine bc (fun h => ?_) fun _ => next
      exfalso
      have := hS.feas i (by omega) (by rw [eu]; omega)
      rw [eu, ew] at this
      simp only [Int.toNat_natCast] at h
      rw [i64w (by omega) (by omega)] at h
      omega
    · clear hX
      refine compasslaw08_ShortTight.j2_eq ?_
      unfold compasslaw08_ShortTight.j2_t
      simp only [get_at e18, List.getElem?_cons_zero, List.getElem?_cons_succ, ldI_mk, ldS_mk]
      refine spotentials (he.keep s08 fun _ _ _ h => h) hn (fun hw => (hw (chk_zero.2 hr)).elim) (fun _ H9 bp pot pvia s9 fp rP hP => ?_) fun _ H9 p m c f s9 rf ff hC => ?_
      · refine bcn (fun h => (h (by trivial)).elim) fun _ => ?_
        have e19 := s9.keep _ _ e18 fun h => h
        have e29 := s9.keep _ _ e28 fun h => h
        have rD9 := rD8.keep s9 fun _ _ h => h
        have s09 := s08.and s9
        have hpd : ∀ v, v < N.toNat → pot v ≤ 0 ∧ pot v ≤ dist v := fun v hv => by
          refine ⟨hP.le0 v hv, ?_⟩
          have hfar : ∀ v, v < N.toNat → pot v < Far := fun v hv => by have := hP.le0 v hv; omega
          refine hS.low pot (fun v hv => ?_) (fun i hi => hP.feas i hi (hfar _ (hG.ra i hi))) v hv
          have := hP.le0 v hv
          rcases dz_or (s := s.toNat) v with h | h <;> omega
        refine compasslaw08_ShortTight.l2_rule (fun g2' t5' pp pn pc tp' tn' tc' t96 t97 H' => g2' = g2 ∧ t5' = t5 ∧ pp = some ⟨bp, 0, none⟩ ∧ pn = N.toNat ∧ tp' = some ⟨bp, 0, none⟩ ∧ tn' = N.toNat ∧ t96 = (N.toNat : Int) ∧ H' = H9 ∧ ∃ v : Nat, t97 = v ∧ v ≤ N.toNat)
          (fun g2' t5' pp pn pc tp' tn' tc' t96 t97 H' => N.toNat - t97.toNat) ?_ ⟨rfl, rfl, rfl, rfl, rfl, rfl, rfl, rfl, 0, rfl, Nat.zero_le _⟩
        rintro g2' t5' pp pn pc tp' tn' tc' t96 t97 H' ⟨rfl, rfl, rfl, rfl, rfl, rfl, rfl, rfl, v, rfl, hv⟩ X hX
        refine compasslaw08_ShortTight.b2_eq ?_
        unfold compasslaw08_ShortTight.b2_t
        refine bc (fun hlt => ?_) fun hge => ?_
        · obtain ⟨h1, h2⟩ := hpd v (by omega)
          refine rP.ixI (by omega) (by omega) ?_
          refine bc (fun h => by simp only [Int.toNat_natCast] at h; omega) fun _ => ?_
          simp only [get_at e29, List.getElem?_cons_zero, List.getElem?_cons_succ, ldI_mk, ldS_mk]
          refine rD9.ixI (by omega) (by omega) ?_
          refine bc (fun h => by simp only [Int.toNat_natCast] at h; omega) fun _ => ?_
          rw [i64w (by omega) (by omega)]
          exact hX _ _ _ _ _ _ _ _ _ _ _ ⟨rfl, rfl, rfl, rfl, rfl, rfl, rfl, rfl, v + 1, by omega, by omega⟩ (by omega)
        · clear hX
          refine compasslaw08_ShortTight.j3_eq ?_
          unfold compasslaw08_ShortTight.j3_t
          simp only [get_at e19, List.getElem?_cons_zero, List.getElem?_cons_succ, ldI_mk, ldS_mk]
          refine compasslaw08_ShortTight.l3_rule (fun g3 pp pn pc' tp' tn' tc' t116 t117 H'' => g3 = g2' ∧ pp = some ⟨bp, 0, none⟩ ∧ pn = N.toNat ∧ tp' = tp ∧ tn' = tn ∧ t116 = tn ∧ ∃ i : Nat, t117 = i ∧ i ≤ tn ∧ Step (fun _ => False) H' H'')
            (fun g3 pp pn pc' tp' tn' tc' t116 t117 H'' => tn - t117.toNat) ?_ ⟨rfl, rfl, rfl, rfl, rfl, rfl, 0, rfl, Nat.zero_le _, .refl⟩
          rintro g3 pp pn pc' tp' tn' tc' t116 t117 HA ⟨rfl, rfl, rfl, rfl, rfl, rfl, i, rfl, hi, sA⟩ X hX
          have e1A := sA.keep _ _ e19 fun h => h
          have s0A := s09.and sA
          have rPA := rP.keep sA fun _ _ h => h
          refine compasslaw08_ShortTight.b3_eq ?_
          unfold compasslaw08_ShortTight.b3_t
          refine bc (fun hlt => ?_) fun hge => ?_
          · obtain ⟨u, w, hu, hw, hun, hwn⟩ := (hr.ed i (by omega)).nat
            have eu : ga e i = u := by unfold ga; omega
            have ew : gb e i = w := by unfold gb; omega
            have hco : (e i).co = gc e i := rfl
            have hk0 := (hr.ed i (by omega)).k0
            have hk1 := (hr.ed i (by omega)).k1
            rw [hco] at hk0 hk1
            refine (he.keep s0A fun _ _ _ h => h).edge (by omega) (by omega) ?_
            simp only [Int.toNat_natCast]
            rw [hu, hw, hco]
            refine nwst rfl rfl fun b4 HB hb4 e4 sB => ?_
            have rPB := rPA.keep sB fun _ _ h => h
            have hbu := hP.bnd u hun
            have hpu := (hpd u hun).1
            simp only [get_at e4, List.getElem?_cons_zero, List.getElem?_cons_succ, ldI_mk, ldS_mk]
            refine rPB.ixI (by omega) (by omega) ?_
            try simp only [get_at e4, List.getElem?_cons_zero, List.getElem?_cons_succ, ldI_mk, ldS_mk]
            refine rPB.ixI (by omega) (by omega) ?_
            try simp only [get_at e4, List.getElem?_cons_zero, List.getElem?_cons_succ, ldI_mk, ldS_mk]
            refine bc (fun h => ?_) fun _ => ?_
            · exfalso
              have := hP.feas i (by omega) (by rw [eu]; omega)
              rw [eu, ew] at this
              simp only [Int.toNat_natCast] at h
              rw [i64w (by omega) (by omega)] at h
              omega
            · rw [i64w (by omega) (by omega)]
              exact hX _ _ _ _ _ _ _ _ _ _ ⟨rfl, rfl, rfl, rfl, rfl, rfl, i + 1, by omega, by omega, sA.and sB⟩ (by omega)
          · refine compasslaw08_ShortTight.j4_eq ?_
            unfold compasslaw08_ShortTight.j4_t
            simp only [get_at e1A, List.getElem?_cons_zero, List.getElem?_cons_succ, ldI_mk, ldS_mk]
            rw [decide_eq_true (by omega)]
            exact kk HA s0A
      · refine bcn (fun _ => kk H9 (s08.and s9)) fun h => absurd h (by decide)
  · refine nwst rfl rfl fun b2 H5 hb2 e2 s5 => ?_
    have s35 := s3.and s5
    have e15 := s35.keep _ _ e12 fun h => h
    have s05 := s02.and s35
    refine bc (fun _ => ?_) fun h => (h (by trivial)).elim
    simp only [get_at e15, List.getElem?_cons_zero, List.getElem?_cons_succ, ldI_mk, ldS_mk]
    exact lbelow (he.keep s05 fun _ _ _ h => h) hr (rf.keep s5 fun _ _ h => h).rdr hC.cyc fun H8 s8 => kk H8 (s05.and s8)
end
end Go.Mz
