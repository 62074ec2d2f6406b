/-
  ShortKeeps, walked: whatever the graph, the node and the kind, it answers true and leaves what was there as it was.
-/
import Derived.Test.YtajgpmohnbjpcaaShA
import Derived.Test.YtajgpmohnbjpcaaMzS
import Derived.Test.YtajgpmohnbjpcaaPkD
import Derived.Test.YtajgpmohnbjpcaaGShK
set_option linter.unusedSimpArgs false
set_option linter.unusedVariables false
namespace Go.Mz

theorem Rdr.edgeP {H : Hp} {p : Option Addr} {n : Nat} {f : Nat → Edg} (h : Rdr H p n f) {i : Int} (h0 : 0 ≤ i) (h1 : i < (n : Int)) {G : Int → Prop}
    (k : G (f i.toNat).cp) : Mz.ix p n i 4 fun b o => ldI .i64 (H.get b (o + 2)) G := by
  refine h.ix (α := Edg) h0 h1 fun b o _ hg => ?_
  rw [(Rdr.cells4 hg).2.2.1]
  exact k

section
variable {E : Value → Hp → Prop}

theorem lkeeps8 {N s kind : Int} {ep : Option Addr} {n ec : Nat} {e : Nat → Edg} {H : Hp} {K : Bool → Hp → Prop} (he : Rdr H ep n e) (hn : n ≤ 4398046511103)
    (kk : ∀ H', Step (fun _ => False) H H' → K true H') : compasslaw08_ShortKeeps.call N ep n ec s kind E H K := by
  refine compasslaw08_ShortKeeps.of (compasslaw08_ShortKeeps.run_eq ?_)
  unfold compasslaw08_ShortKeeps.run_t
  refine nwk fun b1 H1 hb1 e1 s1 => ?_
  refine lawake8 fun H2 s2 => ?_
  have e12 := s2.keep _ _ e1 fun h => h
  have s02 := s1.and s2
  refine bcb (fun h => by cases h) fun _ => ?_
  simp only [get_at e12, List.getElem?_cons_zero, List.getElem?_cons_succ, ldI_mk, ldS_mk]
  refine rcopy (he.keep s02 fun _ _ _ h => h) (by omega) fun H3 p3 c3 e' s3 r3 hee f3 => ?_
  refine nwst rfl rfl fun b2 H5 hb2 e2 s5 => ?_
  have s35 := s3.and s5
  have e15 := s35.keep _ _ e12 fun h => h
  have s05 := s02.and s35
  have r5 := r3.keep s5 fun _ _ h => h
  have f5 : ∀ y, fpS p3 y → H y = none := fun y hy => s02.mono y (f3 y hy)
  have fb2 : H b2 = none := s02.mono _ (s3.mono _ hb2)
  have d21 : b2 ≠ b1 := fun h => by rw [h, s3.keep _ _ e12 fun h => h] at hb2; cases hb2
  have n2 : ¬ fpS p3 b2 := fun h => r3.live h hb2
  have n1 : ¬ fpS p3 b1 := fun h => by have := f3 _ h; rw [e12] at this; cases this
  simp only [get_at e2, List.getElem?_cons_zero, List.getElem?_cons_succ, ldI_mk, ldS_mk]
  intro b3 hb3
  have st6 : Step (fun _ => False) H5 (H5.upd b3 ⟨[.int .i64 0, .int .i64 0, .int .i64 (-7), .int .i64 0], 69⟩) := Step.new hb3
  have e16 := st6.keep _ _ e15 fun h => h
  simp only [get_at e16, List.getElem?_cons_zero, List.getElem?_cons_succ, ldI_mk, ldS_mk]
  refine Row.appW (α := Edg) r5 ((0, 0, -7, 0) : Edg) rfl (by omega) (by omega) (fun p7 c7 H7 r7 s7 f7 => ?_) b3 hb3
  have e17 := s7.keep _ _ e15 n1
  have e27 := s7.keep _ _ e2 n2
  have s07 := s05.own s7 f5
  have f07 : ∀ y, fpS p7 y → H y = none := fun y hy => (f7 y hy).elim (f5 y) (s05.mono y)
  have m2 : ¬ fpS p7 b2 := fun h => (f7 _ h).elim n2 fun h => by rw [e2] at h; cases h
  have m1 : ¬ fpS p7 b1 := fun h => (f7 _ h).elim n1 fun h => by rw [e15] at h; cases h
  simp only [get_at e17, List.getElem?_cons_zero, List.getElem?_cons_succ, ldI_mk, ldS_mk]
  have hle := r7.le
  refine ⟨trivial, ⟨by omega, by omega⟩, ?_⟩
  rw [Int.toNat_natCast, r7.slp0]
  refine stp e27 (by simp) rfl fun H8 e28 s8 => ?_
  replace e28 : H8 b2 = some ⟨[.int .i64 N, .slice p7 n c7], 51⟩ := e28
  have e18 := s8.keep _ _ e17 fun h => d21 h.symm
  have s08 := s07.own s8 fun y hy => hy ▸ fb2
  have r8 := r7.keep s8 fun y hy h => m2 (h ▸ hy)
  have g8 : Rdr H8 p7 n e := ((r8.cut (m := n) (by omega)).congr fun i hi => by rw [upf_ne (by omega)]; exact hee i hi).rdr
  simp only [get_at e28, List.getElem?_cons_zero, List.getElem?_cons_succ, ldI_mk, ldS_mk]
  refine sdijK g8 (by omega) fun H9 dp m vp dist via s9 rD rV fd fv dv hF hm => ?_
  refine nwst rfl rfl fun b4 H11 hb4 e4 s11 => ?_
  have t1 := s9.and s11
  have e2b := t1.keep _ _ e28 fun h => h
  simp only [get_at e2b, List.getElem?_cons_zero, List.getElem?_cons_succ, ldI_mk, ldS_mk]
  refine sdijK (g8.keep t1 fun _ _ _ h => h) (by omega) fun H12 dp2 mm vp2 dist2 via2 s12 rD2 rV2 fd2 fv2 dv2 hF2 hm2 => ?_
  refine nwst rfl rfl fun b5 H14 hb5 e5 s14 => ?_
  have t2 := s12.and s14
  have e2c := t2.keep _ _ e2b fun h => h
  have e4c := t2.keep _ _ e4 fun h => h
  have t12 := t1.and t2
  simp only [get_at e2c, List.getElem?_cons_zero, List.getElem?_cons_succ, ldI_mk, ldS_mk]
  -- what Bellman's answer is
  have bell : ∀ {Hx : Hp} {K' : Option Addr → Nat → Nat → Option Addr → Nat → Nat → Option Addr → Nat → Nat → Int → Hp → Prop}, Rdr Hx p7 n e → (∀ H' cp cm vp vm qp qn qc c cd f, Step (fun _ => False) Hx H' → Row H' cp cm cm f → (∀ y, fpS cp y → Hx y = none) → ((wrg N n e s ≠ 0 ∨ ¬ Stl n (ga e) (gb e) (gc e) (jac n (ga e) (gb e) (gc e) (dz s.toNat) N.toNat)) ∨ (Right N n e ∧ cm = N.toNat ∧ ∀ v, v < N.toNat → f v = jac n (ga e) (gb e) (gc e) (dz s.toNat) N.toNat v)) → K' cp cm cm vp vm c qp qn qc cd H') → short_Bellman.call N p7 n c7 s E Hx K' := by
    intro Hx K' hg kb
    refine sbellman hg (by omega) (fun hw H' st => ?_) (fun hr hs0 hs1 H' bd bv dB vB st fbd fbv dbv rB rvB hB => ?_) fun hr hs0 hs1 H' p m' c f st rf ff hC => ?_
    · exact kb H' none 0 none 0 none 0 0 0 _ (fun _ => 0) st Row.nil (fun y h => by rw [fpS_none] at h; exact h.elim) (.inl (.inl hw))
    · exact kb H' _ _ _ _ _ _ _ _ _ dB st rB (fun y h => by rw [fpS_mk] at h; exact h ▸ fbd) (.inr ⟨hr, rfl, fun v hv => (hB.jacM hr.gr (fun v _ => dz_or v) v hv).symm⟩)
    · exact kb H' none 0 none 0 _ _ _ 0 _ (fun _ => 0) st Row.nil (fun y h => by rw [fpS_none] at h; exact h.elim) (.inl (.inr hC.ns))
  refine bell (g8.keep t12 fun _ _ _ h => h) fun H15 cp cm bvp bvm qp qn qc bq cd f s15 rC fC hC => ?_
  refine nwst rfl rfl fun b6 H17 hb6 e6 s17 => ?_
  have t3 := s15.and s17
  have e2d := t3.keep _ _ e2c fun h => h
  have t123 := t12.and t3
  simp only [get_at e2d, List.getElem?_cons_zero, List.getElem?_cons_succ, ldI_mk, ldS_mk]
  -- Potentials and Way, of which nothing is asked
  have rest : ∀ H18 : Hp, Step (fun _ => False) H17 H18 → ldI .i64 (H18.get b2 0) (fun x_13 => ldS (H18.get b2 1) fun x_14p x_14n x_14c => short_Way.call x_13 x_14p x_14n x_14c s 0 E H18 fun r_13p r_13n r_13c r_14 r_15 H_19 =>
      ldI .i64 (H_19.get b2 0) fun x_15 => ldS (H_19.get b2 1) fun x_16p x_16n x_16c => ldI .i64 (H_19.get b1 0) fun x_17 => ldS (H_19.get b1 1) fun x_18p x_18n x_18c =>
      compassref03_Same.call x_15 x_16p x_16n x_16c x_17 x_18p x_18n x_18c E H_19 fun r_16 H_20 =>
      bcase ((!r_16)) (K false H_20) (ldS (H_20.get b2 1) fun x_19p x_19n x_19c => ldS (H_20.get b1 1) fun x_20p x_20n x_20c =>
      ((0 : Int) ≤ (IntKind.wrap .i64 ((x_20n : Int) + 1)) ∧ (IntKind.wrap .i64 ((x_20n : Int) + 1)) ≤ (x_19c : Int)) ∧
      ldS (H_20.get b1 1) fun x_21p x_21n x_21c =>
      ix (slp x_19p 0 x_19c 4) ((IntKind.wrap .i64 ((x_20n : Int) + 1)).toNat) (x_21n : Int) 4 fun b_7 o_1 =>
      ldI .i64 (H_20.get b_7 (o_1 + 2)) fun x_22 =>
      bcase (!decide ((x_22 : Int) = (-7))) (K false H_20)
      (ldS (H_20.get b4 0) fun x_23p x_23n x_23c => compasslaw08_ShortKeeps.l1 s kind b1 b4 b5 b6 (x_23n : Int) 0 E H_20 K))) := by
    intro H18 s18
    have e2e := s18.keep _ _ e2d fun h => h
    have t4 := t123.and s18
    simp only [get_at e2e, List.getElem?_cons_zero, List.getElem?_cons_succ, ldI_mk, ldS_mk]
    have tail : ∀ H19 : Hp, Step (fun _ => False) H18 H19 → ldI .i64 (H19.get b2 0) (fun x_15 => ldS (H19.get b2 1) fun x_16p x_16n x_16c => ldI .i64 (H19.get b1 0) fun x_17 => ldS (H19.get b1 1) fun x_18p x_18n x_18c =>
      compassref03_Same.call x_15 x_16p x_16n x_16c x_17 x_18p x_18n x_18c E H19 fun r_16 H_20 =>
      bcase ((!r_16)) (K false H_20) (ldS (H_20.get b2 1) fun x_19p x_19n x_19c => ldS (H_20.get b1 1) fun x_20p x_20n x_20c =>
      ((0 : Int) ≤ (IntKind.wrap .i64 ((x_20n : Int) + 1)) ∧ (IntKind.wrap .i64 ((x_20n : Int) + 1)) ≤ (x_19c : Int)) ∧
      ldS (H_20.get b1 1) fun x_21p x_21n x_21c =>
      ix (slp x_19p 0 x_19c 4) ((IntKind.wrap .i64 ((x_20n : Int) + 1)).toNat) (x_21n : Int) 4 fun b_7 o_1 =>
      ldI .i64 (H_20.get b_7 (o_1 + 2)) fun x_22 =>
      bcase (!decide ((x_22 : Int) = (-7))) (K false H_20)
      (ldS (H_20.get b4 0) fun x_23p x_23n x_23c => compasslaw08_ShortKeeps.l1 s kind b1 b4 b5 b6 (x_23n : Int) 0 E H_20 K))) := by
      intro H19 s19
      have t5 := t4.and s19
      have s019 := s08.and t5
      have e1f := t5.keep _ _ e18 fun h => h
      have e2f := s19.keep _ _ e2e fun h => h
      simp only [get_at e1f, get_at e2f, List.getElem?_cons_zero, List.getElem?_cons_succ, ldI_mk, ldS_mk]
      refine rsame3 (g8.keep t5 fun _ _ _ h => h) (he.keep s019 fun _ _ _ h => h) (by omega) fun H20 s20 => ?_
      have t6 := t5.and s20
      have s020 := s019.and s20
      have e1g := s20.keep _ _ e1f fun h => h
      have e2g := s20.keep _ _ e2f fun h => h
      refine bcb (fun h => by cases h) fun _ => ?_
      simp only [get_at e1g, get_at e2g, List.getElem?_cons_zero, List.getElem?_cons_succ, ldI_mk, ldS_mk]
      have r20 := r8.keep t6 fun _ _ h => h
      rw [i64w (by omega) (by omega)]
      refine ⟨⟨by omega, by omega⟩, ?_⟩
      rw [r20.slp0]
      have en : ((n : Int) + 1).toNat = n + 1 := by omega
      rw [en]
      refine r20.rdr.edgeP (by omega) (by omega) ?_
      rw [Int.toNat_natCast, upf_same]
      refine bcn (fun h => (h rfl).elim) fun _ => ?_
      have t6' : Step (fun _ => False) H11 H20 := t2.and (t3.and (s18.and (s19.and s20)))
      have t6'' : Step (fun _ => False) H14 H20 := t3.and (s18.and (s19.and s20))
      have t6c : Step (fun _ => False) H17 H20 := s18.and (s19.and s20)
      have e4g := t6'.keep _ _ e4 fun h => h
      have e5g := t6''.keep _ _ e5 fun h => h
      have e6g := t6c.keep _ _ e6 fun h => h
      have rDg := rD.keep (s11.and t6') fun _ _ h => h
      have rVg := rV.keep (s11.and t6') fun _ _ h => h
      have rD2g := rD2.keep (s14.and t6'') fun _ _ h => h
      have rCg := rC.keep (s17.and t6c) fun _ _ h => h
      simp only [get_at e4g, List.getElem?_cons_zero, List.getElem?_cons_succ, ldI_mk, ldS_mk]
      -- the writes into the first answer touch nothing else
      have fdH : ∀ y, fpS dp y → H y = none := fun y hy => s08.mono y (fd y hy)
      have fvH : ∀ y, fpS vp y → H y = none := fun y hy => s08.mono y (fv y hy)
      have lv : ∀ {y : Nat}, (fpS dp y ∨ fpS vp y) → H9 y ≠ none := fun hy => hy.elim rD.live rV.live
      have lv8 : ∀ {y : Nat}, (fpS dp y ∨ fpS vp y) → H8 y = none := fun hy => hy.elim (fd _) (fv _)
      have a4 : ¬ (fpS dp b4 ∨ fpS vp b4) := fun h => lv h hb4
      have a5 : ¬ (fpS dp b5 ∨ fpS vp b5) := fun h => lv h (s11.mono _ (s12.mono _ hb5))
      have a6 : ¬ (fpS dp b6 ∨ fpS vp b6) := fun h => lv h (s11.mono _ (s12.mono _ (s14.mono _ (s15.mono _ hb6))))
      have a1 : ¬ (fpS dp b1 ∨ fpS vp b1) := fun h => by have := lv8 h; rw [e18] at this; cases this
      have aD : ∀ y, fpS dp2 y → ¬ (fpS dp y ∨ fpS vp y) := fun y hy h => lv h (s11.mono _ (fd2 y hy))
      have aC : ∀ y, fpS cp y → ¬ (fpS dp y ∨ fpS vp y) := fun y hy h => lv h (s11.mono _ (s12.mono _ (s14.mono _ (fC y hy))))
      refine compasslaw08_ShortKeeps.l1_rule (fun s' kind' g3 a8 b10 c12 t80 t81 H' => s' = s ∧ kind' = kind ∧ g3 = b1 ∧ a8 = b4 ∧ b10 = b5 ∧ c12 = b6 ∧ t80 = (m : Int) ∧ ∃ (i : Nat) (d1 v1 : Nat → Int), t81 = i ∧ i ≤ m ∧ Step (fun y => fpS dp y ∨ fpS vp y) H20 H' ∧ Row H' dp m m d1 ∧ Row H' vp m m v1)
        (fun s' kind' g3 a8 b10 c12 t80 t81 H' => m - t81.toNat) ?_ ⟨rfl, rfl, rfl, rfl, rfl, rfl, rfl, 0, dist, via, rfl, Nat.zero_le _, .refl, rDg, rVg⟩
      rintro s' kind' g3 a8 b10 c12 t80 t81 H21 ⟨rfl, rfl, rfl, rfl, rfl, rfl, rfl, i, d1, v1, rfl, hi, s21, rd1, rv1⟩ X hX
      have e421 := s21.keep _ _ e4g a4
      have s021 := s020.own s21 fun y hy => hy.elim (fdH y) (fvH y)
      refine compasslaw08_ShortKeeps.b1_eq ?_
      unfold compasslaw08_ShortKeeps.b1_t
      refine bc (fun hlt => ?_) fun hge => ?_
      · simp only [get_at e421, List.getElem?_cons_zero, List.getElem?_cons_succ, ldI_mk, ldS_mk]
        refine rd1.stI (by omega) (by omega) _ fun H22 rd2 s22 => ?_
        have e422 := s22.keep _ _ e421 fun h => a4 (.inl h)
        have rv2 := rv1.keep s22 fun y hy h => dv y h hy
        simp only [get_at e422, List.getElem?_cons_zero, List.getElem?_cons_succ, ldI_mk, ldS_mk]
        refine ⟨trivial, ?_⟩
        refine rv2.stI (by omega) (by omega) _ fun H23 rv3 s23 => ?_
        have rd3 := rd2.keep s23 fun y hy h => dv y hy h
        rw [i64w (by omega) (by omega)]
        exact hX _ _ _ _ _ _ _ _ _ ⟨rfl, rfl, rfl, rfl, rfl, rfl, rfl, i + 1, _, _, by omega, by omega, (s21.trans (s22.weak (G := fun y => fpS dp y ∨ fpS vp y) fun y hy => .inl (.inl hy)) fun y hy => .inl hy).trans (s23.weak (G := fun y => fpS dp y ∨ fpS vp y) fun y hy => .inl (.inr hy)) fun y hy => .inl hy, rd3, rv3⟩ (by omega)
      · have e121 := s21.keep _ _ e1g a1
        have e521 := s21.keep _ _ e5g a5
        have e621 := s21.keep _ _ e6g a6
        have rD21 := rD2g.keep s21 aD
        have rC21 := rCg.keep s21 aC
        refine compasslaw08_ShortKeeps.j1_eq ?_
        unfold compasslaw08_ShortKeeps.j1_t
        simp only [get_at e121, List.getElem?_cons_zero, List.getElem?_cons_succ, ldI_mk, ldS_mk]
        -- the end, once the document's distances are there
        have last : ∀ (H22 : Hp) (p : Option Addr) (k c : Nat) (cd : Int) (jf : Nat → Int), Step (fun _ => False) H21 H22 → Row H22 p k c jf → k ≤ 1024 → (cd = 0 → k = N.toNat ∧ (∀ v, v < N.toNat → jf v = jac n (ga e) (gb e) (gc e) (dz s'.toNat) N.toNat v) ∧ wrg N n e s' = 0 ∧ Stl n (ga e) (gb e) (gc e) (jac n (ga e) (gb e) (gc e) (dz s'.toNat) N.toNat)) → (cd ≠ 0 → wrg N n e s' ≠ 0 ∨ ¬ Stl n (ga e) (gb e) (gc e) (jac n (ga e) (gb e) (gc e) (dz s'.toNat) N.toNat)) →
            ldI .i64 (H22.get g3 0) (fun x_3 => ldS (H22.get g3 1) fun x_4p x_4n x_4c => compassref08_Dijkstra.call x_3 x_4p x_4n x_4c s' kind' E H22 fun r_3 H_2 => bcase (decide ((r_3 : Int) = 0)) (ldS (H_2.get b10 0) fun x_5p x_5n x_5c => compasslaw08_longs.call x_5p x_5n x_5c p k c E H_2 fun r_4 H_3 =>
              bcase ((!r_4)) (K false H_3) (compasslaw08_ShortKeeps.j2 c12 p k c cd E H_3 K)) (compasslaw08_ShortKeeps.j2 c12 p k c cd E H_2 K)) := by
          intro H22 p k c cd jf s22 rp hk hcd hcd'
          have e122 := s22.keep _ _ e121 fun h => h
          have s022 := s021.and s22
          simp only [get_at e122, List.getElem?_cons_zero, List.getElem?_cons_succ, ldI_mk, ldS_mk]
          refine rdijkstraK (he.keep s022 fun _ _ _ h => h) (by omega) fun H23 s23 => ?_
          have t23 := s22.and s23
          have e523 := t23.keep _ _ e521 fun h => h
          have e623 := t23.keep _ _ e621 fun h => h
          have rp3 := rp.keep s23 fun _ _ h => h
          have rD23 := rD21.keep t23 fun _ _ h => h
          have rC23 := rC21.keep t23 fun _ _ h => h
          have s023 := s022.and s23
          have fin : compasslaw08_ShortKeeps.j2 c12 p k c cd E H23 K := by
            refine compasslaw08_ShortKeeps.j2_eq ?_
            unfold compasslaw08_ShortKeeps.j2_t
            refine bcn (fun _ => kk H23 s023) fun h0 => ?_
            obtain ⟨hk', hjf, hw, hst⟩ := hcd h0
            simp only [get_at e623, List.getElem?_cons_zero, List.getElem?_cons_succ, ldI_mk, ldS_mk]
            rcases hC with (h | h) | ⟨hr, hcm, hfv⟩
            · exact (h hw).elim
            · exact (h hst).elim
            · subst hcm
              exact llongs rC23.rdr rp3.rdr (by omega) hk'.symm (fun i hi => by rw [hfv i hi, hjf i hi]) (kk H23 s023)
          refine bc (fun h0 => ?_) fun _ => fin
          simp only [get_at e523, List.getElem?_cons_zero, List.getElem?_cons_succ, ldI_mk, ldS_mk]
          rcases hF2 with ⟨h, _⟩ | ⟨_, hr, hs0, hs1, hmm, hS⟩
          · exact (h h0).elim
          · have hst := hS.stl hr.gr fun v _ => dz_or v
            have hw : wrg N n e s' = 0 := wrg_zero.2 ⟨hr, hs0, hs1⟩
            have hcz : cd = 0 := Classical.byContradiction fun h => by
              rcases hcd' h with h | h
              · exact h hw
              · exact h hst
            obtain ⟨hk', hjf, _, _⟩ := hcd hcz
            subst hmm
            refine llongs rD23.rdr rp3.rdr (by omega) hk'.symm (fun i hi => by rw [hjf i hi]; exact (hS.jacM hr.gr (fun v _ => dz_or v) i hi).symm) ?_
            exact bcb (fun h => by cases h) fun _ => fin
        refine rdist (he.keep s021 fun _ _ _ h => h) (fun hw H22 s22 => ?_) (fun hr hs0 hs1 hst H22 s22 => ?_) fun hr hs0 hs1 hst H22 p c s22 rp fp => ?_
        · exact last H22 none 0 0 _ (fun _ => 0) s22 Row.nil (by decide) (fun h => (hw h).elim) fun _ => .inl hw
        · exact last H22 none 0 0 _ (fun _ => 0) s22 Row.nil (by decide) (fun h => by cases h) fun _ => .inr hst
        · have hN1 := hr.N1
          exact last H22 p _ c _ _ s22 rp (by omega) (fun _ => ⟨rfl, fun v hv => rfl, wrg_zero.2 ⟨hr, hs0, hs1⟩, hst⟩) fun h => (h rfl).elim
    have gW := g8.keep t4 fun _ _ _ h => h
    exact sway gW (by omega) (fun _ H' st => tail H' st) (fun _ _ _ _ H' st => tail H' st) (fun _ _ _ _ _ _ _ H' st => tail H' st) (fun _ _ _ _ _ _ _ _ _ H' st => tail H' st) fun _ _ _ _ _ _ _ _ _ H' p m' c f st _ _ _ _ _ => tail H' st
  have gP := g8.keep t123 fun _ _ _ h => h
  exact spotentials gP (by omega) (fun _ H' st => rest H' st) (fun _ H' d dist via st _ _ _ => rest H' st) fun _ H' p m' c f st _ _ _ => rest H' st
end
end Go.Mz
