/-
  ManyKeeps, walked: whatever the graph and the room, it answers true and leaves what was there as it was.
-/
import Derived.Test.YtbocpfdlfnodfaaLMaA
import Derived.Test.YtbocpfdlfnodfaaKpA
import Derived.Test.YtbocpfdlfnodfaaMnX
import Derived.Test.YtbocpfdlfnodfaaGLMK
set_option linter.unusedSimpArgs false
set_option linter.unusedVariables false
namespace Go.Mz
section
variable {E : Value → Hp → Prop}

theorem lmkeeps {N : Int} {ep : Option Addr} {n ec : Nat} {e : Nat → Edg} {bp : Option Addr} {bn bk : Nat} {b : Nat → Int} {H : Hp} {K : Bool → Hp → Prop} (he : Rdr H ep n e) (hn : n ≤ 4398046511103) (hb : Rdr H bp bn b) (hbn : bn ≤ 17592186043904) (ha : SlAt H bp)
    (kk : ∀ H', Step (fun _ => False) H H' → K true H') : compasslaw19_ManyKeeps.call N ep n ec bp bn bk E H K := by
  refine compasslaw19_ManyKeeps.of (compasslaw19_ManyKeeps.run_eq ?_)
  unfold compasslaw19_ManyKeeps.run_t
  refine nwk fun b1 H1 hb1 e1 s1 => ?_
  refine lawake19 fun H2 s2 => ?_
  have e12 := s2.keep _ _ e1 fun h => h
  have s02 := s1.and s2
  refine bcb (fun h => by cases h) fun _ => ?_
  simp only [get_at e12, List.getElem?_cons_zero, List.getElem?_cons_succ, ldI_mk, ldS_mk]
  refine kmine (he.keep s02 fun _ _ _ h => h) hn e12 fun b2 H8 p c e' s8 e28 hb2 r8 hee hl f8 m2 => ?_
  have e18 := s8.keep _ _ e12 fun h => h
  have s08 := s02.and s8
  have g8 : Rdr H8 p n e := ((r8.cut (m := n) (by omega)).congr hee).rdr
  refine nwk fun b4 Ha hb4 e4 sa => ?_
  refine Rdr.dupZ (α := Int) (hb.keep (s08.and sa) fun _ _ _ h => h) (ha.keep (s08.and sa)) e4 rfl rfl (by omega) (by omega) fun p5 c5 Hb r5 sb f5 => ?_
  have f5' : ∀ y, fpS p5 y → H8 y = none := fun y hy => (f5 y hy).elim (fun h => h ▸ hb4) (sa.mono y)
  refine Row.appW (α := Int) r5 77 rfl (by omega) (by omega) fun p6 c6 Hc r6 sc f6 => ?_
  have s8b : Step (fun _ => False) H8 Hb := sa.own sb fun y hy => hy ▸ hb4
  have s8c : Step (fun _ => False) H8 Hc := s8b.own sc f5'
  have f6' : ∀ y, fpS p6 y → H8 y = none := fun y hy => (f6 y hy).elim (f5' y) (s8b.mono y)
  have hle6 := r6.le
  refine ⟨⟨by omega, by omega⟩, ?_⟩
  have e2c := s8c.keep _ _ e28 fun h => h
  have e1cc := s8c.keep _ _ e18 fun h => h
  have s0c := s08.and s8c
  simp only [get_at e2c, List.getElem?_cons_zero, List.getElem?_cons_succ, ldI_mk, ldS_mk]
  rw [r6.slp0, Int.toNat_natCast]
  have lst : Rdr Hc p6 bn b := ((r6.cut (m := bn) (by omega)).congr fun i hi => upf_ne (by omega)).rdr
  refine sMany (g8.keep s8c fun _ _ _ h => h) (by omega) lst (by omega) fun H9 mp mn mc g cp cn cc cv cd s9 r1 r2 f1 f2 f12 l1 l2 hF => ?_
  have e29 := s9.keep _ _ e2c fun h => h
  simp only [get_at e29, List.getElem?_cons_zero, List.getElem?_cons_succ, ldI_mk, ldS_mk]
  refine sMany (g8.keep (s8c.and s9) fun _ _ _ h => h) (by omega) (lst.keep s9 fun _ _ _ h => h) (by omega) fun H10 mp' mn' mc' g' cp' cn' cc' cv' cd' s10 r1' r2' f1' f2' f12' l1' l2' hF' => ?_
  have t10 := s9.and s10
  have e1a := t10.keep _ _ e1cc fun h => h
  have s010 := s0c.and t10
  refine ksame (he.keep s010 fun _ _ _ h => h) hn e1a (s10.keep _ _ e29 fun h => h) (r8.keep (s8c.and t10) fun _ _ h => h) hee hl fun H11 s11 => ?_
  have t11 := t10.and s11
  have s011 := s010.and s11
  have e1b := s11.keep _ _ e1a fun h => h
  refine lints19 (lst.keep t11 fun _ _ _ h => h) (hb.keep s011 fun _ _ _ h => h) (by omega) rfl (fun _ _ => rfl) ?_
  refine bcb (fun h => by cases h) fun _ => ?_
  rw [i64w (by omega) (by omega)]
  refine ⟨⟨by omega, by omega⟩, ?_⟩
  have r611 := r6.keep t11 fun _ _ h => h
  rw [r6.slp0]
  have en : ((bn : Int) + 1).toNat = bn + 1 := by omega
  rw [en]
  refine r611.ixI (by omega) (by omega) ?_
  rw [Int.toNat_natCast, upf_same]
  refine bcn (fun h => (h rfl).elim) fun _ => ?_
  have ra := r1.keep (s10.and s11) fun _ _ h => h
  have rc := r2.keep (s10.and s11) fun _ _ h => h
  have rb := r1'.keep s11 fun _ _ h => h
  have rd := r2'.keep s11 fun _ _ h => h
  have fm : ∀ y, fpS mp y → H y = none := fun y hy => s0c.mono y (f1 y hy)
  have fc : ∀ y, fpS cp y → H y = none := fun y hy => s0c.mono y (f2 y hy)
  have a1 : ∀ y, fpS mp y ∨ fpS cp y → y ≠ b1 := fun y hy h => by
    have h8 : Hc y = none := hy.elim (f1 y) (f2 y)
    rw [h, e1cc] at h8; cases h8
  have ab : ∀ y, fpS mp' y → ¬ (fpS mp y ∨ fpS cp y) := fun y hy h => h.elim (fun h => r1.live h (f1' y hy)) fun h => r2.live h (f1' y hy)
  have ad : ∀ y, fpS cp' y → ¬ (fpS mp y ∨ fpS cp y) := fun y hy h => h.elim (fun h => r1.live h (f2' y hy)) fun h => r2.live h (f2' y hy)
  -- the first list is written
  refine compasslaw19_ManyKeeps.l1_rule (fun xp xn xc g3 ap an ac qp qn qc e10 bp_ bn_ bc_ dp dn dc t69 t70 H' => xp = bp ∧ xn = bn ∧ xc = bk ∧ g3 = b1 ∧ ap = mp ∧ an = mn ∧ ac = mc ∧ qp = cp ∧ qn = cn ∧ qc = cc ∧ e10 = cd ∧ bp_ = mp' ∧ bn_ = mn' ∧ bc_ = mc' ∧ dp = cp' ∧ dn = cn' ∧ dc = cc' ∧ t69 = (mn : Int) ∧ ∃ (i : Nat) (a : Nat → Int), t70 = i ∧ i ≤ mn ∧ Step (fpS mp) H11 H' ∧ Row H' mp mn mc a)
    (fun xp xn xc g3 ap an ac qp qn qc e10 bp_ bn_ bc_ dp dn dc t69 t70 H' => mn - t70.toNat) ?_ ⟨rfl, rfl, rfl, rfl, rfl, rfl, rfl, rfl, rfl, rfl, rfl, rfl, rfl, rfl, rfl, rfl, rfl, rfl, 0, g, rfl, Nat.zero_le _, .refl, ra⟩
  rintro xp xn xc g3 ap an ac qp qn qc e10 bp_ bn_ bc_ dp dn dc t69 t70 H12 ⟨rfl, rfl, rfl, rfl, rfl, rfl, rfl, rfl, rfl, rfl, rfl, rfl, rfl, rfl, rfl, rfl, rfl, rfl, i, a, rfl, hi, s12, ra2⟩ X hX
  refine compasslaw19_ManyKeeps.b1_eq ?_
  unfold compasslaw19_ManyKeeps.b1_t
  refine bc (fun hlt => ?_) fun hge => ?_
  · refine ra2.stI (by omega) (by omega) _ fun H13 ra3 s13 => ?_
    rw [i64w (by omega) (by omega)]
    exact hX _ _ _ _ _ _ _ _ _ _ _ _ _ _ _ _ _ _ _ _ ⟨rfl, rfl, rfl, rfl, rfl, rfl, rfl, rfl, rfl, rfl, rfl, rfl, rfl, rfl, rfl, rfl, rfl, rfl, i + 1, _, by omega, by omega, s12.trans s13 fun _ h => .inl h, ra3⟩ (by omega)
  · clear hX
    refine compasslaw19_ManyKeeps.j1_eq ?_
    unfold compasslaw19_ManyKeeps.j1_t
    have rc2 := rc.keep s12 f12
    refine compasslaw19_ManyKeeps.l2_rule (fun xp' xn' xc' g3' qp' qn' qc' e10' bp' bn' bc' dp' dn' dc' t78 t79 H' => xp' = xp ∧ xn' = xn ∧ xc' = xc ∧ g3' = g3 ∧ qp' = qp ∧ qn' = qn ∧ qc' = qc ∧ e10' = e10 ∧ bp' = bp_ ∧ bn' = bn_ ∧ bc' = bc_ ∧ dp' = dp ∧ dn' = dn ∧ dc' = dc ∧ t78 = (qn : Int) ∧ ∃ (i : Nat) (a : Nat → Int), t79 = i ∧ i ≤ qn ∧ Step (fun y => fpS ap y ∨ fpS qp y) H11 H' ∧ Row H' qp qn qc a)
      (fun xp' xn' xc' g3' qp' qn' qc' e10' bp' bn' bc' dp' dn' dc' t78 t79 H' => qn - t79.toNat) ?_ ⟨rfl, rfl, rfl, rfl, rfl, rfl, rfl, rfl, rfl, rfl, rfl, rfl, rfl, rfl, rfl, 0, cv, rfl, Nat.zero_le _, s12.weak fun _ h => .inl (.inl h), rc2⟩
    rintro xp' xn' xc' g3' qp' qn' qc' e10' bp' bn' bc' dp' dn' dc' t78 t79 H14 ⟨rfl, rfl, rfl, rfl, rfl, rfl, rfl, rfl, rfl, rfl, rfl, rfl, rfl, rfl, rfl, i', a', rfl, hi', s14, rc3⟩ X hX
    refine compasslaw19_ManyKeeps.b2_eq ?_
    unfold compasslaw19_ManyKeeps.b2_t
    refine bc (fun hlt => ?_) fun hge => ?_
    · refine rc3.stI (by omega) (by omega) _ fun H15 rc4 s15 => ?_
      rw [i64w (by omega) (by omega)]
      exact hX _ _ _ _ _ _ _ _ _ _ _ _ _ _ _ _ _ ⟨rfl, rfl, rfl, rfl, rfl, rfl, rfl, rfl, rfl, rfl, rfl, rfl, rfl, rfl, rfl, i' + 1, _, by omega, by omega, s14.trans s15 fun _ h => .inl (.inr h), rc4⟩ (by omega)
    · clear hX
      have s014 := s011.own s14 fun y hy => hy.elim (fm y) (fc y)
      have e1c := s14.keep _ _ e1b fun h => a1 _ h rfl
      have rb4 := rb.keep s14 ab
      have rd4 := rd.keep s14 ad
      refine compasslaw19_ManyKeeps.j2_eq ?_
      unfold compasslaw19_ManyKeeps.j2_t
      have no : ∀ {c1 : Int}, GadB N n e b xn' c1 → Right N n e → Bnd N b xn' → Gsz e (cps e n b) N.toNat n → False := fun h hr hbd hgs => by
        rcases h with ⟨a1, a2⟩ | ⟨_, _, a⟩ | ⟨_, _, _, a⟩
        · exact a2 (by rw [a1]; exact chk_zero.2 hr)
        · exact a hbd
        · exact a hgs
      rcases hF with ⟨hbad, _⟩ | ⟨hc, hr, hbd, hgs, _⟩
      · refine bcn (fun _ => ?_) fun h => (hbad.ne h).elim
        rcases hF' with ⟨_, h0, h1⟩ | ⟨_, hr, hbd, hgs, _⟩
        · refine bct (by omega) ?_
          rw [decide_eq_true (by omega)]
          exact kk H14 s014
        · exact (no hbad hr hbd hgs).elim
      · refine bcn (fun h => (h hc).elim) fun _ => ?_
        rcases hF' with ⟨hbad, _⟩ | ⟨_, _, _, _, hP⟩
        · exact (no hbad hr hbd hgs).elim
        · simp only [get_at e1c, List.getElem?_cons_zero, List.getElem?_cons_succ, ldI_mk, ldS_mk]
          refine vMany (he.keep s014 fun _ _ _ h => h) (by omega) (hb.keep s014 fun _ _ _ h => h) (by omega) rb4.rdr (by omega) rd4.rdr (by omega) fun H16 c4 s16 hO => ?_
          have hc4 : c4 = 0 := by
            rcases hO with ⟨a, _⟩ | a | ⟨_, _, _, _, a⟩
            · exact a
            · exact (no a hr hbd hgs).elim
            · exact (a hP).elim
          rw [decide_eq_true hc4]
          exact kk H16 (s014.and s16)
end
end Go.Mz
