/-
  BlossomKeeps, walked: whatever the graph, it answers true and leaves what was there as it was.
-/
import Derived.Test.YtmaeboaopebaiaaLBlA
import Derived.Test.YtmaeboaopebaiaaKpA
import Derived.Test.YtmaeboaopebaiaaGLBK
set_option linter.unusedSimpArgs false
set_option linter.unusedVariables false
namespace Go.Mz
section
variable {E : Value → Hp → Prop}

theorem lbkeeps {N : Int} {ep : Option Addr} {n ec : Nat} {e : Nat → Edg} {H : Hp} {K : Bool → Hp → Prop} (he : Rdr H ep n e) (hn : n ≤ 4398046511103)
    (kk : ∀ H', Step (fun _ => False) H H' → K true H') : compasslaw17_BlossomKeeps.call N ep n ec E H K := by
  refine compasslaw17_BlossomKeeps.of (compasslaw17_BlossomKeeps.run_eq ?_)
  unfold compasslaw17_BlossomKeeps.run_t
  refine nwk fun b1 H1 hb1 e1 s1 => ?_
  refine lawake17 fun H2 s2 => ?_
  have e12 := s2.keep _ _ e1 fun h => h
  have s02 := s1.and s2
  refine bcb (fun h => by cases h) fun _ => ?_
  simp only [get_at e12, List.getElem?_cons_zero, List.getElem?_cons_succ, ldI_mk, ldS_mk]
  refine kmine (he.keep s02 fun _ _ _ h => h) hn e12 fun b2 H8 p c e' s8 e28 hb2 r8 hee hl f8 m2 => ?_
  have e18 := s8.keep _ _ e12 fun h => h
  have s08 := s02.and s8
  have g8 : Rdr H8 p n e := ((r8.cut (m := n) (by omega)).congr hee).rdr
  simp only [get_at e28, List.getElem?_cons_zero, List.getElem?_cons_succ, ldI_mk, ldS_mk]
  refine sBlo g8 (by omega) fun H9 mp mn mc g cp cn cc cv s9 r1 r2 f1 f2 f12 l1 l2 hF => ?_
  have e29 := s9.keep _ _ e28 fun h => h
  simp only [get_at e29, List.getElem?_cons_zero, List.getElem?_cons_succ, ldI_mk, ldS_mk]
  refine sBlo (g8.keep s9 fun _ _ _ h => h) (by omega) fun H10 mp' mn' mc' g' cp' cn' cc' cv' s10 r1' r2' f1' f2' f12' l1' l2' hF' => ?_
  have t10 := s9.and s10
  have e1a := t10.keep _ _ e18 fun h => h
  have s010 := s08.and t10
  refine ksame (he.keep s010 fun _ _ _ h => h) hn e1a (s10.keep _ _ e29 fun h => h) (r8.keep t10 fun _ _ h => h) hee hl fun H11 s11 => ?_
  have t11 := t10.and s11
  have s011 := s010.and s11
  have e1b := s11.keep _ _ e1a fun h => h
  have ra := r1.keep (s10.and s11) fun _ _ h => h
  have rc := r2.keep (s10.and s11) fun _ _ h => h
  have rb := r1'.keep s11 fun _ _ h => h
  have rd := r2'.keep s11 fun _ _ h => h
  have fm : ∀ y, fpS mp y → H y = none := fun y hy => s08.mono y (f1 y hy)
  have fc : ∀ y, fpS cp y → H y = none := fun y hy => s08.mono y (f2 y hy)
  have a1 : ∀ y, fpS mp y ∨ fpS cp y → y ≠ b1 := fun y hy h => by
    have h8 : H8 y = none := hy.elim (f1 y) (f2 y)
    rw [h, e18] at h8; cases h8
  have ab : ∀ y, fpS mp' y → ¬ (fpS mp y ∨ fpS cp y) := fun y hy h => h.elim (fun h => r1.live h (f1' y hy)) fun h => r2.live h (f1' y hy)
  have ad : ∀ y, fpS cp' y → ¬ (fpS mp y ∨ fpS cp y) := fun y hy h => h.elim (fun h => r1.live h (f2' y hy)) fun h => r2.live h (f2' y hy)
  -- the first list is written
  refine compasslaw17_BlossomKeeps.l1_rule (fun g3 ap an ac qp qn qc e10 bp bn bc_ dp dn dc t69 t70 H' => g3 = b1 ∧ ap = mp ∧ an = mn ∧ ac = mc ∧ qp = cp ∧ qn = cn ∧ qc = cc ∧ e10 = chk N n e ∧ bp = mp' ∧ bn = mn' ∧ bc_ = mc' ∧ dp = cp' ∧ dn = cn' ∧ dc = cc' ∧ t69 = (mn : Int) ∧ ∃ (i : Nat) (a : Nat → Int), t70 = i ∧ i ≤ mn ∧ Step (fpS mp) H11 H' ∧ Row H' mp mn mc a)
    (fun g3 ap an ac qp qn qc e10 bp bn bc_ dp dn dc t69 t70 H' => mn - t70.toNat) ?_ ⟨rfl, rfl, rfl, rfl, rfl, rfl, rfl, rfl, rfl, rfl, rfl, rfl, rfl, rfl, rfl, 0, g, rfl, Nat.zero_le _, .refl, ra⟩
  rintro g3 ap an ac qp qn qc e10 bp bn bc_ dp dn dc t69 t70 H12 ⟨rfl, rfl, rfl, rfl, rfl, rfl, rfl, rfl, rfl, rfl, rfl, rfl, rfl, rfl, rfl, i, a, rfl, hi, s12, ra2⟩ X hX
  refine compasslaw17_BlossomKeeps.b1_eq ?_
  unfold compasslaw17_BlossomKeeps.b1_t
  refine bc (fun hlt => ?_) fun hge => ?_
  · refine ra2.stI (by omega) (by omega) _ fun H13 ra3 s13 => ?_
    rw [i64w (by omega) (by omega)]
    exact hX _ _ _ _ _ _ _ _ _ _ _ _ _ _ _ _ _ ⟨rfl, rfl, rfl, rfl, rfl, rfl, rfl, rfl, rfl, rfl, rfl, rfl, rfl, rfl, rfl, i + 1, _, by omega, by omega, s12.trans s13 fun _ h => .inl h, ra3⟩ (by omega)
  · clear hX
    refine compasslaw17_BlossomKeeps.j1_eq ?_
    unfold compasslaw17_BlossomKeeps.j1_t
    have rc2 := rc.keep s12 f12
    refine compasslaw17_BlossomKeeps.l2_rule (fun g3' qp' qn' qc' e10 bp' bn' bc' dp' dn' dc' t78 t79 H' => g3' = g3 ∧ qp' = qp ∧ qn' = qn ∧ qc' = qc ∧ e10 = chk N n e ∧ bp' = bp ∧ bn' = bn ∧ bc' = bc_ ∧ dp' = dp ∧ dn' = dn ∧ dc' = dc ∧ t78 = (qn : Int) ∧ ∃ (i : Nat) (a : Nat → Int), t79 = i ∧ i ≤ qn ∧ Step (fun y => fpS ap y ∨ fpS qp y) H11 H' ∧ Row H' qp qn qc a)
      (fun g3' qp' qn' qc' e10 bp' bn' bc' dp' dn' dc' t78 t79 H' => qn - t79.toNat) ?_ ⟨rfl, rfl, rfl, rfl, rfl, rfl, rfl, rfl, rfl, rfl, rfl, rfl, 0, cv, rfl, Nat.zero_le _, s12.weak fun _ h => .inl (.inl h), rc2⟩
    rintro g3' qp' qn' qc' e10 bp' bn' bc' dp' dn' dc' t78 t79 H14 ⟨rfl, rfl, rfl, rfl, rfl, rfl, rfl, rfl, rfl, rfl, rfl, rfl, i', a', rfl, hi', s14, rc3⟩ X hX
    refine compasslaw17_BlossomKeeps.b2_eq ?_
    unfold compasslaw17_BlossomKeeps.b2_t
    refine bc (fun hlt => ?_) fun hge => ?_
    · refine rc3.stI (by omega) (by omega) _ fun H15 rc4 s15 => ?_
      rw [i64w (by omega) (by omega)]
      exact hX _ _ _ _ _ _ _ _ _ _ _ _ _ _ ⟨rfl, rfl, rfl, rfl, rfl, rfl, rfl, rfl, rfl, rfl, rfl, rfl, i' + 1, _, by omega, by omega, s14.trans s15 fun _ h => .inl (.inr h), rc4⟩ (by omega)
    · clear hX
      have s014 := s011.own s14 fun y hy => hy.elim (fm y) (fc y)
      have e1c := s14.keep _ _ e1b fun h => a1 _ h rfl
      have rb4 := rb.keep s14 ab
      have rd4 := rd.keep s14 ad
      refine compasslaw17_BlossomKeeps.j2_eq ?_
      unfold compasslaw17_BlossomKeeps.j2_t
      rcases hF' with ⟨h0, rfl, rfl⟩ | ⟨h0, hr, hA⟩
      · refine bcn (fun _ => ?_) fun h => (h0 h).elim
        refine bc (fun _ => ?_) fun h => (h rfl).elim
        exact kk H14 s014
      · refine bcn (fun h => (h h0).elim) fun _ => ?_
        simp only [get_at e1c, List.getElem?_cons_zero, List.getElem?_cons_succ, ldI_mk, ldS_mk]
        refine vLargest (he.keep s014 fun _ _ _ h => h) (by omega) rb4.rdr (by omega) rd4.rdr (by omega) fun H16 c2 s16 ho => ?_
        have := ho.good hr (hA.lrgN hr)
        subst this
        exact kk H16 (s014.and s16)
end
end Go.Mz
