/-
  VouchGadgets, walked: whatever the graph and the taking, it answers true and leaves what was there as it was.
-/
import Derived.Test.YtjdhhepphbhjgaaRefE
import Derived.Test.YtjdhhepphbhjgaaPkN
import Derived.Test.YtjdhhepphbhjgaaGLawGa
set_option linter.unusedSimpArgs false
set_option linter.unusedVariables false
namespace Go.Mz
section
variable {E : Value → Hp → Prop}

theorem rsame0 {H : Hp} {K : Bool → Hp → Prop} (kk : ∀ H', Step (fun _ => False) H H' → K true H') : compassref03_Same.call 0 none 0 0 0 none 0 0 E H K :=
  rsame (e := fun _ => (0, 0, 0, 0)) (Row.nil (α := Edg)).rdr (Row.nil (α := Edg)).rdr (by decide) kk

theorem lgadgets {N : Int} {ep : Option Addr} {n ec : Nat} {e : Nat → Edg} {bp : Option Addr} {bn bk : Nat} {b : Nat → Int} {p : Option Addr} {k c : Nat} {m : Nat → Int} {vp : Option Addr} {q vc : Nat} {set : Nat → Int} {op : Option Addr} {on oc : Nat} {H : Hp} {K : Bool → Hp → Prop}
    (he : Rdr H ep n e) (hn : n < 2 ^ 63) (hb : Rdr H bp bn b) (hbn : bn < 2 ^ 63) (hm : Rdr H p k m) (hk : k < 2 ^ 63) (hv : Rdr H vp q set) (hq : q < 2 ^ 63)
    (kk : ∀ H', Step (fun _ => False) H H' → K true H') : compasslaw12_VouchGadgets.call N ep n ec bp bn bk p k c vp q vc op on oc E H K := by
  refine compasslaw12_VouchGadgets.of (compasslaw12_VouchGadgets.run_eq ?_)
  unfold compasslaw12_VouchGadgets.run_t
  refine nwk fun b1 H1 hb1 e1 s1 => ?_
  refine nwk fun b2 H2 hb2 e2 s2 => ?_
  refine lawake12 fun H3 s3 => ?_
  refine bcb (fun h => by cases h) fun _ => ?_
  have s03 := (s1.and s2).and s3
  have g1 : ∀ {H'}, Step (fun _ => False) H3 H' → H' b1 = some ⟨[.int .i64 N, .slice ep n ec], 24⟩ := fun s => ((s2.and s3).and s).keep _ _ e1 fun h => h
  have g2 : ∀ {H'}, Step (fun _ => False) H3 H' → H' b2 = some ⟨[.slice bp bn bk, .slice p k c, .slice vp q vc, .slice op on oc], 49⟩ := fun s => (s3.and s).keep _ _ e2 fun h => h
  have K3 : ∀ {H'}, Step (fun _ => False) H3 H' → Step (fun _ => False) H H' := fun s => s03.and s
  have fe : ∀ {H'}, Step (fun _ => False) H3 H' → Rdr H' ep n e := fun s => he.keep (K3 s) fun _ _ _ h => h
  have fb : ∀ {H'}, Step (fun _ => False) H3 H' → Rdr H' bp bn b := fun s => hb.keep (K3 s) fun _ _ _ h => h
  have fm : ∀ {H'}, Step (fun _ => False) H3 H' → Rdr H' p k m := fun s => hm.keep (K3 s) fun _ _ _ h => h
  have fv : ∀ {H'}, Step (fun _ => False) H3 H' → Rdr H' vp q set := fun s => hv.keep (K3 s) fun _ _ _ h => h
  simp only [get_at (g1 .refl), get_at (g2 .refl), List.getElem?_cons_zero, List.getElem?_cons_succ, ldI_mk, ldS_mk]
  -- what follows the two gadgets
  have tail : ∀ (X : Int) (xp : Option Addr) (xn xc : Nat) (Y : Int) (yp : Option Addr) (yn yc : Nat) (c1 c2 : Int) (g3 g4 : Nat) (H9 : Hp), Step (fun _ => False) H3 H9 → c1 = c2 →
      H9 g3 = some ⟨[.int .i64 X, .slice xp xn xc], 24⟩ → H9 g4 = some ⟨[.int .i64 Y, .slice yp yn yc], 24⟩ →
      (∀ (H' : Hp) (K' : Bool → Hp → Prop), Step (fun _ => False) H9 H' → (∀ H'', Step (fun _ => False) H' H'' → K' true H'') → compassref03_Same.call X xp xn xc Y yp yn yc E H' K') →
      ldI .i64 (H9.get b1 0) fun x_7 =>
      ldS (H9.get b1 1) fun x_8p x_8n x_8c =>
      ldS (H9.get b2 0) fun x_9p x_9n x_9c =>
      ldS (H9.get b2 1) fun x_10p x_10n x_10c =>
      ldS (H9.get b2 2) fun x_11p x_11n x_11c =>
      vouch_Many.call x_7 x_8p x_8n x_8c x_9p x_9n x_9c x_10p x_10n x_10c x_11p x_11n x_11c E H9 fun r_7 r_8 H_10 =>
      ldI .i64 (H_10.get b1 0) fun x_12 =>
      ldS (H_10.get b1 1) fun x_13p x_13n x_13c =>
      ldS (H_10.get b2 0) fun x_14p x_14n x_14c =>
      ldS (H_10.get b2 1) fun x_15p x_15n x_15c =>
      ldS (H_10.get b2 2) fun x_16p x_16n x_16c =>
      compassref12_Many.call x_12 x_13p x_13n x_13c x_14p x_14n x_14c x_15p x_15n x_15c x_16p x_16n x_16c E H_10 fun r_9 r_10 H_11 =>
      ldI .i64 (H_11.get g3 0) fun x_17 =>
      ldS (H_11.get g3 1) fun x_18p x_18n x_18c =>
      ldI .i64 (H_11.get g4 0) fun x_19 =>
      ldS (H_11.get g4 1) fun x_20p x_20n x_20c =>
      compassref03_Same.call x_17 x_18p x_18n x_18c x_19 x_20p x_20n x_20c E H_11 fun r_11 H_12 =>
      bcase (r_11) (
      bcase (decide ((c1 : Int) = c2)) (
      bcase (decide ((r_7 : Int) = r_9)) (
      K (decide ((r_8 : Int) = r_10)) H_12)
      (K false H_12))
      (K false H_12))
      (K false H_12) := fun X xp xn xc Y yp yn yc c1 c2 g3 g4 H9 s9 hcc e3 e4 hsame => by
    simp only [get_at (g1 s9), get_at (g2 s9), List.getElem?_cons_zero, List.getElem?_cons_succ, ldI_mk, ldS_mk]
    refine vMany (fe s9) hn (fb s9) hbn (fm s9) hk (fv s9) hq fun H10 c3 s10 o3 => ?_
    have u10 := s9.and s10
    simp only [get_at (g1 u10), get_at (g2 u10), List.getElem?_cons_zero, List.getElem?_cons_succ, ldI_mk, ldS_mk]
    refine rmany (fe u10) (fb u10) hbn (fm u10) hk (fv u10) hq fun H11 c4 s11 o4 => ?_
    have u11 := u10.and s11
    have q1 := o3.det o4
    subst q1
    have w := s10.and s11
    simp only [get_at (w.keep _ _ e3 fun h => h), get_at (w.keep _ _ e4 fun h => h), List.getElem?_cons_zero, List.getElem?_cons_succ, ldI_mk, ldS_mk]
    refine hsame _ _ w fun H12 s12 => ?_
    refine bcb (fun _ => ?_) fun h => (by cases h)
    refine bct hcc (bct trivial ?_)
    rw [decide_eq_true trivial]
    exact kk _ (K3 (u11.and s12))
  refine vGadget (fe .refl) hn (fb .refl) hbn (fun H4 o4 c4 s4 hr hbd hsz ro4 hn4 => ?_) fun H4 cd s4 hg => ?_
  · refine nwst rfl rfl fun g3 H6 hg3 e6 s6 => ?_
    have u6 := s4.and s6
    simp only [get_at (g1 u6), get_at (g2 u6), List.getElem?_cons_zero, List.getElem?_cons_succ, ldI_mk, ldS_mk]
    refine rgadget (fe u6) (fb u6) hbn (fun H7 o7 c7 s7 _ _ _ ro7 hn7 => ?_) fun H7 cd s7 hg => absurd ⟨hr, hbd, hsz⟩ hg.right
    refine nwst rfl rfl fun g4 H9 hg4 e9 s9 => ?_
    have u9 := (u6.and s7).and s9
    have hl : (gel e (cps e n b) N.toNat n).length ≤ 4096 := hsz.2
    refine tail _ _ _ _ _ _ _ _ _ _ _ _ _ u9 rfl ((s7.and s9).keep _ _ e6 fun h => h) e9 fun H' K' w hk' => ?_
    refine rsame (e := lsE (gel e (cps e n b) N.toNat n)) ?_ ?_ (by omega) hk'
    · exact (ro4.keep (((s6.and s7).and s9).and w) fun _ _ h => h).rdr
    · exact (ro7.keep (s9.and w) fun _ _ h => h).rdr
  · refine nwst rfl rfl fun g3 H6 hg3 e6 s6 => ?_
    have u6 := s4.and s6
    simp only [get_at (g1 u6), get_at (g2 u6), List.getElem?_cons_zero, List.getElem?_cons_succ, ldI_mk, ldS_mk]
    refine rgadget (fe u6) (fb u6) hbn (fun H7 o7 c7 s7 h1 h2 h3 ro7 hn7 => absurd ⟨h1, h2, h3⟩ hg.right) fun H7 cd' s7 hg' => ?_
    refine nwst rfl rfl fun g4 H9 hg4 e9 s9 => ?_
    have u9 := (u6.and s7).and s9
    exact tail _ _ _ _ _ _ _ _ _ _ _ _ _ u9 (hg.det hg') ((s7.and s9).keep _ _ e6 fun h => h) e9 fun H' K' w hk' => rsame0 hk'
end
end Go.Mz
