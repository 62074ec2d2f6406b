/-
  VouchCovers, walked: whatever the graph, the matching, the nodes and the potentials, it answers true and leaves what was there as it was.
-/
import Derived.Test.YtjdhhepphbhjgaaRefB
import Derived.Test.YtjdhhepphbhjgaaVouT
import Derived.Test.YtjdhhepphbhjgaaGLawCv
set_option linter.unusedSimpArgs false
set_option linter.unusedVariables false
namespace Go.Mz
section
variable {E : Value → Hp → Prop}

theorem lcovers {N : Int} {ep : Option Addr} {n ec : Nat} {e : Nat → Edg} {p : Option Addr} {k c : Nat} {m : Nat → Int} {vp : Option Addr} {q vc : Nat} {cv : Nat → Int} {wp : Option Addr} {r wc : Nat} {pot : Nat → Int} {H : Hp} {K : Bool → Hp → Prop}
    (he : Rdr H ep n e) (hn : n < 2 ^ 63) (hm : Rdr H p k m) (hk : k < 2 ^ 63) (hv : Rdr H vp q cv) (hq : q < 2 ^ 63) (hw : Rdr H wp r pot) (hwr : r < 2 ^ 63)
    (kk : ∀ H', Step (fun _ => False) H H' → K true H') : compasslaw12_VouchCovers.call N ep n ec p k c vp q vc wp r wc E H K := by
  refine compasslaw12_VouchCovers.of (compasslaw12_VouchCovers.run_eq ?_)
  unfold compasslaw12_VouchCovers.run_t
  refine nwk fun b1 H1 hb1 e1 s1 => ?_
  refine nwk fun b2 H2 hb2 e2 s2 => ?_
  refine lawake12 fun H3 s3 => ?_
  refine bcb (fun h => by cases h) fun _ => ?_
  have s03 := (s1.and s2).and s3
  have g1 : ∀ {H'}, Step (fun _ => False) H3 H' → H' b1 = some ⟨[.int .i64 N, .slice ep n ec], 24⟩ := fun s => ((s2.and s3).and s).keep _ _ e1 fun h => h
  have g2 : ∀ {H'}, Step (fun _ => False) H3 H' → H' b2 = some ⟨[.slice p k c, .slice vp q vc, .slice wp r wc], 67⟩ := fun s => (s3.and s).keep _ _ e2 fun h => h
  have K3 : ∀ {H'}, Step (fun _ => False) H3 H' → Step (fun _ => False) H H' := fun s => s03.and s
  have fe : ∀ {H'}, Step (fun _ => False) H3 H' → Rdr H' ep n e := fun s => he.keep (K3 s) fun _ _ _ h => h
  have fm : ∀ {H'}, Step (fun _ => False) H3 H' → Rdr H' p k m := fun s => hm.keep (K3 s) fun _ _ _ h => h
  have fv : ∀ {H'}, Step (fun _ => False) H3 H' → Rdr H' vp q cv := fun s => hv.keep (K3 s) fun _ _ _ h => h
  have fw : ∀ {H'}, Step (fun _ => False) H3 H' → Rdr H' wp r pot := fun s => hw.keep (K3 s) fun _ _ _ h => h
  simp only [get_at (g1 .refl), get_at (g2 .refl), List.getElem?_cons_zero, List.getElem?_cons_succ, ldI_mk, ldS_mk]
  refine vCovered (fe .refl) hn (fm .refl) hk (fv .refl) hq fun H4 c1 s4 o1 => ?_
  simp only [get_at (g1 s4), get_at (g2 s4), List.getElem?_cons_zero, List.getElem?_cons_succ, ldI_mk, ldS_mk]
  refine rcovered (fe s4) (fm s4) hk (fv s4) hq fun H5 c2 s5 o2 => ?_
  have u5 := s4.and s5
  simp only [get_at (g1 u5), get_at (g2 u5), List.getElem?_cons_zero, List.getElem?_cons_succ, ldI_mk, ldS_mk]
  refine vHeaviest (fe u5) hn (fm u5) hk (fw u5) hwr fun H6 c3 s6 o3 => ?_
  have u6 := u5.and s6
  simp only [get_at (g1 u6), get_at (g2 u6), List.getElem?_cons_zero, List.getElem?_cons_succ, ldI_mk, ldS_mk]
  refine rheaviest (fe u6) (fm u6) hk (fw u6) hwr fun H7 c4 s7 o4 => ?_
  have u7 := u6.and s7
  have q1 := o1.det o2 fun _ => Iff.rfl
  have q2 := o3.det o4 fun _ => Iff.rfl
  subst q1 q2
  refine bct rfl (bct rfl (bct rfl (bct rfl ?_)))
  simp only [get_at (g1 u7), get_at (g2 u7), List.getElem?_cons_zero, List.getElem?_cons_succ, ldI_mk, ldS_mk]
  refine vMatching (fe u7) hn (fm u7) hk fun H8 c5 s8 o5 => ?_
  have u8 := u7.and s8
  simp only [get_at (g1 u8), get_at (g2 u8), List.getElem?_cons_zero, List.getElem?_cons_succ, ldI_mk, ldS_mk, true_and]
  refine rmatching (fe u8) (fm u8) hk fun H9 c6 s9 o6 => ?_
  have q3 := o5.det o6 fun _ => Iff.rfl
  subst q3
  rw [decide_eq_true rfl]
  exact kk _ (K3 (u8.and s9))
end
end Go.Mz
