/-
  VouchBarriers, walked: whatever the graph, the matching and the set, it answers true and leaves what was there as it was.
-/
import Derived.Test.YtjdhhepphbhjgaaRefC
import Derived.Test.YtjdhhepphbhjgaaPkN
import Derived.Test.YtjdhhepphbhjgaaGLawBa
set_option linter.unusedSimpArgs false
set_option linter.unusedVariables false
namespace Go.Mz
section
variable {E : Value → Hp → Prop}

theorem lbarriers {N : Int} {ep : Option Addr} {n ec : Nat} {e : Nat → Edg} {p : Option Addr} {k c : Nat} {m : Nat → Int} {vp : Option Addr} {q vc : Nat} {set : Nat → Int} {H : Hp} {K : Bool → Hp → Prop}
    (he : Rdr H ep n e) (hn : n < 2 ^ 63) (hm : Rdr H p k m) (hk : k < 2 ^ 63) (hv : Rdr H vp q set) (hq : q < 2 ^ 63)
    (kk : ∀ H', Step (fun _ => False) H H' → K true H') : compasslaw12_VouchBarriers.call N ep n ec p k c vp q vc E H K := by
  refine compasslaw12_VouchBarriers.of (compasslaw12_VouchBarriers.run_eq ?_)
  unfold compasslaw12_VouchBarriers.run_t
  refine nwk fun b1 H1 hb1 e1 s1 => ?_
  refine lawake12 fun H3 s3 => ?_
  refine bcb (fun h => by cases h) fun _ => ?_
  have s03 := s1.and s3
  have g1 : ∀ {H'}, Step (fun _ => False) H3 H' → H' b1 = some ⟨[.int .i64 N, .slice ep n ec], 24⟩ := fun s => (s3.and s).keep _ _ e1 fun h => h
  have K3 : ∀ {H'}, Step (fun _ => False) H3 H' → Step (fun _ => False) H H' := fun s => s03.and s
  have fe : ∀ {H'}, Step (fun _ => False) H3 H' → Rdr H' ep n e := fun s => he.keep (K3 s) fun _ _ _ h => h
  have fm : ∀ {H'}, Step (fun _ => False) H3 H' → Rdr H' p k m := fun s => hm.keep (K3 s) fun _ _ _ h => h
  have fv : ∀ {H'}, Step (fun _ => False) H3 H' → Rdr H' vp q set := fun s => hv.keep (K3 s) fun _ _ _ h => h
  simp only [get_at (g1 .refl), List.getElem?_cons_zero, List.getElem?_cons_succ, ldI_mk, ldS_mk]
  refine vLargest (fe .refl) hn (fm .refl) hk (fv .refl) hq fun H4 c1 s4 o1 => ?_
  simp only [get_at (g1 s4), List.getElem?_cons_zero, List.getElem?_cons_succ, ldI_mk, ldS_mk]
  refine rlargest (fe s4) (fm s4) hk (fv s4) hq fun H5 c2 s5 o2 => ?_
  have u5 := s4.and s5
  have q1 := o1.det o2 fun _ => Iff.rfl
  subst q1
  refine bct rfl (bct rfl ?_)
  simp only [get_at (g1 u5), List.getElem?_cons_zero, List.getElem?_cons_succ, ldI_mk, ldS_mk]
  refine vNoPerfect (fe u5) hn (fv u5) hq fun H6 c3 s6 o3 => ?_
  have u6 := u5.and s6
  simp only [get_at (g1 u6), List.getElem?_cons_zero, List.getElem?_cons_succ, ldI_mk, ldS_mk, true_and]
  refine rnoperfect (fe u6) (fv u6) hq fun H7 c4 s7 o4 => ?_
  have q2 := o3.det o4 fun _ => Iff.rfl
  subst q2
  rw [decide_eq_true rfl]
  exact kk _ (K3 (u6.and s7))
end
end Go.Mz
