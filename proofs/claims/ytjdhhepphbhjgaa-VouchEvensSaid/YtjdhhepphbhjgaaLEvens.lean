/-
  VouchEvens, walked: whatever the graph and the walk, it answers true and leaves what was there as it was.
-/
import Derived.Test.YtjdhhepphbhjgaaRefI
import Derived.Test.YtjdhhepphbhjgaaRefG
import Derived.Test.YtjdhhepphbhjgaaPkN
import Derived.Test.YtjdhhepphbhjgaaGLawEv
set_option linter.unusedSimpArgs false
set_option linter.unusedVariables false
namespace Go.Mz
section
variable {E : Value → Hp → Prop}

theorem levens {N : Int} {ep : Option Addr} {n ec : Nat} {e : Nat → Edg} {p : Option Addr} {k c : Nat} {tw : Nat → Int} {dp : Option Addr} {dn dc : Nat} {dl : Nat → Sl} {row : Nat → Nat → Int} {yp : Option Addr} {yn yc : Nat} {sp : Option Addr} {sn sc : Nat} {Y : Nat → Int} {z : Nat → Int} {sl : Nat → Sl} {nd : Nat → Nat → Int} {op : Option Addr} {on oc : Nat} {H : Hp} {K : Bool → Hp → Prop}
    (he : Rdr H ep n e) (hn : n < 2 ^ 63) (hm : Rdr H p k tw) (hk : k < 2 ^ 63) (hd : DistR H dp dn dl row) (hdn : dn < 2 ^ 63) (hu : DualR H yp yn sp sn Y z sl nd) (hyn : yn < 2 ^ 63) (hsz : sn * 32 ≤ reachBytes)
    (kk : ∀ H', Step (fun _ => False) H H' → K true H') : compasslaw12_VouchEvens.call N ep n ec p k c dp dn dc yp yn yc sp sn sc op on oc E H K := by
  have hsn : sn ≤ 4398046511104 := by unfold reachBytes at hsz; omega
  refine compasslaw12_VouchEvens.of (compasslaw12_VouchEvens.run_eq ?_)
  unfold compasslaw12_VouchEvens.run_t
  refine nwk fun b1 H1 hb1 e1 s1 => ?_
  refine nwk fun b2 H2 hb2 e2 s2 => ?_
  refine lawake12 fun H3 s3 => ?_
  refine bcb (fun h => by cases h) fun _ => ?_
  have s03 := (s1.and s2).and s3
  have e13 := (s2.and s3).keep _ _ e1 fun h => h
  have e23 := s3.keep _ _ e2 fun h => h
  simp only [get_at e13, get_at e23, List.getElem?_cons_zero, List.getElem?_cons_succ, ldI_mk, ldS_mk]
  refine vDoubled (he.keep s03 fun _ _ _ h => h) hn (hm.keep s03 fun _ _ _ h => h) hk (hd.keep s03) hdn (hu.keep s03) hyn (by omega) fun H4 c1 s4 o1 => ?_
  have s04 := s03.and s4
  have e14 := s4.keep _ _ e13 fun h => h
  have e24 := s4.keep _ _ e23 fun h => h
  simp only [get_at e14, get_at e24, List.getElem?_cons_zero, List.getElem?_cons_succ, ldI_mk, ldS_mk]
  refine rplain (hu.keep s04) hsz fun H5 sp' sc' s5 hd5 => ?_
  have s05 := s04.and s5
  have e15 := s5.keep _ _ e14 fun h => h
  have e25 := s5.keep _ _ e24 fun h => h
  simp only [get_at e15, get_at e25, List.getElem?_cons_zero, List.getElem?_cons_succ, ldI_mk, ldS_mk, true_and]
  refine rdoubled (he.keep s05 fun _ _ _ h => h) (hm.keep s05 fun _ _ _ h => h) hk (hd.keep s05) hdn hd5 hyn (by omega) fun H6 c2 s6 o2 => ?_
  have q := o1.det o2
  subst q
  refine bct rfl ?_
  rw [decide_eq_true rfl]
  exact kk _ (s05.and s6)
end
end Go.Mz
