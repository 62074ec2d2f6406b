/-
  VouchEvenSound, walked: whatever the graph and the walk, it answers true and leaves what was there as it was.
-/
import Derived.Test.YtjdhhepphbhjgaaRefI
import Derived.Test.YtjdhhepphbhjgaaVouS6
import Derived.Test.YtjdhhepphbhjgaaPkN
import Derived.Test.YtjdhhepphbhjgaaGLawES
set_option linter.unusedSimpArgs false
set_option linter.unusedVariables false
namespace Go.Mz
section
variable {E : Value → Hp → Prop}

theorem levensS {N : Int} {ep : Option Addr} {n ec : Nat} {e : Nat → Edg} {p : Option Addr} {k c : Nat} {tw : Nat → Int} {dp : Option Addr} {dn dc : Nat} {dl : Nat → Sl} {row : Nat → Nat → Int} {yp : Option Addr} {yn yc : Nat} {sp : Option Addr} {sn sc : Nat} {Y : Nat → Int} {z : Nat → Int} {sl : Nat → Sl} {nd : Nat → Nat → Int} {op : Option Addr} {on oc : Nat} {o : Nat → Int} {H : Hp} {K : Bool → Hp → Prop}
    (he : Rdr H ep n e) (hn : n < 2 ^ 63) (hm : Rdr H p k tw) (hk : k < 2 ^ 63) (hd : DistR H dp dn dl row) (hdn : dn < 2 ^ 63) (hu : DualR H yp yn sp sn Y z sl nd) (hyn : yn < 2 ^ 63) (hsn : sn < 2 ^ 63) (ho : Rdr H op on o) (hon : on < 2 ^ 63)
    (kk : ∀ H', Step (fun _ => False) H H' → K true H') : compasslaw12_VouchEvenSound.call N ep n ec p k c dp dn dc yp yn yc sp sn sc op on oc E H K := by
  refine compasslaw12_VouchEvenSound.of (compasslaw12_VouchEvenSound.run_eq ?_)
  unfold compasslaw12_VouchEvenSound.run_t
  refine nwk fun b1 H1 hb1 e1 s1 => ?_
  refine nwk fun b2 H2 hb2 e2 s2 => ?_
  refine lawake12 fun H3 s3 => ?_
  refine bcb (fun h => by cases h) fun _ => ?_
  have s03 := (s1.and s2).and s3
  have e13 := (s2.and s3).keep _ _ e1 fun h => h
  have e23 := s3.keep _ _ e2 fun h => h
  simp only [get_at e13, get_at e23, List.getElem?_cons_zero, List.getElem?_cons_succ, ldI_mk, ldS_mk]
  refine vDoubled (he.keep s03 fun _ _ _ h => h) hn (hm.keep s03 fun _ _ _ h => h) hk (hd.keep s03) hdn (hu.keep s03) hyn hsn fun H4 c1 s4 o1 => ?_
  have s04 := s03.and s4
  have e14 := s4.keep _ _ e13 fun h => h
  have e24 := s4.keep _ _ e23 fun h => h
  refine bcn (fun h => ?_) fun h => ?_
  · rw [if_neg h, decide_eq_true rfl]
    exact kk _ s04
  · obtain ⟨hr, hPos, hD⟩ : Right N n e ∧ Pos n e ∧ DblP N n e tw k dn dl row Y yn z (fun i => (sl i).n) nd sn := by
      rcases o1 with ⟨_, h⟩ | ⟨_, h'⟩ | ⟨h', _⟩ | ⟨h', _⟩
      · exact h
      · exact absurd h h'
      · rw [h'] at h; cases h
      · rw [h'] at h; cases h
    have hN0 := hr.N0; have hN1 := hr.N1; have hn1 := hr.n1
    simp only [get_at e14, get_at e24, List.getElem?_cons_zero, List.getElem?_cons_succ, ldI_mk, ldS_mk]
    refine rall (he.keep s04 fun _ _ _ h => h) hn1 fun lp' lc H5 s5 rl => ?_
    have s05 := s04.and s5
    have e15 := s5.keep _ _ e14 fun h => h
    have e25 := s5.keep _ _ e24 fun h => h
    simp only [get_at e15, List.getElem?_cons_zero, List.getElem?_cons_succ, ldI_mk, ldS_mk, true_and]
    refine rcost (he.keep s05 fun _ _ _ h => h) hr rl.rdr (ris_id n) fun H6 s6 => ?_
    have s06 := s05.and s6
    have e16 := s6.keep _ _ e15 fun h => h
    have e26 := s6.keep _ _ e25 fun h => h
    simp only [get_at e16, get_at e26, List.getElem?_cons_zero, List.getElem?_cons_succ, ldI_mk, ldS_mk]
    refine revens (he.keep s06 fun _ _ _ h => h) hr (ho.keep s06 fun _ _ _ h => h) hon (fun H7 s7 hris hev => ?_) fun H7 s7 _ => bcb (fun _ => kk _ (s06.and s7)) fun h => by cases h
    refine bcb (fun h => by cases h) fun _ => ?_
    have s07 := s06.and s7
    have e17 := s7.keep _ _ e16 fun h => h
    have e27 := s7.keep _ _ e26 fun h => h
    simp only [get_at e17, get_at e27, List.getElem?_cons_zero, List.getElem?_cons_succ, ldI_mk, ldS_mk]
    refine rcost (he.keep s07 fun _ _ _ h => h) hr (ho.keep s07 fun _ _ _ h => h) hris fun H8 s8 => ?_
    have hle := even_bound hr hPos hD hris hev
    have hkl := hris.len
    have c1 := cst_bound hr hris
    have c2 := cst_bound hr (ris_id n)
    have c3 : allc e n = cst e (fun i => (i : Int)) n := rfl
    rw [if_pos h, i64w (by omega) (by omega), decide_eq_true (by omega)]
    exact kk _ (s07.and s8)
end
end Go.Mz
