/-
  VouchManySound, walked: whatever the graph and the taking, it answers true and leaves what was there as it was.
-/
import Derived.Test.YtjdhhepphbhjgaaRefA
import Derived.Test.YtjdhhepphbhjgaaVouS4
import Derived.Test.YtjdhhepphbhjgaaPkN
import Derived.Test.YtjdhhepphbhjgaaGLawMS
set_option linter.unusedSimpArgs false
set_option linter.unusedVariables false
namespace Go.Mz
section
variable {E : Value → Hp → Prop}

theorem MnyO.ok {N : Int} {n : Nat} {e : Nat → Edg} {b : Nat → Int} {bn : Nat} {m : Nat → Int} {k : Nat} {set : Nat → Int} {q : Nat} {c : Int} (h : MnyO N n e b bn m k set q c) (hc : c = 0) : Right N n e ∧ Bnd N b bn ∧ Gsz e (cps e n b) N.toNat n ∧ MnyP N n e b m k set q := by
  rcases h with ⟨_, h⟩ | h | ⟨h, _⟩
  · exact h
  · exact absurd hc h.ne
  · rw [h] at hc; cases hc

theorem lmanys {N : Int} {ep : Option Addr} {n ec : Nat} {e : Nat → Edg} {bp : Option Addr} {bn bk : Nat} {b : Nat → Int} {p : Option Addr} {k c : Nat} {m : Nat → Int} {vp : Option Addr} {q vc : Nat} {set : Nat → Int} {op : Option Addr} {on oc : Nat} {o : Nat → Int} {H : Hp} {K : Bool → Hp → Prop}
    (he : Rdr H ep n e) (hn : n < 2 ^ 63) (hb : Rdr H bp bn b) (hbn : bn < 2 ^ 63) (hm : Rdr H p k m) (hk : k < 2 ^ 63) (hv : Rdr H vp q set) (hq : q < 2 ^ 63) (ho : Rdr H op on o) (hon : on < 2 ^ 63)
    (kk : ∀ H', Step (fun _ => False) H H' → K true H') : compasslaw12_VouchManySound.call N ep n ec bp bn bk p k c vp q vc op on oc E H K := by
  refine compasslaw12_VouchManySound.of (compasslaw12_VouchManySound.run_eq ?_)
  unfold compasslaw12_VouchManySound.run_t
  refine nwk fun b1 H1 hb1 e1 s1 => ?_
  refine nwk fun b2 H2 hb2 e2 s2 => ?_
  refine lawake12 fun H3 s3 => ?_
  refine bcb (fun h => by cases h) fun _ => ?_
  have s03 := (s1.and s2).and s3
  have e13 := (s2.and s3).keep _ _ e1 fun h => h
  have e23 := s3.keep _ _ e2 fun h => h
  simp only [get_at e13, get_at e23, List.getElem?_cons_zero, List.getElem?_cons_succ, ldI_mk, ldS_mk]
  refine vMany (he.keep s03 fun _ _ _ h => h) hn (hb.keep s03 fun _ _ _ h => h) hbn (hm.keep s03 fun _ _ _ h => h) hk (hv.keep s03 fun _ _ _ h => h) hq fun H4 c1 s4 o1 => ?_
  have s04 := s03.and s4
  have e14 := s4.keep _ _ e13 fun h => h
  have e24 := s4.keep _ _ e23 fun h => h
  refine bcn (fun h => ?_) fun h => ?_
  · rw [if_neg h, decide_eq_true rfl]
    exact kk _ s04
  · obtain ⟨hr, hbd, hg, hP⟩ := o1.ok h
    have hN0 := hr.N0
    have hbl := hbd.len
    simp only [get_at e14, get_at e24, List.getElem?_cons_zero, List.getElem?_cons_succ, ldI_mk, ldS_mk]
    refine rtaken (he.keep s04 fun _ _ _ h => h) hr (ho.keep s04 fun _ _ _ h => h) hon (hb.keep s04 fun _ _ _ h => h) (by omega) (fun v hv => (hbd.bnd v (by omega)).1) (fun H5 s5 ht => ?_) fun H5 s5 ht => bcb (fun _ => kk _ (s04.and s5)) fun h => by cases h
    refine bcb (fun h => by cases h) fun _ => ?_
    have s05 := s04.and s5
    have e25 := s5.keep _ _ e24 fun h => h
    have hle := many_bound hr hbd hg hP ht
    simp only [get_at e25, List.getElem?_cons_zero, List.getElem?_cons_succ, ldI_mk, ldS_mk]
    rw [if_pos h, decide_eq_true (by omega)]
    exact kk _ s05
end
end Go.Mz
