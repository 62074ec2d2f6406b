/-
  VouchDualSound, walked: whatever the graph, the matching, the duals and the other matching, it answers true and leaves what was there as it was.
-/
import Derived.Test.YtjdhhepphbhjgaaVouS3
import Derived.Test.YtjdhhepphbhjgaaVouT
import Derived.Test.YtjdhhepphbhjgaaRefA
import Derived.Test.YtjdhhepphbhjgaaGLawDS
set_option linter.unusedSimpArgs false
set_option linter.unusedVariables false
namespace Go.Mz
section
variable {E : Value → Hp → Prop}

theorem lduals {N : Int} {ep : Option Addr} {n ec : Nat} {e : Nat → Edg} {p : Option Addr} {k c : Nat} {m : Nat → Int} {yp : Option Addr} {yn yc : Nat} {sp : Option Addr} {sn sc : Nat} {Y : Nat → Int} {z : Nat → Int} {sl : Nat → Sl} {nd : Nat → Nat → Int} {op : Option Addr} {o oc : Nat} {om : Nat → Int} {H : Hp} {K : Bool → Hp → Prop}
    (he : Rdr H ep n e) (hn : n < 2 ^ 63) (hm : Rdr H p k m) (hk : k < 2 ^ 63) (hd : DualR H yp yn sp sn Y z sl nd) (hyn : yn < 2 ^ 63) (hsn : sn < 2 ^ 63) (ho : Rdr H op o om) (hol : o < 2 ^ 63)
    (kk : ∀ H', Step (fun _ => False) H H' → K true H') : compasslaw12_VouchDualSound.call N ep n ec p k c yp yn yc sp sn sc op o oc E H K := by
  refine compasslaw12_VouchDualSound.of (compasslaw12_VouchDualSound.run_eq ?_)
  unfold compasslaw12_VouchDualSound.run_t
  refine nwk fun b1 H1 hb1 e1 s1 => ?_
  refine nwk fun b2 H2 hb2 e2 s2 => ?_
  refine lawake12 fun H3 s3 => ?_
  refine bcb (fun h => by cases h) fun _ => ?_
  have s03 := (s1.and s2).and s3
  have g1 : ∀ {H'}, Step (fun _ => False) H3 H' → H' b1 = some ⟨[.int .i64 N, .slice ep n ec], 24⟩ := fun s => ((s2.and s3).and s).keep _ _ e1 fun h => h
  have g2 : ∀ {H'}, Step (fun _ => False) H3 H' → H' b2 = some ⟨[.slice p k c, .slice yp yn yc, .slice sp sn sc, .slice op o oc], 75⟩ := fun s => (s3.and s).keep _ _ e2 fun h => h
  have K3 : ∀ {H'}, Step (fun _ => False) H3 H' → Step (fun _ => False) H H' := fun s => s03.and s
  simp only [get_at (g1 .refl), get_at (g2 .refl), List.getElem?_cons_zero, List.getElem?_cons_succ, ldI_mk, ldS_mk]
  refine vCheapest (he.keep s03 fun _ _ _ h => h) hn (hm.keep s03 fun _ _ _ h => h) hk (hd.keep s03) hyn hsn fun H4 c1 s4 o1 => ?_
  have s04 := K3 s4
  refine bcn (fun h1 => ?_) fun h1 => ?_
  · rw [decide_eq_true (if_neg h1)]; exact kk _ s04
  · obtain ⟨hr, hp⟩ := o1.ok h1
    simp only [get_at (g1 s4), get_at (g2 s4), List.getElem?_cons_zero, List.getElem?_cons_succ, ldI_mk, ldS_mk]
    refine rmatching (he.keep s04 fun _ _ _ h => h) (ho.keep s04 fun _ _ _ h => h) hol fun H5 c3 s5 o3 => ?_
    have u5 := s4.and s5
    have s05 := K3 u5
    refine bcn (fun h3 => kk _ s05) fun h3 => ?_
    obtain ⟨_, ht⟩ := o3.ok h3
    have hol := ht.ris.len
    have hn1 := hr.n1
    simp only [get_at (g1 u5), get_at (g2 u5), List.getElem?_cons_zero, List.getElem?_cons_succ, ldI_mk, ldS_mk]
    refine bcn (fun h2 => kk _ s05) fun h2 => ?_
    rw [i64w (by omega) (by omega)] at h2
    try simp only [get_at (g1 u5), get_at (g2 u5), List.getElem?_cons_zero, List.getElem?_cons_succ, ldI_mk, ldS_mk]
    refine rcost (he.keep s05 fun _ _ _ h => h) hr (ho.keep s05 fun _ _ _ h => h) ht.ris fun H6 s6 => ?_
    have hb := dual_bound hr ht h2 hp.wt hp.ed
    have hs := hp.sum
    rw [decide_eq_true (by rw [if_pos h1]; omega)]
    exact kk _ (s05.and s6)
end
end Go.Mz
