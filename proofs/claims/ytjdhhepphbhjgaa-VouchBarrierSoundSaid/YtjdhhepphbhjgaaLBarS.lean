/-
  VouchBarrierSound, walked: whatever the graph, the matching, the set and the other matching, it answers true and leaves what was there as it was.
-/
import Derived.Test.YtjdhhepphbhjgaaVouS2
import Derived.Test.YtjdhhepphbhjgaaVouT
import Derived.Test.YtjdhhepphbhjgaaRefA
import Derived.Test.YtjdhhepphbhjgaaGLawBS
set_option linter.unusedSimpArgs false
set_option linter.unusedVariables false
namespace Go.Mz
section
variable {E : Value → Hp → Prop}

theorem lbars {N : Int} {ep : Option Addr} {n ec : Nat} {e : Nat → Edg} {p : Option Addr} {k c : Nat} {m : Nat → Int} {vp : Option Addr} {q vc : Nat} {set : Nat → Int} {op : Option Addr} {o oc : Nat} {om : Nat → Int} {H : Hp} {K : Bool → Hp → Prop}
    (he : Rdr H ep n e) (hn : n < 2 ^ 63) (hm : Rdr H p k m) (hk : k < 2 ^ 63) (hv : Rdr H vp q set) (hq : q < 2 ^ 63) (ho : Rdr H op o om) (hol : o < 2 ^ 63)
    (kk : ∀ H', Step (fun _ => False) H H' → K true H') : compasslaw12_VouchBarrierSound.call N ep n ec p k c vp q vc op o oc E H K := by
  refine compasslaw12_VouchBarrierSound.of (compasslaw12_VouchBarrierSound.run_eq ?_)
  unfold compasslaw12_VouchBarrierSound.run_t
  refine nwk fun b1 H1 hb1 e1 s1 => ?_
  refine nwk fun b2 H2 hb2 e2 s2 => ?_
  refine lawake12 fun H3 s3 => ?_
  refine bcb (fun h => by cases h) fun _ => ?_
  have s03 := (s1.and s2).and s3
  have g1 : ∀ {H'}, Step (fun _ => False) H3 H' → H' b1 = some ⟨[.int .i64 N, .slice ep n ec], 24⟩ := fun s => ((s2.and s3).and s).keep _ _ e1 fun h => h
  have g2 : ∀ {H'}, Step (fun _ => False) H3 H' → H' b2 = some ⟨[.slice p k c, .slice vp q vc, .slice op o oc], 72⟩ := fun s => (s3.and s).keep _ _ e2 fun h => h
  have K3 : ∀ {H'}, Step (fun _ => False) H3 H' → Step (fun _ => False) H H' := fun s => s03.and s
  simp only [get_at (g1 .refl), get_at (g2 .refl), List.getElem?_cons_zero, List.getElem?_cons_succ, ldI_mk, ldS_mk]
  refine vLargest (he.keep s03 fun _ _ _ h => h) hn (hm.keep s03 fun _ _ _ h => h) hk (hv.keep s03 fun _ _ _ h => h) hq fun H4 c1 s4 o1 => ?_
  simp only [get_at (g1 s4), get_at (g2 s4), List.getElem?_cons_zero, List.getElem?_cons_succ, ldI_mk, ldS_mk]
  have s04 := K3 s4
  refine vNoPerfect (he.keep s04 fun _ _ _ h => h) hn (hv.keep s04 fun _ _ _ h => h) hq fun H5 c2 s5 o2 => ?_
  have u5 := s4.and s5
  have s05 := K3 u5
  simp only [get_at (g1 u5), get_at (g2 u5), List.getElem?_cons_zero, List.getElem?_cons_succ, ldI_mk, ldS_mk]
  refine rmatching (he.keep s05 fun _ _ _ h => h) (ho.keep s05 fun _ _ _ h => h) hol fun H6 c3 s6 o3 => ?_
  have u6 := u5.and s6
  have fin := kk H6 (K3 u6)
  refine bcn (fun h3 => ?_) fun h3 => ?_
  · refine bc (fun h1 => fin) fun h1 => ?_
    rw [decide_eq_true (if_neg h1)]; exact fin
  · obtain ⟨hr, ht⟩ := o3.ok h3
    have hb := barrier_bound (set := set) (q := q) hr ht
    have hol := ht.ris.len
    have hn1 := hr.n1
    have nop : c2 = 0 → decide ((IntKind.wrap .i64 (2 * (o : Int)) : Int) < N) = true := fun h2 => by
      obtain ⟨_, hp⟩ := o2.ok h2
      have := hp.lt
      rw [i64w (by omega) (by omega)]
      exact decide_eq_true (by omega)
    refine bcn (fun h1 => ?_) fun h1 => ?_
    · refine bcn (fun h2 => fin) fun h2 => ?_
      simp only [get_at (g1 u6), get_at (g2 u6), List.getElem?_cons_zero, List.getElem?_cons_succ, ldI_mk, ldS_mk]
      rw [nop h2]; exact fin
    · simp only [get_at (g1 u6), get_at (g2 u6), List.getElem?_cons_zero, List.getElem?_cons_succ, ldI_mk, ldS_mk]
      obtain ⟨_, hp⟩ := o1.ok h1
      refine bc (fun _ => ?_) fun h => (h ?_).elim
      · refine bcn (fun h2 => fin) fun h2 => ?_
        try simp only [get_at (g1 u6), get_at (g2 u6), List.getElem?_cons_zero, List.getElem?_cons_succ, ldI_mk, ldS_mk]
        rw [nop h2]; exact fin
      · rw [if_pos h1]
        have := hp.eq
        omega
end
end Go.Mz
