/-
  VouchCoverSound, walked: whatever the graph, the matching, the nodes, the potentials and the other matching, it answers true and leaves what was there as it was.
-/
import Derived.Test.YtjdhhepphbhjgaaVouS1
import Derived.Test.YtjdhhepphbhjgaaVouT
import Derived.Test.YtjdhhepphbhjgaaRefA
import Derived.Test.YtjdhhepphbhjgaaGLawCS
set_option linter.unusedSimpArgs false
set_option linter.unusedVariables false
namespace Go.Mz
section
variable {E : Value → Hp → Prop}

theorem lcovs {N : Int} {ep : Option Addr} {n ec : Nat} {e : Nat → Edg} {p : Option Addr} {k c : Nat} {m : Nat → Int} {vp : Option Addr} {q vc : Nat} {cv : Nat → Int} {wp : Option Addr} {r wc : Nat} {pot : Nat → Int} {op : Option Addr} {o oc : Nat} {om : Nat → Int} {H : Hp} {K : Bool → Hp → Prop}
    (he : Rdr H ep n e) (hn : n < 2 ^ 63) (hm : Rdr H p k m) (hk : k < 2 ^ 63) (hv : Rdr H vp q cv) (hq : q < 2 ^ 63) (hw : Rdr H wp r pot) (hwr : r < 2 ^ 63) (ho : Rdr H op o om) (hol : o < 2 ^ 63)
    (kk : ∀ H', Step (fun _ => False) H H' → K true H') : compasslaw12_VouchCoverSound.call N ep n ec p k c vp q vc wp r wc op o oc E H K := by
  refine compasslaw12_VouchCoverSound.of (compasslaw12_VouchCoverSound.run_eq ?_)
  unfold compasslaw12_VouchCoverSound.run_t
  refine nwk fun b1 H1 hb1 e1 s1 => ?_
  refine nwk fun b2 H2 hb2 e2 s2 => ?_
  refine lawake12 fun H3 s3 => ?_
  refine bcb (fun h => by cases h) fun _ => ?_
  have s03 := (s1.and s2).and s3
  have g1 : ∀ {H'}, Step (fun _ => False) H3 H' → H' b1 = some ⟨[.int .i64 N, .slice ep n ec], 24⟩ := fun s => ((s2.and s3).and s).keep _ _ e1 fun h => h
  have g2 : ∀ {H'}, Step (fun _ => False) H3 H' → H' b2 = some ⟨[.slice p k c, .slice vp q vc, .slice wp r wc], 67⟩ := fun s => (s3.and s).keep _ _ e2 fun h => h
  have K3 : ∀ {H'}, Step (fun _ => False) H3 H' → Step (fun _ => False) H H' := fun s => s03.and s
  simp only [get_at (g1 .refl), get_at (g2 .refl), List.getElem?_cons_zero, List.getElem?_cons_succ, ldI_mk, ldS_mk]
  refine vCovered (he.keep s03 fun _ _ _ h => h) hn (hm.keep s03 fun _ _ _ h => h) hk (hv.keep s03 fun _ _ _ h => h) hq fun H4 c1 s4 o1 => ?_
  simp only [get_at (g1 s4), get_at (g2 s4), List.getElem?_cons_zero, List.getElem?_cons_succ, ldI_mk, ldS_mk]
  have s04 := K3 s4
  refine vHeaviest (he.keep s04 fun _ _ _ h => h) hn (hm.keep s04 fun _ _ _ h => h) hk (hw.keep s04 fun _ _ _ h => h) hwr fun H5 c2 s5 o2 => ?_
  have u5 := s4.and s5
  have s05 := K3 u5
  simp only [get_at (g1 u5), List.getElem?_cons_zero, List.getElem?_cons_succ, ldI_mk, ldS_mk]
  refine rmatching (he.keep s05 fun _ _ _ h => h) (ho.keep s05 fun _ _ _ h => h) hol fun H6 c3 s6 o3 => ?_
  have u6 := u5.and s6
  have s06 := K3 u6
  have fin := kk H6 s06
  refine bcn (fun h3 => ?_) fun h3 => ?_
  · refine bc (fun h1 => ?_) fun h1 => ?_
    · refine bc (fun h2 => fin) fun h2 => ?_
      rw [decide_eq_true (if_neg h2)]; exact fin
    · refine bc (fun h => ?_) fun h => (h (if_neg h1)).elim
      refine bc (fun h2 => fin) fun h2 => ?_
      rw [decide_eq_true (if_neg h2)]; exact fin
  · obtain ⟨hr, ht⟩ := o3.ok h3
    have heavy : c2 = 0 → ∀ K' : Bool → Hp → Prop, (∀ H', Step (fun _ => False) H H' → K' true H') → compassref12_Cost.call N ep n ec op o oc E H6 fun r_7 H_7 => K' (decide (r_7 ≤ if c2 = 0 then cst e m k else 0)) H_7 := fun h2 K' hK => by
      obtain ⟨_, hp⟩ := o2.ok h2
      refine rcost (he.keep s06 fun _ _ _ h => h) hr (ho.keep s06 fun _ _ _ h => h) ht.ris fun H7 s7 => ?_
      rw [decide_eq_true (by
        rw [if_pos h2, ← hp.sum]
        exact heavy_bound hr ht hp.len (fun v hv => (hp.bnd v hv).1) hp.ed)]
      exact hK _ (s06.and s7)
    refine bcn (fun h1 => ?_) fun h1 => ?_
    · refine bcn (fun h2 => fin) fun h2 => ?_
      simp only [get_at (g1 u6), List.getElem?_cons_zero, List.getElem?_cons_succ, ldI_mk, ldS_mk]
      exact heavy h2 K kk
    · obtain ⟨_, hp⟩ := o1.ok h1
      refine bc (fun _ => ?_) fun h => (h ?_).elim
      · refine bcn (fun h2 => fin) fun h2 => ?_
        simp only [get_at (g1 u6), List.getElem?_cons_zero, List.getElem?_cons_succ, ldI_mk, ldS_mk]
        exact heavy h2 K kk
      · rw [if_pos h1]
        have := cover_bound hr ht hp.cvr
        have := hp.eq
        omega
end
end Go.Mz
