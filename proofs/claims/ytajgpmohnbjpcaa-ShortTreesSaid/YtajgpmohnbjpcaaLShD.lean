/-
  ShortTrees, walked: whatever the graph, the node and the kind, it answers true and leaves what was there as it was.
-/
import Derived.Test.YtajgpmohnbjpcaaShA
import Derived.Test.YtajgpmohnbjpcaaMzS
import Derived.Test.YtajgpmohnbjpcaaPkD
import Derived.Test.YtajgpmohnbjpcaaPkR
import Derived.Test.YtajgpmohnbjpcaaGShT
set_option linter.unusedSimpArgs false
set_option linter.unusedVariables false
namespace Go.Mz
section
variable {E : Value → Hp → Prop}

theorem ltrees {N s kind : Int} {ep : Option Addr} {n ec : Nat} {e : Nat → Edg} {H : Hp} {K : Bool → Hp → Prop} (he : Rdr H ep n e) (hn : n < 2 ^ 62)
    (kk : ∀ H', Step (fun _ => False) H H' → K true H') : compasslaw08_ShortTrees.call N ep n ec s kind E H K := by
  refine compasslaw08_ShortTrees.of (compasslaw08_ShortTrees.run_eq ?_)
  unfold compasslaw08_ShortTrees.run_t
  refine nwk fun b1 H1 hb1 e1 s1 => ?_
  refine lawake8 fun H2 s2 => ?_
  have e12 := s2.keep _ _ e1 fun h => h
  have s02 := s1.and s2
  refine bcb (fun h => by cases h) fun _ => ?_
  simp only [get_at e12, List.getElem?_cons_zero, List.getElem?_cons_succ, ldI_mk, ldS_mk]
  refine sdijK (he.keep s02 fun _ _ _ h => h) (by omega) fun H3 dp m vp dist via s3 rD rV fd fv dv hF hm => ?_
  refine nwst rfl rfl fun b2 H5 hb2 e2 s5 => ?_
  have s35 := s3.and s5
  have e15 := s35.keep _ _ e12 fun h => h
  have s05 := s02.and s35
  have rD5 := rD.keep s5 fun _ _ h => h
  have rV5 := rV.keep s5 fun _ _ h => h
  simp only [get_at e15, List.getElem?_cons_zero, List.getElem?_cons_succ, ldI_mk, ldS_mk]
  refine rdijkstraK (he.keep s05 fun _ _ _ h => h) hn fun H6 s6 => ?_
  have e16 := s6.keep _ _ e15 fun h => h
  have e26 := s6.keep _ _ e2 fun h => h
  have s06 := s05.and s6
  rcases hF with ⟨h0, rfl⟩ | ⟨h0, hr, hs0, hs1, rfl, hS⟩
  · refine bcn (fun _ => ?_) fun h => (h0 h).elim
    refine bc (fun _ => ?_) fun h => (h rfl).elim
    simp only [get_at e26, List.getElem?_cons_zero, List.getElem?_cons_succ, ldI_mk, ldS_mk]
    refine bc (fun _ => ?_) fun h => (h rfl).elim
    try simp only [get_at e26, List.getElem?_cons_zero, List.getElem?_cons_succ, ldI_mk, ldS_mk]
    exact kk H6 s06
  · refine bcn (fun h => (h h0).elim) fun _ => ?_
    have hG := hr.gr
    have hst := hS.stl hG fun v _ => dz_or v
    simp only [get_at e16, List.getElem?_cons_zero, List.getElem?_cons_succ, ldI_mk, ldS_mk]
    have rD6 := rD5.keep s6 fun _ _ h => h
    have rV6 := rV5.keep s6 fun _ _ h => h
    refine rdist (he.keep s06 fun _ _ _ h => h) (fun hw => (hw (wrg_zero.2 ⟨hr, hs0, hs1⟩)).elim) (fun _ _ _ h => (h hst).elim) fun _ _ _ _ H7 p c s7 r7 f7 => ?_
    have e17 := s7.keep _ _ e16 fun h => h
    have e27 := s7.keep _ _ e26 fun h => h
    have s07 := s06.and s7
    have rD7 := rD6.keep s7 fun _ _ h => h
    have rV7 := rV6.keep s7 fun _ _ h => h
    refine bc (fun _ => ?_) fun h => (h h0).elim
    simp only [get_at e27, List.getElem?_cons_zero, List.getElem?_cons_succ, ldI_mk, ldS_mk]
    refine llongs rD7.rdr r7.rdr (by omega) rfl (fun i hi => (hS.jacM hG (fun v _ => dz_or v) i hi).symm) ?_
    refine bcb (fun _ => ?_) fun h => by cases h
    simp only [get_at e17, get_at e27, List.getElem?_cons_zero, List.getElem?_cons_succ, ldI_mk, ldS_mk]
    have es : s = (s.toNat : Int) := by omega
    rw [es]
    exact rtree (he.keep s07 fun _ _ _ h => h) hr (by omega) rD7.rdr rV7.rdr hS fun H8 s8 => kk H8 (s07.and s8)
end
end Go.Mz
