/-
  ShortPotentials, walked: whatever the graph, it answers true and leaves what was there as it was.
-/
import Derived.Test.YtajgpmohnbjpcaaShA
import Derived.Test.YtajgpmohnbjpcaaMzS
import Derived.Test.YtajgpmohnbjpcaaGShP
set_option linter.unusedSimpArgs false
set_option linter.unusedVariables false
namespace Go.Mz
section
variable {E : Value → Hp → Prop}

theorem lpotentials {N : Int} {ep : Option Addr} {n ec : Nat} {e : Nat → Edg} {H : Hp} {K : Bool → Hp → Prop} (he : Rdr H ep n e) (hn : n < 2 ^ 63)
    (kk : ∀ H', Step (fun _ => False) H H' → K true H') : compasslaw08_ShortPotentials.call N ep n ec E H K := by
  refine compasslaw08_ShortPotentials.of (compasslaw08_ShortPotentials.run_eq ?_)
  unfold compasslaw08_ShortPotentials.run_t
  refine nwk fun b1 H1 hb1 e1 s1 => ?_
  refine lawake8 fun H2 s2 => ?_
  have e12 := s2.keep _ _ e1 fun h => h
  have s02 := s1.and s2
  refine bcb (fun h => by cases h) fun _ => ?_
  simp only [get_at e12, List.getElem?_cons_zero, List.getElem?_cons_succ, ldI_mk, ldS_mk]
  refine spotentials (he.keep s02 fun _ _ _ h => h) hn (fun hw H3 s3 => ?_) (fun hr H3 bd dist via s3 fd rD hS => ?_) fun hr H3 p m c f s3 rf ff hC => ?_
  · have e13 := s3.keep _ _ e12 fun h => h
    have s03 := s02.and s3
    simp only [get_at e13, List.getElem?_cons_zero, List.getElem?_cons_succ, ldI_mk, ldS_mk]
    refine rpotentials (he.keep s03 fun _ _ _ h => h) (fun _ H6 s6 => ?_) (fun hr => (hw (chk_zero.2 hr)).elim) fun hr => (hw (chk_zero.2 hr)).elim
    refine bcn (fun h => (h (by trivial)).elim) fun _ => ?_
    refine llongs (f := fun _ => 0) (g := fun _ => 0) (fun i hi => by omega) (fun i hi => by omega) (by decide) rfl (fun i hi => by omega) ?_
    refine bcb (fun h => by cases h) fun _ => ?_
    refine bc (fun h => ?_) fun _ => kk H6 (s03.and s6)
    have := chk_range N n e
    omega
  · have hG := hr.gr
    have hN1 := hr.N1
    have hst := hS.stl hG fun v _ => .inl rfl
    have e13 := s3.keep _ _ e12 fun h => h
    have s03 := s02.and s3
    simp only [get_at e13, List.getElem?_cons_zero, List.getElem?_cons_succ, ldI_mk, ldS_mk]
    refine rpotentials (he.keep s03 fun _ _ _ h => h) (fun hw => (hw (chk_zero.2 hr)).elim) (fun _ h => (h hst).elim) fun _ _ H6 p c s6 r6 f6 => ?_
    refine bcn (fun h => (h (by trivial)).elim) fun _ => ?_
    refine llongs (rD.keep s6 fun _ _ h => h).rdr r6.rdr (by omega) rfl (fun i hi => (hS.jacM hG (fun v _ => .inl rfl) i hi).symm) ?_
    refine bcb (fun h => by cases h) fun _ => ?_
    refine bc (fun h => absurd h (by decide)) fun _ => kk H6 (s03.and s6)
  · have e13 := s3.keep _ _ e12 fun h => h
    have s03 := s02.and s3
    simp only [get_at e13, List.getElem?_cons_zero, List.getElem?_cons_succ, ldI_mk, ldS_mk]
    refine rpotentials (he.keep s03 fun _ _ _ h => h) (fun hw => (hw (chk_zero.2 hr)).elim) (fun _ _ H6 s6 => ?_) fun _ h => (hC.ns h).elim
    have e16 := s6.keep _ _ e13 fun h => h
    refine bcn (fun h => (h (by trivial)).elim) fun _ => ?_
    refine llongs (f := fun _ => 0) (g := fun _ => 0) (fun i hi => by omega) (fun i hi => by omega) (by decide) rfl (fun i hi => by omega) ?_
    refine bcb (fun h => by cases h) fun _ => ?_
    refine bc (fun _ => ?_) fun h => (h (by trivial)).elim
    simp only [get_at e16, List.getElem?_cons_zero, List.getElem?_cons_succ, ldI_mk, ldS_mk]
    exact lbelow (he.keep (s03.and s6) fun _ _ _ h => h) hr (rf.keep s6 fun _ _ h => h).rdr hC.cyc fun H8 s8 => kk H8 ((s03.and s6).and s8)
end
end Go.Mz
