/-
  ManySolves, walked: whatever the graph and the room, it answers true and leaves what was there as it was.
-/
import Derived.Test.YtbocpfdlfnodfaaLMaA
import Derived.Test.YtbocpfdlfnodfaaRefE
import Derived.Test.YtbocpfdlfnodfaaGLMS
set_option linter.unusedSimpArgs false
set_option linter.unusedVariables false
namespace Go.Mz
section
variable {E : Value → Hp → Prop}

theorem lmsolves {N : Int} {ep : Option Addr} {n ec : Nat} {e : Nat → Edg} {bp : Option Addr} {bn bk : Nat} {b : Nat → Int} {H : Hp} {K : Bool → Hp → Prop} (he : Rdr H ep n e) (hn : n < 2 ^ 62) (hb : Rdr H bp bn b) (hbn : bn < 2 ^ 62)
    (kk : ∀ H', Step (fun _ => False) H H' → K true H') : compasslaw19_ManySolves.call N ep n ec bp bn bk E H K := by
  refine compasslaw19_ManySolves.of (compasslaw19_ManySolves.run_eq ?_)
  unfold compasslaw19_ManySolves.run_t
  refine nwk fun b1 H1 hb1 e1 s1 => ?_
  refine lawake19 fun H2 s2 => ?_
  have e12 := s2.keep _ _ e1 fun h => h
  have s02 := s1.and s2
  refine bcb (fun h => by cases h) fun _ => ?_
  simp only [get_at e12, List.getElem?_cons_zero, List.getElem?_cons_succ, ldI_mk, ldS_mk]
  refine sMany (he.keep s02 fun _ _ _ h => h) (by omega) (hb.keep s02 fun _ _ _ h => h) (by omega) fun H3 mp mn mc g cp cn cc cv c s3 r1 r2 f1 f2 f12 l1 l2 hF => ?_
  have e13 := s3.keep _ _ e12 fun h => h
  have s03 := s02.and s3
  simp only [get_at e13, List.getElem?_cons_zero, List.getElem?_cons_succ, ldI_mk, ldS_mk]
  refine rgadget (he.keep s03 fun _ _ _ h => h) (hb.keep s03 fun _ _ _ h => h) (by omega) (fun H4 op oc s4 hr hbd hgs ro fo => ?_) fun H4 c' s4 hbad => ?_
  · rcases hF with ⟨hb', _⟩ | ⟨hc, _, _, _, hP⟩
    · exact (hb'.right ⟨hr, hbd, hgs⟩).elim
    · subst hc
      refine nwst rfl rfl fun b2 H5 hb2 e5 s5 => ?_
      refine bcn (fun h => (h rfl).elim) fun _ => ?_
      have e15 := (s4.and s5).keep _ _ e13 fun h => h
      have s05 := (s03.and s4).and s5
      simp only [get_at e15, List.getElem?_cons_zero, List.getElem?_cons_succ, ldI_mk, ldS_mk]
      refine rmany (he.keep s05 fun _ _ _ h => h) (hb.keep s05 fun _ _ _ h => h) (by omega) (r1.keep (s4.and s5) fun _ _ h => h).rdr (by omega) (r2.keep (s4.and s5) fun _ _ h => h).rdr (by omega) fun H6 c6 s6 ho => ?_
      have : c6 = 0 := ho.det (.inl ⟨rfl, hr, hbd, hgs, hP⟩)
      subst this
      refine bct (by first | rfl | trivial) ?_
      refine bct (by first | rfl | trivial) ?_
      rw [if_pos rfl, decide_eq_true rfl]
      exact kk H6 (s05.and s6)
  · refine nwst rfl rfl fun b2 H5 hb2 e5 s5 => ?_
    rcases hF with ⟨hb', hm0, hc0⟩ | ⟨hc, hr, hbd, hgs, hP⟩
    · refine bcn (fun _ => ?_) fun h => (hbad.ne h).elim
      subst hm0 hc0
      refine bct (hb'.det hbad) ?_
      refine bct (by first | rfl | trivial) ?_
      exact kk H5 ((s03.and s4).and s5)
    · exact (hbad.right ⟨hr, hbd, hgs⟩).elim
end
end Go.Mz
