/-
  PairProved, walked: whatever the graph, it answers true and leaves what was there as it was.
-/
import Derived.Test.YtmaeboaopebaiaaLPaA
import Derived.Test.YtmaeboaopebaiaaVouS1
import Derived.Test.YtmaeboaopebaiaaGLPP
set_option linter.unusedSimpArgs false
set_option linter.unusedVariables false
namespace Go.Mz

theorem CovP.same {N : Int} {n k k' q q' : Nat} {e : Nat → Edg} {m m' cv cv' : Nat → Int} (hr : Right N n e) (h : CovP N n e m k cv q) (h' : CovP N n e m' k' cv' q') : k = k' := by
  have h1 := cover_bound hr h.tk h'.cvr
  have h2 := cover_bound hr h'.tk h.cvr
  have := h.eq; have := h'.eq
  omega

theorem prC_kind {N left : Int} {n : Nat} {e : Nat → Edg} {k k' : Int} (h : k = 1 ∨ k = 2) (h' : k' = 1 ∨ k' = 2) : prC N n e left k = prC N n e left k' := by
  unfold prC; rw [if_pos h, if_pos h']

theorem Out.good {N : Int} {n : Nat} {e : Nat → Edg} {P : Prop} {c : Int} (h : Out N n e P c) (hr : Right N n e) (hp : P) : c = 0 := by
  rcases h with ⟨h, _⟩ | ⟨h, h'⟩ | ⟨_, _, h⟩
  · exact h
  · rw [h] at h'; exact (h' (chk_zero.2 hr)).elim
  · exact (h hp).elim

section
variable {E : Value → Hp → Prop}

theorem lpproved {N left : Int} {ep : Option Addr} {n ec : Nat} {e : Nat → Edg} {H : Hp} {K : Bool → Hp → Prop} (he : Rdr H ep n e) (hn : n < 2 ^ 62)
    (kk : ∀ H', Step (fun _ => False) H H' → K true H') : compasslaw15_PairProved.call N ep n ec left E H K := by
  refine compasslaw15_PairProved.of (compasslaw15_PairProved.run_eq ?_)
  unfold compasslaw15_PairProved.run_t
  refine nwk fun b1 H1 hb1 e1 s1 => ?_
  refine lawake15 fun H2 s2 => ?_
  have e12 := s2.keep _ _ e1 fun h => h
  have s02 := s1.and s2
  refine bcb (fun h => by cases h) fun _ => ?_
  simp only [get_at e12, List.getElem?_cons_zero, List.getElem?_cons_succ, ldI_mk, ldS_mk]
  refine sPair (he.keep s02 fun _ _ _ h => h) (by omega) fun H3 mp mn mc g cp cn cc cv s3 r1 r2 f1 f2 f12 l1 l2 hF => ?_
  have e13 := s3.keep _ _ e12 fun h => h
  have s03 := s02.and s3
  simp only [get_at e13, List.getElem?_cons_zero, List.getElem?_cons_succ, ldI_mk, ldS_mk]
  refine sPair (he.keep s03 fun _ _ _ h => h) (by omega) fun H4 mp' mn' mc' g' cp' cn' cc' cv' s4 r1' r2' f1' f2' f12' l1' l2' hF' => ?_
  have e14 := s4.keep _ _ e13 fun h => h
  have s04 := s03.and s4
  have ek : prC N n e left 1 = prC N n e left 2 := prC_kind (.inl rfl) (.inr rfl)
  refine bcn (fun h => (h ek).elim) fun _ => ?_
  rcases hF with ⟨h0, rfl, rfl⟩ | ⟨h0, hr, hc, hC⟩
  · rcases hF' with ⟨h0', rfl, rfl⟩ | ⟨h0', _⟩
    · refine bcn (fun h => (h rfl).elim) fun _ => ?_
      refine bcn (fun _ => ?_) fun h => (h0 h).elim
      exact kk H4 s04
    · exact (h0 (ek.trans h0')).elim
  · rcases hF' with ⟨h0', _⟩ | ⟨h0', _, _, hC'⟩
    · exact (h0' (ek.symm.trans h0)).elim
    · have hmm : mn = mn' := hC.same hr hC'
      subst hmm
      refine bcn (fun h => (h rfl).elim) fun _ => ?_
      refine bcn (fun h => (h h0).elim) fun _ => ?_
      simp only [get_at e14, List.getElem?_cons_zero, List.getElem?_cons_succ, ldI_mk, ldS_mk]
      refine vCovered (he.keep s04 fun _ _ _ h => h) (by omega) (r1.keep s4 fun _ _ h => h).rdr (by omega) (r2.keep s4 fun _ _ h => h).rdr (by omega) fun H5 c s5 ho => ?_
      have e15 := s5.keep _ _ e14 fun h => h
      have s05 := s04.and s5
      simp only [get_at e15, List.getElem?_cons_zero, List.getElem?_cons_succ, ldI_mk, ldS_mk]
      refine vCovered (he.keep s05 fun _ _ _ h => h) (by omega) (r1'.keep s5 fun _ _ h => h).rdr (by omega) (r2'.keep s5 fun _ _ h => h).rdr (by omega) fun H6 c' s6 ho' => ?_
      have hc0 := ho.good hr hC
      have hc0' := ho'.good hr hC'
      subst hc0 hc0'
      refine bc (fun _ => ?_) fun h => (h rfl).elim
      refine bc (fun _ => ?_) fun h => (h rfl).elim
      refine bc (fun _ => ?_) fun h => (h rfl).elim
      simp only [if_true, decide_true]
      exact kk H6 (s05.and s6)
end
end Go.Mz
