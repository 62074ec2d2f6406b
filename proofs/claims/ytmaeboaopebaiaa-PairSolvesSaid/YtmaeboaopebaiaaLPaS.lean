/-
  PairSolves, walked: whatever the graph, the side and the kind, it answers true and leaves what was there as it was.
-/
import Derived.Test.YtmaeboaopebaiaaLPaA
import Derived.Test.YtmaeboaopebaiaaPkZ
import Derived.Test.YtmaeboaopebaiaaRefB
import Derived.Test.YtmaeboaopebaiaaPkO
import Derived.Test.YtmaeboaopebaiaaGLPS
set_option linter.unusedSimpArgs false
set_option linter.unusedVariables false
namespace Go.Mz
section
variable {E : Value → Hp → Prop}

theorem lpsolves {N left kind : Int} {ep : Option Addr} {n ec : Nat} {e : Nat → Edg} {H : Hp} {K : Bool → Hp → Prop} (he : Rdr H ep n e) (hn : n < 2 ^ 62)
    (kk : ∀ H', Step (fun _ => False) H H' → K true H') : compasslaw15_PairSolves.call N ep n ec left kind E H K := by
  refine compasslaw15_PairSolves.of (compasslaw15_PairSolves.run_eq ?_)
  unfold compasslaw15_PairSolves.run_t
  refine nwk fun b1 H1 hb1 e1 s1 => ?_
  refine lawake15 fun H2 s2 => ?_
  have e12 := s2.keep _ _ e1 fun h => h
  have s02 := s1.and s2
  refine bcb (fun h => by cases h) fun _ => ?_
  simp only [get_at e12, List.getElem?_cons_zero, List.getElem?_cons_succ, ldI_mk, ldS_mk]
  refine bsides (he.keep s02 fun _ _ _ h => h) (by omega) fun H3 a s3 hA => ?_
  refine nwst rfl rfl fun b4 H4 hb4 e4 s4 => ?_
  have e14 := (s3.and s4).keep _ _ e12 fun h => h
  have s04 := (s02.and s3).and s4
  simp only [get_at e14, List.getElem?_cons_zero, List.getElem?_cons_succ, ldI_mk, ldS_mk]
  refine rsides (he.keep s04 fun _ _ _ h => h) hn fun H5 a' s5 hA' => ?_
  have e15 := s5.keep _ _ e14 fun h => h
  have e45 := s5.keep _ _ e4 fun h => h
  have s05 := s04.and s5
  simp only [get_at e15, List.getElem?_cons_zero, List.getElem?_cons_succ, ldI_mk, ldS_mk]
  refine sPair (he.keep s05 fun _ _ _ h => h) (by omega) fun H6 mp mn mc g cp cn cc cv s6 r1 r2 f1 f2 f12 l1 l2 hF => ?_
  have e16 := s6.keep _ _ e15 fun h => h
  have e46 := s6.keep _ _ e45 fun h => h
  have s06 := s05.and s6
  simp only [get_at e46, List.getElem?_cons_zero, List.getElem?_cons_succ, ldI_mk, ldS_mk]
  refine bcn (fun h => (h (by first | rfl | trivial)).elim) fun _ => ?_
  try simp only [get_at e46, List.getElem?_cons_zero, List.getElem?_cons_succ, ldI_mk, ldS_mk]
  refine bcn (fun h => (h (hA.uniq hA')).elim) fun _ => ?_
  have fin : ∀ {c : Int}, c = prC N n e left kind → compasslaw15_PairSolves.j1 left b1 c mp mn mc cp cn cc (prC N n e left kind) E H6 K := fun {c} hcd => by
    refine compasslaw15_PairSolves.j1_eq ?_
    unfold compasslaw15_PairSolves.j1_t
    rcases hF with ⟨h0, hm0, hc0⟩ | ⟨h0, hr, hcr, hC⟩
    · refine bcn (fun _ => ?_) fun h => (h0 (hcd ▸ h)).elim
      refine bct hcd.symm ?_
      refine bct (by omega) ?_
      rw [decide_eq_true (by omega)]
      exact kk H6 s06
    · refine bcn (fun h => (h (hcd.trans h0)).elim) fun _ => ?_
      simp only [get_at e16, List.getElem?_cons_zero, List.getElem?_cons_succ, ldI_mk, ldS_mk]
      refine rcovered (he.keep s06 fun _ _ _ h => h) r1.rdr (by omega) r2.rdr (by omega) fun H7 c7 s7 ho => ?_
      have hc7 := ho.good hr hC
      subst hc7
      have e17 := s7.keep _ _ e16 fun h => h
      refine bct h0 ?_
      refine bct (by first | rfl | trivial) ?_
      simp only [get_at e17, List.getElem?_cons_zero, List.getElem?_cons_succ, ldI_mk, ldS_mk, if_true]
      have hN0 := hr.N0
      obtain ⟨M, hM⟩ : ∃ M : Nat, N = M := ⟨N.toNat, by omega⟩
      have hl0 := hcr.1
      obtain ⟨L, hL⟩ : ∃ L : Nat, left = L := ⟨left.toNat, by omega⟩
      subst hM hL
      refine rmost15 (he.keep (s06.and s7) fun _ _ _ h => h) hr hcr hC fun H8 s8 => ?_
      refine bct (by first | rfl | trivial) ?_
      rw [decide_eq_true (by first | rfl | trivial)]
      exact kk H8 ((s06.and s7).and s8)
  refine bc (fun hz => ?_) fun hz => ?_
  · refine bc (fun hk => ?_) fun hk => ?_
    · exact fin (by unfold prC; rw [if_neg (by omega), if_neg (by omega)])
    · refine bc (fun hk2 => ?_) fun hk2 => ?_
      · exact fin (by unfold prC; rw [if_neg (by omega), if_neg (by omega)])
      · exact fin (by unfold prC; rw [if_neg (by omega), if_pos (by omega)]; exact hz)
  · exact fin (by unfold prC; rw [if_pos hz])
end
end Go.Mz
