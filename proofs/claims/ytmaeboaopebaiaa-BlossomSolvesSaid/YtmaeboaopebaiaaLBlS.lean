/-
  BlossomSolves, walked: whatever the graph, it answers true and leaves what was there as it was.
-/
import Derived.Test.YtmaeboaopebaiaaLBlA
import Derived.Test.YtmaeboaopebaiaaRefC
import Derived.Test.YtmaeboaopebaiaaGLBS
set_option linter.unusedSimpArgs false
set_option linter.unusedVariables false
namespace Go.Mz
section
variable {E : Value → Hp → Prop}

theorem lbsolves {N : Int} {ep : Option Addr} {n ec : Nat} {e : Nat → Edg} {H : Hp} {K : Bool → Hp → Prop} (he : Rdr H ep n e) (hn : n < 2 ^ 62)
    (kk : ∀ H', Step (fun _ => False) H H' → K true H') : compasslaw17_BlossomSolves.call N ep n ec E H K := by
  refine compasslaw17_BlossomSolves.of (compasslaw17_BlossomSolves.run_eq ?_)
  unfold compasslaw17_BlossomSolves.run_t
  refine nwk fun b1 H1 hb1 e1 s1 => ?_
  refine lawake17 fun H2 s2 => ?_
  have e12 := s2.keep _ _ e1 fun h => h
  have s02 := s1.and s2
  refine bcb (fun h => by cases h) fun _ => ?_
  simp only [get_at e12, List.getElem?_cons_zero, List.getElem?_cons_succ, ldI_mk, ldS_mk]
  refine sBlo (he.keep s02 fun _ _ _ h => h) (by omega) fun H3 mp mn mc g cp cn cc cv s3 r1 r2 f1 f2 f12 l1 l2 hF => ?_
  have e13 := s3.keep _ _ e12 fun h => h
  have s03 := s02.and s3
  simp only [get_at e13, List.getElem?_cons_zero, List.getElem?_cons_succ, ldI_mk, ldS_mk]
  refine rcheck (he.keep s03 fun _ _ _ h => h) fun H4 a s4 => ?_
  have e14 := s4.keep _ _ e13 fun h => h
  have s04 := s03.and s4
  rcases hF with ⟨h0, rfl, rfl⟩ | ⟨h0, hr, hA⟩
  · refine bcn (fun _ => ?_) fun h => (h0 h).elim
    refine bct rfl ?_
    refine bct rfl ?_
    exact kk H4 s04
  · refine bcn (fun h => (h h0).elim) fun _ => ?_
    simp only [get_at e14, List.getElem?_cons_zero, List.getElem?_cons_succ, ldI_mk, ldS_mk]
    have hl : LrgP N n e g mn cv cn := by
      have := hA.lrg
      have hN0 := hr.N0
      rwa [show ((N.toNat : Nat) : Int) = N by omega] at this
    refine rlargest (he.keep s04 fun _ _ _ h => h) (r1.keep s4 fun _ _ h => h).rdr (by omega) (r2.keep s4 fun _ _ h => h).rdr (by omega) fun H5 c s5 ho => ?_
    have hc := ho.good hr hl
    subst hc
    refine bct h0 ?_
    refine bct rfl ?_
    rw [decide_eq_true (by simp)]
    exact kk H5 (s04.and s5)
end
end Go.Mz
