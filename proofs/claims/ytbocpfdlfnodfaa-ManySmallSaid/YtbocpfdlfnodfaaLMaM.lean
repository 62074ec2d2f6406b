/-
  ManySmall, walked: whatever the graph and the room, it answers true and leaves what was there as it was.
-/
import Derived.Test.YtbocpfdlfnodfaaLMaA
import Derived.Test.YtbocpfdlfnodfaaRf19
import Derived.Test.YtbocpfdlfnodfaaGLMM
set_option linter.unusedSimpArgs false
set_option linter.unusedVariables false
namespace Go.Mz
section
variable {E : Value → Hp → Prop}

theorem lmsmall {N : Int} {ep : Option Addr} {n ec : Nat} {e : Nat → Edg} {bp : Option Addr} {bn bk : Nat} {b : Nat → Int} {H : Hp} {K : Bool → Hp → Prop} (he : Rdr H ep n e) (hn : n < 2 ^ 62) (hb : Rdr H bp bn b) (hbn : bn < 2 ^ 62)
    (kk : ∀ H', Step (fun _ => False) H H' → K true H') : compasslaw19_ManySmall.call N ep n ec bp bn bk E H K := by
  refine compasslaw19_ManySmall.of (compasslaw19_ManySmall.run_eq ?_)
  unfold compasslaw19_ManySmall.run_t
  refine nwk fun b1 H1 hb1 e1 s1 => ?_
  refine lawake19 fun H2 s2 => ?_
  have e12 := s2.keep _ _ e1 fun h => h
  have s02 := s1.and s2
  refine bcb (fun h => by cases h) fun _ => ?_
  simp only [get_at e12, List.getElem?_cons_zero, List.getElem?_cons_succ, ldI_mk, ldS_mk]
  refine sMany (he.keep s02 fun _ _ _ h => h) (by omega) (hb.keep s02 fun _ _ _ h => h) (by omega) fun H3 mp mn mc g cp cn cc cv c s3 r1 r2 f1 f2 f12 l1 l2 hF => ?_
  have e13 := s3.keep _ _ e12 fun h => h
  have s03 := s02.and s3
  have out : (c ≠ 0 → mn = 0) → compasslaw19_ManySmall.j1 mp mn mc c E H3 K := fun h => by
    refine compasslaw19_ManySmall.j1_eq ?_
    unfold compasslaw19_ManySmall.j1_t
    refine bc (fun _ => kk H3 s03) fun hne => ?_
    rw [decide_eq_true (by have := h hne; omega)]
    exact kk H3 s03
  rcases hF with ⟨hbad, h0, _⟩ | ⟨hc, hr, hbd, hgs, hP⟩
  · exact bcn (fun _ => out fun _ => h0) fun h => (hbad.ne h).elim
  · refine bcn (fun h => (h hc).elim) fun _ => ?_
    simp only [get_at e13, List.getElem?_cons_zero, List.getElem?_cons_succ, ldI_mk, ldS_mk]
    refine bc (fun _ => out fun h => (h hc).elim) fun h10 => ?_
    try simp only [get_at e13, List.getElem?_cons_zero, List.getElem?_cons_succ, ldI_mk, ldS_mk]
    refine rmost19 (he.keep s03 fun _ _ _ h => h) hr (hb.keep s03 fun _ _ _ h => h) hbd (by omega) fun H4 best s4 hgot hall => ?_
    have h1 := hall _ _ hP.tk
    have h2 : best ≤ mn := by
      rcases hgot with h | ⟨o, ho⟩
      · omega
      · exact many_bound hr hbd hgs hP ho
    rw [decide_eq_true (by omega)]
    exact kk H4 (s03.and s4)
end
end Go.Mz
