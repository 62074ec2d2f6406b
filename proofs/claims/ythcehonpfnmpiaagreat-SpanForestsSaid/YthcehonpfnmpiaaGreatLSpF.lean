/-
  SpanForests and SpanNecks, walked: whatever the graph, the kind, the nodes, they answer true and leave what was there as it was.
-/
import Derived.Test.YthcehonpfnmpiaaGreatSpG
import Derived.Test.YthcehonpfnmpiaaGreatGLSF
set_option linter.unusedSimpArgs false
set_option linter.unusedVariables false
namespace Go.Mz
section
variable {E : Value → Hp → Prop}

theorem lforests {N kind : Int} {ep : Option Addr} {n ec : Nat} {e : Nat → Edg} {H : Hp} {K : Bool → Hp → Prop} (he : Rdr H ep n e) (hn : n < 2 ^ 62)
    (kk : ∀ H', Step (fun _ => False) H H' → K true H') : compasslaw10_SpanForests.call N ep n ec kind E H K := by
  refine compasslaw10_SpanForests.of (compasslaw10_SpanForests.run_eq ?_)
  unfold compasslaw10_SpanForests.run_t
  refine nwk fun b1 H1 hb1 e1 s1 => ?_
  refine lawake10 fun H2 s2 => ?_
  have e12 := s2.keep _ _ e1 fun h => h
  have s02 := s1.and s2
  refine bcb (fun h => by cases h) fun _ => ?_
  simp only [get_at e12, List.getElem?_cons_zero, List.getElem?_cons_succ, ldI_mk, ldS_mk]
  refine sforest (he.keep s02 fun _ _ _ h => h) (by omega) fun H3 p m c f cost s3 r3 _ hor _ => ?_
  have e13 := s3.keep _ _ e12 fun h => h
  have s03 := s02.and s3
  simp only [get_at e13, List.getElem?_cons_zero, List.getElem?_cons_succ, ldI_mk, ldS_mk]
  refine rforest10 (he.keep s03 fun _ _ _ h => h) fun H4 p' m' c' f' cost' s4 r4 hor' => ?_
  have hsame : m = m' ∧ (∀ j, j < m → f j = f' j) ∧ cost = cost' ∧ m < 2 ^ 62 := by
    rcases hor with ⟨h1, h2, h3⟩ | ⟨h1, hr, hF, h3⟩
    · rcases hor' with ⟨_, h5, h6⟩ | ⟨h4, _⟩
      · exact ⟨by omega, fun j hj => by omega, by omega, by omega⟩
      · exact (h1 h4).elim
    · rcases hor' with ⟨h4, _⟩ | ⟨_, _, hF', h6⟩
      · exact (h4 h1).elim
      · obtain ⟨q1, q2⟩ := hF.uniq hF'
        subst q1
        have := hF.le
        have := hr.n1
        exact ⟨rfl, q2, by rw [h3, h6, csum_congr q2], by omega⟩
  refine lints10 (r3.rdr.keep s4 fun _ _ _ h => h) r4.rdr hsame.2.2.2 fun b hb => ?_
  have hbt : b = true := hb.2 ⟨hsame.1, hsame.2.1⟩
  subst hbt
  refine bcb (fun _ => ?_) fun h => by cases h
  refine bct hsame.2.2.1 ?_
  rw [decide_eq_true rfl]
  exact kk H4 (s03.and s4)
end
end Go.Mz
