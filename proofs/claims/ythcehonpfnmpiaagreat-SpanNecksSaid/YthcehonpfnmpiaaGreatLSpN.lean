/-
  SpanNecks, walked: whatever the graph and the nodes, it answers true and leaves what was there as it was.
-/
import Derived.Test.YthcehonpfnmpiaaGreatSpG
import Derived.Test.YthcehonpfnmpiaaGreatGLSN
set_option linter.unusedSimpArgs false
set_option linter.unusedVariables false
namespace Go.Mz

theorem nkC_symm {N : Int} {n : Nat} {e : Nat → Edg} {u v : Int} : nkC N n e v u = nkC N n e u v := by
  unfold nkC
  by_cases h : chk N n e ≠ 0
  · rw [if_pos h, if_pos h]
  · rw [if_neg h, if_neg h]
    by_cases h2 : u < 0 ∨ N ≤ u ∨ v < 0 ∨ N ≤ v
    · rw [if_pos h2, if_pos (by omega)]
    · rw [if_neg h2, if_neg (by omega)]
      by_cases h3 : u = v
      · rw [if_pos h3, if_pos h3.symm]
      · rw [if_neg h3, if_neg fun h => h3 h.symm]

theorem NkR.symm {N : Int} {n : Nat} {e : Nat → Edg} {u v x code : Int} (h : NkR N n e u v x code) : NkR N n e v u x code := by
  rcases h with ⟨h1, h2, h3⟩ | ⟨h1, hr, h2⟩
  · exact .inl ⟨by rw [nkC_symm]; exact h1, h2, by rw [nkC_symm]; exact h3⟩
  · refine .inr ⟨by rw [nkC_symm]; exact h1, hr, ?_⟩
    rcases h2 with ⟨a1, a2, a3⟩ | ⟨a1, k, a2, a3⟩
    · exact .inl ⟨a1, a2, fun c => a3 c.symm⟩
    · exact .inr ⟨a1, k, a2, a3.symm⟩

section
variable {E : Value → Hp → Prop}

theorem lnecks {N u v : Int} {ep : Option Addr} {n ec : Nat} {e : Nat → Edg} {H : Hp} {K : Bool → Hp → Prop} (he : Rdr H ep n e) (hn : n < 2 ^ 62)
    (kk : ∀ H', Step (fun _ => False) H H' → K true H') : compasslaw10_SpanNecks.call N ep n ec u v E H K := by
  refine compasslaw10_SpanNecks.of (compasslaw10_SpanNecks.run_eq ?_)
  unfold compasslaw10_SpanNecks.run_t
  refine nwk fun b1 H1 hb1 e1 s1 => ?_
  refine lawake10 fun H2 s2 => ?_
  have e12 := s2.keep _ _ e1 fun h => h
  have s02 := s1.and s2
  refine bcb (fun h => by cases h) fun _ => ?_
  simp only [get_at e12, List.getElem?_cons_zero, List.getElem?_cons_succ, ldI_mk, ldS_mk]
  refine sneck (he.keep s02 fun _ _ _ h => h) (by omega) fun H3 x c s3 hR => ?_
  have e13 := s3.keep _ _ e12 fun h => h
  have s03 := s02.and s3
  simp only [get_at e13, List.getElem?_cons_zero, List.getElem?_cons_succ, ldI_mk, ldS_mk]
  refine rneck10 (he.keep s03 fun _ _ _ h => h) fun H4 x' c' s4 hR' => ?_
  have e14 := s4.keep _ _ e13 fun h => h
  have s04 := s03.and s4
  simp only [get_at e14, List.getElem?_cons_zero, List.getElem?_cons_succ, ldI_mk, ldS_mk]
  refine sneck (he.keep s04 fun _ _ _ h => h) (by omega) fun H5 x'' c'' s5 hR'' => ?_
  obtain ⟨rfl, rfl⟩ := hR.uniq hR'
  obtain ⟨rfl, rfl⟩ := hR.uniq hR''.symm
  refine bct rfl ?_
  refine bct rfl ?_
  refine bct rfl ?_
  rw [decide_eq_true rfl]
  exact kk H5 (s04.and s5)
end
end Go.Mz
