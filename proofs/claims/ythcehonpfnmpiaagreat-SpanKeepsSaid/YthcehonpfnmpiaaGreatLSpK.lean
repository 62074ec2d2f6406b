/-
  SpanKeeps, walked: whatever the graph and the kind, it answers true and leaves what was there as it was.
-/
import Derived.Test.YthcehonpfnmpiaaGreatSpG
import Derived.Test.YthcehonpfnmpiaaGreatKpA
import Derived.Test.YthcehonpfnmpiaaGreatGLSK
set_option linter.unusedSimpArgs false
set_option linter.unusedVariables false
namespace Go.Mz
section
variable {E : Value → Hp → Prop}

theorem lkeeps10 {N kind : Int} {ep : Option Addr} {n ec : Nat} {e : Nat → Edg} {H : Hp} {K : Bool → Hp → Prop} (he : Rdr H ep n e) (hn : n ≤ 4398046511103)
    (kk : ∀ H', Step (fun _ => False) H H' → K true H') : compasslaw10_SpanKeeps.call N ep n ec kind E H K := by
  refine compasslaw10_SpanKeeps.of (compasslaw10_SpanKeeps.run_eq ?_)
  unfold compasslaw10_SpanKeeps.run_t
  refine nwk fun b1 H1 hb1 e1 s1 => ?_
  refine lawake10 fun H2 s2 => ?_
  have e12 := s2.keep _ _ e1 fun h => h
  have s02 := s1.and s2
  refine bcb (fun h => by cases h) fun _ => ?_
  simp only [get_at e12, List.getElem?_cons_zero, List.getElem?_cons_succ, ldI_mk, ldS_mk]
  refine kmine (he.keep s02 fun _ _ _ h => h) hn e12 fun b2 H8 p c e' s8 e28 fb2 r8 hee hlast fp np => ?_
  have e18 := s8.keep _ _ e12 fun h => h
  have s08 := s02.and s8
  have g8 : Rdr H8 p n e := ((r8.cut (m := n) (by omega)).congr hee).rdr
  simp only [get_at e28, List.getElem?_cons_zero, List.getElem?_cons_succ, ldI_mk, ldS_mk]
  refine sforest g8 (by omega) fun H9 p9 m9 c9 f9 cost9 s9 r9 fr9 hor9 hm9 => ?_
  have e29 := s9.keep _ _ e28 fun h => h
  simp only [get_at e29, List.getElem?_cons_zero, List.getElem?_cons_succ, ldI_mk, ldS_mk]
  refine sforest (g8.keep s9 fun _ _ _ h => h) (by omega) fun H10 p10 m10 c10 f10 cost10 s10 r10 fr10 hor10 hm10 => ?_
  have e210 := s10.keep _ _ e29 fun h => h
  simp only [get_at e210, List.getElem?_cons_zero, List.getElem?_cons_succ, ldI_mk, ldS_mk]
  refine sneck (g8.keep (s9.and s10) fun _ _ _ h => h) (by omega) fun H11 x code s11 _ => ?_
  have s811 := (s9.and s10).and s11
  have e111 := s811.keep _ _ e18 fun h => h
  have e211 := s11.keep _ _ e210 fun h => h
  have s011 := s08.and s811
  refine ksame (he.keep s011 fun _ _ _ h => h) hn e111 e211 (r8.keep s811 fun _ _ h => h) hee hlast fun H12 s12 => ?_
  have e112 := s12.keep _ _ e111 fun h => h
  have s012 := s011.and s12
  have r912 := r9.keep ((s10.and s11).and s12) fun _ _ h => h
  have r1012 := r10.keep (s11.and s12) fun _ _ h => h
  have d910 : ∀ y, fpS p9 y → ¬ fpS p10 y := fun y hy h => (r9.live hy) (fr10 y h)
  have f9H : ∀ y, fpS p9 y → H y = none := fun y hy => s08.mono y (fr9 y hy)
  have n91 : ¬ fpS p9 b1 := fun h => by have := fr9 _ h; rw [e18] at this; cases this
  refine compasslaw10_SpanKeeps.l1_rule (fun k' g2 p1 n1 c1 p2 n2 c2 t67 i68 H' => k' = kind ∧ g2 = b1 ∧ p1 = p9 ∧ n1 = m9 ∧ c1 = c9 ∧ p2 = p10 ∧ n2 = m10 ∧ c2 = c10 ∧ t67 = m9 ∧ ∃ i : Nat, i68 = i ∧ i ≤ m9 ∧ Step (fun _ => False) H H' ∧ H' b1 = some ⟨[.int .i64 N, .slice ep n ec], 24⟩ ∧ (∃ f, Row H' p9 m9 c9 f) ∧ Row H' p10 m10 c10 f10)
    (fun k' g2 p1 n1 c1 p2 n2 c2 t67 i68 H' => m9 - i68.toNat) ?_ ⟨rfl, rfl, rfl, rfl, rfl, rfl, rfl, rfl, rfl, 0, rfl, Nat.zero_le _, s012, e112, ⟨_, r912⟩, r1012⟩
  rintro k' g2 p1 n1 c1 p2 n2 c2 t67 i68 H13 ⟨rfl, rfl, rfl, rfl, rfl, rfl, rfl, rfl, rfl, i, rfl, hi, s13, e113, ⟨f, r13⟩, r14⟩ X hX
  refine compasslaw10_SpanKeeps.b1_eq ?_
  unfold compasslaw10_SpanKeeps.b1_t
  refine bc (fun hlt => ?_) fun hge => ?_
  · refine r13.stI (by omega) (by omega) _ fun H14 r15 s14 => ?_
    rw [i64w (by omega) (by omega)]
    exact hX _ _ _ _ _ _ _ _ _ _ _ ⟨rfl, rfl, rfl, rfl, rfl, rfl, rfl, rfl, rfl, i + 1, by omega, by omega, s13.own s14 f9H, s14.keep _ _ e113 n91, ⟨_, r15⟩, r14.keep s14 fun y hy h => d910 y h hy⟩ (by omega)
  · clear hX
    refine compasslaw10_SpanKeeps.j1_eq ?_
    unfold compasslaw10_SpanKeeps.j1_t
    simp only [get_at e113, List.getElem?_cons_zero, List.getElem?_cons_succ, ldI_mk, ldS_mk]
    refine rforest10 (he.keep s13 fun _ _ _ h => h) fun H14 p' m' c' f' cost' s14 r15 hor' => ?_
    have hsame : n2 = m' ∧ (∀ j, j < n2 → f10 j = f' j) := by
      rcases hor10 with ⟨h1, h2, h3⟩ | ⟨h1, hr, hF, h3⟩
      · rcases hor' with ⟨_, h5, h6⟩ | ⟨h4, _⟩
        · exact ⟨by omega, fun j hj => by omega⟩
        · exact (h1 h4).elim
      · rcases hor' with ⟨h4, _⟩ | ⟨_, _, hF', h6⟩
        · exact (h4 h1).elim
        · exact hF.uniq hF'
    refine lints10 (r14.rdr.keep s14 fun _ _ _ h => h) r15.rdr (by omega) fun b hb => ?_
    have hbt : b = true := hb.2 hsame
    subst hbt
    exact kk H14 (s13.and s14)
end
end Go.Mz
