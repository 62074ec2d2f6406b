/-
  SpanNeckCuts, walked: whatever the graph and the nodes, it answers true and leaves what was there as it was.
-/
import Derived.Test.YthcehonpfnmpiaaGreatSpG
import Derived.Test.YthcehonpfnmpiaaGreatGLSU
set_option linter.unusedSimpArgs false
set_option linter.unusedVariables false
namespace Go.Mz
section
variable {E : Value → Hp → Prop}

theorem lcuts {N u v : Int} {ep : Option Addr} {n ec : Nat} {e : Nat → Edg} {H : Hp} {K : Bool → Hp → Prop} (he : Rdr H ep n e) (hn : n < 2 ^ 62)
    (kk : ∀ H', Step (fun _ => False) H H' → K true H') : compasslaw10_SpanNeckCuts.call N ep n ec u v E H K := by
  refine compasslaw10_SpanNeckCuts.of (compasslaw10_SpanNeckCuts.run_eq ?_)
  unfold compasslaw10_SpanNeckCuts.run_t
  refine nwk fun b1 H1 hb1 e1 s1 => ?_
  refine lawake10 fun H2 s2 => ?_
  have e12 := s2.keep _ _ e1 fun h => h
  have s02 := s1.and s2
  refine bcb (fun h => by cases h) fun _ => ?_
  simp only [get_at e12, List.getElem?_cons_zero, List.getElem?_cons_succ, ldI_mk, ldS_mk]
  refine sneck (he.keep s02 fun _ _ _ h => h) (by omega) fun H3 x c s3 hR => ?_
  have e13 := s3.keep _ _ e12 fun h => h
  have s03 := s02.and s3
  refine bcn (fun hc => ?_) fun hc => ?_
  · have : x = 0 := by
      rcases hR with ⟨_, h, _⟩ | ⟨_, _, ⟨_, h, _⟩ | ⟨h, _⟩⟩
      · exact h
      · exact h
      · exact (hc h).elim
    rw [decide_eq_true this]
    exact kk H3 s03
  obtain ⟨hz, hr, k, rfl, hk⟩ : nkC N n e u v = 0 ∧ Right N n e ∧ ∃ k : Nat, x = k ∧ NkP e n u.toNat v.toNat k := by
    rcases hR with ⟨h1, _, h2⟩ | ⟨h1, hr, ⟨h2, _⟩ | ⟨_, k, h2, h3⟩⟩
    · exact (h1 (h2.symm.trans hc)).elim
    · omega
    · exact ⟨h1, hr, k, h2, h3⟩
  have hkn := hk.lt
  have hN0 := hr.N0; have hN1 := hr.N1; have hn1 := hr.n1
  have huv : 0 ≤ u ∧ u < N ∧ 0 ≤ v ∧ v < N := by
    unfold nkC at hz
    rw [if_neg (fun h => h (chk_zero.2 hr))] at hz
    by_cases h : u < 0 ∨ N ≤ u ∨ v < 0 ∨ N ≤ v
    · rw [if_pos h] at hz; cases hz
    · omega
  refine bc (fun h => by omega) fun _ => ?_
  simp only [get_at e13, List.getElem?_cons_zero, List.getElem?_cons_succ, ldI_mk, ldS_mk]
  refine bc (fun h => by omega) fun _ => ?_
  try simp only [get_at e13, List.getElem?_cons_zero, List.getElem?_cons_succ, ldI_mk, ldS_mk]
  refine rupparts (he.keep s03 fun _ _ _ h => h) hr hkn fun H4 b4 L s4 r4 hL => ?_
  have e14 := s4.keep _ _ e13 fun h => h
  have s04 := s03.and s4
  simp only [get_at e14, List.getElem?_cons_zero, List.getElem?_cons_succ, ldI_mk, ldS_mk]
  refine rupparts (he.keep s04 fun _ _ _ h => h) hr hkn fun H5 b5 L' s5 r5 hL' => ?_
  have e15 := s5.keep _ _ e14 fun h => h
  have s05 := s04.and s5
  simp only [get_at e15, List.getElem?_cons_zero, List.getElem?_cons_succ, ldI_mk, ldS_mk]
  refine sforest (he.keep s05 fun _ _ _ h => h) (by omega) fun H6 p m c6 f cost s6 r6 _ hor hm => ?_
  have s06 := s05.and s6
  have r46 := r4.keep (s5.and s6) fun _ _ h => h
  have r56 := r5.keep s6 fun _ _ h => h
  have hsp : spC N n e 3 = 0 := by unfold spC; rw [if_neg (fun h => h (chk_zero.2 hr)), if_neg (by omega)]
  obtain ⟨_, _, hF, _⟩ := hor.resolve_left fun h => h.1 hsp
  -- the neck is among them
  obtain ⟨q, hq, hfq⟩ : ∃ q, q < m ∧ f q = (k : Int) := by
    obtain ⟨i, hi, ei⟩ := List.mem_iff_getElem.1 (frs_mem.2 hk.inF)
    have hl := hF.len
    exact ⟨i, by omega, by rw [hF.at' i (by omega), lsF, List.getElem?_eq_getElem hi, ei]; rfl⟩
  refine compasslaw10_SpanNeckCuts.l1_rule (fun u' v' k7 p1 n1 c1 p2 n2 c2 p3 n3 c3 t61 i62 H' => u' = u ∧ v' = v ∧ k7 = (k : Int) ∧ p1 = some ⟨b4, 0, none⟩ ∧ n1 = N.toNat ∧ p2 = some ⟨b5, 0, none⟩ ∧ n2 = N.toNat ∧ p3 = p ∧ n3 = m ∧ t61 = m ∧ H' = H6 ∧ ∃ i : Nat, i62 = i ∧ i ≤ q) (fun u' v' k7 p1 n1 c1 p2 n2 c2 p3 n3 c3 t61 i62 H' => m - i62.toNat) ?_ ⟨rfl, rfl, rfl, rfl, rfl, rfl, rfl, rfl, rfl, rfl, rfl, 0, rfl, Nat.zero_le _⟩
  rintro u' v' k7 p1 n1 c1 p2 n2 c2 p3 n3 c3 t61 i62 H' ⟨rfl, rfl, rfl, rfl, rfl, rfl, rfl, rfl, rfl, rfl, rfl, i, rfl, hi⟩ X hX
  refine compasslaw10_SpanNeckCuts.b1_eq ?_
  unfold compasslaw10_SpanNeckCuts.b1_t
  refine bc (fun hlt => ?_) fun hge => by omega
  refine r6.ixI (by omega) (by omega) ?_
  rw [Int.toNat_natCast]
  refine bc (fun heq => ?_) fun hne => ?_
  · refine r46.ixI (by omega) (by omega) ?_
    refine r46.ixI (by omega) (by omega) ?_
    refine bcn (fun _ => ?_) fun h => (hk.no (upto_false.1 ((hL _ _).1 h))).elim
    refine r56.ixI (by omega) (by omega) ?_
    refine r56.ixI (by omega) (by omega) ?_
    rw [decide_eq_true ((hL' _ _).2 (upto_true.2 hk.yes))]
    exact kk H' s06
  · have hiq : i ≠ q := fun h => hne (by rw [h]; exact hfq)
    rw [i64w (by omega) (by omega)]
    exact hX _ _ _ _ _ _ _ _ _ _ _ _ _ _ _ ⟨rfl, rfl, rfl, rfl, rfl, rfl, rfl, rfl, rfl, rfl, rfl, i + 1, by omega, by omega⟩ (by omega)
end
end Go.Mz
