/-
  Joined: GrA, GrB.
-/
import Derived.Test.YthcehonpfnmpiaaGreatPkM
import Derived.Test.YthcehonpfnmpiaaGreatMzZ
import Derived.Test.YthcehonpfnmpiaaGreatGGra
import Derived.Test.YthcehonpfnmpiaaGreatGRfc
set_option linter.unusedSimpArgs false
set_option linter.unusedVariables false
/-
  Walks of layer 3: Check of a graph.
-/
namespace Go.Mz
section
variable {E : Value → Hp → Prop}

theorem glabel {a b c d : Int} {H : Hp} {K : Bool → Hp → Prop} (k : ∀ H', Step (fun _ => False) H H' → K (decide (0 ≤ c ∧ c ≤ 1048576 ∧ -1048576 ≤ d ∧ d ≤ 1048576)) H') : graph_label.call a b c d E H K := by
  refine graph_label.of (graph_label.run_eq ?_)
  unfold graph_label.run_t
  refine nwk fun b1 H1 hb1 e1 s1 => ?_
  simp only [get_at e1, List.getElem?_cons_zero, List.getElem?_cons_succ, ldI_mk]
  have k := k H1 s1
  refine bc (fun h0 => ?_) fun h0 => ?_
  · refine bc (fun h1 => ?_) fun h1 => ?_
    · refine bc (fun h2 => ?_) fun h2 => ?_
      · by_cases h3 : d ≤ 1048576
        · rw [decide_eq_true h3]; rwa [decide_eq_true (by omega)] at k
        · rw [decide_eq_false h3]; rwa [decide_eq_false (by omega)] at k
      · rwa [decide_eq_false (by omega)] at k
    · rwa [decide_eq_false (by omega)] at k
  · rwa [decide_eq_false (by omega)] at k

theorem gcheck {N : Int} {p : Option Addr} {n c : Nat} {e : Nat → Edg} {H : Hp} {K : Int → Int → Hp → Prop} (he : Rdr H p n e) (hn : n < 2 ^ 63)
    (k : ∀ H' a, Step (fun _ => False) H H' → K (chk N n e) a H') : graph_Check.call N p n c E H K := by
  refine graph_Check.of (graph_Check.run_eq ?_)
  unfold graph_Check.run_t
  refine nwk fun b1 H1 hb1 e1 s1 => ?_
  refine nwk fun b2 H2 hb2 e2 s2 => ?_
  have e1 := s2.keep _ _ e1 fun h => h
  have s02 := s1.trans s2 fun _ h => .inl h
  have f2 : H b2 = none := s1.mono _ hb2
  simp only [get_at e1, List.getElem?_cons_zero, List.getElem?_cons_succ, ldI_mk, ldS_mk]
  have bad : 3 = chk N n e → graph_Check.j1 b2 E H2 K := fun hc => by
    refine graph_Check.j1_eq ?_
    unfold graph_Check.j1_t
    refine stk e2 rfl rfl fun H3 e3 s3 => ?_
    simp only [get_at e3, List.getElem?_cons_zero, List.getElem?_cons_succ, ldI_mk]
    rw [hc]
    exact k _ _ (s02.own s3 fun b hb => hb ▸ f2)
  refine bc (fun h => bad (by unfold chk; rw [if_pos (by omega)])) fun h1 => ?_
  refine bc (fun h => bad (by unfold chk; rw [if_pos (by omega)])) fun h2 => ?_
  refine bc (fun h => bad (by unfold chk; rw [if_pos (by omega)])) fun h3 => ?_
  have hc : chk N n e = chkE N e n := by unfold chk; rw [if_neg (by omega)]
  refine graph_Check.l1_rule (fun g1 t2 tp tn tc t22 t23 H' => b1 = g1 ∧ b2 = t2 ∧ p = tp ∧ n = tn ∧ t22 = n ∧ ∃ i : Nat, t23 = i ∧ i ≤ n ∧ chkE N e i = 0 ∧ Step (fun _ => False) H H' ∧ H' b1 = some ⟨[.int .i64 N, .slice p n c], 24⟩ ∧ H' b2 = some ⟨[.int .i64 0, .int .i64 0], 47⟩)
    (fun g1 t2 tp tn tc t22 t23 H' => n - t23.toNat) ?_ ⟨rfl, rfl, rfl, rfl, rfl, 0, rfl, by omega, rfl, s02, e1, e2⟩
  clear e1 e2 s1 s2 s02 bad hb2
  rintro g1 t2 tp tn tc t22 t23 H3 ⟨rfl, rfl, rfl, rfl, rfl, i, rfl, hi, hz, s3, e1, e2⟩ X hX
  refine graph_Check.b1_eq ?_
  unfold graph_Check.b1_t
  refine bc (fun hlt => ?_) fun hge => ?_
  · refine (he.keep s3 fun _ _ _ h => h).edge (by omega) (by omega) ?_
    simp only [Int.toNat_natCast]
    refine nwst rfl rfl fun b4 H4 hb4 e4 s4 => ?_
    have e1 := s4.keep _ _ e1 fun h => h
    have e2 := s4.keep _ _ e2 fun h => h
    have s04 := s3.trans s4 fun _ h => .inl h
    simp only [get_at e4, get_at e1, List.getElem?_cons_zero, List.getElem?_cons_succ, ldI_mk, ldS_mk]
    have fin : ∀ d : Nat, n = i + 1 + d → ∀ z, badE N (e i) = z → z ≠ 0 → chk N n e = z := fun d hd z hb hz' => by
      have h1 : chkE N e (i + 1) = z := by
        show (if chkE N e i = 0 then badE N (e i) else chkE N e i) = z
        rw [if_pos hz, hb]
      rw [hc, hd, chkE_stay (by rw [h1]; exact hz'), h1]
    have bad : ((e i).fr < 0 ∨ N ≤ (e i).fr ∨ (e i).to < 0 ∨ N ≤ (e i).to) → graph_Check.j2 b2 (i : Int) X E H4 K := fun hb => by
      refine graph_Check.j2_eq ?_
      unfold graph_Check.j2_t
      refine stk e2 rfl rfl fun H5 e5 s5 => ?_
      simp only [get_at e5, List.getElem?_cons_zero, List.getElem?_cons_succ, ldI_mk]
      have := k H5 i (s04.own s5 fun b hb => hb ▸ f2)
      rwa [fin (n - (i + 1)) (by omega) 30 (by unfold badE; rw [if_pos hb]) (by decide)] at this
    refine bc (fun h => bad (.inl h)) fun c1 => ?_
    refine bc (fun h => bad (.inr (.inl h))) fun c2 => ?_
    refine bc (fun h => bad (.inr (.inr (.inl h)))) fun c3 => ?_
    refine bc (fun h => bad (.inr (.inr (.inr h)))) fun c4 => ?_
    refine glabel fun H5 s5 => ?_
    have e2 := s5.keep _ _ e2 fun h => h
    have e1 := s5.keep _ _ e1 fun h => h
    have s05 := s04.trans s5 fun _ h => .inl h
    refine bcn (fun hl => ?_) fun hl => ?_
    · refine stk e2 rfl rfl fun H6 e6 s6 => ?_
      simp only [get_at e6, List.getElem?_cons_zero, List.getElem?_cons_succ, ldI_mk]
      have := k H6 i (s05.own s6 fun b hb => hb ▸ f2)
      rwa [fin (n - (i + 1)) (by omega) 31 (by unfold badE; rw [if_neg (by omega), if_neg hl]) (by decide)] at this
    · rw [i64w (by omega) (by omega)]
      refine hX _ _ _ _ _ _ _ _ ⟨rfl, rfl, rfl, rfl, rfl, i + 1, by omega, by omega, ?_, s05, e1, e2⟩ (by omega)
      show (if chkE N e i = 0 then badE N (e i) else chkE N e i) = 0
      rw [if_pos hz]; unfold badE; rw [if_neg (by omega), if_pos hl]
  · refine graph_Check.j3_eq ?_
    unfold graph_Check.j3_t
    have : i = n := by omega
    subst this
    refine stk e2 rfl rfl fun H5 e5 s5 => ?_
    simp only [get_at e5, List.getElem?_cons_zero, List.getElem?_cons_succ, ldI_mk]
    have := k H5 0 (s3.own s5 fun b hb => hb ▸ f2)
    rwa [hc, hz] at this

end
end Go.Mz

/-
  The document's functions of layer 3, walked: Check.
-/
namespace Go.Mz
section
variable {E : Value → Hp → Prop}

theorem rbad {N a b c d : Int} {H : Hp} {K : Int → Hp → Prop} (k : ∀ H', Step (fun _ => False) H H' → K (badE N (a, b, c, d)) H') : compassref03_Bad.call N a b c d E H K := by
  refine compassref03_Bad.of (compassref03_Bad.run_eq ?_)
  unfold compassref03_Bad.run_t
  refine nwk fun b1 H1 hb1 e1 s1 => ?_
  simp only [get_at e1, List.getElem?_cons_zero, List.getElem?_cons_succ, ldI_mk]
  have k := k H1 s1
  have b30 : (a < 0 ∨ N ≤ a ∨ b < 0 ∨ N ≤ b) → K 30 H1 := fun h => by
    have : badE N (a, b, c, d) = 30 := by unfold badE; exact if_pos h
    rwa [this] at k
  have b31 : ¬ (a < 0 ∨ N ≤ a ∨ b < 0 ∨ N ≤ b) → ¬ (0 ≤ c ∧ c ≤ 1048576 ∧ -1048576 ≤ d ∧ d ≤ 1048576) → K 31 H1 := fun h h' => by
    have : badE N (a, b, c, d) = 31 := by unfold badE; rw [if_neg h]; exact if_neg h'
    rwa [this] at k
  refine bc (fun h => b30 (.inl h)) fun h1 => ?_
  refine bc (fun h => b30 (.inr (.inr (.inl h)))) fun h2 => ?_
  refine bc (fun h => b30 (.inr (.inl h))) fun h3 => ?_
  refine bc (fun h => b30 (.inr (.inr (.inr h)))) fun h4 => ?_
  refine bc (fun h => b31 (by omega) (by omega)) fun h5 => ?_
  refine bc (fun h => b31 (by omega) (by omega)) fun h6 => ?_
  refine bc (fun h => b31 (by omega) (by omega)) fun h7 => ?_
  refine bc (fun h => b31 (by omega) (by omega)) fun h8 => ?_
  have : badE N (a, b, c, d) = 0 := by unfold badE; rw [if_neg (show ¬ (a < 0 ∨ N ≤ a ∨ b < 0 ∨ N ≤ b) by omega)]; exact if_pos (show 0 ≤ c ∧ c ≤ 1048576 ∧ -1048576 ≤ d ∧ d ≤ 1048576 by omega)
  rwa [this] at k

theorem rcheck {N : Int} {p : Option Addr} {n c : Nat} {e : Nat → Edg} {H : Hp} {K : Int → Int → Hp → Prop} (he : Rdr H p n e)
    (k : ∀ H' a, Step (fun _ => False) H H' → K (chk N n e) a H') : compassref03_Check.call N p n c E H K := by
  refine compassref03_Check.of (compassref03_Check.run_eq ?_)
  unfold compassref03_Check.run_t
  refine nwk fun b1 H1 hb1 e1 s1 => ?_
  simp only [get_at e1, List.getElem?_cons_zero, List.getElem?_cons_succ, ldI_mk, ldS_mk]
  have bad : 3 = chk N n e → K 3 0 H1 := fun h => by rw [h]; exact k _ _ s1
  refine bc (fun h => bad (by unfold chk; rw [if_pos (by omega)])) fun h1 => ?_
  refine bc (fun h => bad (by unfold chk; rw [if_pos (by omega)])) fun h2 => ?_
  refine bc (fun h => bad (by unfold chk; rw [if_pos (by omega)])) fun h3 => ?_
  have hc : chk N n e = chkE N e n := by unfold chk; rw [if_neg (by omega)]
  refine compassref03_Check.l1_rule (fun g1 i4 H' => b1 = g1 ∧ ∃ i : Nat, i4 = i ∧ i ≤ n ∧ chkE N e i = 0 ∧ Step (fun _ => False) H H' ∧ H' b1 = some ⟨[.int .i64 N, .slice p n c], 24⟩)
    (fun g1 i4 H' => n - i4.toNat) ?_ ⟨rfl, 0, rfl, by omega, rfl, s1, e1⟩
  clear e1 s1 bad
  rintro g1 i4 H3 ⟨rfl, i, rfl, hi, hz, s3, e3⟩ X hX
  refine compassref03_Check.b1_eq ?_
  unfold compassref03_Check.b1_t
  simp only [get_at e3, List.getElem?_cons_zero, List.getElem?_cons_succ, ldI_mk, ldS_mk]
  refine bc (fun hlt => ?_) fun hge => ?_
  · refine (he.keep s3 fun _ _ _ h => h).edge (by omega) (by omega) ?_
    simp only [Int.toNat_natCast]
    refine rbad fun H4 s4 => ?_
    have s04 := s3.and s4
    refine bcn (fun hb => ?_) fun hb => ?_
    · have h1 : chkE N e (i + 1) = badE N (e i) := by
        show (if chkE N e i = 0 then badE N (e i) else chkE N e i) = _
        rw [if_pos hz]
      have : chk N n e = badE N (e i) := by
        rw [hc, show n = i + 1 + (n - (i + 1)) by omega, chkE_stay (by rw [h1]; exact hb), h1]
      have k := k H4 i s04
      rwa [this] at k
    · rw [i64w (by omega) (by omega)]
      refine hX _ _ _ ⟨rfl, i + 1, by omega, by omega, ?_, s04, s4.keep _ _ e3 fun h => h⟩ (by omega)
      show (if chkE N e i = 0 then badE N (e i) else chkE N e i) = 0
      rw [if_pos hz]; exact hb
  · have : i = n := by omega
    subst this
    have k := k H3 0 s3
    rwa [hc, hz] at k

end
end Go.Mz
