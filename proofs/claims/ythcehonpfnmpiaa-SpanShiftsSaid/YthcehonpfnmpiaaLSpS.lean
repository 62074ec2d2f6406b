/-
  SpanShifts, walked: whatever the graph, the kind and the amount, it answers true and leaves what was there as it was.
-/
import Derived.Test.YthcehonpfnmpiaaLSpH
import Derived.Test.YthcehonpfnmpiaaRfK
import Derived.Test.YthcehonpfnmpiaaGLSS
set_option linter.unusedSimpArgs false
set_option linter.unusedVariables false
namespace Go.Mz

/-- one edge's cost is written -/
theorem Row.stCo {H : Hp} {p : Option Addr} {n c : Nat} {f : Nat → Edg} (h : Row H p n c f) {i : Int} (h0 : 0 ≤ i) (h1 : i < (n : Int)) (x : Int) {K : Hp → Prop}
    (k : ∀ H', Row H' p n c (upf f i.toNat ((f i.toNat).1, (f i.toNat).2.1, (f i.toNat).2.2.1, x)) → Step (fpS p) H H' → K H') : Mz.ix p n i 4 fun b o => stC H b (o + 3) [.int .i64 x] K := by
  have hw : El.w Edg = 4 := rfl
  rcases h.cells with h' | ⟨b, o, y, rfl, hx, ⟨hl, hz⟩, ha⟩
  · have := h.le; omega
  · have hi : i.toNat < n := by omega
    have hnc := h.le
    rw [hw] at hl
    refine ⟨⟨h0, h1⟩, y, hx, ⟨by simp; omega, hz⟩, k _ ⟨h.le, h.cap, .inr ⟨b, o, _, rfl, upd_same, ⟨by rw [putL_length, hw]; exact hl, hz⟩, ?_⟩⟩ (Step.wr hx ⟨_, rfl⟩)⟩
    intro t ht j hj
    rw [hw] at hj ⊢
    rw [putL_get _ _ _ _ (by simp; omega)]
    have hold := ha t ht j hj
    rw [hw] at hold
    by_cases e : t = i.toNat
    · subst e
      rw [upf_same]
      by_cases ej : j = 3
      · subst ej
        rw [if_pos (by simp)]
        have : o + i.toNat * 4 + 3 - (o + i.toNat * 4 + 3) = 0 := by omega
        rw [this]; rfl
      · rw [if_neg (by simp; omega), hold]
        rcases (by omega : j = 0 ∨ j = 1 ∨ j = 2) with rfl | rfl | rfl <;> rfl
    · rw [if_neg (by simp; omega), upf_ne e]
      exact hold

theorem inF_congr {e e' : Nat → Edg} {n k : Nat} (h1 : ∀ i, i < n → ePr e' i = ePr e i) (h2 : ∀ a b, a < n → b < n → (ahd e' a b ↔ ahd e a b)) : InF e' n k ↔ InF e n k := by
  have key : ∀ {a b : Nat → Edg}, (∀ i, i < n → ePr b i = ePr a i) → (∀ i j, i < n → j < n → (ahd b i j ↔ ahd a i j)) → InF b n k → InF a n k := fun {a b} q1 q2 h => by
    refine ⟨h.1, fun c => h.2 ?_⟩
    rw [q1 k h.1]
    exact c.mono fun u v ⟨i, hi, ha, e1, e2⟩ => .edge ⟨i, hi, (q2 i k hi h.1).2 ha, by rw [q1 i hi]; exact e1, by rw [q1 i hi]; exact e2⟩
  exact ⟨key h1 h2, key (fun i hi => (h1 i hi).symm) fun i j hi hj => (h2 i j hi hj).symm⟩

theorem frs_congr {e e' : Nat → Edg} {n : Nat} (h1 : ∀ i, i < n → ePr e' i = ePr e i) (h2 : ∀ a b, a < n → b < n → (ahd e' a b ↔ ahd e a b)) : frs e' n = frs e n := by
  unfold frs
  refine List.filter_congr fun k _ => ?_
  rw [decide_eq_decide]
  exact inF_congr h1 h2

/-- an edge that costs so much more -/
def mvd (e : Nat → Edg) (d : Int) (i : Nat) : Edg := ((e i).1, (e i).2.1, (e i).2.2.1, (e i).2.2.2 + d)

section
variable {E : Value → Hp → Prop}

theorem lshifts {N kind d : Int} {ep : Option Addr} {n ec : Nat} {e : Nat → Edg} {H : Hp} {K : Bool → Hp → Prop} (he : Rdr H ep n e) (hn : n ≤ 4398046511104)
    (kk : ∀ H', Step (fun _ => False) H H' → K true H') : compasslaw10_SpanShifts.call N ep n ec kind d E H K := by
  refine compasslaw10_SpanShifts.of (compasslaw10_SpanShifts.run_eq ?_)
  unfold compasslaw10_SpanShifts.run_t
  refine nwk fun b1 H1 hb1 e1 s1 => ?_
  refine lawake10 fun H2 s2 => ?_
  have e12 := s2.keep _ _ e1 fun h => h
  have s02 := s1.and s2
  refine bcb (fun h => by cases h) fun _ => ?_
  simp only [get_at e12, List.getElem?_cons_zero, List.getElem?_cons_succ, ldI_mk, ldS_mk]
  refine rcopy (he.keep s02 fun _ _ _ h => h) hn fun H3 q qc e' s3 r3 heq fq => ?_
  have e13 := s3.keep _ _ e12 fun h => h
  have s03 := s02.and s3
  refine nwst rfl rfl fun b4 H4 hb4 e4 s4 => ?_
  have e14 := s4.keep _ _ e13 fun h => h
  have s04 := s03.and s4
  have r4 := r3.keep s4 fun _ _ h => h
  have q1 : ¬ fpS q b1 := fun h => by have := fq _ h; rw [e12] at this; cases this
  have q4 : ¬ fpS q b4 := fun h => r3.live h hb4
  have fq' : ∀ y, fpS q y → H y = none := fun y hy => s02.mono y (fq y hy)
  simp only [get_at e4, List.getElem?_cons_zero, List.getElem?_cons_succ, ldI_mk, ldS_mk]
  refine compasslaw10_SpanShifts.l1_rule (fun k' d' g3 m7 t21 i22 H' => k' = kind ∧ d' = d ∧ g3 = b1 ∧ m7 = b4 ∧ t21 = n ∧ ∃ i : Nat, i22 = i ∧ i ≤ n ∧ Step (fun _ => False) H H' ∧ H' b1 = some ⟨[.int .i64 N, .slice ep n ec], 24⟩ ∧ H' b4 = some ⟨[.int .i64 N, .slice q n qc], 24⟩ ∧ ∃ f, Row H' q n qc f ∧ ∀ j, j < n → f j = if j < i then mvd e d j else e j)
    (fun k' d' g3 m7 t21 i22 H' => n - i22.toNat) ?_ ⟨rfl, rfl, rfl, rfl, rfl, 0, rfl, Nat.zero_le _, s04, e14, e4, e', r4, fun j hj => by rw [if_neg (by omega)]; exact heq j hj⟩
  clear r4 e4 e14 s04
  rintro k' d' g3 m7 t21 i22 H5 ⟨rfl, rfl, rfl, rfl, rfl, i, rfl, hi, s5, e15, e45, f, r5, hf⟩ X hX
  refine compasslaw10_SpanShifts.b1_eq ?_
  unfold compasslaw10_SpanShifts.b1_t
  refine bc (fun hlt => ?_) fun hge => ?_
  · refine bc (fun _ => kk H5 s5) fun h1 => ?_
    refine bc (fun _ => kk H5 s5) fun h2 => ?_
    simp only [get_at e45, List.getElem?_cons_zero, List.getElem?_cons_succ, ldI_mk, ldS_mk]
    refine r5.rdr.edgeC (by omega) (by omega) ?_
    refine bc (fun _ => kk H5 s5) fun h3 => ?_
    try simp only [get_at e45, List.getElem?_cons_zero, List.getElem?_cons_succ, ldI_mk, ldS_mk]
    refine r5.rdr.edgeC (by omega) (by omega) ?_
    refine bc (fun _ => kk H5 s5) fun h4 => ?_
    try simp only [get_at e45, List.getElem?_cons_zero, List.getElem?_cons_succ, ldI_mk, ldS_mk]
    refine r5.rdr.edgeC (by omega) (by omega) ?_
    rw [Int.toNat_natCast] at h3 h4 ⊢
    rw [i64w (by omega) (by omega)]
    refine r5.stCo (by omega) (by omega) _ fun H6 r6 s6 => ?_
    rw [Int.toNat_natCast] at r6
    rw [i64w (by omega) (by omega)]
    have hfi : f i = e i := by rw [hf i (by omega), if_neg (by omega)]
    refine hX _ _ _ _ _ _ _ ⟨rfl, rfl, rfl, rfl, rfl, i + 1, by omega, by omega, s5.own s6 fq', s6.keep _ _ e15 q1, s6.keep _ _ e45 q4, _, r6, fun j hj => ?_⟩ (by omega)
    by_cases ej : j = i
    · subst ej
      rw [upf_same, if_pos (by omega), hfi]; rfl
    · rw [upf_ne ej, hf j hj]
      by_cases hji : j < i
      · rw [if_pos hji, if_pos (by omega)]
      · rw [if_neg hji, if_neg (by omega)]
  · clear hX
    have hin : i = n := by omega
    subst hin
    have r5' : Row H5 q i qc (mvd e d') := r5.congr fun j hj => by rw [hf j hj, if_pos hj]
    have hfr : frs (mvd e d') i = frs e i := frs_congr (fun _ _ => rfl) fun a b _ _ => by
      have ea : (mvd e d' a).co = (e a).co + d' := rfl
      have eb : (mvd e d' b).co = (e b).co + d' := rfl
      unfold ahd
      rw [ea, eb]
      omega
    refine compasslaw10_SpanShifts.j1_eq ?_
    unfold compasslaw10_SpanShifts.j1_t
    simp only [get_at e15, List.getElem?_cons_zero, List.getElem?_cons_succ, ldI_mk, ldS_mk]
    refine sforest (he.keep s5 fun _ _ _ h => h) (by omega) fun H6 p6 m6 c6 f6 cost6 s6 r6 _ hor6 hm6 => ?_
    have e46 := s6.keep _ _ e45 fun h => h
    simp only [get_at e46, List.getElem?_cons_zero, List.getElem?_cons_succ, ldI_mk, ldS_mk]
    refine sforest (r5'.rdr.keep s6 fun _ _ _ h => h) (by omega) fun H7 p7 m7 c7 f7 cost7 s7 r7 _ hor7 hm7 => ?_
    have s07 := (s5.and s6).and s7
    have done : spC N i e k' ≠ 0 ∨ spC N i (mvd e d') k' ≠ 0 → compasslaw10_SpanShifts.j2 p6 m6 c6 (spC N i e k') p7 m7 c7 (spC N i (mvd e d') k') E H7 K := fun h => by
      refine compasslaw10_SpanShifts.j2_eq ?_
      unfold compasslaw10_SpanShifts.j2_t
      refine bcn (fun hc => ?_) fun hc => ?_
      · have := (hor6.resolve_right fun h => hc h.1).2.1
        refine bct (by omega) ?_
        exact kk H7 s07
      · have hc7 := h.resolve_left fun h => h hc
        have := (hor7.resolve_right fun h => hc7 h.1).2.1
        refine bcn (fun _ => ?_) fun h => (hc7 h).elim
        rw [decide_eq_true (by omega)]
        exact kk H7 s07
    refine bcn (fun hc => done (.inl hc)) fun hc6 => ?_
    refine bcn (fun hc => done (.inr hc)) fun hc7 => ?_
    obtain ⟨_, _, hF6, _⟩ := hor6.resolve_left fun h => h.1 hc6
    obtain ⟨_, _, hF7, _⟩ := hor7.resolve_left fun h => h.1 hc7
    refine lints10 (r6.rdr.keep s7 fun _ _ _ h => h) r7.rdr (by omega) fun b hb => ?_
    have l6 := hF6.len
    have l7 := hF7.len
    rw [hfr] at l7
    have hbt : b = true := hb.2 ⟨by omega, fun j hj => by rw [hF6.at' j hj, hF7.at' j (by omega), hfr]⟩
    subst hbt
    exact kk H7 s07
end
end Go.Mz
