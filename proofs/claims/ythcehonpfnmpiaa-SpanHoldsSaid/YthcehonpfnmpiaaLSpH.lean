/-
  SpanHolds, walked: whatever the graph, it answers true and leaves what was there as it was.
-/
import Derived.Test.YthcehonpfnmpiaaPkT
import Derived.Test.YthcehonpfnmpiaaGLSH
set_option linter.unusedSimpArgs false
set_option linter.unusedVariables false
namespace Go.Mz

theorem Lst.of {R S : Nat → Nat → Prop} {L : Nat → Nat} (h : Lst R L) (e : ∀ u v, Cn S u v ↔ Cn R u v) : Lst S L :=
  ⟨fun v => (e _ _).2 (h.cn v), fun u v k => h.le u v ((e _ _).1 k)⟩

theorem prs_all {pr : Nat → Nat × Nat} {n u v : Nat} : Cn (Prs pr n) u v ↔ Cn (Sel pr n fun _ => True) u v :=
  ⟨fun h => h.mono fun _ _ ⟨i, hi, e1, e2⟩ => .edge ⟨i, hi, trivial, e1, e2⟩, fun h => h.mono fun _ _ ⟨i, hi, _, e1, e2⟩ => .edge ⟨i, hi, e1, e2⟩⟩

/-- what the graph with some edges alone joins -/
theorem prs_sel {e es : Nat → Edg} {n : Nat} {l : List Nat} (hl : ∀ x ∈ l, x < n) (he : ∀ i, i < l.length → es i = lsG e l i) {u v : Nat} : Cn (Prs (ePr es) l.length) u v ↔ Cn (Sel (ePr e) n fun t => t ∈ l) u v := by
  have ep : ∀ i (hi : i < l.length), ePr es i = ePr e l[i] := fun i hi => by
    unfold ePr
    rw [he i hi, lsG, List.getElem?_eq_getElem hi]; rfl
  constructor
  · refine fun h => h.mono fun x y ⟨i, hi, e1, e2⟩ => .edge ⟨l[i], hl _ (List.getElem_mem hi), List.getElem_mem hi, ?_, ?_⟩
    · rw [e1, ep i hi]
    · rw [e2, ep i hi]
  · refine fun h => h.mono fun x y ⟨t, ht, hm, e1, e2⟩ => ?_
    obtain ⟨i, hi, et⟩ := List.mem_iff_getElem.1 hm
    exact .edge ⟨i, hi, by rw [e1, ep i hi, et], by rw [e2, ep i hi, et]⟩

theorem right_sel {N : Int} {e es : Nat → Edg} {n : Nat} {l : List Nat} (hr : Right N n e) (hl : ∀ x ∈ l, x < n) (hlen : l.length ≤ 4096) (he : ∀ i, i < l.length → es i = lsG e l i) : Right N l.length es :=
  ⟨hr.N0, hr.N1, hlen, fun i hi => by
    rw [he i hi, lsG, List.getElem?_eq_getElem hi]
    exact hr.ed _ (hl _ (List.getElem_mem hi))⟩

theorem selE_frs {e : Nat → Edg} {n m : Nat} {f : Nat → Int} (hF : FoR e n m f) : ∀ {i : Nat}, i ≤ m → selE f n i = (frs e n).take i
  | 0, _ => rfl
  | i + 1, hi => by
    obtain ⟨x, hx, hxF, hxi⟩ := hF.mem (i := i) (by omega)
    have := hxF.1
    show (if _ then _ else _) = _
    rw [if_pos (by omega), hx, Int.toNat_natCast, selE_frs hF (by omega), List.take_add_one, hxi]
    rfl

theorem FoR.sel {e : Nat → Edg} {n m : Nat} {f : Nat → Int} (hF : FoR e n m f) : selE f n m = frs e n := by
  rw [selE_frs hF (Nat.le_refl _), hF.len, List.take_length]

/-- how many parts were met -/
theorem pno_step {R : Nat → Nat → Prop} {L : Nat → Nat} (h : Lst R L) (v : Nat) : max (cnt (fun w => L w == w) v) (pno L v + 1) = cnt (fun w => L w == w) (v + 1) := by
  have hs := h.self (v := v)
  unfold pno
  show _ = cnt (fun w => L w == w) v + if (fun w => L w == w) v then 1 else 0
  by_cases e : L v = v
  · rw [e, if_pos (by simp [e])]
    omega
  · rw [if_neg (by simpa using e)]
    have h1 : cnt (fun w => L w == w) (L v + 1) ≤ cnt (fun w => L w == w) v := by
      have : ∀ d, cnt (fun w => L w == w) (L v + 1) ≤ cnt (fun w => L w == w) (L v + 1 + d) := fun d => by
        induction d with
        | zero => exact Nat.le_refl _
        | succ d ih =>
          show _ ≤ cnt (fun w => L w == w) (L v + 1 + d) + _
          omega
      have := this (v - (L v + 1))
      rwa [show L v + 1 + (v - (L v + 1)) = v by omega] at this
    have h2 : cnt (fun w => L w == w) (L v + 1) = cnt (fun w => L w == w) (L v) + 1 := by
      show cnt (fun w => L w == w) (L v) + (if (fun w => L w == w) (L v) then 1 else 0) = _
      rw [if_pos (by simp [h.idem])]
    omega

open Classical in
theorem frs_count {e : Nat → Edg} {n : Nat} : (frs e n).length = cnt (fun t => decide (InF e n t)) n := by
  have key : ∀ (p : Nat → Bool) m, ((List.range m).filter p).length = cnt p m := fun p m => by
    induction m with
    | zero => rfl
    | succ m ih =>
      rw [List.range_succ, List.filter_append, List.length_append, ih]
      show _ = cnt p m + _
      cases h : p m with
      | true => simp [h]
      | false => simp [h]
  exact key _ n

theorem right_rng {N : Int} {n : Nat} {e : Nat → Edg} (hr : Right N n e) : ∀ i, i < n → (ePr e i).1 < N.toNat ∧ (ePr e i).2 < N.toNat := fun i hi => by
  have hx := hr.ed i hi
  have hf0 := hx.f0; have hf1 := hx.f1; have ht0 := hx.t0; have ht1 := hx.t1
  unfold ePr
  exact ⟨by show (e i).fr.toNat < _; omega, by show (e i).to.toNat < _; omega⟩

section
variable {E : Value → Hp → Prop}

theorem lholds {N : Int} {ep : Option Addr} {n ec : Nat} {e : Nat → Edg} {H : Hp} {K : Bool → Hp → Prop} (he : Rdr H ep n e) (hn : n < 2 ^ 62)
    (kk : ∀ H', Step (fun _ => False) H H' → K true H') : compasslaw10_SpanHolds.call N ep n ec E H K := by
  refine compasslaw10_SpanHolds.of (compasslaw10_SpanHolds.run_eq ?_)
  unfold compasslaw10_SpanHolds.run_t
  refine nwk fun b1 H1 hb1 e1 s1 => ?_
  refine lawake10 fun H2 s2 => ?_
  have e12 := s2.keep _ _ e1 fun h => h
  have s02 := s1.and s2
  refine bcb (fun h => by cases h) fun _ => ?_
  simp only [get_at e12, List.getElem?_cons_zero, List.getElem?_cons_succ, ldI_mk, ldS_mk]
  refine sforest (he.keep s02 fun _ _ _ h => h) (by omega) fun H3 p m c f cost s3 r3 f3 hor hm => ?_
  have e13 := s3.keep _ _ e12 fun h => h
  have s03 := s02.and s3
  have hsp : ∀ k : Int, 1 ≤ k → k ≤ 3 → spC N n e k = chk N n e := fun k h1 h2 => by
    unfold spC
    by_cases h : chk N n e = 0
    · rw [if_neg (fun h' => h' h), if_neg (by omega), h]
    · rw [if_pos h]
  rw [hsp 1 (by omega) (by omega)] at hor ⊢
  refine compasslaw10_SpanHolds.l1_rule (fun g1 p' n' c' co4 e5 k6 H' => g1 = b1 ∧ p' = p ∧ n' = m ∧ c' = c ∧ co4 = cost ∧ e5 = chk N n e ∧ ∃ i : Nat, k6 = i ∧ 2 ≤ i ∧ i ≤ 4 ∧ Step (fun _ => False) H3 H') (fun g1 p' n' c' co4 e5 k6 H' => 4 - k6.toNat) ?_ ⟨rfl, rfl, rfl, rfl, rfl, rfl, 2, rfl, by omega, by omega, .refl⟩
  rintro g1 p' n' c' co4 e5 k6 H4 ⟨rfl, rfl, rfl, rfl, rfl, rfl, i, rfl, hi2, hi, s4⟩ X hX
  have e14 := s4.keep _ _ e13 fun h => h
  have s04 := s03.and s4
  have r4 := r3.keep s4 fun _ _ h => h
  refine compasslaw10_SpanHolds.b1_eq ?_
  unfold compasslaw10_SpanHolds.b1_t
  refine bc (fun hlt => ?_) fun hge => ?_
  · simp only [get_at e14, List.getElem?_cons_zero, List.getElem?_cons_succ, ldI_mk, ldS_mk]
    refine sforest (he.keep s04 fun _ _ _ h => h) (by omega) fun H5 q m' c2 f' cost' s5 r5 f5 hor' hm' => ?_
    rw [hsp i (by omega) (by omega)] at hor' ⊢
    refine bcn (fun h => (h rfl).elim) fun _ => ?_
    have hsame : n' = m' ∧ (∀ j, j < n' → f j = f' j) ∧ co4 = cost' := by
      rcases hor with ⟨h1, h2, h3⟩ | ⟨h1, _, hF, h3⟩
      · rcases hor' with ⟨_, h5, h6⟩ | ⟨h4, _⟩
        · exact ⟨by omega, fun j hj => by omega, by omega⟩
        · exact (h1 h4).elim
      · rcases hor' with ⟨h4, _⟩ | ⟨_, _, hF', h6⟩
        · exact (h4 h1).elim
        · obtain ⟨q1, q2⟩ := hF.uniq hF'
          subst q1
          exact ⟨rfl, q2, by rw [h3, h6, csum_congr q2]⟩
    refine lints10 (r4.rdr.keep s5 fun _ _ _ h => h) r5.rdr (by omega) fun b hb => ?_
    have hbt : b = true := hb.2 ⟨hsame.1, hsame.2.1⟩
    subst hbt
    refine bcb (fun h => by cases h) fun _ => ?_
    refine bcn (fun h => (h hsame.2.2).elim) fun _ => ?_
    rw [i64w (by omega) (by omega)]
    exact hX _ _ _ _ _ _ _ _ ⟨rfl, rfl, rfl, rfl, rfl, rfl, i + 1, by omega, by omega, by omega, s4.and s5⟩ (by omega)
  · clear hX
    refine compasslaw10_SpanHolds.j1_eq ?_
    unfold compasslaw10_SpanHolds.j1_t
    refine bcn (fun hc => ?_) fun hc => ?_
    · obtain ⟨_, h2, h3⟩ := hor.resolve_right fun h => hc h.1
      refine bct (by omega) ?_
      rw [decide_eq_true h3]
      exact kk H4 s04
    · obtain ⟨_, hr, hF, hcost⟩ := hor.resolve_left fun h => h.1 hc
      have hN0 := hr.N0; have hN1 := hr.N1; have hn1 := hr.n1
      obtain ⟨L, hL⟩ := lst_ex (Prs (ePr e) n)
      have hLs : Lst (Sel (ePr e) n fun _ => True) L := hL.of fun u v => prs_all.symm
      simp only [get_at e14, List.getElem?_cons_zero, List.getElem?_cons_succ, ldI_mk, ldS_mk]
      refine rparts4 (he.keep s04 fun _ _ _ h => h) hr hL fun b5 H5 s5 hb5 r5 => ?_
      have e15 := s5.keep _ _ e14 fun h => h
      have s05 := s04.and s5
      simp only [get_at e15, List.getElem?_cons_zero, List.getElem?_cons_succ, ldI_mk, ldS_mk]
      refine lonly10 (he.keep s05 fun _ _ _ h => h) (r4.rdr.keep s5 fun _ _ _ h => h) hn (by omega) fun H6 q c6 es s6 r6 hes => ?_
      rw [hF.sel] at r6 hes ⊢
      have hfl := frs_len (e := e) (n := n)
      have hr6 := right_sel hr (fun x hx => (frs_mem.1 hx).1) (by omega) hes
      have hL6 : Lst (Prs (ePr es) (frs e n).length) L := hLs.of fun u v => (prs_sel (fun x hx => (frs_mem.1 hx).1) hes).trans
        ⟨fun h => Sel.mono (fun _ _ _ => trivial) h, fun h => Sel.mono (fun t _ ht => frs_mem.2 ht) (InF.whole.1 h)⟩
      have s06 := s05.and s6
      refine rparts4 r6.rdr hr6 hL6 fun b7 H7 s7 hb7 r7 => ?_
      have e17 := s7.keep _ _ (s6.keep _ _ e15 fun h => h) fun h => h
      have s07 := s06.and s7
      have r57 := r5.rdr.keep (s6.and s7) fun _ _ _ h => h
      have r47 := r4.rdr.keep ((s5.and s6).and s7) fun _ _ _ h => h
      have he7 := he.keep s07 fun _ _ _ h => h
      refine compasslaw10_SpanHolds.l2_rule (fun g1' p1 n1 c1 co4' p2 n2 c2 p3 n3 c3 co14 su15 t74 i75 H' => g1' = g1 ∧ p1 = p' ∧ n1 = n' ∧ c1 = c' ∧ co4' = co4 ∧ p2 = some ⟨b5, 0, none⟩ ∧ n2 = N.toNat ∧ c2 = N.toNat ∧ p3 = some ⟨b7, 0, none⟩ ∧ n3 = N.toNat ∧ c3 = N.toNat ∧ su15 = 0 ∧ t74 = N ∧ H' = H7 ∧ ∃ v : Nat, i75 = v ∧ v ≤ N.toNat ∧ co14 = (cnt (fun w => L w == w) v : Int))
        (fun g1' p1 n1 c1 co4' p2 n2 c2 p3 n3 c3 co14 su15 t74 i75 H' => N.toNat - i75.toNat) ?_ ⟨rfl, rfl, rfl, rfl, rfl, rfl, rfl, rfl, rfl, rfl, rfl, rfl, by omega, rfl, 0, rfl, Nat.zero_le _, rfl⟩
      rintro g1' p1 n1 c1 co4' p2 n2 c2 p3 n3 c3 co14 su15 t74 i75 H' ⟨rfl, rfl, rfl, rfl, rfl, rfl, rfl, rfl, rfl, rfl, rfl, rfl, rfl, rfl, v, rfl, hv, rfl⟩ Y hY
      refine compasslaw10_SpanHolds.b2_eq ?_
      unfold compasslaw10_SpanHolds.b2_t
      have hcl := cnt_le (fun w => L w == w) v
      refine bc (fun hlt => ?_) fun hge2 => ?_
      · have hps := pno_step hL v
        have hcl' := cnt_le (fun w => L w == w) (v + 1)
        have hpl : pno L v ≤ v := by
          have := cnt_le (fun w => L w == w) (L v)
          have := hL.self (v := v)
          unfold pno; omega
        refine r57.ixI (by omega) (by omega) ?_
        rw [Int.toNat_natCast, i64w (by omega) (by omega), i64w (by omega) (by omega)]
        refine hY _ _ _ _ _ _ _ _ _ _ _ _ _ _ _ _ ⟨rfl, rfl, rfl, rfl, rfl, rfl, rfl, rfl, rfl, rfl, rfl, rfl, rfl, rfl, v + 1, by omega, by omega, ?_⟩ (by omega)
        split <;> omega
      · clear hY
        have hvN : v = t74.toNat := by omega
        subst hvN
        refine compasslaw10_SpanHolds.j2_eq ?_
        unfold compasslaw10_SpanHolds.j2_t
        have hml := hF.len
        refine compasslaw10_SpanHolds.l3_rule (fun g2 p4 n4 c4 co5 p2 n2 c2 p3 n3 c3 co14 su15 p5 n5 c5 t87 i88 H'' => g2 = g1' ∧ p4 = p1 ∧ n4 = n1 ∧ c4 = c1 ∧ co5 = co4' ∧ p2 = some ⟨b5, 0, none⟩ ∧ n2 = t74.toNat ∧ p3 = some ⟨b7, 0, none⟩ ∧ n3 = t74.toNat ∧ co14 = (cnt (fun w => L w == w) t74.toNat : Int) ∧ p5 = p1 ∧ n5 = n1 ∧ t87 = n1 ∧ H'' = H' ∧ ∃ i : Nat, i88 = i ∧ i ≤ n1 ∧ su15 = csum e f i)
          (fun g2 p4 n4 c4 co5 p2 n2 c2 p3 n3 c3 co14 su15 p5 n5 c5 t87 i88 H'' => n1 - i88.toNat) ?_ ⟨rfl, rfl, rfl, rfl, rfl, rfl, rfl, rfl, rfl, rfl, rfl, rfl, rfl, rfl, 0, rfl, Nat.zero_le _, rfl⟩
        rintro g2 p4 n4 c4 co5 p2 n2 c2 p3 n3 c3 co14 su15 p5 n5 c5 t87 i88 H'' ⟨rfl, rfl, rfl, rfl, rfl, rfl, rfl, rfl, rfl, rfl, rfl, rfl, rfl, rfl, i, rfl, hi', rfl⟩ Z hZ
        refine compasslaw10_SpanHolds.b3_eq ?_
        unfold compasslaw10_SpanHolds.b3_t
        refine bc (fun hlt3 => ?_) fun hge3 => ?_
        · obtain ⟨x, hx, hxF, hxi⟩ := hF.mem (i := i) (by omega)
          have hxn := hxF.1
          refine r47.ixI (by omega) (by omega) ?_
          rw [Int.toNat_natCast, hx]
          refine bc (fun h => by omega) fun _ => ?_
          simp only [get_at e17, List.getElem?_cons_zero, List.getElem?_cons_succ, ldI_mk, ldS_mk]
          refine bc (fun h => by omega) fun _ => ?_
          have hco : ∀ j, j < i + 1 → -1048576 ≤ (e (f j).toNat).co ∧ (e (f j).toNat).co ≤ 1048576 := fun j hj => by
            obtain ⟨y, hy, hyF, _⟩ := hF.mem (i := j) (by omega)
            have := hr.ed y hyF.1
            rw [hy, Int.toNat_natCast]
            exact ⟨this.k0, this.k1⟩
          have hb1 := csum_bnd (e := e) (f := f) (m := i) fun j hj => hco j (by omega)
          have hb2 := hco i (by omega)
          have fin : compasslaw10_SpanHolds.j3 g2 p5 n5 c4 co5 (some ⟨b5, 0, none⟩) t74.toNat c2 (some ⟨b7, 0, none⟩) t74.toNat c3 (cnt (fun w => L w == w) t74.toNat : Int) (csum e f i) (x : Int) p5 n5 c5 (n5 : Int) (i : Int) Z E H'' K := by
            refine compasslaw10_SpanHolds.j3_eq ?_
            unfold compasslaw10_SpanHolds.j3_t
            simp only [get_at e17, List.getElem?_cons_zero, List.getElem?_cons_succ, ldI_mk, ldS_mk]
            refine he7.edgeC (by omega) (by omega) ?_
            rw [hx, Int.toNat_natCast] at hb2
            rw [Int.toNat_natCast, i64w (by omega) (by omega), i64w (by omega) (by omega)]
            refine hZ _ _ _ _ _ _ _ _ _ _ _ _ _ _ _ _ _ _ _ ⟨rfl, rfl, rfl, rfl, rfl, rfl, rfl, rfl, rfl, rfl, rfl, rfl, rfl, rfl, i + 1, by omega, by omega, ?_⟩ (by omega)
            show _ = csum e f i + (e (f i).toNat).co
            rw [hx, Int.toNat_natCast]
          refine bc (fun hpos => ?_) fun hpos => fin
          rw [i64w (by omega) (by omega)]
          refine r47.ixI (by omega) (by omega) ?_
          refine bc (fun h => ?_) fun _ => fin
          exfalso
          obtain ⟨y, hy, _, hyi⟩ := hF.mem (i := i - 1) (by omega)
          rw [show ((i : Int) - 1).toNat = i - 1 by omega, hy] at h
          obtain ⟨a1, a2⟩ := List.getElem?_eq_some_iff.1 hyi
          obtain ⟨a3, a4⟩ := List.getElem?_eq_some_iff.1 hxi
          have := List.pairwise_iff_getElem.1 (frs_pw (e := e) (n := n)) (i - 1) i a1 a3 (by omega)
          rw [a2, a4] at this
          omega
        · have hin : i = n5 := by omega
          subst hin
          refine compasslaw10_SpanHolds.j4_eq ?_
          unfold compasslaw10_SpanHolds.j4_t
          refine lints10 r57 r7.rdr (by omega) fun b hb => ?_
          have hbt : b = true := hb.2 ⟨rfl, fun _ _ => rfl⟩
          subst hbt
          refine bcb (fun _ => ?_) fun h => by cases h
          simp only [get_at e17, List.getElem?_cons_zero, List.getElem?_cons_succ, ldI_mk, ldS_mk]
          have hcount := inF_count (e := e) (n := n) (N := t74.toNat) (by omega) (right_rng hr) hLs
          rw [← frs_count] at hcount
          rw [i64w (by omega) (by omega)]
          refine bct (by omega) ?_
          rw [decide_eq_true hcost.symm]
          exact kk _ s07
end
end Go.Mz
