/-
  SpanCheapest, walked: whatever the graph and the other edges, it answers true and leaves what was there as it was.
-/
import Derived.Test.YthcehonpfnmpiaaSpC
import Derived.Test.YthcehonpfnmpiaaGLSC
set_option linter.unusedSimpArgs false
set_option linter.unusedVariables false
namespace Go.Mz

theorem selE_snoc {e : Nat → Edg} {f : Nat → Int} {n i : Nat} : csum e (lsF (selE f n (i + 1))) (selE f n (i + 1)).length = if 0 ≤ f i ∧ f i < (n : Int) then csum e (lsF (selE f n i)) (selE f n i).length + (e (f i).toNat).co else csum e (lsF (selE f n i)) (selE f n i).length := by
  have es : selE f n (i + 1) = if 0 ≤ f i ∧ f i < (n : Int) then selE f n i ++ [(f i).toNat] else selE f n i := rfl
  rw [es]
  split
  · rw [List.length_append]
    show csum e (lsF (selE f n i ++ [(f i).toNat])) ((selE f n i).length + 1) = _
    show csum e _ (selE f n i).length + (e ((lsF (selE f n i ++ [(f i).toNat]) (selE f n i).length).toNat)).co = _
    congr 1
    · exact csum_congr fun j hj => by unfold lsF; rw [List.getElem?_append_left hj]
    · congr 2
      unfold lsF
      rw [List.getElem?_append_right (Nat.le_refl _), Nat.sub_self]
      exact Int.toNat_natCast _
  · rfl

section
variable {E : Value → Hp → Prop}

theorem lcheap {N : Int} {ep op : Option Addr} {n ec m oc : Nat} {e : Nat → Edg} {f : Nat → Int} {H : Hp} {K : Bool → Hp → Prop} (he : Rdr H ep n e) (hn : n < 2 ^ 62) (ho : Rdr H op m f) (hm : m ≤ 1048576)
    (kk : ∀ H', Step (fun _ => False) H H' → K true H') : compasslaw10_SpanCheapest.call N ep n ec op m oc E H K := by
  refine compasslaw10_SpanCheapest.of (compasslaw10_SpanCheapest.run_eq ?_)
  unfold compasslaw10_SpanCheapest.run_t
  refine nwk fun b1 H1 hb1 e1 s1 => ?_
  refine lawake10 fun H2 s2 => ?_
  have e12 := s2.keep _ _ e1 fun h => h
  have s02 := s1.and s2
  refine bcb (fun h => by cases h) fun _ => ?_
  simp only [get_at e12, List.getElem?_cons_zero, List.getElem?_cons_succ, ldI_mk, ldS_mk]
  refine sforest (he.keep s02 fun _ _ _ h => h) (by omega) fun H3 p k c g cost s3 r3 f3 hor hk => ?_
  have e13 := s3.keep _ _ e12 fun h => h
  have s03 := s02.and s3
  have hsp : spC N n e 2 = chk N n e := by
    unfold spC
    by_cases h : chk N n e = 0
    · rw [if_neg (fun h' => h' h), if_neg (by omega), h]
    · rw [if_pos h]
  rw [hsp] at hor ⊢
  refine bcn (fun hc => ?_) fun hc => ?_
  · have := (hor.resolve_right fun h => hc h.1).2.2
    rw [decide_eq_true this]
    exact kk H3 s03
  obtain ⟨_, hr, hF, hcost⟩ := hor.resolve_left fun h => h.1 hc
  have hN0 := hr.N0; have hN1 := hr.N1; have hn1 := hr.n1
  obtain ⟨L, hL⟩ := lst_ex (Prs (ePr e) n)
  have hLs : Lst (Sel (ePr e) n fun _ => True) L := hL.of fun u v => prs_all.symm
  simp only [get_at e13, List.getElem?_cons_zero, List.getElem?_cons_succ, ldI_mk, ldS_mk]
  refine rparts4 (he.keep s03 fun _ _ _ h => h) hr hL fun b4 H4 s4 hb4 r4 => ?_
  have e14 := s4.keep _ _ e13 fun h => h
  have s04 := s03.and s4
  simp only [get_at e14, List.getElem?_cons_zero, List.getElem?_cons_succ, ldI_mk, ldS_mk]
  refine lonly10 (he.keep s04 fun _ _ _ h => h) (ho.keep s04 fun _ _ _ h => h) hn hm fun H5 q c5 es s5 r5 hes => ?_
  have e15 := s5.keep _ _ e14 fun h => h
  have s05 := s04.and s5
  have hsl := selE_len (f := f) (n := n) (m := m)
  have hlt : ∀ x ∈ selE f n m, x < n := fun x hx => selE_lt x hx
  by_cases hz : chk N (selE f n m).length es = 0
  · have hr5 : Right N (selE f n m).length es := chk_zero.1 hz
    obtain ⟨L5, hL5⟩ := lst_ex (Prs (ePr es) (selE f n m).length)
    refine rparts4 r5.rdr hr5 hL5 fun b6 H6 s6 hb6 r6 => ?_
    have e16 := s6.keep _ _ e15 fun h => h
    have s06 := s05.and s6
    have r46 := r4.rdr.keep (s5.and s6) fun _ _ _ h => h
    refine lints10 r46 r6.rdr (by omega) fun b hb => ?_
    cases b with
    | false =>
      refine bcb (fun _ => kk H6 s06) fun h => by cases h
    | true =>
      refine bcb (fun h => by cases h) fun _ => ?_
      have heq := (hb.1 rfl).2
      have ho6 := ho.keep s06 fun _ _ _ h => h
      have he6 := he.keep s06 fun _ _ _ h => h
      refine compasslaw10_SpanCheapest.l1_rule (fun p1 n1 c1 g2 co6 p2 n2 c2 su12 co13 t46 i47 H' => p1 = op ∧ n1 = m ∧ c1 = oc ∧ g2 = b1 ∧ co6 = cost ∧ p2 = some ⟨b4, 0, none⟩ ∧ n2 = N.toNat ∧ su12 = 0 ∧ t46 = N ∧ H' = H6 ∧ ∃ v : Nat, i47 = v ∧ v ≤ N.toNat ∧ co13 = (cnt (fun w => L w == w) v : Int))
        (fun p1 n1 c1 g2 co6 p2 n2 c2 su12 co13 t46 i47 H' => N.toNat - i47.toNat) ?_ ⟨rfl, rfl, rfl, rfl, rfl, rfl, rfl, rfl, by omega, rfl, 0, rfl, Nat.zero_le _, rfl⟩
      rintro p1 n1 c1 g2 co6 p2 n2 c2 su12 co13 t46 i47 H' ⟨rfl, rfl, rfl, rfl, rfl, rfl, rfl, rfl, rfl, rfl, v, rfl, hv, rfl⟩ X hX
      refine compasslaw10_SpanCheapest.b1_eq ?_
      unfold compasslaw10_SpanCheapest.b1_t
      have hcl := cnt_le (fun w => L w == w) v
      refine bc (fun hlt' => ?_) fun hge => ?_
      · have hps := pno_step hL v
        have hcl' := cnt_le (fun w => L w == w) (v + 1)
        have hpl : pno L v ≤ v := by
          have := cnt_le (fun w => L w == w) (L v)
          have := hL.self (v := v)
          unfold pno; omega
        refine r46.ixI (by omega) (by omega) ?_
        rw [Int.toNat_natCast, i64w (by omega) (by omega), i64w (by omega) (by omega)]
        refine hX _ _ _ _ _ _ _ _ _ _ _ _ _ ⟨rfl, rfl, rfl, rfl, rfl, rfl, rfl, rfl, rfl, rfl, v + 1, by omega, by omega, ?_⟩ (by omega)
        split <;> omega
      · clear hX
        have hvN : v = t46.toNat := by omega
        subst hvN
        refine compasslaw10_SpanCheapest.j1_eq ?_
        unfold compasslaw10_SpanCheapest.j1_t
        refine compasslaw10_SpanCheapest.l2_rule (fun q1 m1 d1 g3 co7 su12 co13 q2 m2 d2 t59 i60 H'' => q1 = p1 ∧ m1 = n1 ∧ d1 = c1 ∧ g3 = g2 ∧ co7 = co6 ∧ co13 = (cnt (fun w => L w == w) t46.toNat : Int) ∧ q2 = p1 ∧ m2 = n1 ∧ t59 = n1 ∧ H'' = H' ∧ ∃ i : Nat, i60 = i ∧ i ≤ n1 ∧ su12 = csum e (lsF (selE f n i)) (selE f n i).length)
          (fun q1 m1 d1 g3 co7 su12 co13 q2 m2 d2 t59 i60 H'' => n1 - i60.toNat) ?_ ⟨rfl, rfl, rfl, rfl, rfl, rfl, rfl, rfl, rfl, rfl, 0, rfl, Nat.zero_le _, rfl⟩
        rintro q1 m1 d1 g3 co7 su12 co13 q2 m2 d2 t59 i60 H'' ⟨rfl, rfl, rfl, rfl, rfl, rfl, rfl, rfl, rfl, rfl, i, rfl, hi, rfl⟩ Y hY
        have hco : ∀ x, x < n → -1048576 ≤ (e x).co ∧ (e x).co ≤ 1048576 := fun x hx => ⟨(hr.ed x hx).k0, (hr.ed x hx).k1⟩
        have hsum : ∀ i, i ≤ m2 → -(1048576 * (m2 : Int)) ≤ csum e (lsF (selE f n i)) (selE f n i).length ∧ csum e (lsF (selE f n i)) (selE f n i).length ≤ 1048576 * (m2 : Int) := fun i hi => by
          have h1 := csum_bnd (e := e) (f := lsF (selE f n i)) (m := (selE f n i).length) fun j hj => by
            have hj' : lsF (selE f n i) j = ((selE f n i)[j] : Int) := by rw [lsF, List.getElem?_eq_getElem hj]; rfl
            rw [hj', Int.toNat_natCast]
            exact hco _ (selE_lt _ (List.getElem_mem hj))
          have h2 := selE_len (f := f) (n := n) (m := i)
          omega
        refine compasslaw10_SpanCheapest.b2_eq ?_
        unfold compasslaw10_SpanCheapest.b2_t
        refine bc (fun hlt2 => ?_) fun hge2 => ?_
        · have next : ∀ su, su = csum e (lsF (selE f n (i + 1))) (selE f n (i + 1)).length → compasslaw10_SpanCheapest.j2 q2 m2 d1 g3 co7 su (cnt (fun w => L w == w) t46.toNat : Int) q2 m2 d2 (m2 : Int) (i : Int) Y E H'' K := fun su hsu => by
            refine compasslaw10_SpanCheapest.j2_eq ?_
            unfold compasslaw10_SpanCheapest.j2_t
            rw [i64w (by omega) (by omega)]
            exact hY _ _ _ _ _ _ _ _ _ _ _ _ _ ⟨rfl, rfl, rfl, rfl, rfl, rfl, rfl, rfl, rfl, rfl, i + 1, by omega, by omega, hsu⟩ (by omega)
          have hsn := selE_snoc (e := e) (f := f) (n := n) (i := i)
          refine ho6.ixI (by omega) (by omega) ?_
          rw [Int.toNat_natCast]
          refine bc (fun h0 => ?_) fun h0 => next _ (by rw [hsn, if_neg fun h => h0 h.1])
          simp only [get_at e16, List.getElem?_cons_zero, List.getElem?_cons_succ, ldI_mk, ldS_mk]
          refine bc (fun h1 => ?_) fun h1 => next _ (by rw [hsn, if_neg fun h => h1 h.2])
          try simp only [get_at e16, List.getElem?_cons_zero, List.getElem?_cons_succ, ldI_mk, ldS_mk]
          refine he6.edgeC (by omega) (by omega) ?_
          have hb1 := hsum i (by omega)
          have hb2 := hco (f i).toNat (by omega)
          rw [i64w (by omega) (by omega)]
          exact next _ (by rw [hsn, if_pos ⟨h0, h1⟩])
        · have him : i = m2 := by omega
          subst him
          refine compasslaw10_SpanCheapest.j3_eq ?_
          unfold compasslaw10_SpanCheapest.j3_t
          simp only [get_at e16, List.getElem?_cons_zero, List.getElem?_cons_succ, ldI_mk, ldS_mk]
          refine lonly10 he6 ho6 hn hm fun H7 q7 c7 es7 s7 r7 hes7 => ?_
          have e17 := s7.keep _ _ e16 fun h => h
          have s07 := s06.and s7
          simp only [get_at e17, List.getElem?_cons_zero, List.getElem?_cons_succ, ldI_mk, ldS_mk]
          refine ⟨trivial, ?_⟩
          rw [i64w (by omega) (by omega)]
          refine bcn (fun _ => kk H7 s07) fun hcnt => ?_
          have hcount := inF_count (e := e) (n := n) (N := t46.toNat) (by omega) (right_rng hr) hLs
          rw [← frs_count] at hcount
          have hle : co7 ≤ csum e (lsF (selE f n i)) (selE f n i).length := by
            rw [hcost]
            have e8 : csum e g k = csum e (lsF (frs e n)) (frs e n).length := by rw [← hF.len]; exact csum_congr hF.at'
            rw [e8]
            refine cheapest (N := t46.toNat) (by omega) (right_rng hr) hco hlt (fun u v => ?_) (by omega)
            rw [← prs_sel hlt hes, ← prs_all]
            have hrange : ∀ {a b : Nat}, a < t46.toNat → b < t46.toNat → (Cn (Prs (ePr es) (selE f n i).length) a b ↔ Cn (Prs (ePr e) n) a b) := fun {a b} ha hb => by
              rw [← hL5.iff, ← hL.iff]
              have ha' := heq a ha
              have hb' := heq b hb
              constructor
              · intro h
                have h1 : pno L5 a = pno L5 b := by unfold pno; rw [h]
                exact pno_inj hL (by omega)
              · intro h
                have h1 : pno L a = pno L b := by unfold pno; rw [h]
                exact pno_inj hL5 (by omega)
            constructor
            · refine fun h => h.mono fun a b hab => ?_
              obtain ⟨j, hj, q3, q4⟩ := hab
              have := right_rng hr5 j hj
              rw [← q3, ← q4] at this
              exact (hrange this.1 this.2).1 (.edge ⟨j, hj, q3, q4⟩)
            · refine fun h => h.mono fun a b hab => ?_
              obtain ⟨j, hj, q3, q4⟩ := hab
              have := right_rng hr j hj
              rw [← q3, ← q4] at this
              exact (hrange this.1 this.2).2 (.edge ⟨j, hj, q3, q4⟩)
          rw [decide_eq_true hle]
          exact kk H7 s07
  · refine rparts4bad r5.rdr hz fun H6 s6 => ?_
    have s06 := s05.and s6
    refine lints10 (r4.rdr.keep (s5.and s6) fun _ _ _ h => h) (rdr0 (f := fun _ => (0 : Int))) (by omega) fun b hb => ?_
    cases b with
    | false => refine bcb (fun _ => kk H6 s06) fun h => by cases h
    | true =>
      exfalso
      have h0 := (hb.1 rfl).1
      have hl0 : (selE f n m).length = 0 := by
        cases hs : selE f n m with
        | nil => rfl
        | cons x xs =>
          have hx := hlt x (by rw [hs]; simp)
          have := (right_rng hr x hx).1
          omega
      refine hz (chk_zero.2 ⟨hr.N0, hr.N1, by omega, fun i hi => by omega⟩)
end
end Go.Mz
