/-
  ManyProved, walked: whatever the graph and the room, it answers true and leaves what was there as it was.
-/
import Derived.Test.YtbocpfdlfnodfaaLMaA
import Derived.Test.YtbocpfdlfnodfaaPkT
import Derived.Test.YtbocpfdlfnodfaaGLMP
set_option linter.unusedSimpArgs false
set_option linter.unusedVariables false
namespace Go.Mz

theorem tdeg_le_ends {e : Nat → Edg} {v : Int} : ∀ {i : Nat}, tdeg e (fun j => decide (¬ lp (e j))) i v ≤ i
  | 0 => Nat.le_refl _
  | i + 1 => by
    have ih := tdeg_le_ends (e := e) (v := v) (i := i)
    show tdeg e _ i v + (if _ then _ else 0) ≤ _
    by_cases hl : lp (e i)
    · rw [if_neg (by simpa using hl)]; omega
    · rw [if_pos (by simpa using hl)]
      unfold lp at hl
      by_cases h1 : (e i).fr = v
      · rw [if_pos h1, if_neg fun h2 => hl (h1.trans h2.symm)]; omega
      · rw [if_neg h1]; split <;> omega

section
variable {E : Value → Hp → Prop}

theorem lmproved {N : Int} {ep : Option Addr} {n ec : Nat} {e : Nat → Edg} {bp : Option Addr} {bn bk : Nat} {b : Nat → Int} {H : Hp} {K : Bool → Hp → Prop} (he : Rdr H ep n e) (hn : n < 2 ^ 62) (hb : Rdr H bp bn b) (hbn : bn < 2 ^ 62)
    (kk : ∀ H', Step (fun _ => False) H H' → K true H') : compasslaw19_ManyProved.call N ep n ec bp bn bk E H K := by
  refine compasslaw19_ManyProved.of (compasslaw19_ManyProved.run_eq ?_)
  unfold compasslaw19_ManyProved.run_t
  refine nwk fun b1 H1 hb1 e1 s1 => ?_
  refine lawake19 fun H2 s2 => ?_
  have e12 := s2.keep _ _ e1 fun h => h
  have s02 := s1.and s2
  refine bcb (fun h => by cases h) fun _ => ?_
  simp only [get_at e12, List.getElem?_cons_zero, List.getElem?_cons_succ, ldI_mk, ldS_mk]
  refine sMany (he.keep s02 fun _ _ _ h => h) (by omega) (hb.keep s02 fun _ _ _ h => h) (by omega) fun H3 mp mn mc g cp cn cc cv c s3 r1 r2 f1 f2 f12 l1 l2 hF => ?_
  have e13 := s3.keep _ _ e12 fun h => h
  have s03 := s02.and s3
  have rest : ∀ {H4 : Hp}, Step (fun _ => False) H3 H4 → compasslaw19_ManyProved.j1 b1 mp mn mc c E H4 K := by
    intro H4 s4
    have e14 := s4.keep _ _ e13 fun h => h
    have s04 := s03.and s4
    have size : (N < 0 ∨ 1024 < N) → compasslaw19_ManyProved.j2 mp mn mc c E H4 K := fun hN => by
      refine compasslaw19_ManyProved.j2_eq ?_
      unfold compasslaw19_ManyProved.j2_t
      rcases hF with ⟨hbad, h0, _⟩ | ⟨hc, hr, _⟩
      · have hnr : ¬ Right N n e := fun hr => by have := hr.N0; have := hr.N1; omega
        have hc3 : c = 3 := by
          rcases hbad with ⟨a1, a2⟩ | ⟨_, hr, _⟩ | ⟨_, hr, _⟩
          · rw [a1]; unfold chk; rw [if_pos (by omega)]
          · exact (hnr hr).elim
          · exact (hnr hr).elim
        refine bct hc3 ?_
        rw [decide_eq_true (by omega)]
        exact kk H4 s04
      · exfalso; have := hr.N0; have := hr.N1; omega
    refine compasslaw19_ManyProved.j1_eq ?_
    unfold compasslaw19_ManyProved.j1_t
    simp only [get_at e14, List.getElem?_cons_zero, List.getElem?_cons_succ, ldI_mk, ldS_mk]
    refine bc (fun h => size (.inl h)) fun h0 => ?_
    try simp only [get_at e14, List.getElem?_cons_zero, List.getElem?_cons_succ, ldI_mk, ldS_mk]
    refine bc (fun h => size (.inr h)) fun h1 => ?_
    try simp only [get_at e14, List.getElem?_cons_zero, List.getElem?_cons_succ, ldI_mk, ldS_mk]
    refine Row.mkI (by omega) (by omega) fun b5 H5 hb5 r5 s5 => ?_
    have e15 := s5.keep _ _ e14 fun h => h
    simp only [get_at e15, List.getElem?_cons_zero, List.getElem?_cons_succ, ldI_mk, ldS_mk]
    refine Row.mkI (by omega) (by omega) fun b6 H6 hb6 r6 s6 => ?_
    have e16 := s6.keep _ _ e15 fun h => h
    have s06 := (s04.and s5).and s6
    have s46 := s5.and s6
    have d56 : b5 ≠ b6 := fun h => (r5.live (fpS_mk.2 rfl)) (h ▸ hb6)
    have d15 : b1 ≠ b5 := fun h => by rw [h, hb5] at e14; cases e14
    have d16 : b1 ≠ b6 := fun h => by rw [h, hb6] at e15; cases e15
    obtain ⟨M, hM⟩ : ∃ M : Nat, N = M := ⟨N.toNat, by omega⟩
    subst hM
    rw [Int.toNat_natCast] at r5 r6 ⊢
    refine compasslaw19_ManyProved.l1_rule (fun g2 op on oc ap an ac t74 t75 H' => g2 = b1 ∧ op = some ⟨b5, 0, none⟩ ∧ on = M ∧ oc = M ∧ ap = some ⟨b6, 0, none⟩ ∧ an = M ∧ ac = M ∧ t74 = M ∧ ∃ (i : Nat) (f f' : Nat → Int), t75 = i ∧ i ≤ M ∧ Step (fun y => y = b5 ∨ y = b6) H6 H' ∧ Row H' (some ⟨b5, 0, none⟩) M M f ∧ Row H' (some ⟨b6, 0, none⟩) M M f' ∧ ∀ v, v < i → f v = 1 ∧ f' v = n)
      (fun g2 op on oc ap an ac t74 t75 H' => M - t75.toNat) ?_ ⟨rfl, rfl, rfl, rfl, rfl, rfl, rfl, rfl, 0, _, _, rfl, Nat.zero_le _, .refl, r5.keep s6 fun _ _ h => h, r6, fun v hv => by omega⟩
    rintro g2 op on oc ap an ac t74 t75 H7 ⟨rfl, rfl, rfl, rfl, rfl, rfl, rfl, rfl, i, f, f', rfl, hi, s7, q5, q6, hff⟩ X hX
    have e17 := s7.keep _ _ e16 fun h => h.elim d15 d16
    refine compasslaw19_ManyProved.b1_eq ?_
    unfold compasslaw19_ManyProved.b1_t
    refine bc (fun hlt => ?_) fun hge => ?_
    · simp only [get_at e17, List.getElem?_cons_zero, List.getElem?_cons_succ, ldI_mk, ldS_mk]
      refine q5.stI (by omega) (by omega) 1 fun H8 q5' s8 => ?_
      have e18 := s8.keep _ _ e17 fun h => d15 (fpS_mk.1 h)
      simp only [get_at e18, List.getElem?_cons_zero, List.getElem?_cons_succ, ldI_mk, ldS_mk]
      refine ⟨trivial, ?_⟩
      refine (q6.keep s8 fun y hy h => d56 ((fpS_mk.1 h).symm.trans (fpS_mk.1 hy))).stI (by omega) (by omega) _ fun H9 q6' s9 => ?_
      rw [i64w (by omega) (by omega)]
      refine hX _ _ _ _ _ _ _ _ _ _ ⟨rfl, rfl, rfl, rfl, rfl, rfl, rfl, rfl, i + 1, _, _, by omega, by omega, (s7.trans s8 fun y hy => .inl (.inl (fpS_mk.1 hy))).trans s9 fun y hy => .inl (.inr (fpS_mk.1 hy)), q5'.keep s9 fun y hy h => d56 ((fpS_mk.1 hy).symm.trans (fpS_mk.1 h)), q6', fun v hv => ?_⟩ (by omega)
      rw [Int.toNat_natCast]
      by_cases ev : v = i
      · subst ev; rw [upf_same, upf_same]; exact ⟨rfl, rfl⟩
      · rw [upf_ne ev, upf_ne ev]; exact hff v (by omega)
    · clear hX
      have hiM : i = ac := by omega
      subst hiM
      have s07 : Step (fun _ => False) H H7 := s06.own s7 fun y hy => hy.elim (fun h => h ▸ s04.mono _ hb5) fun h => h ▸ (s04.and s5).mono _ hb6
      refine compasslaw19_ManyProved.j3_eq ?_
      unfold compasslaw19_ManyProved.j3_t
      simp only [get_at e17, List.getElem?_cons_zero, List.getElem?_cons_succ, ldI_mk, ldS_mk]
      refine sMany (he.keep s07 fun _ _ _ h => h) (by omega) q5.rdr (by omega) fun H8 pp pn pc pg ps psn psc pv pe s8 rp1 rp2 _ _ _ _ _ hP1 => ?_
      have e18 := s8.keep _ _ e17 fun h => h
      have s08 := s07.and s8
      simp only [get_at e18, List.getElem?_cons_zero, List.getElem?_cons_succ, ldI_mk, ldS_mk]
      refine sBlo (he.keep s08 fun _ _ _ h => h) (by omega) fun H9 op9 on9 oc9 og os osn osc ov s9 ro1 ro2 _ _ _ _ _ hB => ?_
      have e19 := s9.keep _ _ e18 fun h => h
      have s09 := s08.and s9
      simp only [get_at e19, List.getElem?_cons_zero, List.getElem?_cons_succ, ldI_mk, ldS_mk]
      refine sMany (he.keep s09 fun _ _ _ h => h) (by omega) (q6.keep (s8.and s9) fun _ _ h => h).rdr (by omega) fun H10 qp qn qc qg qs qsn qsc qv qe s10 rq1 rq2 _ _ _ lq1 _ hQ => ?_
      have e110 := s10.keep _ _ e19 fun h => h
      have s010 := s09.and s10
      have last : compasslaw19_ManyProved.j4 g2 qp qn qc qe E H10 K := by
        refine compasslaw19_ManyProved.j4_eq ?_
        unfold compasslaw19_ManyProved.j4_t
        rcases hQ with ⟨hbad, h0', _⟩ | ⟨hqc, hr, hbd, hgs, hQP⟩
        · refine bcn (fun _ => ?_) fun h => (hbad.ne h).elim
          rw [decide_eq_true (by omega)]
          exact kk H10 s010
        · refine bcn (fun h => (h hqc).elim) fun _ => ?_
          simp only [get_at e110, List.getElem?_cons_zero, List.getElem?_cons_succ, ldI_mk, ldS_mk]
          have hn1 := hr.n1
          obtain ⟨T, hT⟩ : ∃ T : Nat → Bool, T = fun j => decide (¬ lp (e j)) := ⟨_, rfl⟩
          have hlen : ∀ v, (pk T v).length ≤ v := fun v => by rw [pk_len]; exact cnt_le _ _
          refine compasslaw19_ManyProved.l2_rule (fun qp' qn' qc' wp wn wc tp tn tc t128 t129 H' => qp' = qp ∧ qn' = qn ∧ qc' = qc ∧ tp = ep ∧ tn = n ∧ t128 = n ∧ ∃ j : Nat, t129 = j ∧ j ≤ n ∧ wn = (pk T j).length ∧ Step (fun _ => False) H10 H' ∧ Row H' wp wn wc (lsF (pk T j)) ∧ (∀ y, fpS wp y → H10 y = none))
            (fun qp' qn' qc' wp wn wc tp tn tc t128 t129 H' => n - t129.toNat) ?_ ⟨rfl, rfl, rfl, rfl, rfl, rfl, 0, rfl, Nat.zero_le _, rfl, .refl, Row.nil, fun y h => by rw [fpS_none] at h; exact h.elim⟩
          rintro qp' qn' qc' wp wn wc tp tn tc t128 t129 H11 ⟨rfl, rfl, rfl, rfl, rfl, rfl, j, rfl, hj, rfl, s11, rw', fw⟩ Y hY
          refine compasslaw19_ManyProved.b2_eq ?_
          unfold compasslaw19_ManyProved.b2_t
          refine bc (fun hlt2 => ?_) fun hge2 => ?_
          · refine (he.keep (s010.and s11) fun _ _ _ h => h).edge (by omega) (by omega) ?_
            rw [Int.toNat_natCast]
            refine nwst rfl rfl fun b12 H12 hb12 e12' s12 => ?_
            simp only [get_at e12', List.getElem?_cons_zero, List.getElem?_cons_succ, ldI_mk, ldS_mk]
            have r12 := rw'.keep s12 fun _ _ h => h
            have s112 := s11.and s12
            have next : ∀ {H13 : Hp} {wp5 : Option Addr} {wc5 : Nat}, Step (fun _ => False) H10 H13 → Row H13 wp5 (pk T (j + 1)).length wc5 (lsF (pk T (j + 1))) → (∀ y, fpS wp5 y → H10 y = none) → compasslaw19_ManyProved.j5 qp' qn' qc' wp5 (pk T (j + 1)).length wc5 tp tn tc (tn : Int) (j : Int) Y E H13 K := by
              intro H13 wp5 wc5 s13 r13 f13
              refine compasslaw19_ManyProved.j5_eq ?_
              unfold compasslaw19_ManyProved.j5_t
              rw [i64w (by omega) (by omega)]
              exact hY _ _ _ _ _ _ _ _ _ _ _ _ ⟨rfl, rfl, rfl, rfl, rfl, rfl, j + 1, by omega, by omega, rfl, s13, r13, f13⟩ (by omega)
            refine bcn (fun hl => ?_) fun hl => ?_
            · have hTj : T j = true := by rw [hT]; exact decide_eq_true hl
              have e5 : pk T (j + 1) = pk T j ++ [j] := by rw [pk_succ, if_pos hTj]
              have hl1 : (pk T j).length + 1 = (pk T (j + 1)).length := by rw [e5]; simp
              have := hlen j
              refine r12.appI _ (by omega) fun p5 c5 H13 r13 s13 f13 => ?_
              rw [hl1] at r13 ⊢
              refine next (s112.trans s13 fun y hy => .inr (fw y hy)) (r13.congr fun z hz => ?_) fun y hy => (f13 y hy).elim (fw y) (s112.mono y)
              rw [e5]
              by_cases ez : z = (pk T j).length
              · rw [ez, upf_same, lsF_last]
              · rw [upf_ne ez, lsF_left (by omega)]
            · have hTj : ¬ T j = true := fun h => by rw [hT] at h; exact of_decide_eq_true h hl
              have e5 : pk T (j + 1) = pk T j := by rw [pk_succ, if_neg hTj]
              have := next (wp5 := wp) (wc5 := wc) s112 (by rw [e5]; exact r12) fw
              rwa [e5] at this
          · clear hY
            have hjn : j = tn := by omega
            subst hjn
            refine compasslaw19_ManyProved.j6_eq ?_
            unfold compasslaw19_ManyProved.j6_t
            -- all edges that are no loops can be taken
            have hmk := marks_tkn (N := (i : Int)) (n := j) (e := e) (b := f') (T := T) (fun x hx ht => by rw [hT] at ht; exact of_decide_eq_true ht) fun v hv => by
              rw [(hff v (by omega)).2, hT]
              have := tdeg_le_ends (e := e) (v := (v : Int)) (i := j)
              omega
            have hge := many_bound hr hbd hgs hQP hmk
            have hri := hQP.tk.ris
            have hin : ∀ x : Nat, In qg qn' (x : Int) → T x = true ∧ x < j := fun x ⟨z, hz, ez⟩ => by
              have h1 := hQP.tk.nl z hz
              rw [ez, Int.toNat_natCast] at h1
              have h2 := hri z hz
              rw [hT]; exact ⟨decide_eq_true h1, by omega⟩
            have hcnt : cnt (fun x : Nat => @decide (In qg qn' (x : Int)) (Classical.propDecidable _)) j = qn' := rise_cnt hri
            have hpk : (pk T j).length = cnt T j := pk_len
            have hsub : ∀ x, x < j → T x = true → In qg qn' (x : Int) := fun x hx ht => Classical.byContradiction fun hno => by
              have h1 := cnt_less (p := T) (q := fun y => T y && !decide (y = x)) hx ht (by simp) fun y hy hne => by simp [hne]
              have h2 : cnt (fun x : Nat => @decide (In qg qn' (x : Int)) (Classical.propDecidable _)) j ≤ cnt (fun y => T y && !decide (y = x)) j := cnt_mono fun y hy hh => by
                have h3 := @of_decide_eq_true _ (Classical.propDecidable _) hh
                have h4 : y ≠ x := fun he => hno (he ▸ h3)
                rw [(hin y h3).1]; simp [h4]
              omega
            have hsame := ris_same hri hmk.ris fun x => by
              constructor
              · rintro ⟨z, hz, ez⟩
                have h2 := hri z hz
                obtain ⟨y, hy⟩ : ∃ y : Nat, x = y := ⟨x.toNat, by omega⟩
                subst hy
                obtain ⟨h3, h4⟩ := hin y ⟨z, hz, ez⟩
                obtain ⟨w, hw, ew⟩ := List.getElem_of_mem (pk_mem.2 ⟨h4, h3⟩)
                exact ⟨w, hw, by rw [lsF_get hw, ew]⟩
              · rintro ⟨z, hz, ez⟩
                rw [lsF_get hz] at ez
                have hm : (pk T j)[z] ∈ pk T j := List.getElem_mem hz
                rw [pk_mem] at hm
                rw [← ez]
                exact hsub _ hm.1 hm.2
            exact lints19 (rq1.keep s11 fun _ _ h => h).rdr rw'.rdr (by omega) hsame.1 hsame.2 (kk H11 (s010.and s11))
      rcases hP1 with ⟨hbad, _⟩ | ⟨hpe, hr, hbd, hgs, hPP⟩
      · exact bc (fun h => (hbad.ne h).elim) fun _ => last
      · refine bct hpe ?_
        rcases hB with ⟨h, _⟩ | ⟨hz, _, hA⟩
        · exact (h (chk_zero.2 hr)).elim
        · refine bcn (fun h => (h hz).elim) fun _ => ?_
          have hL := hA.lrg
          rw [Int.toNat_natCast] at hL
          have one : ∀ {o : Nat → Int} {ko : Nat}, (Tkn (i : Int) n e o ko fun _ => 1) ↔ Tkn (i : Int) n e o ko fun v => f v.toNat := fun {o ko} => by
            constructor
            · rintro ⟨a, b, c⟩
              refine ⟨a, b, fun v h0 h1 h2 => ?_⟩
              have := c v h0 h1 h2
              show (_ : Int) ≤ f v.toNat
              rw [(hff v.toNat (by omega)).1]; exact this
            · rintro ⟨a, b, c⟩
              refine ⟨a, b, fun v h0 h1 h2 => ?_⟩
              have := c v h0 h1 h2
              have h9 : (_ : Int) ≤ f v.toNat := this
              rw [(hff v.toNat (by omega)).1] at h9; exact h9
          have u1 : pn ≤ on9 := by
            have h1 := barrier_bound (set := ov) (q := osn) hr (one.2 hPP.tk)
            have h2 := hL.eq
            omega
          have u2 : on9 ≤ pn := many_bound hr hbd hgs hPP (one.1 hL.tk)
          refine bcn (fun h => (h (by omega)).elim) fun _ => last
  refine bc (fun hc => ?_) fun _ => rest .refl
  rcases hF with ⟨hbad, _⟩ | ⟨_, hr, hbd, hgs, hP⟩
  · exact (hbad.ne hc).elim
  · simp only [get_at e13, List.getElem?_cons_zero, List.getElem?_cons_succ, ldI_mk, ldS_mk]
    refine vMany (he.keep s03 fun _ _ _ h => h) (by omega) (hb.keep s03 fun _ _ _ h => h) (by omega) r1.rdr (by omega) r2.rdr (by omega) fun H4 c4 s4 hO => ?_
    have hc4 : c4 = 0 := by
      rcases hO with ⟨a, _⟩ | a | ⟨_, _, _, _, a⟩
      · exact a
      · exfalso
        rcases a with ⟨a1, a2⟩ | ⟨_, _, a⟩ | ⟨_, _, _, a⟩
        · exact a2 (by rw [a1]; exact chk_zero.2 hr)
        · exact a hbd
        · exact a hgs
      · exact (a hP).elim
    subst hc4
    refine bcn (fun h => (h rfl).elim) fun _ => ?_
    rw [if_pos rfl]
    refine bcn (fun h => (h rfl).elim) fun _ => ?_
    exact rest s4
end
end Go.Mz
