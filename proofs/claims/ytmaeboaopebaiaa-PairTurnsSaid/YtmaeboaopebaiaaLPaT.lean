/-
  PairTurns, walked: whatever the graph and the edge, it answers true and leaves what was there as it was.
-/
import Derived.Test.YtmaeboaopebaiaaLPaB
import Derived.Test.YtmaeboaopebaiaaRfK
import Derived.Test.YtmaeboaopebaiaaRowL
import Derived.Test.YtmaeboaopebaiaaGLPT
set_option linter.unusedSimpArgs false
set_option linter.unusedVariables false
namespace Go.Mz

theorem badE_trn {N : Int} {x : Edg} : badE N (trn x) = badE N x := by
  unfold badE trn
  show (if x.to < 0 ∨ N ≤ x.to ∨ x.fr < 0 ∨ N ≤ x.fr then (30 : Int) else if 0 ≤ x.cp ∧ x.cp ≤ 1048576 ∧ -1048576 ≤ x.co ∧ x.co ≤ 1048576 then 0 else 31) = _
  by_cases h : x.fr < 0 ∨ N ≤ x.fr ∨ x.to < 0 ∨ N ≤ x.to
  · rw [if_pos h, if_pos (by omega)]
  · rw [if_neg h, if_neg (by omega)]

theorem chkE_trn {N : Int} {e e' : Nat → Edg} : ∀ {n : Nat}, (∀ i, i < n → e' i = trn (e i)) → chkE N e' n = chkE N e n
  | 0, _ => rfl
  | n + 1, h => by
    show (if chkE N e' n = 0 then badE N (e' n) else chkE N e' n) = (if chkE N e n = 0 then badE N (e n) else chkE N e n)
    rw [chkE_trn fun i hi => h i (by omega), h n (by omega), badE_trn]

theorem chk_trn {N : Int} {n : Nat} {e e' : Nat → Edg} (h : ∀ i, i < n → e' i = trn (e i)) : chk N n e' = chk N n e := by
  unfold chk; rw [chkE_trn h]

theorem crs_trn {N left : Int} {n : Nat} {e e' : Nat → Edg} (h : ∀ i, i < n → e' i = trn (e i)) : Crs N n e' left ↔ Crs N n e left := by
  refine and_congr Iff.rfl (and_congr Iff.rfl (forall_congr' fun i => forall_congr' fun hi => not_congr ?_))
  rw [h i hi]
  exact ⟨fun h => h.symm, fun h => h.symm⟩

theorem prC_trn {N left k k' : Int} {n : Nat} {e e' : Nat → Edg} (h : ∀ i, i < n → e' i = trn (e i)) (hk : k = 1 ∨ k = 2) (hk' : k' = 1 ∨ k' = 2) : prC N n e' left k' = prC N n e left k := by
  have : sdC N n e' left = sdC N n e left := by
    unfold sdC
    rw [chk_trn h]
    by_cases hc : Crs N n e left
    · rw [if_pos hc, if_pos ((crs_trn h).2 hc)]
    · rw [if_neg hc, if_neg fun hh => hc ((crs_trn h).1 hh)]
  unfold prC; rw [this, if_pos hk, if_pos hk']

theorem cvr_trn {n q : Nat} {e e' : Nat → Edg} {cv : Nat → Int} (h : ∀ i, i < n → e' i = trn (e i)) (hc : Cvr e' n cv q) : Cvr e n cv q := fun i hi => by
  have := hc i hi
  rw [h i hi] at this
  rcases this with h | h | h
  · exact .inl h.symm
  · exact .inr (.inr h)
  · exact .inr (.inl h)

theorem cvr_trn' {n q : Nat} {e e' : Nat → Edg} {cv : Nat → Int} (h : ∀ i, i < n → e' i = trn (e i)) (hc : Cvr e n cv q) : Cvr e' n cv q := fun i hi => by
  rw [h i hi]
  rcases hc i hi with h | h | h
  · exact .inl h.symm
  · exact .inr (.inr h)
  · exact .inr (.inl h)

theorem in_more {cv : Nat → Int} {q : Nat} {x y : Int} (h : In cv q x) : In (upf cv q y) (q + 1) x := by
  obtain ⟨i, hi, e⟩ := h
  exact ⟨i, by omega, by rw [upf_ne (by omega)]; exact e⟩
theorem in_last {cv : Nat → Int} {q : Nat} {y : Int} : In (upf cv q y) (q + 1) y := ⟨q, by omega, upf_same⟩

section
variable {E : Value → Hp → Prop}

theorem lpturns {N left a b : Int} {ep : Option Addr} {n ec : Nat} {e : Nat → Edg} {H : Hp} {K : Bool → Hp → Prop} (he : Rdr H ep n e) (hn : n ≤ 4398046511103)
    (kk : ∀ H', Step (fun _ => False) H H' → K true H') : compasslaw15_PairTurns.call N ep n ec left a b E H K := by
  refine compasslaw15_PairTurns.of (compasslaw15_PairTurns.run_eq ?_)
  unfold compasslaw15_PairTurns.run_t
  refine nwk fun b1 H1 hb1 e1 s1 => ?_
  refine nwk fun b2 H2 hb2 e2 s2 => ?_
  have e1 := s2.keep _ _ e1 fun h => h
  refine lawake15 fun H3 s3 => ?_
  have e1 := s3.keep _ _ e1 fun h => h
  have e2 := s3.keep _ _ e2 fun h => h
  have s03 := (s1.and s2).and s3
  refine bcb (fun h => by cases h) fun _ => ?_
  simp only [get_at e1, List.getElem?_cons_zero, List.getElem?_cons_succ, ldI_mk, ldS_mk]
  refine sPair (he.keep s03 fun _ _ _ h => h) (by omega) fun H4 mp mn mc g cp cn cc cv s4 r1 r2 f1 f2 f12 lm1 lm2 hF => ?_
  have e1 := s4.keep _ _ e1 fun h => h
  have e2 := s4.keep _ _ e2 fun h => h
  have s04 := s03.and s4
  simp only [get_at e1, List.getElem?_cons_zero, List.getElem?_cons_succ, ldI_mk, ldS_mk]
  refine rreverse (he.keep s04 fun _ _ _ h => h) (by omega) fun H5 p5 c5 e5 s5 r5 hee5 _ => ?_
  have e1 := s5.keep _ _ e1 fun h => h
  have e2 := s5.keep _ _ e2 fun h => h
  have s05 := s04.and s5
  refine sPair r5.rdr (by omega) fun H6 mp' mn' mc' g' cp' cn' cc' cv' s6 r1' r2' f1' f2' f12' l1' l2' hF' => ?_
  have e1 := s6.keep _ _ e1 fun h => h
  have e2 := s6.keep _ _ e2 fun h => h
  have s06 := s05.and s6
  have ek : prC N n e left 2 = prC N n e5 left 1 := (prC_trn hee5 (.inr rfl) (.inl rfl)).symm
  refine bcn (fun h => (h ek).elim) fun _ => ?_
  rcases hF with ⟨h0, rfl, rfl⟩ | ⟨h0, hr, hc, hC⟩
  · rcases hF' with ⟨h0', rfl, rfl⟩ | ⟨h0', _⟩
    · refine bcn (fun h => (h rfl).elim) fun _ => ?_
      exact bcn (fun _ => kk H6 s06) fun h => (h0 h).elim
    · exact (h0 (ek.trans h0')).elim
  · rcases hF' with ⟨h0', _⟩ | ⟨h0', hr', _, hC'⟩
    · exact (h0' (ek.symm.trans h0)).elim
    · have hmm : mn = mn' := by
        have h1 := cover_bound hr hC.tk (cvr_trn hee5 hC'.cvr)
        have h2 := cover_bound hr' hC'.tk (cvr_trn' hee5 hC.cvr)
        have := hC.eq; have := hC'.eq
        omega
      refine bcn (fun h => (h (by rw [hmm])).elim) fun _ => ?_
      refine bcn (fun h => (h h0).elim) fun _ => ?_
      clear hC' hr' h0' f1' f2' f12' r1' r2' hmm ek
      simp only [get_at e1, List.getElem?_cons_zero, List.getElem?_cons_succ, ldI_mk, ldS_mk]
      have e16 := e1
      have e26 := e2
      -- the graph with one more edge
      refine rcopy (he.keep s06 fun _ _ _ h => h) (by omega) fun H7 p7 c7 e7 s7 r7 hee7 f7 => ?_
      have e1 := s7.keep _ _ e1 fun h => h
      have e2 := s7.keep _ _ e2 fun h => h
      have s07 := s06.and s7
      refine nwst rfl rfl fun b3 H9 hb3 e3 s9 => ?_
      have e1 := s9.keep _ _ e1 fun h => h
      have e2 := s9.keep _ _ e2 fun h => h
      have s09 := s07.and s9
      have r9 := r7.keep s9 fun _ _ h => h
      have f9 : ∀ y, fpS p7 y → H y = none := fun y hy => s06.mono y (f7 y hy)
      have n3 : ¬ fpS p7 b3 := fun h => r7.live h hb3
      have live6 : ∀ {b : Nat} {x : Blk}, H9 b = some x → H9 b ≠ none := fun h h' => by rw [h] at h'; cases h'
      have rab : Rdr H9 (some ⟨b2, 0, none⟩) 2 (fun i => ([a, b] : List Int)[i]?.getD 0) := (row_ls (l := [a, b]) e2 rfl (by simp)).rdr
      simp only [get_at e3, get_at e1, List.getElem?_cons_zero, List.getElem?_cons_succ, ldI_mk, ldS_mk]
      refine rab.ixI (by decide) (by decide) ?_
      refine rab.ixI (by decide) (by decide) ?_
      show nw H9 ⟨[.int .i64 a, .int .i64 b, .int .i64 0, .int .i64 0], 37⟩ _
      refine Row.appW (α := Edg) r9 ((a, b, 0, 0) : Edg) rfl (by omega) (by omega) fun pw cw H11 rw' s11 f11 => ?_
      have n1 : ¬ fpS p7 b1 := fun h => by have := f7 _ h; rw [e16] at this; cases this
      have n2 : ¬ fpS p7 b2 := fun h => by have := f7 _ h; rw [e26] at this; cases this
      have m3 : ¬ fpS pw b3 := fun h => (f11 _ h).elim n3 (live6 e3)
      have d31 : b3 ≠ b1 := fun h => by rw [h, s7.keep _ _ e16 fun h => h] at hb3; cases hb3
      have d32 : b3 ≠ b2 := fun h => by rw [h, s7.keep _ _ e26 fun h => h] at hb3; cases hb3
      have fb3 : H b3 = none := s07.mono _ hb3
      have e1 := s11.keep _ _ e1 n1
      have e2 := s11.keep _ _ e2 n2
      have e3 := s11.keep _ _ e3 n3
      have s011 := s09.own s11 f9
      refine stp e3 (by simp) rfl fun H12 e3 s12 => ?_
      replace e3 : H12 b3 = some ⟨[.int .i64 N, .slice pw (n + 1) cw], 24⟩ := e3
      have e1 := s12.keep _ _ e1 fun h => d31 h.symm
      have e2 := s12.keep _ _ e2 fun h => d32 h.symm
      have s012 := s011.own s12 fun y hy => hy ▸ fb3
      have rw12 : Row H12 pw (n + 1) cw (upf e7 n (a, b, 0, 0)) := rw'.keep s12 fun y hy h => m3 (h ▸ hy)
      simp only [get_at e1, List.getElem?_cons_zero, List.getElem?_cons_succ, ldI_mk, ldS_mk]
      have e2' := e2
      have e3' := e3
      refine nwst rfl rfl fun b7 H14 hb7 e7' s14 => ?_
      have e1 := s14.keep _ _ e1 fun h => h
      have e2 := s14.keep _ _ e2 fun h => h
      have e3 := s14.keep _ _ e3 fun h => h
      have s014 := s012.and s14
      have rw14 := rw12.keep s14 fun _ _ h => h
      have d7w : ¬ fpS pw b7 := fun h => rw12.live h hb7
      have d72 : b7 ≠ b2 := fun h => by rw [h, e2'] at hb7; cases hb7
      have d73 : b3 ≠ b7 := fun h => by rw [← h, e3'] at hb7; cases hb7
      have rab : Rdr H14 (some ⟨b2, 0, none⟩) 2 (fun i => ([a, b] : List Int)[i]?.getD 0) := (row_ls (l := [a, b]) e2 rfl (by simp)).rdr
      simp only [get_at e1, List.getElem?_cons_zero, List.getElem?_cons_succ, ldI_mk, ldS_mk]
      -- the graph without a node
      refine compasslaw15_PairTurns.l1_rule (fun l1 m5 ap an ac w13 l14 tp tn tc t69 t70 H' => l1 = left ∧ m5 = b2 ∧ an = mn ∧ w13 = b3 ∧ l14 = b7 ∧ tp = ep ∧ tn = n ∧ t69 = (n : Int) ∧ ∃ (i : Nat) (lp' : Option Addr) (ln lc : Nat) (f : Nat → Edg), t70 = i ∧ i ≤ n ∧ ln ≤ i ∧ Step (fun y => y = b7) H14 H' ∧ H' b7 = some ⟨[.int .i64 N, .slice lp' ln lc], 24⟩ ∧ Row H' lp' ln lc f ∧ (∀ y, fpS lp' y → H14 y = none) ∧
          (∀ t, t < ln → ∃ j, j < n ∧ f t = e j) ∧ ∀ j, j < i → (e j).fr ≠ a → (e j).to ≠ a → ∃ t, t < ln ∧ f t = e j)
        (fun l1 m5 ap an ac w13 l14 tp tn tc t69 t70 H' => n - t70.toNat) ?_ ⟨rfl, rfl, rfl, rfl, rfl, rfl, rfl, rfl, 0, none, 0, 0, fun _ => (0, 0, 0, 0), rfl, Nat.zero_le _, Nat.zero_le _, .refl, e7', Row.nil, fun y h => by rw [fpS_none] at h; exact h.elim, fun t ht => by omega, fun j hj => by omega⟩
      rintro l1 m5 ap an ac w13 l14 tp tn tc t69 t70 H15 ⟨rfl, rfl, rfl, rfl, rfl, rfl, rfl, rfl, i, lp', ln, lc, f, rfl, hi, hli, s15, e75, rl, fl, hall, hhas⟩ X hX
      have fb7 : H l14 = none := s012.mono _ hb7
      have s015 := s014.own s15 fun y hy => hy ▸ fb7
      have g15 := he.keep s015 fun _ _ _ h => h
      refine compasslaw15_PairTurns.b1_eq ?_
      unfold compasslaw15_PairTurns.b1_t
      refine bc (fun hlt => ?_) fun hge => ?_
      · refine g15.edge (by omega) (by omega) ?_
        simp only [Int.toNat_natCast]
        refine nwst rfl rfl fun b8 H17 hb8 e8 s17 => ?_
        have e77 := s17.keep _ _ e75 fun h => h
        have rab7 : Rdr H17 (some ⟨m5, 0, none⟩) 2 (fun i => ([a, b] : List Int)[i]?.getD 0) := (rab.keep s15 fun y hy _ h => by rw [fpS_mk] at hy; exact d72 (h.symm.trans hy)).keep s17 fun _ _ _ h => h
        have s1517 := s15.and s17
        have rl7 := rl.keep s17 fun _ _ h => h
        have next : ∀ (H18 : Hp) (lp2 : Option Addr) (ln2 lc2 : Nat) (f2 : Nat → Edg), ln2 ≤ i + 1 → Step (fun y => y = l14) H14 H18 → H18 l14 = some ⟨[.int .i64 N, .slice lp2 ln2 lc2], 24⟩ → Row H18 lp2 ln2 lc2 f2 → (∀ y, fpS lp2 y → H14 y = none) → (∀ t, t < ln2 → ∃ j, j < tn ∧ f2 t = e j) → (∀ j, j < i + 1 → (e j).fr ≠ a → (e j).to ≠ a → ∃ t, t < ln2 ∧ f2 t = e j) →
            compasslaw15_PairTurns.j1 l1 m5 ap an ac w13 l14 tp tn tc (tn : Int) (i : Int) X E H18 K := fun H18 lp2 ln2 lc2 f2 h1 h2 h3 h4 h5 h6 h7 => by
          refine compasslaw15_PairTurns.j1_eq ?_
          unfold compasslaw15_PairTurns.j1_t
          rw [i64w (by omega) (by omega)]
          exact hX _ _ _ _ _ _ _ _ _ _ _ _ _ ⟨rfl, rfl, rfl, rfl, rfl, rfl, rfl, rfl, i + 1, lp2, ln2, lc2, f2, by omega, by omega, h1, h2, h3, h4, h5, h6, h7⟩ (by omega)
        have skip : ((e i).fr = a ∨ (e i).to = a) → compasslaw15_PairTurns.j1 l1 m5 ap an ac w13 l14 tp tn tc (tn : Int) (i : Int) X E H17 K := fun hs => next H17 lp' ln lc f (by omega) s1517 e77 rl7 fl hall fun j hj h1 h2 => by
          by_cases ej : j = i
          · rw [ej] at h1 h2; exact (hs.elim h1 h2).elim
          · exact hhas j (by omega) h1 h2
        simp only [get_at e8, List.getElem?_cons_zero, List.getElem?_cons_succ, ldI_mk, ldS_mk]
        refine rab7.ixI (by decide) (by decide) ?_
        refine bcn (fun c1 => ?_) fun c1 => skip (.inl c1)
        refine rab7.ixI (by decide) (by decide) ?_
        refine bcn (fun c2 => ?_) fun c2 => skip (.inr c2)
        replace c1 : (e i).fr ≠ a := c1
        replace c2 : (e i).to ≠ a := c2
        simp only [get_at e77, List.getElem?_cons_zero, List.getElem?_cons_succ, ldI_mk, ldS_mk]
        refine Row.appW (α := Edg) rl7 (e i) rfl (by omega) (by omega) fun p9 c9 H18 r9 s18 f9 => ?_
        have n9 : ¬ fpS lp' l14 := fun h => by have := fl _ h; rw [e7'] at this; cases this
        have live7 : ∀ {b : Nat} {x : Blk}, H17 b = some x → H17 b ≠ none := fun h h' => by rw [h] at h'; cases h'
        have m9 : ¬ fpS p9 l14 := fun h => (f9 _ h).elim n9 (live7 e77)
        have e78 := s18.keep _ _ e77 n9
        refine stp e78 (by simp) rfl fun H19 e79 s19 => ?_
        replace e79 : H19 l14 = some ⟨[.int .i64 N, .slice p9 (ln + 1) c9], 24⟩ := e79
        refine next H19 p9 (ln + 1) c9 (upf f ln (e i)) (by omega) ?_ e79 (r9.keep s19 fun y hy h => m9 (h ▸ hy)) (fun y hy => ?_) (fun t ht => ?_) fun j hj h1 h2 => ?_
        · exact (s1517.trans s18 fun y hy => .inr (fl y hy)).trans s19 fun y hy => .inl hy
        · rcases f9 y hy with h | h
          · exact fl y h
          · exact s1517.mono y h
        · by_cases et : t = ln
          · rw [et, upf_same]; exact ⟨i, by omega, rfl⟩
          · rw [upf_ne et]; exact hall t (by omega)
        · by_cases ej : j = i
          · exact ⟨ln, by omega, by rw [ej, upf_same]⟩
          · obtain ⟨t, ht, et⟩ := hhas j (by omega) h1 h2
            exact ⟨t, by omega, by rw [upf_ne (by omega)]; exact et⟩
      · clear hX
        have hin : i = tn := by omega
        subst hin
        have e35 := s15.keep _ _ e3 fun h => d73 h
        have rw15 := rw14.keep s15 fun y hy h => d7w (h ▸ hy)
        refine compasslaw15_PairTurns.j2_eq ?_
        unfold compasslaw15_PairTurns.j2_t
        simp only [get_at e35, List.getElem?_cons_zero, List.getElem?_cons_succ, ldI_mk, ldS_mk]
        refine sPair rw15.rdr (by omega) fun H16 mp1 mn1 mc1 g1 cp1 cn1 cc1 cv1 s16 _ _ _ _ _ l1a _ hFw => ?_
        have e76 := s16.keep _ _ e75 fun h => h
        have rl6 := rl.keep s16 fun _ _ h => h
        simp only [get_at e76, List.getElem?_cons_zero, List.getElem?_cons_succ, ldI_mk, ldS_mk]
        refine sPair rl6.rdr (by omega) fun H17 mp2 mn2 mc2 g2 cp2 cn2 cc2 cv2 s17 _ _ _ _ _ l1b _ hFl => ?_
        have fin := kk H17 ((s015.and s16).and s17)
        -- the smaller graph is right, too
        have hrl : Right N ln f := ⟨hr.N0, hr.N1, by have := hr.n1; omega, fun t ht => by obtain ⟨j, hj, ej⟩ := hall t ht; rw [ej]; exact hr.ed j hj⟩
        have hcl : Crs N ln f l1 := ⟨hc.1, hc.2.1, fun t ht => by obtain ⟨j, hj, ej⟩ := hall t ht; rw [ej]; exact hc.2.2 j hj⟩
        have hl0 : prC N ln f l1 2 = 0 := prC_zero.2 ⟨hrl, hcl, .inr rfl⟩
        rcases hFl with ⟨h, _⟩ | ⟨_, _, _, hCl⟩
        · exact (h hl0).elim
        · have hle : mn2 ≤ an := by
            have := cover_bound hrl hCl.tk (cv := cv) (q := cn) fun t ht => by obtain ⟨j, hj, ej⟩ := hall t ht; rw [ej]; exact hC.cvr j hj
            have := hC.eq; omega
          have hge : an ≤ mn2 + 1 := by
            have := cover_bound hr hC.tk (cv := upf cv2 cn2 a) (q := cn2 + 1) fun j hj => by
              by_cases h1 : (e j).fr = a
              · right; left; rw [h1]; exact in_last
              · by_cases h2 : (e j).to = a
                · right; right; rw [h2]; exact in_last
                · obtain ⟨t, ht, et⟩ := hhas j hj h1 h2
                  have := hCl.cvr t ht
                  rw [et] at this
                  exact this.imp id fun h => h.imp in_more in_more
            have := hCl.eq; omega
          refine bc (fun _ => ?_) fun h => (h hl0).elim
          refine bc (fun _ => ?_) fun h => by omega
          rw [i64w (by omega) (by omega)]
          refine bc (fun _ => ?_) fun h => by omega
          refine bcn (fun _ => fin) fun hw0 => ?_
          rcases hFw with ⟨h, _⟩ | ⟨_, hrw, _, hCw⟩
          · exact (h hw0).elim
          · have hup : an ≤ mn1 := by
              have := cover_bound hr hC.tk (cv := cv1) (q := cn1) fun j hj => by
                have := hCw.cvr j (by omega)
                rwa [upf_ne (by omega), hee7 j hj] at this
              have := hCw.eq; omega
            have hdn : mn1 ≤ an + 1 := by
              have := cover_bound hrw hCw.tk (cv := upf cv cn a) (q := cn + 1) fun j hj => by
                by_cases ej : j = i
                · rw [ej, upf_same]; exact .inr (.inl in_last)
                · rw [upf_ne ej, hee7 j (by omega)]
                  exact (hC.cvr j (by omega)).imp id fun h => h.imp in_more in_more
              have := hC.eq; omega
            refine bc (fun _ => ?_) fun h => by omega
            rw [i64w (by omega) (by omega), decide_eq_true (by omega)]
            exact fin
end
end Go.Mz
