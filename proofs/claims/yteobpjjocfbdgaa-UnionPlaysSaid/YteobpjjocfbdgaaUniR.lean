/-
  What the document's functions of layer 06 answer: Wrong, Names, Find, Join, Undo, Members, told of plain heaps.
-/
import Derived.Test.YteobpjjocfbdgaaUniN
import Derived.Test.YteobpjjocfbdgaaGRef06
set_option linter.unusedSimpArgs false
set_option linter.unusedVariables false
namespace Go.Mz
section
variable {E : Value → Hp → Prop}

def prI (pr : Nat → Nat × Nat) : Nat → Int × Int := fun i => (((pr i).1 : Int), ((pr i).2 : Int))

theorem cast_stepN {g : Nat → Nat} {u v : Nat} : (fun i => ((stepN g u v i : Nat) : Int)) = if g u < g v then upf (fun i => (g i : Int)) v (g u : Int) else upf (fun i => (g i : Int)) u (g v : Int) := by
  unfold stepN
  split <;> exact cast_upf

theorem rwrong {n : Int} {H : Hp} {K : Int → Hp → Prop} (k1 : ¬ (0 ≤ n ∧ n ≤ 1024) → K 3 H) (k2 : 0 ≤ n → n ≤ 1024 → K 0 H) : compassref06_Wrong.call n E H K := by
  refine compassref06_Wrong.of (compassref06_Wrong.run_eq ?_)
  unfold compassref06_Wrong.run_t
  refine bc (fun h => k1 (by omega)) fun h => ?_
  refine bc (fun h => k1 (by omega)) fun h' => k2 (by omega) (by omega)

theorem rnames {σ : USt} {pr : Nat → Nat × Nat} {jp : Option Addr} {jc k : Nat} {n : Int} {H : Hp} {K : Option Addr → Nat → Nat → Hp → Prop} (rep : Rep σ (Prs pr k)) (hk : σ.k = k) (hn : n = σ.n) (hj : Rdr H jp k (prI pr))
    (kk : ∀ p c H', Row H' p σ.n c (nmI σ) → Step (fun _ => False) H H' → (∀ b, fpS p b → H b = none) → K p σ.n c H') : compassref06_Names.call n jp k jc E H K := by
  subst hn
  have h1024 := rep.hist.ok.1
  have hkn := rep.hist.le
  refine compassref06_Names.of (compassref06_Names.run_eq ?_)
  unfold compassref06_Names.run_t
  intro b1 hb1
  have e1 : (H.upd b1 ⟨[.int .i64 (σ.n : Int), .slice jp k jc], 45⟩) b1 = some ⟨[.int .i64 (σ.n : Int), .slice jp k jc], 45⟩ := upd_same
  have s1 : Step (fun _ => False) H (H.upd b1 ⟨[.int .i64 (σ.n : Int), .slice jp k jc], 45⟩) := Step.new hb1
  generalize (H.upd b1 ⟨[.int .i64 (σ.n : Int), .slice jp k jc], 45⟩) = H1 at e1 s1
  have i0 : H1.get b1 0 = some (.int .i64 (σ.n : Int)) := by simp [Hp.get, e1]
  simp only [i0, ldI_mk]
  refine Row.make (0 : Int) rfl (by omega) (by omega) (by decide) fun b2 H2 hb2 r2 s2 => ?_
  simp only [Int.toNat_natCast] at r2 ⊢
  have e2 := s2.keep _ _ e1 fun h => h
  have hne : b1 ≠ b2 := fun e => by subst e; rw [e1] at hb2; cases hb2
  have f2 : H b2 = none := s1.mono _ hb2
  have own : ∀ {H' H'' : Hp}, Step (fun _ => False) H H' → Step (fpS (some ⟨b2, 0, none⟩)) H' H'' → Step (fun _ => False) H H'' := fun h h' => h.trans h' fun b hb => .inr (by rw [fpS_mk] at hb; rw [hb]; exact f2)
  refine compassref06_Names.l1_rule (fun s1 np nn' nc v4 H' => s1 = b1 ∧ np = some ⟨b2, 0, none⟩ ∧ nn' = σ.n ∧ nc = σ.n ∧ ∃ i : Nat, v4 = i ∧ i ≤ σ.n ∧ H' b1 = some ⟨[.int .i64 (σ.n : Int), .slice jp k jc], 45⟩ ∧ Step (fun _ => False) H H' ∧ ∃ f, Row H' (some ⟨b2, 0, none⟩) σ.n σ.n f ∧ ∀ j, j < i → f j = (j : Int))
    (fun s1 np nn' nc v4 H' => σ.n - v4.toNat) ?_ ⟨rfl, rfl, rfl, rfl, 0, rfl, by omega, e2, s1.trans s2 fun _ h => .inl h, _, r2, fun j hj => by omega⟩
  rintro s1' np nn' nc v4 H3 ⟨rfl, rfl, rfl, rfl, i, rfl, hi, e3, s3, f, r3, hf⟩ X hX
  refine compassref06_Names.b1_eq ?_
  unfold compassref06_Names.b1_t
  have i0 : H3.get s1' 0 = some (.int .i64 (σ.n : Int)) := by simp [Hp.get, e3]
  simp only [i0, ldI_mk]
  refine bc (fun hlt => ?_) fun hge => ?_
  · refine r3.stI (by omega) (by omega) _ fun H4 r4 s4 => ?_
    rw [i64w (by omega) (by omega)]
    refine hX _ _ _ _ _ _ ⟨rfl, rfl, rfl, rfl, i + 1, by omega, by omega, s4.keep _ _ e3 (by rw [fpS_mk]; exact hne), own s3 s4, _, r4, fun j hj => ?_⟩ (by omega)
    simp only [Int.toNat_natCast]
    by_cases e : j = i
    · subst e; rw [upf_same]
    · rw [upf_ne e]; exact hf j (by omega)
  · have : i = σ.n := by omega
    subst this
    clear hX
    have r3 : Row H3 (some ⟨b2, 0, none⟩) σ.n σ.n (fun j => ((roundsN (fun v => v) pr k 0 j : Nat) : Int)) := r3.congr hf
    refine compassref06_Names.j1_eq ?_
    unfold compassref06_Names.j1_t
    refine compassref06_Names.l2_rule (fun s1 np nn' nc r5 H' => s1 = s1' ∧ np = some ⟨b2, 0, none⟩ ∧ nn' = σ.n ∧ nc = σ.n ∧ ∃ r : Nat, r5 = r ∧ r ≤ k + 1 ∧ H' s1' = some ⟨[.int .i64 (σ.n : Int), .slice jp k jc], 45⟩ ∧ Step (fun _ => False) H H' ∧ Row H' (some ⟨b2, 0, none⟩) σ.n σ.n (fun j => ((roundsN (fun v => v) pr k r j : Nat) : Int)))
      (fun s1 np nn' nc r5 H' => k + 1 - r5.toNat) ?_ ⟨rfl, rfl, rfl, rfl, 0, rfl, by omega, e3, s3, r3⟩
    clear r3 e3 s3 i0
    rintro s1 np nn' nc r5 H4 ⟨rfl, rfl, rfl, rfl, r, rfl, hr, e4, s4, r4⟩ X hX
    refine compassref06_Names.b2_eq ?_
    unfold compassref06_Names.b2_t
    have i1 : H4.get s1 1 = some (.slice jp k jc) := by simp [Hp.get, e4]
    simp only [i1, ldS_mk]
    refine bc (fun hle => ?_) fun hgt => ?_
    · have r4 : Row H4 (some ⟨b2, 0, none⟩) σ.n σ.n (fun j => ((roundN (roundsN (fun v => v) pr k r) pr 0 j : Nat) : Int)) := r4
      refine compassref06_Names.l3_rule (fun s1' np nn' nc r5 i6 H' => s1' = s1 ∧ np = some ⟨b2, 0, none⟩ ∧ nn' = σ.n ∧ nc = σ.n ∧ r5 = r ∧ ∃ i : Nat, i6 = i ∧ i ≤ k ∧ H' s1 = some ⟨[.int .i64 (σ.n : Int), .slice jp k jc], 45⟩ ∧ Step (fun _ => False) H H' ∧ Row H' (some ⟨b2, 0, none⟩) σ.n σ.n (fun j => ((roundN (roundsN (fun v => v) pr k r) pr i j : Nat) : Int)))
        (fun s1 np nn' nc r5 i6 H' => k - i6.toNat) ?_ ⟨rfl, rfl, rfl, rfl, rfl, 0, rfl, by omega, e4, s4, r4⟩
      clear r4 e4 s4 i1
      rintro s1' np nn' nc r5 i6 H5 ⟨rfl, rfl, rfl, rfl, rfl, i, rfl, hi, e5, s5, r5⟩ Y hY
      refine compassref06_Names.b3_eq ?_
      unfold compassref06_Names.b3_t
      have i1 : H5.get s1' 1 = some (.slice jp k jc) := by simp [Hp.get, e5]
      simp only [i1, ldS_mk]
      refine bc (fun hlt => ?_) fun hge => ?_
      · have hik : i < k := by omega
        obtain ⟨pu, pv, _⟩ := rep.at hik
        have hj5 := hj.keep s5 fun _ _ _ h => h
        refine hj5.ix (α := Int × Int) (by omega) (by omega) fun b o _ hg => ?_
        have g0 := hg 0 (by decide)
        have g1 := hg 1 (by decide)
        simp only [El.enc, prI, Nat.add_zero] at g0 g1
        simp at g0 g1
        rw [g0, g1]
        simp only [ldI_mk]
        refine nwst rfl rfl fun b3 H6 hb3 e6 s6 => ?_
        have j0 : H6.get b3 0 = some (.int .i64 ((pr i).1 : Int)) := by simp [Hp.get, e6]
        have j1 : H6.get b3 1 = some (.int .i64 ((pr i).2 : Int)) := by simp [Hp.get, e6]
        simp only [j0, j1, ldI_mk]
        have r6 := r5.keep s6 fun _ _ h => h
        have e5' := s6.keep _ _ e5 fun h => h
        have st6 := s5.trans s6 fun _ h => .inl h
        have next : ∀ H', Row H' (some ⟨b2, 0, none⟩) σ.n σ.n (fun j => ((stepN (roundN (roundsN (fun v => v) pr k r) pr i) (pr i).1 (pr i).2 j : Nat) : Int)) → Step (fpS (some ⟨b2, 0, none⟩)) H6 H' →
            compassref06_Names.j2 s1' (some ⟨b2, 0, none⟩) σ.n σ.n (r : Int) (i : Int) X Y E H' K := fun H' hr' hs' => by
          refine compassref06_Names.j2_eq ?_
          unfold compassref06_Names.j2_t
          rw [i64w (by omega) (by omega)]
          exact hY _ _ _ _ _ _ _ ⟨rfl, rfl, rfl, rfl, rfl, i + 1, by omega, by omega, hs'.keep _ _ e5' (by rw [fpS_mk]; exact hne), own st6 hs', hr'⟩ (by omega)
        refine r6.ixI (by omega) (by omega) ?_
        refine r6.ixI (by omega) (by omega) ?_
        simp only [Int.toNat_natCast]
        refine bc (fun hlt => ?_) fun hge => ?_
        · refine r6.ixI (by omega) (by omega) ?_
          refine r6.stI (by omega) (by omega) _ fun H7 r7 s7 => ?_
          refine next _ ?_ s7
          rw [cast_stepN, if_pos (by omega)]
          simpa only [Int.toNat_natCast] using r7
        · refine r6.ixI (by omega) (by omega) ?_
          refine r6.stI (by omega) (by omega) _ fun H7 r7 s7 => ?_
          refine next _ ?_ s7
          rw [cast_stepN, if_neg (by omega)]
          simpa only [Int.toNat_natCast] using r7
      · have : i = k := by omega
        subst this
        refine compassref06_Names.j3_eq ?_
        unfold compassref06_Names.j3_t
        rw [i64w (by omega) (by omega)]
        exact hX _ _ _ _ _ _ ⟨rfl, rfl, rfl, rfl, r + 1, by omega, by omega, e5, s5, r5⟩ (by omega)
    · have : r = k + 1 := by omega
      subst this
      refine kk _ _ _ (r4.congr fun v hv => ?_) s4 fun b hb => by rw [fpS_mk] at hb; rw [hb]; exact f2
      show ((roundsN (fun v => v) pr k (k + 1) v : Nat) : Int) = (σ.nm v : Int)
      rw [names_done rep hk (by omega) hv]

theorem rfind {σ : USt} {pr : Nat → Nat × Nat} {jp : Option Addr} {jc k : Nat} {n v : Int} {H : Hp} {K : Int → Int → Hp → Prop} (rep : Rep σ (Prs pr k)) (hk : σ.k = k) (hn : n = σ.n) (hj : Rdr H jp k (prI pr))
    (k1 : ∀ H', Step (fun _ => False) H H' → ¬ (0 ≤ v ∧ v < n) → K 0 30 H') (k2 : ∀ H', Step (fun _ => False) H H' → 0 ≤ v → v < n → K (nmI σ v.toNat) 0 H') : compassref06_Find.call n jp k jc v E H K := by
  refine compassref06_Find.of (compassref06_Find.run_eq ?_)
  unfold compassref06_Find.run_t
  refine nwk fun b1 H1 hb1 e1 s1 => ?_
  have i0 : H1.get b1 0 = some (.int .i64 n) := by simp [Hp.get, e1]
  have i1 : H1.get b1 1 = some (.slice jp k jc) := by simp [Hp.get, e1]
  simp only [i0, i1, ldI_mk, ldS_mk]
  refine bc (fun h => k1 _ s1 (by omega)) fun h0 => ?_
  refine bc (fun h => k1 _ s1 (by omega)) fun h1 => ?_
  refine rnames rep hk hn (hj.keep s1 fun _ _ _ h => h) fun p c H2 r2 s2 f2 => ?_
  refine r2.ixI (by omega) (by omega) ?_
  exact k2 _ (s1.trans s2 fun _ h => .inl h) (by omega) (by omega)

theorem rundo {jp : Option Addr} {jc k : Nat} {n : Int} {H : Hp} {f : Nat → Int × Int} {K : Int → Option Addr → Nat → Nat → Int → Hp → Prop} (hj : Rdr H jp k f) (hc : k ≤ jc) (hk : k ≤ 1048576)
    (k1 : ∀ H', Step (fun _ => False) H H' → k = 0 → K n jp k jc 4 H') (k2 : ∀ H', Step (fun _ => False) H H' → 0 < k → K n jp (k - 1) jc 0 H') : compassref06_Undo.call n jp k jc E H K := by
  refine compassref06_Undo.of (compassref06_Undo.run_eq ?_)
  unfold compassref06_Undo.run_t
  refine nwk fun b1 H1 hb1 e1 s1 => ?_
  refine nwk fun b2 H2 hb2 e2 s2 => ?_
  have hne : b1 ≠ b2 := fun e => by subst e; rw [e1] at hb2; cases hb2
  have s02 := s1.trans s2 fun _ h => .inl h
  have e1' := s2.keep _ _ e1 fun h => h
  have i0 : H2.get b1 0 = some (.int .i64 n) := by simp [Hp.get, e1']
  have i1 : H2.get b1 1 = some (.slice jp k jc) := by simp [Hp.get, e1']
  simp only [i0, i1, ldI_mk, ldS_mk]
  refine bc (fun h => ?_) fun h => ?_
  · refine stk e2 rfl rfl fun H3 e3 s3 => ?_
    have j0 : H3.get b2 0 = some (.int .i64 n) := by simp [Hp.get, e3]
    have j1 : H3.get b2 1 = some (.slice jp k jc) := by simp [Hp.get, e3]
    simp only [j0, j1, ldI_mk, ldS_mk]
    exact k1 _ (s02.trans s3 fun b hb => .inr (hb ▸ s1.mono _ hb2)) (by omega)
  · rw [i64w (by omega) (by omega), hj.slp0 (by omega)]
    refine ⟨⟨by omega, by omega⟩, ?_⟩
    refine ⟨_, e1', ⟨by simp, rfl⟩, ?_⟩
    have e3 : (H2.upd b1 ⟨putL [.int .i64 n, .slice jp k jc] 1 [.slice jp ((k : Int) - 1).toNat jc], 45⟩) b1 = some ⟨[.int .i64 n, .slice jp (k - 1) jc], 45⟩ := by
      rw [upd_same, show ((k : Int) - 1).toNat = k - 1 by omega]; rfl
    have s3 : Step (· = b1) H2 (H2.upd b1 ⟨putL [.int .i64 n, .slice jp k jc] 1 [.slice jp ((k : Int) - 1).toNat jc], 45⟩) := Step.wr e1' rfl
    generalize (H2.upd b1 ⟨putL [.int .i64 n, .slice jp k jc] 1 [.slice jp ((k : Int) - 1).toNat jc], 45⟩) = H3 at e3 s3
    have i0 : H3.get b1 0 = some (.int .i64 n) := by simp [Hp.get, e3]
    have i1 : H3.get b1 1 = some (.slice jp (k - 1) jc) := by simp [Hp.get, e3]
    simp only [i0, i1, ldI_mk, ldS_mk]
    have e2' := s3.keep _ _ e2 fun h => hne h.symm
    refine stk e2' rfl rfl fun H4 e4 s4 => ?_
    have j0 : H4.get b2 0 = some (.int .i64 n) := by simp [Hp.get, e4]
    have j1 : H4.get b2 1 = some (.slice jp (k - 1) jc) := by simp [Hp.get, e4]
    simp only [j0, j1, ldI_mk, ldS_mk]
    exact k2 _ ((s02.trans s3 fun b hb => .inr (hb ▸ hb1)).trans s4 fun b hb => .inr (hb ▸ s1.mono _ hb2)) (by omega)

theorem nm_iff {σ : USt} (h : UHist σ) {u v : Nat} (hu : u < σ.n) (hv : v < σ.n) : σ.nm u = σ.nm v ↔ rtOf σ.par u = rtOf σ.par v := by
  refine ⟨fun e => ?_, nm_rt⟩
  have hu' := (h.least.1 u hu).2
  have hv' := (h.least.1 v hv).2
  have e' : σ.lst (rtOf σ.par u) = σ.lst (rtOf σ.par v) := e
  rw [← hu', ← hv', e']

theorem rmembers {σ : USt} {pr : Nat → Nat × Nat} {jp : Option Addr} {jc k : Nat} {n v : Int} {H : Hp} {K : Option Addr → Nat → Nat → Int → Hp → Prop} (rep : Rep σ (Prs pr k)) (hk : σ.k = k) (hn : n = σ.n) (hj : Rdr H jp k (prI pr))
    (k1 : ∀ H', Step (fun _ => False) H H' → ¬ (0 ≤ v ∧ v < n) → K none 0 0 30 H')
    (k2 : ∀ H' p c, Step (fun _ => False) H H' → 0 ≤ v → v < n → Row H' p (σ.mem v.toNat σ.n).length c (lsI (σ.mem v.toNat σ.n)) → K p (σ.mem v.toNat σ.n).length c 0 H') : compassref06_Members.call n jp k jc v E H K := by
  subst hn
  have h1024 := rep.hist.ok.1
  refine compassref06_Members.of (compassref06_Members.run_eq ?_)
  unfold compassref06_Members.run_t
  refine nwk fun b1 H1 hb1 e1 s1 => ?_
  have i0 : H1.get b1 0 = some (.int .i64 (σ.n : Int)) := by simp [Hp.get, e1]
  have i1 : H1.get b1 1 = some (.slice jp k jc) := by simp [Hp.get, e1]
  simp only [i0, i1, ldI_mk, ldS_mk]
  refine bc (fun h => k1 _ s1 (by omega)) fun h0 => ?_
  refine bc (fun h => k1 _ s1 (by omega)) fun h1 => ?_
  obtain ⟨v, rfl⟩ : ∃ v' : Nat, v = v' := ⟨v.toNat, by omega⟩
  refine rnames rep hk rfl (hj.keep s1 fun _ _ _ h => h) fun np nc H2 r2 s2 f2 => ?_
  have e2 := s2.keep _ _ e1 fun h => h
  have s02 := s1.trans s2 fun _ h => .inl h
  refine compassref06_Members.l1_rule (fun v1 s2 np' nn' nc' op on oc u8 H' => v1 = v ∧ b1 = s2 ∧ np = np' ∧ nn' = σ.n ∧ nc = nc' ∧ ∃ i : Nat, u8 = i ∧ i ≤ σ.n ∧ on = (σ.mem v i).length ∧ Row H' op on oc (lsI (σ.mem v i)) ∧ Step (fun _ => False) H2 H' ∧ ∀ b, fpS op b → H2 b = none)
    (fun v1 s2 np nn' nc op on oc u8 H' => σ.n - u8.toNat) ?_ ⟨rfl, rfl, rfl, rfl, rfl, 0, rfl, by omega, rfl, .nil, .refl, fun b hb => by rw [fpS_none] at hb; exact hb.elim⟩
  rintro v1 s2' np' nn' nc' op on oc u8 H3 ⟨rfl, rfl, rfl, rfl, rfl, i, rfl, hi, rfl, r3, s3, f3⟩ X hX
  refine compassref06_Members.b1_eq ?_
  unfold compassref06_Members.b1_t
  have e3 := s3.keep _ _ e2 fun h => h
  have i0 : H3.get b1 0 = some (.int .i64 (σ.n : Int)) := by simp [Hp.get, e3]
  simp only [i0, ldI_mk]
  have r23 := r2.keep s3 fun _ _ h => h
  refine bc (fun hlt => ?_) fun hge => ?_
  · refine r23.ixI (by omega) (by omega) ?_
    refine r23.ixI (by omega) (by omega) ?_
    simp only [Int.toNat_natCast]
    have hlen : (σ.mem v i).length ≤ 1024 := Nat.le_trans (List.length_filter_le _ _) (by simp; omega)
    have hiff := nm_iff rep.hist (u := i) (v := v) (by omega) (by omega)
    have hmem : σ.mem v (i + 1) = if σ.nm i = σ.nm v then σ.mem v i ++ [i] else σ.mem v i := by
      unfold USt.mem
      rw [List.range_succ, List.filter_append]
      split
      · rename_i e; simp [hiff.1 e]
      · rename_i e
        have : rtOf σ.par i ≠ rtOf σ.par v := fun e' => e (hiff.2 e')
        simp [this]
    refine bc (fun e => ?_) fun e => ?_
    · have e' : σ.nm i = σ.nm v := by have : (σ.nm i : Int) = σ.nm v := e; omega
      refine r3.appI _ (by omega) fun p' c' H4 r4 s4 f4 => ?_
      refine compassref06_Members.j1_eq ?_
      unfold compassref06_Members.j1_t
      rw [i64w (by omega) (by omega)]
      refine hX _ _ _ _ _ _ _ _ _ _ ⟨rfl, rfl, rfl, rfl, rfl, i + 1, by omega, by omega, ?_, ?_, s3.trans s4 fun b hb => .inr (f3 b hb), fun b hb => ?_⟩ (by omega)
      · rw [hmem, if_pos e']; simp
      · rw [hmem, if_pos e', ← lsI_app]; exact r4
      · rcases f4 b hb with h | h
        · exact f3 b h
        · exact s3.mono b h
    · have e' : σ.nm i ≠ σ.nm v := fun e' => e (by show (σ.nm i : Int) = σ.nm v; rw [e'])
      refine compassref06_Members.j1_eq ?_
      unfold compassref06_Members.j1_t
      rw [i64w (by omega) (by omega)]
      refine hX _ _ _ _ _ _ _ _ _ _ ⟨rfl, rfl, rfl, rfl, rfl, i + 1, by omega, by omega, ?_, ?_, s3, f3⟩ (by omega)
      · rw [hmem, if_neg e']
      · rw [hmem, if_neg e']; exact r3
  · have : i = σ.n := by omega
    subst this
    have := k2 H3 op oc (s02.trans s3 fun _ h => .inl h) (by omega) (by omega)
    simp only [Int.toNat_natCast] at this
    exact this r3

theorem rjoinbad {b1 b2 : Nat} {n : Int} {jp : Option Addr} {k jc : Nat} {H0 H : Hp} {K : Int → Option Addr → Nat → Nat → Bool → Int → Hp → Prop} (e1 : H b1 = some ⟨[.int .i64 n, .slice jp k jc], 45⟩) (e2 : H b2 = some ⟨[.int .i64 0, .slice none 0 0], 45⟩) (f2 : H0 b2 = none) (st : Step (fun _ => False) H0 H)
    (kk : ∀ H', Step (fun _ => False) H0 H' → K n jp k jc false 30 H') : compassref06_Join.j1 b1 b2 E H K := by
  refine compassref06_Join.j1_eq ?_
  unfold compassref06_Join.j1_t
  have i0 : H.get b1 0 = some (.int .i64 n) := by simp [Hp.get, e1]
  have i1 : H.get b1 1 = some (.slice jp k jc) := by simp [Hp.get, e1]
  simp only [i0, i1, ldI_mk, ldS_mk]
  refine stk e2 rfl rfl fun H3 e3 s3 => ?_
  have j0 : H3.get b2 0 = some (.int .i64 n) := by simp [Hp.get, e3]
  have j1 : H3.get b2 1 = some (.slice jp k jc) := by simp [Hp.get, e3]
  simp only [j0, j1, ldI_mk, ldS_mk]
  exact kk _ (st.trans s3 fun b hb => .inr (hb ▸ f2))

theorem rjoin {σ : USt} {pr : Nat → Nat × Nat} {jp : Option Addr} {jc k : Nat} {n u v : Int} {H : Hp} {K : Int → Option Addr → Nat → Nat → Bool → Int → Hp → Prop} (rep : Rep σ (Prs pr k)) (hk : σ.k = k) (hn : n = σ.n) (hj : Row H jp k jc (prI pr))
    (kbad : ∀ H', Step (fun _ => False) H H' → ¬ ((0 ≤ u ∧ u < n) ∧ 0 ≤ v ∧ v < n) → K n jp k jc false 30 H')
    (ksame : ∀ H', Step (fun _ => False) H H' → (0 ≤ u ∧ u < n) → (0 ≤ v ∧ v < n) → σ.nm u.toNat = σ.nm v.toNat → K n jp k jc false 0 H')
    (knew : ∀ H' jp' jc', Step (fun _ => False) H H' → (0 ≤ u ∧ u < n) → (0 ≤ v ∧ v < n) → σ.nm u.toNat ≠ σ.nm v.toNat → Row H' jp' (k + 1) jc' (prI (upf pr k (u.toNat, v.toNat))) → (∀ b, fpS jp' b → H b = none) → K n jp' (k + 1) jc' true 0 H') :
    compassref06_Join.call n jp k jc u v E H K := by
  subst hn
  have h1024 := rep.hist.ok.1
  have hkn := rep.hist.le
  refine compassref06_Join.of (compassref06_Join.run_eq ?_)
  unfold compassref06_Join.run_t
  refine nwk fun b1 H1 hb1 e1 s1 => ?_
  refine nwk fun b2 H2 hb2 e2 s2 => ?_
  have hne : b1 ≠ b2 := fun e => by subst e; rw [e1] at hb2; cases hb2
  have f2 : H b2 = none := s1.mono _ hb2
  have s02 := s1.trans s2 fun _ h => .inl h
  have e1 := s2.keep _ _ e1 fun h => h
  have i0 : H2.get b1 0 = some (.int .i64 (σ.n : Int)) := by simp [Hp.get, e1]
  have i1 : H2.get b1 1 = some (.slice jp k jc) := by simp [Hp.get, e1]
  simp only [i0, i1, ldI_mk, ldS_mk]
  refine bc (fun h => rjoinbad e1 e2 f2 s02 fun H' s' => kbad H' s' (by omega)) fun h1 => ?_
  refine bc (fun h => rjoinbad e1 e2 f2 s02 fun H' s' => kbad H' s' (by omega)) fun h2 => ?_
  refine bc (fun h => rjoinbad e1 e2 f2 s02 fun H' s' => kbad H' s' (by omega)) fun h3 => ?_
  refine bc (fun h => rjoinbad e1 e2 f2 s02 fun H' s' => kbad H' s' (by omega)) fun h4 => ?_
  have hu : 0 ≤ u ∧ u < (σ.n : Int) := by omega
  have hv : 0 ≤ v ∧ v < (σ.n : Int) := by omega
  have hj2 := hj.keep s02 fun _ _ h => h
  refine rnames rep hk rfl hj2.rdr fun np nc H3 r3 s3 f3 => ?_
  have e13 := s3.keep _ _ e1 fun h => h
  have e23 := s3.keep _ _ e2 fun h => h
  have s03 := s02.trans s3 fun _ h => .inl h
  have hj3 := hj2.keep s3 fun _ _ h => h
  refine r3.ixI (by omega) (by omega) ?_
  refine r3.ixI (by omega) (by omega) ?_
  have i0 : H3.get b1 0 = some (.int .i64 (σ.n : Int)) := by simp [Hp.get, e13]
  have i1 : H3.get b1 1 = some (.slice jp k jc) := by simp [Hp.get, e13]
  simp only [i0, i1, ldI_mk, ldS_mk]
  refine bc (fun e => ?_) fun e => ?_
  · refine stk e23 rfl rfl fun H4 e4 s4 => ?_
    have j0 : H4.get b2 0 = some (.int .i64 (σ.n : Int)) := by simp [Hp.get, e4]
    have j1 : H4.get b2 1 = some (.slice jp k jc) := by simp [Hp.get, e4]
    simp only [j0, j1, ldI_mk, ldS_mk]
    refine ksame _ (s03.trans s4 fun b hb => .inr (hb ▸ f2)) hu hv ?_
    have : (σ.nm u.toNat : Int) = σ.nm v.toNat := e
    omega
  · rw [i64w (by omega) (by omega)]
    refine Row.make0 ((0 : Int), (0 : Int)) rfl (by omega) (by omega) (by decide) fun b5 H5 hb5 r5 s5 => ?_
    have e15 := s5.keep _ _ e13 fun h => h
    have e25 := s5.keep _ _ e23 fun h => h
    have hj5 := hj3.keep s5 fun _ _ h => h
    have s05 := s03.trans s5 fun _ h => .inl h
    have f5 : H b5 = none := s03.mono _ hb5
    have n15 : b1 ≠ b5 := fun e => by rw [← e, e13] at hb5; cases hb5
    have n25 : b2 ≠ b5 := fun e => by rw [← e, e23] at hb5; cases hb5
    have i1 : H5.get b1 1 = some (.slice jp k jc) := by simp [Hp.get, e15]
    simp only [i1, ldS_mk]
    have ec : ((k : Int) + 1).toNat = k + 1 := by omega
    rw [ec] at r5 ⊢
    refine r5.appN hj5.rdr rfl (by omega) (fun h0 => ?_) fun H6 r6 s6 => ?_
    · rcases hj5.cells with h | ⟨b, o, x, h, hx, hl, _⟩
      · exact .inl h.1
      · exact .inr ⟨b, o, x, h, hx, by omega⟩
    refine r6.app (α := Int × Int) (u, v) rfl (by omega) (by decide) fun p' c' H7 r7 s7 f7 => ?_
    have e16 := s6.keep _ _ e15 (by rw [fpS_mk]; exact n15)
    have e26 := s6.keep _ _ e25 (by rw [fpS_mk]; exact n25)
    have e17 := s7.keep _ _ e16 (by rw [fpS_mk]; exact n15)
    have e27 := s7.keep _ _ e26 (by rw [fpS_mk]; exact n25)
    have s06 := s05.trans s6 fun b hb => .inr (by rw [fpS_mk] at hb; rw [hb]; exact f5)
    have s07 := s06.trans s7 fun b hb => .inr (by rw [fpS_mk] at hb; rw [hb]; exact f5)
    have fp' : ∀ b, fpS p' b → H b = none ∧ b ≠ b1 ∧ b ≠ b2 := fun b hb => by
      rcases f7 b hb with h | h
      · rw [fpS_mk] at h; subst h; exact ⟨f5, fun e => n15 e.symm, fun e => n25 e.symm⟩
      · exact ⟨s06.mono _ h, (fun e => by rw [e, e16] at h; cases h), (fun e => by rw [e, e26] at h; cases h)⟩
    refine ⟨_, e17, ⟨by simp, rfl⟩, ?_⟩
    have e18 : (H7.upd b1 ⟨putL [.int .i64 (σ.n : Int), .slice jp k jc] 1 [.slice p' (0 + k + 1) c'], 45⟩) b1 = some ⟨[.int .i64 (σ.n : Int), .slice p' (k + 1) c'], 45⟩ := by
      rw [upd_same, Nat.zero_add]; rfl
    have s8 : Step (· = b1) H7 (H7.upd b1 ⟨putL [.int .i64 (σ.n : Int), .slice jp k jc] 1 [.slice p' (0 + k + 1) c'], 45⟩) := Step.wr e17 rfl
    generalize (H7.upd b1 ⟨putL [.int .i64 (σ.n : Int), .slice jp k jc] 1 [.slice p' (0 + k + 1) c'], 45⟩) = H8 at e18 s8
    have i0 : H8.get b1 0 = some (.int .i64 (σ.n : Int)) := by simp [Hp.get, e18]
    have i1 : H8.get b1 1 = some (.slice p' (k + 1) c') := by simp [Hp.get, e18]
    simp only [i0, i1, ldI_mk, ldS_mk]
    have e28 := s8.keep _ _ e27 fun h => hne h.symm
    refine stk e28 rfl rfl fun H9 e9 s9 => ?_
    have j0 : H9.get b2 0 = some (.int .i64 (σ.n : Int)) := by simp [Hp.get, e9]
    have j1 : H9.get b2 1 = some (.slice p' (k + 1) c') := by simp [Hp.get, e9]
    simp only [j0, j1, ldI_mk, ldS_mk]
    have r7' : Row H7 p' (k + 1) c' (prI (upf pr k (u.toNat, v.toNat))) := by
      rw [Nat.zero_add] at r7
      refine r7.congr fun i hi => ?_
      unfold prI upf
      split
      · simp [Int.toNat_of_nonneg hu.1, Int.toNat_of_nonneg hv.1]
      · rfl
    refine knew _ _ _ ((s07.trans s8 fun b hb => .inr (hb ▸ hb1)).trans s9 fun b hb => .inr (hb ▸ f2)) hu hv (fun e' => e (by show (σ.nm u.toNat : Int) = σ.nm v.toNat; rw [e'])) ((r7'.keep s8 fun b hb e => (fp' b hb).2.1 e).keep s9 fun b hb e => (fp' b hb).2.2 e) fun b hb => (fp' b hb).1
end
end Go.Mz
