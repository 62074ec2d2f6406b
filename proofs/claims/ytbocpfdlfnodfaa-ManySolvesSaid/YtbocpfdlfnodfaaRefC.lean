/-
  The document's functions of layers 4 and 12, walked: Numbered, Parts, Odd, Largest, NoPerfect.
-/
import Derived.Test.YtbocpfdlfnodfaaRefB
import Derived.Test.YtbocpfdlfnodfaaRefP
import Derived.Test.YtbocpfdlfnodfaaGRec
set_option linter.unusedSimpArgs false
set_option linter.unusedVariables false
namespace Go.Mz
section
variable {E : Value → Hp → Prop}

theorem rnumbered {p : Option Addr} {M c : Nat} {L : Nat → Nat} {R : Nat → Nat → Prop} {H : Hp} {K : Option Addr → Nat → Nat → Hp → Prop} (hL : Lst R L) (hr : Rdr H p M (fun v => (L v : Int))) (hM : M ≤ 1024)
    (kk : ∀ b H', Step (fun _ => False) H H' → H b = none → Row H' (some ⟨b, 0, none⟩) M M (fun v => (pno L v : Int)) → K (some ⟨b, 0, none⟩) M M H') : compassref04_Numbered.call p M c E H K := by
  refine compassref04_Numbered.of (compassref04_Numbered.run_eq ?_)
  unfold compassref04_Numbered.run_t
  refine Row.mkI (by omega) (by omega) fun b H1 hb r1 s1 => ?_
  simp only [Int.toNat_natCast] at r1 ⊢
  refine compassref04_Numbered.l1_rule (fun tp tn tc op on oc ct v5 H' => p = tp ∧ M = tn ∧ op = some ⟨b, 0, none⟩ ∧ M = on ∧ M = oc ∧ ∃ v : Nat, v5 = v ∧ v ≤ M ∧ ct = (cnt (fun w => L w == w) v : Int) ∧ Step (fun _ => False) H H' ∧ ∃ f, Row H' (some ⟨b, 0, none⟩) M M f ∧ ∀ u, u < v → f u = (pno L u : Int))
    (fun tp tn tc op on oc ct v5 H' => M - v5.toNat) ?_ ⟨rfl, rfl, rfl, rfl, rfl, 0, rfl, by omega, rfl, s1, _, r1, fun u hu => by omega⟩
  clear r1 s1
  rintro tp tn tc op on oc ct v5 H2 ⟨rfl, rfl, rfl, rfl, rfl, v, rfl, hv, rfl, s2, f, r2, hf⟩ X hX
  have hr2 := hr.keep s2 fun _ _ _ h => h
  refine compassref04_Numbered.b1_eq ?_
  unfold compassref04_Numbered.b1_t
  refine bc (fun hlt => ?_) fun hge => ?_
  · have hself := hL.self (v := v)
    have hle := cnt_le (fun w => L w == w) v
    refine hr2.ixI (by omega) (by omega) ?_
    simp only [Int.toNat_natCast]
    have next : ∀ H' (x : Int) g, Step (fun _ => False) H H' → x = (cnt (fun w => L w == w) (v + 1) : Int) → Row H' (some ⟨b, 0, none⟩) M M (upf f v g) → g = (pno L v : Int) → compassref04_Numbered.j1 p M tc (some ⟨b, 0, none⟩) M M x (v : Int) X E H' K := fun H' x g s hx r hg => by
      refine compassref04_Numbered.j1_eq ?_
      unfold compassref04_Numbered.j1_t
      rw [i64w (by omega) (by omega)]
      refine hX _ _ _ _ _ _ _ _ _ ⟨rfl, rfl, rfl, rfl, rfl, v + 1, by omega, by omega, hx, s, _, r, fun u hu => ?_⟩ (by omega)
      by_cases eu : u = v
      · subst eu; rw [upf_same, hg]
      · rw [upf_ne eu]; exact hf u (by omega)
    have own : ∀ {H'}, Step (fpS (some ⟨b, 0, none⟩)) H2 H' → Step (fun _ => False) H H' := fun s => s2.own s fun y hy => by rw [fpS_mk] at hy; exact hy ▸ hb
    refine bc (fun h => ?_) fun h => ?_
    · have h' : L v = v := by omega
      refine r2.stI (by omega) (by omega) _ fun H3 r3 s3 => ?_
      simp only [Int.toNat_natCast] at r3
      rw [i64w (by omega) (by omega)]
      refine next _ _ _ (own s3) ?_ r3 (by unfold pno; rw [h'])
      simp only [cnt, h', beq_self_eq_true, if_true]; omega
    · have h' : L v ≠ v := fun h' => h (by omega)
      refine hr2.ixI (by omega) (by omega) ?_
      simp only [Int.toNat_natCast]
      refine r2.ixI (by omega) (by omega) ?_
      refine r2.stI (by omega) (by omega) _ fun H3 r3 s3 => ?_
      simp only [Int.toNat_natCast] at r3
      refine next _ _ _ (own s3) ?_ r3 (by rw [hf _ (by omega)]; unfold pno; rw [hL.idem])
      have : (L v == v) = false := by simpa using h'
      simp only [cnt, this, Bool.false_eq_true, if_false, Nat.add_zero]
  · have : v = M := by omega
    subst this
    exact kk b _ s2 hb (r2.congr hf)

theorem cast_stepN {g : Nat → Nat} {u v : Nat} : (fun i => ((stepN g u v i : Nat) : Int)) = if g u < g v then upf (fun i => (g i : Int)) v (g u : Int) else upf (fun i => (g i : Int)) u (g v : Int) := by
  unfold stepN
  split <;> funext i <;> unfold upf <;> split <;> rfl

theorem rparts {N : Int} {ep : Option Addr} {n ec : Nat} {e : Nat → Edg} {L : Nat → Nat} {H : Hp} {K : Option Addr → Nat → Nat → Int → Hp → Prop} (he : Rdr H ep n e) (hr : Right N n e) (hL : Lst (Prs (ePr e) n) L)
    (kk : ∀ b H', Step (fun _ => False) H H' → H b = none → Row H' (some ⟨b, 0, none⟩) N.toNat N.toNat (fun v => (pno L v : Int)) → K (some ⟨b, 0, none⟩) N.toNat N.toNat 0 H') : compassref04_Parts.call N ep n ec E H K := by
  have hN0 := hr.N0; have hN1 := hr.N1; have hn1 := hr.n1
  refine compassref04_Parts.of (compassref04_Parts.run_eq ?_)
  unfold compassref04_Parts.run_t
  refine nwk fun b1 H1 hb1 e1 s1 => ?_
  simp only [get_at e1, List.getElem?_cons_zero, List.getElem?_cons_succ, ldI_mk, ldS_mk]
  refine rcheck (he.keep s1 fun _ _ _ h => h) fun H2 a s2 => ?_
  refine bcn (fun h => (h (chk_zero.2 hr)).elim) fun _ => ?_
  have s02 := s1.and s2
  have e12 := s2.keep _ _ e1 fun h => h
  simp only [get_at e12, List.getElem?_cons_zero, List.getElem?_cons_succ, ldI_mk, ldS_mk]
  refine Row.mkI hN0 (by omega) fun b2 H3 hb2 r3 s3 => ?_
  have e13 := s3.keep _ _ e12 fun h => h
  have ne : b1 ≠ b2 := ne_of_live hb2 (by rw [e12]; exact fun h => by cases h)
  have f2 : H b2 = none := s02.mono _ hb2
  have own : ∀ {H' H''}, Step (fun _ => False) H H' → Step (fpS (some ⟨b2, 0, none⟩)) H' H'' → Step (fun _ => False) H H'' := fun s s' => s.own s' fun y hy => by rw [fpS_mk] at hy; exact hy ▸ f2
  have kb : ∀ {H' H''}, H' b1 = some ⟨[.int .i64 N, .slice ep n ec], 24⟩ → Step (fpS (some ⟨b2, 0, none⟩)) H' H'' → H'' b1 = some ⟨[.int .i64 N, .slice ep n ec], 24⟩ := fun e' s' => s'.keep _ _ e' (by rw [fpS_mk]; exact ne)
  have hrng : ∀ i, i < n → (ePr e i).1 < N.toNat ∧ (ePr e i).2 < N.toNat := fun i hi => by
    have hx := hr.ed i hi
    have hf0 := hx.f0; have hf1 := hx.f1; have ht0 := hx.t0; have ht1 := hx.t1
    unfold ePr
    exact ⟨by show (e i).fr.toNat < _; omega, by show (e i).to.toNat < _; omega⟩
  have hid : GInv (Prs (ePr e) n) N.toNat (fun v => v) := fun v _ => ⟨.refl v, Nat.le_refl _⟩
  refine compassref04_Parts.l1_rule (fun g1 lp ln lc v7 H' => b1 = g1 ∧ lp = some ⟨b2, 0, none⟩ ∧ ln = N.toNat ∧ lc = N.toNat ∧ ∃ v : Nat, v7 = v ∧ v ≤ N.toNat ∧ Step (fun _ => False) H H' ∧ H' b1 = some ⟨[.int .i64 N, .slice ep n ec], 24⟩ ∧ ∃ f, Row H' (some ⟨b2, 0, none⟩) N.toNat N.toNat f ∧ ∀ u, u < v → f u = (u : Int))
    (fun g1 lp ln lc v7 H' => N.toNat - v7.toNat) ?_ ⟨rfl, rfl, rfl, rfl, 0, rfl, by omega, s02.and s3, e13, _, r3, fun u hu => by omega⟩
  clear r3 e13 s3 hb2 e12 s2 e1 s1 s02
  rintro g1 lp ln lc v7 H4 ⟨rfl, rfl, rfl, rfl, v, rfl, hv, s4, e4, f, r4, hf⟩ X hX
  refine compassref04_Parts.b1_eq ?_
  unfold compassref04_Parts.b1_t
  simp only [get_at e4, List.getElem?_cons_zero, List.getElem?_cons_succ, ldI_mk, ldS_mk]
  refine bc (fun hlt => ?_) fun hge => ?_
  · refine r4.stI (by omega) (by omega) _ fun H5 r5 s5 => ?_
    simp only [Int.toNat_natCast] at r5
    rw [i64w (by omega) (by omega)]
    refine hX _ _ _ _ _ _ ⟨rfl, rfl, rfl, rfl, v + 1, by omega, by omega, own s4 s5, kb e4 s5, _, r5, fun u hu => ?_⟩ (by omega)
    by_cases eu : u = v
    · subst eu; rw [upf_same]
    · rw [upf_ne eu]; exact hf u (by omega)
  have : v = N.toNat := by omega
  subst this
  clear hX
  refine compassref04_Parts.j1_eq ?_
  unfold compassref04_Parts.j1_t
  refine compassref04_Parts.l2_rule (fun g1 lp ln lc r8 H' => b1 = g1 ∧ lp = some ⟨b2, 0, none⟩ ∧ ln = N.toNat ∧ lc = N.toNat ∧ ∃ r : Nat, r8 = r ∧ r ≤ N.toNat ∧ Step (fun _ => False) H H' ∧ H' b1 = some ⟨[.int .i64 N, .slice ep n ec], 24⟩ ∧ Row H' (some ⟨b2, 0, none⟩) N.toNat N.toNat (fun v => ((roundsN (fun v => v) (ePr e) n r v : Nat) : Int)))
    (fun g1 lp ln lc r8 H' => N.toNat - r8.toNat) ?_ ⟨rfl, rfl, rfl, rfl, 0, rfl, by omega, s4, e4, r4.congr fun u hu => hf u hu⟩
  clear r4 e4 s4 hf
  rintro g1 lp ln lc r8 H5 ⟨rfl, rfl, rfl, rfl, r, rfl, hr', s5, e5, r5⟩ X hX
  refine compassref04_Parts.b2_eq ?_
  unfold compassref04_Parts.b2_t
  simp only [get_at e5, List.getElem?_cons_zero, List.getElem?_cons_succ, ldI_mk, ldS_mk]
  refine bc (fun hlt => ?_) fun hge => ?_
  · refine compassref04_Parts.l3_rule (fun g1 lp ln lc r8 i9 H' => b1 = g1 ∧ lp = some ⟨b2, 0, none⟩ ∧ ln = N.toNat ∧ lc = N.toNat ∧ r8 = r ∧ ∃ i : Nat, i9 = i ∧ i ≤ n ∧ Step (fun _ => False) H H' ∧ H' b1 = some ⟨[.int .i64 N, .slice ep n ec], 24⟩ ∧ Row H' (some ⟨b2, 0, none⟩) N.toNat N.toNat (fun v => ((roundN (roundsN (fun v => v) (ePr e) n r) (ePr e) i v : Nat) : Int)))
      (fun g1 lp ln lc r8 i9 H' => n - i9.toNat) ?_ ⟨rfl, rfl, rfl, rfl, rfl, 0, rfl, by omega, s5, e5, r5⟩
    clear r5 e5 s5
    rintro g1 lp ln lc r8 i9 H6 ⟨rfl, rfl, rfl, rfl, rfl, i, rfl, hi, s6, e6, r6⟩ Y hY
    refine compassref04_Parts.b3_eq ?_
    unfold compassref04_Parts.b3_t
    simp only [get_at e6, List.getElem?_cons_zero, List.getElem?_cons_succ, ldI_mk, ldS_mk]
    refine bc (fun hlt2 => ?_) fun hge2 => ?_
    · have he6 := he.keep s6 fun _ _ _ h => h
      have hx := hr.ed i (by omega)
      have hf0 := hx.f0; have hf1 := hx.f1; have ht0 := hx.t0; have ht1 := hx.t1
      obtain ⟨a, ha⟩ : ∃ a : Nat, (e i).fr = a := ⟨(e i).fr.toNat, by omega⟩
      obtain ⟨d, hd⟩ : ∃ d : Nat, (e i).to = d := ⟨(e i).to.toNat, by omega⟩
      have ea : (ePr e i).1 = a := by show (e i).fr.toNat = a; omega
      have ed : (ePr e i).2 = d := by show (e i).to.toNat = d; omega
      have hG := roundN_inv hL hrng (roundsN_inv hL hrng hid r).1 i hi
      refine he6.edgeF (by omega) (by omega) ?_
      simp only [Int.toNat_natCast]
      refine he6.edgeT (by omega) (by omega) ?_
      simp only [Int.toNat_natCast]
      rw [ha, hd]
      have next : ∀ H', Row H' (some ⟨b2, 0, none⟩) N.toNat N.toNat (fun v => ((stepN (roundN (roundsN (fun v => v) (ePr e) n r) (ePr e) i) a d v : Nat) : Int)) → Step (fpS (some ⟨b2, 0, none⟩)) H6 H' → compassref04_Parts.j2 b1 (some ⟨b2, 0, none⟩) N.toNat N.toNat (r : Int) (i : Int) X Y E H' K := fun H' r' s' => by
        refine compassref04_Parts.j2_eq ?_
        unfold compassref04_Parts.j2_t
        rw [i64w (by omega) (by omega)]
        refine hY _ _ _ _ _ _ _ ⟨rfl, rfl, rfl, rfl, rfl, i + 1, by omega, by omega, own s6 s', kb e6 s', ?_⟩ (by omega)
        have : roundN (roundsN (fun v => v) (ePr e) n r) (ePr e) (i + 1) = stepN (roundN (roundsN (fun v => v) (ePr e) n r) (ePr e) i) a d := by
          show stepN _ (ePr e i).1 (ePr e i).2 = _
          rw [ea, ed]
        rw [this]; exact r'
      refine r6.ixI (by omega) (by omega) ?_
      refine r6.ixI (by omega) (by omega) ?_
      simp only [Int.toNat_natCast]
      refine bc (fun hc => ?_) fun hc => ?_
      · refine r6.ixI (by omega) (by omega) ?_
        refine r6.stI (by omega) (by omega) _ fun H7 r7 s7 => ?_
        simp only [Int.toNat_natCast] at r7
        refine next _ ?_ s7
        rw [cast_stepN, if_pos (by omega)]; exact r7
      · refine r6.ixI (by omega) (by omega) ?_
        refine r6.stI (by omega) (by omega) _ fun H7 r7 s7 => ?_
        simp only [Int.toNat_natCast] at r7
        refine next _ ?_ s7
        rw [cast_stepN, if_neg (by omega)]; exact r7
    · have : i = n := by omega
      subst this
      refine compassref04_Parts.j3_eq ?_
      unfold compassref04_Parts.j3_t
      rw [i64w (by omega) (by omega)]
      exact hX _ _ _ _ _ _ ⟨rfl, rfl, rfl, rfl, r + 1, by omega, by omega, s6, e6, r6⟩ (by omega)
  · have : r = N.toNat := by omega
    subst this
    refine compassref04_Parts.j4_eq ?_
    unfold compassref04_Parts.j4_t
    have hrow : Row H5 (some ⟨b2, 0, none⟩) N.toNat N.toNat (fun v => (L v : Int)) := r5.congr fun v hv => by rw [parts_done hL hrng hv]
    refine rnumbered hL hrow.rdr (by omega) fun b H6 s6 hb r6 => ?_
    exact kk b _ (s5.and s6) (s5.mono _ hb) r6

open Classical in
theorem rodd {N : Int} {ep : Option Addr} {n ec : Nat} {e : Nat → Edg} {vp : Option Addr} {q vc : Nat} {set : Nat → Int} {H : Hp} {K : Int → Hp → Prop} (he : Rdr H ep n e) (hr : Right N n e) (hv : Rdr H vp q set) (hq : q < 2 ^ 63)
    (kk : ∀ H', Step (fun _ => False) H H' → K (oddS N n e set q) H') : compassref12_Odd.call N ep n ec vp q vc E H K := by
  have hN0 := hr.N0; have hN1 := hr.N1; have hn1 := hr.n1
  refine compassref12_Odd.of (compassref12_Odd.run_eq ?_)
  unfold compassref12_Odd.run_t
  refine nwk fun b1 H1 hb1 e1 s1 => ?_
  simp only [get_at e1, List.getElem?_cons_zero, List.getElem?_cons_succ, ldI_mk, ldS_mk]
  refine nwst rfl rfl fun b2 H2 hb2 e2 s2 => ?_
  have f2 : H b2 = none := s1.mono _ hb2
  have ne12 : b1 ≠ b2 := ne_of_live hb2 (by rw [e1]; exact fun h => by cases h)
  obtain ⟨W, hW⟩ : ∃ W : Nat → Bool, W = fun v : Nat => decide (In set q (v : Int)) := ⟨_, rfl⟩
  have hWi : ∀ v : Nat, W v = true ↔ In set q (v : Int) := fun v => by rw [hW]; simp
  have hH1 : H b1 = none := hb1
  refine compassref12_Odd.l1_rule (fun tp tn tc g2 lf i6 H' => vp = tp ∧ q = tn ∧ vc = tc ∧ b1 = g2 ∧ b2 = lf ∧ ∃ i : Nat, i6 = i ∧ i ≤ n ∧ Step (fun _ => False) H H' ∧ H' b1 = some ⟨[.int .i64 N, .slice ep n ec], 24⟩ ∧ ∃ op oc, H' b2 = some ⟨[.int .i64 N, .slice op (lft e W i).length oc], 24⟩ ∧ Row H' op (lft e W i).length oc (lsE (lft e W i)) ∧ ∀ y, fpS op y → H y = none ∧ y ≠ b1 ∧ y ≠ b2)
    (fun tp tn tc g2 lf i6 H' => n - i6.toNat) ?_ ⟨rfl, rfl, rfl, rfl, rfl, 0, rfl, by omega, s1.and s2, s2.keep _ _ e1 fun h => h, none, 0, e2, .nil, fun y hy => by rw [fpS_none] at hy; exact hy.elim⟩
  clear e2 s2 hb2 e1 s1
  rintro tp tn tc g2 lf i6 H3 ⟨rfl, rfl, rfl, rfl, rfl, i, rfl, hi, s3, e3, op, oc, e32, ro, hop⟩ X hX
  refine compassref12_Odd.b1_eq ?_
  unfold compassref12_Odd.b1_t
  simp only [get_at e3, List.getElem?_cons_zero, List.getElem?_cons_succ, ldI_mk, ldS_mk]
  refine bc (fun hlt => ?_) fun hge => ?_
  · have he3 := he.keep s3 fun _ _ _ h => h
    have hv3 := hv.keep s3 fun _ _ _ h => h
    have hx := hr.ed i (by omega)
    have hf0 := hx.f0; have hf1 := hx.f1; have ht0 := hx.t0; have ht1 := hx.t1
    have okv : okE W (e i) = true ↔ ¬ In set q (e i).fr ∧ ¬ In set q (e i).to := by
      unfold okE
      rw [Bool.and_eq_true, Bool.not_eq_true', Bool.not_eq_true']
      have h1 := hWi (e i).fr.toNat
      have h2 := hWi (e i).to.toNat
      rw [show (((e i).fr.toNat : Nat) : Int) = (e i).fr by omega] at h1
      rw [show (((e i).to.toNat : Nat) : Int) = (e i).to by omega] at h2
      rw [← h1, ← h2]; simp
    have next : ∀ H' op' oc', Step (fun _ => False) H H' → H' b1 = some ⟨[.int .i64 N, .slice ep n ec], 24⟩ → H' b2 = some ⟨[.int .i64 N, .slice op' (lft e W (i + 1)).length oc'], 24⟩ → Row H' op' (lft e W (i + 1)).length oc' (lsE (lft e W (i + 1))) → (∀ y, fpS op' y → H y = none ∧ y ≠ b1 ∧ y ≠ b2) → compassref12_Odd.j1 vp q vc b1 b2 (i : Int) X E H' K := fun H' op' oc' s a1 a2 a3 a4 => by
      refine compassref12_Odd.j1_eq ?_
      unfold compassref12_Odd.j1_t
      rw [i64w (by omega) (by omega)]
      exact hX _ _ _ _ _ _ _ ⟨rfl, rfl, rfl, rfl, rfl, i + 1, by omega, by omega, s, a1, op', oc', a2, a3, a4⟩ (by omega)
    have skip : ¬ (¬ In set q (e i).fr ∧ ¬ In set q (e i).to) → compassref12_Odd.j1 vp q vc b1 b2 (i : Int) X E H3 K := fun h => by
      have hl : lft e W (i + 1) = lft e W i := by unfold lft; rw [if_neg fun h' => h (okv.1 h')]; cases i <;> rfl
      exact next H3 op oc s3 e3 (by rw [hl]; exact e32) (by rw [hl]; exact ro) hop
    refine he3.edgeF (by omega) (by omega) ?_
    simp only [Int.toNat_natCast]
    refine rhas hv3 hq (fun h1 => bcb (fun h => by cases h) fun _ => skip fun h => h.1 h1) fun h1 => ?_
    refine bcb (fun _ => ?_) fun h => by cases h
    simp only [get_at e3, List.getElem?_cons_zero, List.getElem?_cons_succ, ldI_mk, ldS_mk]
    refine he3.edgeT (by omega) (by omega) ?_
    simp only [Int.toNat_natCast]
    refine rhas hv3 hq (fun h2 => bcb (fun h => by cases h) fun _ => skip fun h => h.2 h2) fun h2 => ?_
    refine bcb (fun _ => ?_) fun h => by cases h
    simp only [get_at e3, get_at e32, List.getElem?_cons_zero, List.getElem?_cons_succ, ldI_mk, ldS_mk]
    refine he3.edge (by omega) (by omega) ?_
    simp only [Int.toNat_natCast]
    have hll := lft_len (e := e) (W := W) i
    refine ro.app (α := Edg) (e i) rfl (by omega) (by decide) fun op' oc' H4 r4 s4 f4 => ?_
    have e42 := s4.keep _ _ e32 fun h => (hop _ h).2.2 rfl
    have e4 := s4.keep _ _ e3 fun h => (hop _ h).2.1 rfl
    refine stp e42 (by simp) rfl fun H5 e5 s5 => ?_
    have hl : lft e W (i + 1) = lft e W i ++ [e i] := by
      show (if okE W (e i) then lft e W i ++ [e i] else lft e W i) = _
      rw [if_pos (okv.2 ⟨h1, h2⟩)]
    have hop' : ∀ y, fpS op' y → H y = none ∧ y ≠ b1 ∧ y ≠ b2 := fun y hy => by
      rcases f4 y hy with h | h
      · exact hop y h
      · exact ⟨s3.mono _ h, fun ey => (by rw [ey, e3] at h; cases h), fun ey => (by rw [ey, e32] at h; cases h)⟩
    rw [lsE_app] at r4
    refine next H5 op' oc' ((s3.own s4 fun y hy => (hop y hy).1).own s5 fun y hy => hy ▸ f2) (s5.keep _ _ e4 ne12) ?_ ?_ hop'
    · rw [hl, List.length_append]; exact e5
    · rw [hl, List.length_append]; exact r4.keep s5 fun y hy h => (hop' y hy).2.2 h
  have : i = n := by omega
  subst this
  clear hX
  refine compassref12_Odd.j2_eq ?_
  unfold compassref12_Odd.j2_t
  simp only [get_at e32, List.getElem?_cons_zero, List.getElem?_cons_succ, ldI_mk, ldS_mk]
  have hlen := lft_len (e := e) (W := W) i
  have hrl : Right N (lft e W i).length (lsE (lft e W i)) := ⟨hN0, hN1, by omega, fun j hj => by
    obtain ⟨a, ha, _, hx⟩ := mem_lft.1 (lsE_mem hj)
    rw [← hx]; exact hr.ed a ha⟩
  obtain ⟨L, hL⟩ := lst_ex (Prs (ePr (lsE (lft e W i))) (lft e W i).length)
  refine rparts ro.rdr hrl hL fun pb H4 s4 hpb rp => ?_
  have hLA : Lst (Adj e i W) L := lft_cn (f := lsE (lft e W i)) (fun j _ => rfl) hL
  have s04 := s3.and s4
  have e4 := s4.keep _ _ e3 fun h => h
  simp only [get_at e4, List.getElem?_cons_zero, List.getElem?_cons_succ, ldI_mk, ldS_mk]
  refine Row.mkI hN0 (by omega) fun zb H5 hzb rz s5 => ?_
  have s05 := s04.and s5
  have fz : H zb = none := s04.mono _ hzb
  have own : ∀ {H' H''}, Step (fun _ => False) H H' → Step (fpS (some ⟨zb, 0, none⟩)) H' H'' → Step (fun _ => False) H H'' := fun s s' => s.own s' fun y hy => by rw [fpS_mk] at hy; exact hy ▸ fz
  have nz1 : b1 ≠ zb := ne_of_live hzb (by rw [e4]; exact fun h => by cases h)
  have nzp : pb ≠ zb := ne_of_live hzb (rp.live ⟨_, rfl⟩)
  refine compassref12_Odd.l2_rule (fun tp tn tc g2 pp pn pc zp zn zc v10 H' => vp = tp ∧ q = tn ∧ b1 = g2 ∧ pp = some ⟨pb, 0, none⟩ ∧ pn = N.toNat ∧ zp = some ⟨zb, 0, none⟩ ∧ zn = N.toNat ∧ zc = N.toNat ∧ ∃ v : Nat, v10 = v ∧ v ≤ N.toNat ∧ Step (fun _ => False) H H' ∧ H' b1 = some ⟨[.int .i64 N, .slice ep i ec], 24⟩ ∧ Row H' (some ⟨pb, 0, none⟩) N.toNat N.toNat (fun v => (pno L v : Int)) ∧ Row H' (some ⟨zb, 0, none⟩) N.toNat N.toNat (fun j => (cnt (fun u => !W u && pno L u == j) v : Int)))
    (fun tp tn tc g2 pp pn pc zp zn zc v10 H' => N.toNat - v10.toNat) ?_ ⟨rfl, rfl, rfl, rfl, rfl, rfl, rfl, rfl, 0, rfl, by omega, s05, s5.keep _ _ e4 fun h => h, rp.keep s5 fun _ _ h => h, rz⟩
  clear rz s5 hzb e4 s04 rp hpb s4 ro e32 hop s3 e3 s05
  rintro tp tn tc g2 pp pn pc zp zn zc v10 H6 ⟨rfl, rfl, rfl, rfl, rfl, rfl, rfl, rfl, v, rfl, hv', s6, e6, rp, rz⟩ X hX
  refine compassref12_Odd.b2_eq ?_
  unfold compassref12_Odd.b2_t
  simp only [get_at e6, List.getElem?_cons_zero, List.getElem?_cons_succ, ldI_mk, ldS_mk]
  refine bc (fun hlt => ?_) fun hge => ?_
  · have hpl := pno_lt (M := N.toNat) hLA (v := v) (by omega)
    have hcl := cnt_le (fun w => L w == w) N.toNat
    have next : ∀ H', Step (fun _ => False) H H' → H' b1 = some ⟨[.int .i64 N, .slice ep i ec], 24⟩ → Row H' (some ⟨pb, 0, none⟩) N.toNat N.toNat (fun v => (pno L v : Int)) → Row H' (some ⟨zb, 0, none⟩) N.toNat N.toNat (fun j => (cnt (fun u => !W u && pno L u == j) (v + 1) : Int)) → compassref12_Odd.j3 vp q tc b1 (some ⟨pb, 0, none⟩) N.toNat pc (some ⟨zb, 0, none⟩) N.toNat N.toNat (v : Int) X E H' K := fun H' s a1 a2 a3 => by
      refine compassref12_Odd.j3_eq ?_
      unfold compassref12_Odd.j3_t
      rw [i64w (by omega) (by omega)]
      exact hX _ _ _ _ _ _ _ _ _ _ _ _ ⟨rfl, rfl, rfl, rfl, rfl, rfl, rfl, rfl, v + 1, by omega, by omega, s, a1, a2, a3⟩ (by omega)
    refine rhas (hv.keep s6 fun _ _ _ h => h) hq (fun h => bcb (fun h => by cases h) fun _ => ?_) fun h => ?_
    · refine next H6 s6 e6 rp (rz.congr fun j _ => ?_)
      have : W v = true := (hWi v).2 h
      simp [cnt, this]
    · refine bcb (fun _ => ?_) fun h => by cases h
      have hwv : W v = false := by cases hw' : W v with
        | false => rfl
        | true => exact (h ((hWi v).1 hw')).elim
      refine rp.ixI (by omega) (by omega) ?_
      simp only [Int.toNat_natCast]
      refine rz.ixI (by omega) (by omega) ?_
      simp only [Int.toNat_natCast]
      have hcv := cnt_le (fun u => !W u && pno L u == pno L v) v
      rw [i64w (n := (cnt (fun u => !W u && pno L u == pno L v) v : Int) + 1) (by omega) (by omega)]
      refine rz.stI (by omega) (by omega) _ fun H7 r7 s7 => ?_
      simp only [Int.toNat_natCast] at r7
      refine next H7 (own s6 s7) (s7.keep _ _ e6 (by rw [fpS_mk]; exact nz1)) (rp.keep s7 fun y hy hy' => by rw [fpS_mk] at hy hy'; exact nzp (hy.symm.trans hy')) (r7.congr fun j _ => ?_)
      by_cases ej : j = pno L v
      · subst ej; rw [upf_same]; simp [cnt, hwv]
      · rw [upf_ne ej]
        have : (pno L v == j) = false := by simp; omega
        simp [cnt, this]
  · have : v = N.toNat := by omega
    subst this
    clear hX
    refine compassref12_Odd.j4_eq ?_
    unfold compassref12_Odd.j4_t
    refine compassref12_Odd.l3_rule (fun g2 zp zn zc n11 v12 H' => b1 = g2 ∧ zp = some ⟨zb, 0, none⟩ ∧ zn = N.toNat ∧ H6 = H' ∧ ∃ j : Nat, v12 = j ∧ j ≤ N.toNat ∧ n11 = (sm (fun j => cnt (fun u => !W u && pno L u == j) N.toNat % 2) j : Int))
      (fun g2 zp zn zc n11 v12 H' => N.toNat - v12.toNat) ?_ ⟨rfl, rfl, rfl, rfl, 0, rfl, by omega, rfl⟩
    rintro g2 zp zn zc n11 v12 H' ⟨rfl, rfl, rfl, rfl, j, rfl, hj, rfl⟩ Y hY
    have hsm : ∀ j, sm (fun j => cnt (fun u => !W u && pno L u == j) N.toNat % 2) j ≤ j := by
      intro j
      induction j with
      | zero => exact Nat.le_refl _
      | succ j ih => simp only [sm]; omega
    have hsj := hsm j
    refine compassref12_Odd.b3_eq ?_
    unfold compassref12_Odd.b3_t
    simp only [get_at e6, List.getElem?_cons_zero, List.getElem?_cons_succ, ldI_mk, ldS_mk]
    refine bc (fun hlt => ?_) fun hge => ?_
    · refine rz.ixI (by omega) (by omega) ?_
      simp only [Int.toNat_natCast]
      refine ⟨by decide, ?_⟩
      have htm : Int.tmod (cnt (fun u => !W u && pno L u == j) N.toNat : Int) 2 = ((cnt (fun u => !W u && pno L u == j) N.toNat % 2 : Nat) : Int) := by
        rw [Int.tmod_eq_emod_of_nonneg (by omega)]; omega
      rw [htm, i64w (n := _ + ((cnt (fun u => !W u && pno L u == j) N.toNat % 2 : Nat) : Int)) (by omega) (by omega), i64w (by omega) (by omega)]
      exact hY _ _ _ _ _ _ _ ⟨rfl, rfl, rfl, rfl, j + 1, by omega, by omega, by simp only [sm]; omega⟩ (by omega)
    · have : j = N.toNat := by omega
      subst this
      have hRR : ∀ u v, Adj e i W u v → u < N.toNat ∧ v < N.toNat := fun u v ⟨j, hj, _, h⟩ => by
        have hx := hr.ed j hj
        have := hx.f0; have := hx.f1; have := hx.t0; have := hx.t1
        rcases h with ⟨h1, h2⟩ | ⟨h1, h2⟩ <;> omega
      rw [odd_parts hRR hLA]
      have : oddN N i e W = oddS N i e set q := by rw [hW]; rfl
      rw [this]
      exact kk _ s6

end
end Go.Mz
