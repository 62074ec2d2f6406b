/-
  The document's functions of layer 12, walked, more: Copies, Bounds, Gadget.
-/
import Derived.Test.YtbocpfdlfnodfaaRefA
import Derived.Test.YtbocpfdlfnodfaaGRee
set_option linter.unusedSimpArgs false
set_option linter.unusedVariables false
namespace Go.Mz
section
variable {E : Value → Hp → Prop}

theorem rcopies {N : Int} {ep : Option Addr} {n ec : Nat} {e : Nat → Edg} {bp : Option Addr} {bn bk : Nat} {b : Nat → Int} {v : Nat} {H : Hp} {K : Int → Hp → Prop} (he : Rdr H ep n e) (hn : n ≤ 4096) (hb : Rdr H bp bn b) (hv : v < bn)
    (kk : ∀ H', Step (fun _ => False) H H' → K (cps e n b v) H') : compassref12_Copies.call N ep n ec bp bn bk v E H K := by
  refine compassref12_Copies.of (compassref12_Copies.run_eq ?_)
  unfold compassref12_Copies.run_t
  refine nwk fun b1 H1 hb1 e1 s1 => ?_
  refine compassref12_Copies.l1_rule (fun tp tn tc v2 g3 x i8 H' => bp = tp ∧ bn = tn ∧ bk = tc ∧ v2 = v ∧ b1 = g3 ∧ ∃ i : Nat, i8 = i ∧ i ≤ n ∧ x = (ends e i v : Int) ∧ Step (fun _ => False) H1 H')
    (fun tp tn tc v2 g3 x i8 H' => n - i8.toNat) ?_ ⟨rfl, rfl, rfl, rfl, rfl, 0, rfl, by omega, rfl, .refl⟩
  rintro tp tn tc v2 g3 x i8 H2 ⟨rfl, rfl, rfl, rfl, rfl, i, rfl, hi, rfl, s2⟩ X hX
  have s02 := s1.and s2
  have e12 := s2.keep _ _ e1 fun h => h
  have hel := ends_le (e := e) (v := (v : Int)) i
  refine compassref12_Copies.b1_eq ?_
  unfold compassref12_Copies.b1_t
  simp only [get_at e12, List.getElem?_cons_zero, List.getElem?_cons_succ, ldI_mk, ldS_mk]
  refine bc (fun hlt => ?_) fun hge => ?_
  · refine (he.keep s02 fun _ _ _ h => h).edge (by omega) (by omega) ?_
    simp only [Int.toNat_natCast]
    refine nwst rfl rfl fun b4 H4 hb4 e4 s4 => ?_
    simp only [get_at e4, List.getElem?_cons_zero, List.getElem?_cons_succ, ldI_mk]
    have hes : (ends e (i + 1) v : Int) = (ends e i v : Int) + if lp (e i) then 0 else (if (e i).fr = (v : Int) then 1 else 0) + (if (e i).to = (v : Int) then 1 else 0) := by
      show ((ends e i v + (if lp (e i) then 0 else (if (e i).fr = (v : Int) then 1 else 0) + (if (e i).to = (v : Int) then 1 else 0)) : Nat) : Int) = _
      split <;> (try split) <;> (try split) <;> simp
    have next : ∀ x : Int, x = (ends e (i + 1) v : Int) → compassref12_Copies.j2 bp bn bk v b1 x (i : Int) X E H4 K := fun x hx => by
      refine compassref12_Copies.j2_eq ?_
      unfold compassref12_Copies.j2_t
      rw [i64w (by omega) (by omega)]
      exact hX _ _ _ _ _ _ _ _ ⟨rfl, rfl, rfl, rfl, rfl, i + 1, by omega, by omega, hx, s2.and s4⟩ (by omega)
    have one : ¬ lp (e i) → ((e i).fr = (v : Int) ∨ (e i).to = (v : Int)) → compassref12_Copies.j1 bp bn bk v b1 (ends e i v : Int) (i : Int) X E H4 K := fun hl hor => by
      refine compassref12_Copies.j1_eq ?_
      unfold compassref12_Copies.j1_t
      rw [i64w (by omega) (by omega)]
      refine next _ ?_
      rw [hes, if_neg hl]
      have hne : ¬ (e i).fr = (e i).to := hl
      rcases hor with h | h
      · rw [if_pos h, if_neg (fun h' => hne (h.trans h'.symm))]; omega
      · rw [if_neg (fun h' => hne (h'.trans h.symm)), if_pos h]; omega
    refine bcn (fun hl' => ?_) fun hl => next _ (by rw [hes, if_pos (show lp (e i) from hl)]; omega)
    have hl : ¬ lp (e i) := hl'
    refine bc (fun h1 => one hl (.inl h1)) fun h1 => ?_
    refine bc (fun h2 => one hl (.inr h2)) fun h2 => ?_
    exact next _ (by rw [hes, if_neg hl, if_neg h1, if_neg h2]; omega)
  · have : i = n := by omega
    subst this
    refine compassref12_Copies.j3_eq ?_
    unfold compassref12_Copies.j3_t
    have hb2 := hb.keep s02 fun _ _ _ h => h
    have k := kk _ s02
    unfold cps at k
    refine hb2.ixI (by omega) (by omega) ?_
    simp only [Int.toNat_natCast]
    refine bc (fun h => ?_) fun h => ?_
    · refine hb2.ixI (by omega) (by omega) ?_
      simp only [Int.toNat_natCast]
      rwa [if_pos h] at k
    · rwa [if_neg h] at k

theorem rbounds {N : Int} {ep : Option Addr} {n ec : Nat} {e : Nat → Edg} {bp : Option Addr} {bn bk : Nat} {b : Nat → Int} {H : Hp} {K : Int → Hp → Prop} (he : Rdr H ep n e) (hb : Rdr H bp bn b) (hbn : bn < 2 ^ 63)
    (kok : ∀ H', Step (fun _ => False) H H' → Right N n e → Bnd N b bn → K 0 H')
    (bad : ∀ H' c, Step (fun _ => False) H H' → GadB N n e b bn c → K c H') : compassref12_Bounds.call N ep n ec bp bn bk E H K := by
  refine compassref12_Bounds.of (compassref12_Bounds.run_eq ?_)
  unfold compassref12_Bounds.run_t
  refine nwk fun b1 H1 hb1 e1 s1 => ?_
  simp only [get_at e1, List.getElem?_cons_zero, List.getElem?_cons_succ, ldI_mk, ldS_mk]
  refine rcheck (he.keep s1 fun _ _ _ h => h) fun H2 a s2 => ?_
  have s02 := s1.and s2
  refine bcn (fun hc => bad _ _ s02 (.inl ⟨rfl, hc⟩)) fun hc => ?_
  have hr := chk_zero.1 hc
  have hN0 := hr.N0; have hN1 := hr.N1
  have e12 := s2.keep _ _ e1 fun h => h
  simp only [get_at e12, List.getElem?_cons_zero, List.getElem?_cons_succ, ldI_mk, ldS_mk]
  have no : ¬ Bnd N b bn → K 130 H2 := fun h => bad _ _ s02 (.inr (.inl ⟨rfl, hr, h⟩))
  refine bcn (fun h => no fun hh => h hh.len) fun hlen => ?_
  have hb2 := hb.keep s02 fun _ _ _ h => h
  refine compassref12_Bounds.l1_rule (fun tp tn tc g2 v7 H' => bp = tp ∧ bn = tn ∧ b1 = g2 ∧ H2 = H' ∧ ∃ i : Nat, v7 = i ∧ i ≤ bn ∧ ∀ v, v < i → 0 ≤ b v ∧ b v ≤ 4096)
    (fun tp tn tc g2 v7 H' => bn - v7.toNat) ?_ ⟨rfl, rfl, rfl, rfl, 0, rfl, by omega, fun v hv => by omega⟩
  rintro tp tn tc g2 v7 H' ⟨rfl, rfl, rfl, rfl, i, rfl, hi, hbd⟩ X hX
  refine compassref12_Bounds.b1_eq ?_
  unfold compassref12_Bounds.b1_t
  simp only [get_at e12, List.getElem?_cons_zero, List.getElem?_cons_succ, ldI_mk, ldS_mk]
  refine bc (fun hlt => ?_) fun hge => ?_
  · refine hb2.ixI (by omega) (by omega) ?_
    simp only [Int.toNat_natCast]
    refine bc (fun h => no fun hh => by have := (hh.bnd i (by omega)).1; omega) fun h1 => ?_
    refine hb2.ixI (by omega) (by omega) ?_
    simp only [Int.toNat_natCast]
    refine bc (fun h => no fun hh => by have := (hh.bnd i (by omega)).2; omega) fun h2 => ?_
    rw [i64w (by omega) (by omega)]
    refine hX _ _ _ _ _ _ ⟨rfl, rfl, rfl, rfl, i + 1, by omega, by omega, fun v hv => ?_⟩ (by omega)
    by_cases ev : v = i
    · subst ev; exact ⟨by omega, by omega⟩
    · exact hbd v (by omega)
  · have : i = bn := by omega
    subst this
    exact kok _ s02 hr ⟨hlen, hbd⟩

/-- the document's rounds over the edges -/
theorem rgad2 {N : Int} {ep : Option Addr} {n ec : Nat} {e : Nat → Edg} {cp : Nat → Int} {H0 H : Hp} {b1 fb tb ob : Nat} {K : Int → Option Addr → Nat → Nat → Int → Int → Hp → Prop}
    (he : Rdr H0 ep n e) (hr : Right N n e) (hc : ∀ v, v < N.toNat → 0 ≤ cp v ∧ cp v ≤ 4096)
    (st : Bst H0 H fb fb tb ob (N.toNat + 1) (N.toNat + 1) (N.toNat + 1) (psum cp) (psum cp) (psum cp N.toNat) none 0 []) (g1 : H b1 = some ⟨[.int .i64 N, .slice ep n ec], 24⟩) (hob : b1 ≠ ob)
    (kk : ∀ H' op oc, Step (fun _ => False) H0 H' → Gsz e cp N.toNat n → Row H' op (gel e cp N.toNat n).length oc (lsE (gel e cp N.toNat n)) → (∀ y, fpS op y → H0 y = none) → K (gnn e cp N.toNat n) op (gel e cp N.toNat n).length oc (nol e n) 0 H')
    (bad : ∀ H', Step (fun _ => False) H0 H' → ¬ Gsz e cp N.toNat n → K 0 none 0 0 0 3 H') : compassref12_Gadget.l2 b1 tb (some ⟨fb, 0, none⟩) (N.toNat + 1) (N.toNat + 1) ob 0 0 E H K := by
  have hN0 := hr.N0; have hN1 := hr.N1; have hn1 := hr.n1
  have hpb : ∀ v, v ≤ N.toNat → 0 ≤ psum cp v ∧ psum cp v ≤ 4096 * 1024 := fun v hv => by
    have := psum_bound (f := cp) (a := 0) (b := 4096) (i := v) fun u hu => hc u (by omega)
    omega
  have hgb : ∀ i, i ≤ n → 0 ≤ gnn e cp N.toNat i ∧ gnn e cp N.toNat i ≤ 4096 * 1024 + 8192 := fun i hi => by
    have h1 := hpb N.toNat (Nat.le_refl _)
    have h2 := nol_le (e := e) i
    unfold gnn; omega
  have fail : ∀ H' nodes op oc L, Bst H0 H' fb fb tb ob (N.toNat + 1) (N.toNat + 1) (N.toNat + 1) (psum cp) (psum cp) nodes op oc L → ¬ Gsz e cp N.toNat n → stC H' tb 0 [.int .i64 0, .slice none 0 0] fun H_1 => ldI .i64 (H_1.get tb 0) fun x_2 => ldS (H_1.get tb 1) fun x_3p x_3n x_3c => K x_2 x_3p x_3n x_3c 0 3 H_1 := fun H' nodes op oc L st' hz => by
    refine stk st'.t rfl rfl fun H2 e2 s2 => ?_
    simp only [get_at e2, List.getElem?_cons_zero, List.getElem?_cons_succ, ldI_mk, ldS_mk]
    exact bad _ (st'.s.own s2 fun y hy => hy ▸ st'.tb0) hz
  refine compassref12_Gadget.l2_rule (fun g2 t4 fp fn fc o cnt i12 H' => b1 = g2 ∧ tb = t4 ∧ fp = some ⟨fb, 0, none⟩ ∧ fn = N.toNat + 1 ∧ fc = N.toNat + 1 ∧ ob = o ∧
      ∃ i : Nat, i12 = i ∧ i ≤ n ∧ cnt = (nol e i : Int) ∧ (gel e cp N.toNat i).length ≤ 4096 ∧ H' b1 = some ⟨[.int .i64 N, .slice ep n ec], 24⟩ ∧ ∃ op oc, ¬ fpS op b1 ∧ Bst H0 H' fb fb tb ob (N.toNat + 1) (N.toNat + 1) (N.toNat + 1) (psum cp) (psum cp) (gnn e cp N.toNat i) op oc (gel e cp N.toNat i))
    (fun g2 t4 fp fn fc o cnt i12 H' => n - i12.toNat) ?_ ⟨rfl, rfl, rfl, rfl, rfl, rfl, 0, rfl, by omega, rfl, Nat.zero_le _, g1, none, 0, (fun h => by rw [fpS_none] at h; exact h), by
      have : gnn e cp N.toNat 0 = psum cp N.toNat := by unfold gnn; simp [nol]
      rw [this]; exact st⟩
  clear st g1
  rintro g2 t4 fp fn fc o cnt i12 H1 ⟨rfl, rfl, rfl, rfl, rfl, rfl, i, rfl, hi, rfl, hlen, g1, op, oc, gop, st⟩ X hX
  have hnol := nol_le (e := e) i
  refine compassref12_Gadget.b2_eq ?_
  unfold compassref12_Gadget.b2_t
  simp only [get_at g1, List.getElem?_cons_zero, List.getElem?_cons_succ, ldI_mk, ldS_mk]
  refine bc (fun hlt => ?_) fun hge => ?_
  · have hx := hr.ed i (by omega)
    have hf0 := hx.f0; have hf1 := hx.f1; have ht0 := hx.t0; have ht1 := hx.t1
    obtain ⟨a, ha⟩ : ∃ a : Nat, (e i).fr = a := ⟨(e i).fr.toNat, by omega⟩
    obtain ⟨d, hd⟩ : ∃ d : Nat, (e i).to = d := ⟨(e i).to.toNat, by omega⟩
    refine (he.keep st.s fun _ _ _ h => h).edge (by omega) (by omega) ?_
    simp only [Int.toNat_natCast]
    refine nwst rfl rfl fun eb H2 hb2 e2 s2 => ?_
    rw [ha, hd] at e2
    simp only [get_at e2, List.getElem?_cons_zero, List.getElem?_cons_succ, ldI_mk]
    have st2 := st.keep s2
    have g12 := s2.keep _ _ g1 fun h => h
    have hstep : ∀ H' op' oc', (gel e cp N.toNat (i + 1)).length ≤ 4096 → H' b1 = some ⟨[.int .i64 N, .slice ep n ec], 24⟩ → ¬ fpS op' b1 → Bst H0 H' fb fb tb ob (N.toNat + 1) (N.toNat + 1) (N.toNat + 1) (psum cp) (psum cp) (gnn e cp N.toNat (i + 1)) op' oc' (gel e cp N.toNat (i + 1)) →
        compassref12_Gadget.j4 b1 tb (some ⟨fb, 0, none⟩) (N.toNat + 1) (N.toNat + 1) ob (nol e (i + 1) : Int) (i : Int) X E H' K := fun H' op' oc' hl g' go' st' => by
      refine compassref12_Gadget.j4_eq ?_
      unfold compassref12_Gadget.j4_t
      rw [i64w (by omega) (by omega)]
      exact hX _ _ _ _ _ _ _ _ _ ⟨rfl, rfl, rfl, rfl, rfl, rfl, i + 1, by omega, by omega, rfl, hl, g', op', oc', go', st'⟩ (by omega)
    refine bc (fun hl => ?_) fun hl => ?_
    · have hlp : lp (e i) := by show (e i).fr = (e i).to; rw [ha, hd]; exact hl
      have h1 : nol e (i + 1) = nol e i := by show nol e i + (if lp (e i) then 0 else 1) = _; rw [if_pos hlp]; rfl
      have h2 : gel e cp N.toNat (i + 1) = gel e cp N.toNat i := by rw [gel_succ, if_pos hlp]
      have h3 : gnn e cp N.toNat (i + 1) = gnn e cp N.toNat i := by unfold gnn; rw [h1]
      have := hstep H2 op oc (by rw [h2]; exact hlen) g12 gop (by rw [h2, h3]; exact st2)
      rwa [h1] at this
    · have hnl : ¬ lp (e i) := fun h => hl (by have h' : (e i).fr = (e i).to := h; rw [ha, hd] at h'; exact h')
      have h1 : nol e (i + 1) = nol e i + 1 := by show nol e i + (if lp (e i) then 0 else 1) = _; rw [if_neg hnl]
      have h3 : gnn e cp N.toNat (i + 1) = gnn e cp N.toNat i + 2 := by unfold gnn; rw [h1]; omega
      have h2 : gel e cp N.toNat (i + 1) = gel e cp N.toNat i ++ [(gnn e cp N.toNat i, gnn e cp N.toNat i + 1, 0, 0)] ++ fanI (gnn e cp N.toNat i) (psum cp a) (cp a).toNat ++ fanO (gnn e cp N.toNat i + 1) (psum cp d) (cp d).toNat := by
        rw [gel_succ, if_neg hnl, ha, hd]; rfl
      have g0 := hgb i hi
      obtain ⟨A, hA⟩ : ∃ A, gnn e cp N.toNat i = A := ⟨_, rfl⟩
      rw [hA] at h2 h3 g0 st2
      have ean : a < N.toNat := by omega
      have edn : d < N.toNat := by omega
      have ca := hc a ean
      have cd := hc d edn
      have pa := hpb a (by omega)
      have pd := hpb d (by omega)
      have pa1 : psum cp (a + 1) = psum cp a + cp a := rfl
      have pd1 : psum cp (d + 1) = psum cp d + cp d := rfl
      simp only [st2.get0, ldI_mk]
      rw [i64w (n := A + 2) (by omega) (by omega)]
      refine st2.setN fun H4 st4 s4 => ?_
      simp only [st4.get1, ldS_mk]
      rw [i64w (n := A + 1) (by omega) (by omega)]
      have ebo : eb ≠ ob := fun h => by rw [h, st.o] at hb2; cases hb2
      have ebp : ¬ fpS op eb := fun h => st.r.live h hb2
      have e4 := s4.keep _ _ e2 ebo
      have g4 := s4.keep _ _ g12 hob
      refine st4.push (by omega) fun H5 op5 oc5 st5 hkp5 => ?_
      obtain ⟨e5, ebp5⟩ := hkp5 eb _ e4 ebo ebp
      obtain ⟨g5, gop5⟩ := hkp5 b1 _ g4 hob gop
      simp only [get_at e5, List.getElem?_cons_zero, List.getElem?_cons_succ, ldI_mk]
      refine st5.fr.ixI (by omega) (by omega) ?_
      simp only [Int.toNat_natCast]
      rw [i64w (n := (nol e i : Int) + 1) (by omega) (by omega)]
      obtain ⟨B, hB⟩ : ∃ B, gel e cp N.toNat i ++ [(A, A + 1, 0, 0)] = B := ⟨_, rfl⟩
      rw [hB] at st5 h2
      have hBl : B.length ≤ 4097 := by rw [← hB]; simp; omega
      refine compassref12_Gadget.l3_rule (fun g2 t4 fp fn fc o cnt i12 e13 x14 y15 c16 H' => b1 = g2 ∧ tb = t4 ∧ fp = some ⟨fb, 0, none⟩ ∧ fn = N.toNat + 1 ∧ fc = N.toNat + 1 ∧ ob = o ∧ cnt = (nol e i : Int) + 1 ∧ i12 = i ∧ eb = e13 ∧ A = x14 ∧ y15 = A + 1 ∧
          H' eb = some ⟨[.int .i64 a, .int .i64 d, .int .i64 (e i).cp, .int .i64 (e i).co], 44⟩ ∧ H' b1 = some ⟨[.int .i64 N, .slice ep n ec], 24⟩ ∧ ∃ j : Nat, c16 = psum cp a + j ∧ (j : Int) ≤ cp a ∧ ∃ op oc, ¬ fpS op eb ∧ ¬ fpS op b1 ∧ Bst H0 H' fb fb tb ob (N.toNat + 1) (N.toNat + 1) (N.toNat + 1) (psum cp) (psum cp) (A + 2) op oc (B ++ fanI A (psum cp a) j))
        (fun g2 t4 fp fn fc o cnt i12 e13 x14 y15 c16 H' => (psum cp a + cp a - c16).toNat) ?_
        ⟨rfl, rfl, rfl, rfl, rfl, rfl, rfl, rfl, rfl, rfl, rfl, e5, g5, 0, by simp, by simp; omega, op5, oc5, ebp5, gop5, by simpa [fanI] using st5⟩
      clear st5 e5 ebp5 hkp5 st4 e4 s4 st2 e2 s2 hb2 ebp st g5 gop5 g4 g12 g1 gop
      rintro g2 t4 fp fn fc o cnt i12 e13 x14 y15 c16 H6 ⟨rfl, rfl, rfl, rfl, rfl, rfl, rfl, rfl, rfl, rfl, rfl, e6, g6, j, rfl, hj, op6, oc6, ebp6, gop6, st6⟩ Y hY
      refine compassref12_Gadget.b3_eq ?_
      unfold compassref12_Gadget.b3_t
      simp only [get_at e6, List.getElem?_cons_zero, List.getElem?_cons_succ, ldI_mk]
      rw [i64w (n := (a : Int) + 1) (by omega) (by omega)]
      refine st6.la.ixI (by omega) (by omega) ?_
      have ta : ((a : Int) + 1).toNat = a + 1 := by omega
      rw [ta]
      refine bc (fun hlt2 => ?_) fun hge2 => ?_
      · simp only [st6.get1, ldS_mk]
        have hl6 : (B ++ fanI A (psum cp a) j).length = B.length + j := by rw [List.length_append, fanI_len]
        refine st6.push (by rw [hl6]; omega) fun H7 op7 oc7 st7 hkp7 => ?_
        obtain ⟨e7, ebp7⟩ := hkp7 eb _ e6 ebo ebp6
        obtain ⟨g7, gop7⟩ := hkp7 b1 _ g6 hob gop6
        rw [i64w (n := psum cp a + (j : Int) + 1) (by omega) (by omega)]
        refine hY _ _ _ _ _ _ _ _ _ _ _ _ _ ⟨rfl, rfl, rfl, rfl, rfl, rfl, rfl, rfl, rfl, rfl, rfl, e7, g7, j + 1, by omega, by omega, op7, oc7, ebp7, gop7, ?_⟩ (by omega)
        rw [fanI_succ, ← List.append_assoc]; exact st7
      · have hjc : j = (cp a).toNat := by omega
        subst hjc
        clear hY
        refine compassref12_Gadget.j2_eq ?_
        unfold compassref12_Gadget.j2_t
        simp only [get_at e6, List.getElem?_cons_zero, List.getElem?_cons_succ, ldI_mk]
        refine st6.fr.ixI (by omega) (by omega) ?_
        simp only [Int.toNat_natCast]
        obtain ⟨C, hC⟩ : ∃ C, B ++ fanI A (psum cp a) (cp a).toNat = C := ⟨_, rfl⟩
        rw [hC] at st6 h2
        have hCl : C.length ≤ 8193 := by rw [← hC, List.length_append, fanI_len]; omega
        refine compassref12_Gadget.l4_rule (fun g2 t4 fp fn fc o cnt i12 e13 y15 c17 H' => b1 = g2 ∧ tb = t4 ∧ fp = some ⟨fb, 0, none⟩ ∧ fn = N.toNat + 1 ∧ fc = N.toNat + 1 ∧ ob = o ∧ cnt = (nol e i : Int) + 1 ∧ i12 = i ∧ eb = e13 ∧ y15 = A + 1 ∧
            H' eb = some ⟨[.int .i64 a, .int .i64 d, .int .i64 (e i).cp, .int .i64 (e i).co], 44⟩ ∧ H' b1 = some ⟨[.int .i64 N, .slice ep n ec], 24⟩ ∧ ∃ j : Nat, c17 = psum cp d + j ∧ (j : Int) ≤ cp d ∧ ∃ op oc, ¬ fpS op eb ∧ ¬ fpS op b1 ∧ Bst H0 H' fb fb tb ob (N.toNat + 1) (N.toNat + 1) (N.toNat + 1) (psum cp) (psum cp) (A + 2) op oc (C ++ fanO (A + 1) (psum cp d) j))
          (fun g2 t4 fp fn fc o cnt i12 e13 y15 c17 H' => (psum cp d + cp d - c17).toNat) ?_
          ⟨rfl, rfl, rfl, rfl, rfl, rfl, rfl, rfl, rfl, rfl, e6, g6, 0, by simp, by simp; omega, op6, oc6, ebp6, gop6, by simpa [fanO] using st6⟩
        clear st6 e6 ebp6 g6 gop6
        rintro g2 t4 fp fn fc o cnt i12 e13 y15 c17 H8 ⟨rfl, rfl, rfl, rfl, rfl, rfl, rfl, rfl, rfl, rfl, e8, g8, j, rfl, hj, op8, oc8, ebp8, gop8, st8⟩ Y hY
        refine compassref12_Gadget.b4_eq ?_
        unfold compassref12_Gadget.b4_t
        simp only [get_at e8, List.getElem?_cons_zero, List.getElem?_cons_succ, ldI_mk]
        rw [i64w (n := (d : Int) + 1) (by omega) (by omega)]
        refine st8.la.ixI (by omega) (by omega) ?_
        have td : ((d : Int) + 1).toNat = d + 1 := by omega
        rw [td]
        refine bc (fun hlt3 => ?_) fun hge3 => ?_
        · simp only [st8.get1, ldS_mk]
          have hl8 : (C ++ fanO (A + 1) (psum cp d) j).length = C.length + j := by rw [List.length_append, fanO_len]
          refine st8.push (by rw [hl8]; omega) fun H9 op9 oc9 st9 hkp9 => ?_
          obtain ⟨e9, ebp9⟩ := hkp9 eb _ e8 ebo ebp8
          obtain ⟨g9, gop9⟩ := hkp9 b1 _ g8 hob gop8
          rw [i64w (n := psum cp d + (j : Int) + 1) (by omega) (by omega)]
          refine hY _ _ _ _ _ _ _ _ _ _ _ _ ⟨rfl, rfl, rfl, rfl, rfl, rfl, rfl, rfl, rfl, rfl, e9, g9, j + 1, by omega, by omega, op9, oc9, ebp9, gop9, ?_⟩ (by omega)
          rw [fanO_succ, ← List.append_assoc]; exact st9
        · have hjd : j = (cp d).toNat := by omega
          subst hjd
          clear hY
          rw [← h2] at st8
          rw [← h3] at st8
          refine compassref12_Gadget.j3_eq ?_
          unfold compassref12_Gadget.j3_t
          simp only [st8.get0, st8.get1, ldI_mk, ldS_mk]
          refine bc (fun hll => fail _ _ _ _ _ st8 fun hh => ?_) fun hll => ?_
          · have hm := gel_mono (e := e) (cp := cp) (N := N.toNat) (i := i + 1) (n - (i + 1))
            rw [show i + 1 + (n - (i + 1)) = n by omega] at hm
            have := hh.2; omega
          · have := hstep H8 op8 oc8 (by omega) g8 gop8 st8
            rw [h1] at this
            exact this
  · have : i = n := by omega
    subst this
    refine compassref12_Gadget.j5_eq ?_
    unfold compassref12_Gadget.j5_t
    simp only [st.get0, st.get1, ldI_mk, ldS_mk]
    refine bc (fun hsz => fail _ _ _ _ _ st fun hh => by have := hh.1; omega) fun hsz => ?_
    try simp only [st.get0, st.get1, ldI_mk, ldS_mk]
    refine stk st.t rfl rfl fun H2 e2 s2 => ?_
    simp only [get_at e2, List.getElem?_cons_zero, List.getElem?_cons_succ, ldI_mk, ldS_mk]
    exact kk _ op oc (st.s.own s2 fun y hy => hy ▸ st.tb0) ⟨by omega, hlen⟩ (st.r.keep s2 fun y hy e => (st.new y hy).2.2.2.1 e) fun y hy => (st.new y hy).1

theorem rgadget {N : Int} {ep : Option Addr} {n ec : Nat} {e : Nat → Edg} {bp : Option Addr} {bn bk : Nat} {b : Nat → Int} {H : Hp} {K : Int → Option Addr → Nat → Nat → Int → Int → Hp → Prop}
    (he : Rdr H ep n e) (hb : Rdr H bp bn b) (hbn : bn < 2 ^ 63)
    (kk : ∀ H' op oc, Step (fun _ => False) H H' → Right N n e → Bnd N b bn → Gsz e (cps e n b) N.toNat n → Row H' op (gel e (cps e n b) N.toNat n).length oc (lsE (gel e (cps e n b) N.toNat n)) → (∀ y, fpS op y → H y = none) →
      K (gnn e (cps e n b) N.toNat n) op (gel e (cps e n b) N.toNat n).length oc (nol e n) 0 H')
    (bad : ∀ H' c, Step (fun _ => False) H H' → GadB N n e b bn c → K 0 none 0 0 0 c H') : compassref12_Gadget.call N ep n ec bp bn bk E H K := by
  refine compassref12_Gadget.of (compassref12_Gadget.run_eq ?_)
  unfold compassref12_Gadget.run_t
  refine nwk fun b1 H1 hb1 e1 s1 => ?_
  refine nwk fun tb H2 hb2 e2 s2 => ?_
  have e12 := s2.keep _ _ e1 fun h => h
  have s02 := s1.and s2
  have tb0 : H tb = none := s1.mono _ hb2
  simp only [get_at e12, List.getElem?_cons_zero, List.getElem?_cons_succ, ldI_mk, ldS_mk]
  refine rbounds (he.keep s02 fun _ _ _ h => h) (hb.keep s02 fun _ _ _ h => h) hbn (fun H3 s3 hr hbd => ?_) fun H3 c s3 hg => ?_
  · refine bcn (fun h => (h rfl).elim) fun _ => ?_
    have hN0 := hr.N0; have hN1 := hr.N1; have hn1 := hr.n1
    have s03 := s02.and s3
    have e13 := s3.keep _ _ e12 fun h => h
    have e23 := s3.keep _ _ e2 fun h => h
    simp only [get_at e13, List.getElem?_cons_zero, List.getElem?_cons_succ, ldI_mk, ldS_mk]
    rw [i64w (n := N + 1) (by omega) (by omega)]
    refine Row.mkI (by omega) (by omega) fun fb H4 hfb r4 s4 => ?_
    have tN : (N + 1).toNat = N.toNat + 1 := by omega
    rw [tN] at r4 ⊢
    have fb0 : H fb = none := s03.mono _ hfb
    have fbg : b1 ≠ fb := ne_of_live hfb (by rw [e13]; exact fun h => by cases h)
    have fbt : tb ≠ fb := ne_of_live hfb (by rw [e23]; exact fun h => by cases h)
    generalize hcp : cps e n b = cp at *
    have hc : ∀ v, v < N.toNat → 0 ≤ cp v ∧ cp v ≤ 4096 := fun v hv => by
      have h1 := hbd.len
      have := cps_bound (e := e) (n := n) hbd (v := v) (by omega)
      rw [hcp] at this
      exact ⟨this.1, this.2.1⟩
    have hpb : ∀ v, v ≤ N.toNat → 0 ≤ psum cp v ∧ psum cp v ≤ 4096 * 1024 := fun v hv => by
      have := psum_bound (f := cp) (a := 0) (b := 4096) (i := v) fun u hu => hc u (by omega)
      omega
    refine compassref12_Gadget.l1_rule (fun tp tn tc g2 t4 fp fn fc v9 H' => bp = tp ∧ bn = tn ∧ b1 = g2 ∧ tb = t4 ∧ fp = some ⟨fb, 0, none⟩ ∧ fn = N.toNat + 1 ∧ fc = N.toNat + 1 ∧ ∃ v : Nat, v9 = v ∧ v ≤ N.toNat ∧ Step (fun _ => False) H H' ∧ H' b1 = some ⟨[.int .i64 N, .slice ep n ec], 24⟩ ∧ H' tb = some ⟨[.int .i64 0, .slice none 0 0], 24⟩ ∧ ∃ f, Row H' (some ⟨fb, 0, none⟩) (N.toNat + 1) (N.toNat + 1) f ∧ ∀ u, u ≤ v → f u = psum cp u)
      (fun tp tn tc g2 t4 fp fn fc v9 H' => N.toNat - v9.toNat) ?_ ⟨rfl, rfl, rfl, rfl, rfl, rfl, rfl, 0, rfl, by omega, s03.and s4, s4.keep _ _ e13 fun h => h, s4.keep _ _ e23 fun h => h, _, r4, fun u hu => by
        have : u = 0 := by omega
        subst this; rfl⟩
    clear r4 s4 hfb e23 e13 s3 s03 e12 e2 s02 s2 e1 s1
    rintro tp tn tc g2 t4 fp fn fc v9 H5 ⟨rfl, rfl, rfl, rfl, rfl, rfl, rfl, v, rfl, hv, s5, e15, e25, f, r5, hf⟩ X hX
    refine compassref12_Gadget.b1_eq ?_
    unfold compassref12_Gadget.b1_t
    simp only [get_at e15, List.getElem?_cons_zero, List.getElem?_cons_succ, ldI_mk, ldS_mk]
    refine bc (fun hlt => ?_) fun hge => ?_
    · have hcv := hc v (by omega)
      have hpv := hpb v (by omega)
      refine r5.ix (α := Int) (by omega) (by omega) fun bb oo _ hg => ?_
      have g0 := hg 0 (by decide)
      simp only [El.enc, Nat.add_zero, List.getElem?_cons_zero, Int.toNat_natCast] at g0
      rw [g0, hf v (Nat.le_refl _)]
      rw [hf v (Nat.le_refl _)] at g0
      simp only [ldI_mk]
      refine rcopies (he.keep s5 fun _ _ _ h => h) hn1 (hb.keep s5 fun _ _ _ h => h) (by have := hbd.len; omega) fun H6 s6 => ?_
      rw [hcp, s6.get g0 fun h => h]
      refine ⟨rfl, ?_⟩
      rw [i64w (n := psum cp v + cp v) (by omega) (by omega), i64w (n := (v : Int) + 1) (by omega) (by omega)]
      have r6 := r5.keep s6 fun _ _ h => h
      refine r6.stI (by omega) (by omega) _ fun H7 r7 s7 => ?_
      have tv : ((v : Int) + 1).toNat = v + 1 := by omega
      rw [tv] at r7
      refine hX _ _ _ _ _ _ _ _ _ _ ⟨rfl, rfl, rfl, rfl, rfl, rfl, rfl, v + 1, by omega, by omega, (s5.and s6).own s7 fun y hy => by rw [fpS_mk] at hy; exact hy ▸ fb0, s7.keep _ _ (s6.keep _ _ e15 fun h => h) (by rw [fpS_mk]; exact fbg), s7.keep _ _ (s6.keep _ _ e25 fun h => h) (by rw [fpS_mk]; exact fbt), _, r7, fun u hu => ?_⟩ (by omega)
      by_cases eu : u = v + 1
      · subst eu; rw [upf_same]; rfl
      · rw [upf_ne eu]; exact hf u (by omega)
    · have : v = N.toNat := by omega
      subst this
      clear hX
      have hpN := hpb N.toNat (Nat.le_refl _)
      refine compassref12_Gadget.j1_eq ?_
      unfold compassref12_Gadget.j1_t
      simp only [get_at e15, List.getElem?_cons_zero, List.getElem?_cons_succ, ldI_mk, ldS_mk]
      refine r5.ixI (by omega) (by omega) ?_
      rw [hf N.toNat (Nat.le_refl _)]
      refine nwst rfl rfl fun ob H6 hob e6 s6 => ?_
      have rp : Row H6 (some ⟨fb, 0, none⟩) (N.toNat + 1) (N.toNat + 1) (psum cp) := (r5.congr fun u hu => hf u (by omega)).keep s6 fun _ _ h => h
      have st : Bst H H6 fb fb tb ob (N.toNat + 1) (N.toNat + 1) (N.toNat + 1) (psum cp) (psum cp) (psum cp N.toNat) none 0 [] :=
        ⟨s5.and s6, rp, rp, s6.keep _ _ e25 fun h => h, e6, .nil, fun y hy => (by rw [fpS_none] at hy; exact hy.elim), s5.mono _ hob, tb0, fun h => r5.live (b := fb) ⟨_, rfl⟩ (h ▸ hob), fun h => r5.live (b := fb) ⟨_, rfl⟩ (h ▸ hob), fun h => by rw [h, e25] at hob; cases hob⟩
      refine rgad2 he hr hc st (s6.keep _ _ e15 fun h => h) (fun h => by rw [← h, e15] at hob; cases hob) (fun H' op oc s' hz ro hn => kk H' op oc s' hr hbd hz ro hn) fun H' s' hz => ?_
      exact bad H' 3 s' (.inr (.inr ⟨rfl, hr, hbd, by rw [hcp]; exact hz⟩))
  · refine bcn (fun _ => ?_) fun h => (hg.ne h).elim
    have e23 := s3.keep _ _ e2 fun h => h
    refine stk e23 rfl rfl fun H4 e4 s4 => ?_
    simp only [get_at e4, List.getElem?_cons_zero, List.getElem?_cons_succ, ldI_mk, ldS_mk]
    exact bad _ _ ((s02.and s3).own s4 fun y hy => hy ▸ tb0) hg
end
end Go.Mz
