/-
  Walks of layer 12, more: odd.
-/
import Derived.Test.YtjdhhepphbhjgaaVouA
import Derived.Test.YtjdhhepphbhjgaaVouO
import Derived.Test.YtjdhhepphbhjgaaVouC
set_option linter.unusedSimpArgs false
set_option linter.unusedVariables false
namespace Go.Mz
section
variable {E : Value → Hp → Prop}

/-- a truth value in a heap -/
def rdB (H : Hp) (b : Nat) (v : Nat) : Bool := match H.get b v with | some (.bool x) => x | _ => false

theorem Row.rdB {H : Hp} {b n c : Nat} {f : Nat → Bool} (h : Row H (some ⟨b, 0, none⟩) n c f) {v : Nat} (hv : v < n) : rdB H b v = f v := by
  obtain ⟨b', o, e, hg⟩ := h.at hv
  cases e
  have := hg 0 (by decide)
  rw [show 0 + v * El.w Bool + 0 = v from by show 0 + v * 1 + 0 = v; omega] at this
  unfold Mz.rdB
  rw [this]
  rfl

theorem row_one {H : Hp} {b : Nat} {x : Int} {t : BT} (e : H b = some ⟨[.int .i64 x], t⟩) (ht : t.fz = (0, 0)) : Row H (some ⟨b, 0, none⟩) 1 1 (fun _ => x) := by
  refine ⟨Nat.le_refl _, by decide, .inr ⟨b, 0, _, rfl, e, ⟨Nat.le_refl _, ht⟩, fun i hi j hj => ?_⟩⟩
  have : i = 0 := by omega
  subst this
  have : j = 0 := by have : El.w Int = 1 := rfl; omega
  subst this; rfl

theorem vodd {N : Int} {ep : Option Addr} {n ec : Nat} {e : Nat → Edg} {wp : Option Addr} {wc : Nat} {W : Nat → Bool} {H : Hp} {K : Int → Hp → Prop} (he : Rdr H ep n e) (hr : Right N n e) (hw : Row H wp N.toNat wc W)
    (kk : ∀ H', Step (fun _ => False) H H' → K (oddN N n e W) H') : vouch_odd.call N ep n ec wp N.toNat wc E H K := by
  have hN0 := hr.N0
  have hN1 := hr.N1
  have hn1 := hr.n1
  refine vouch_odd.of (vouch_odd.run_eq ?_)
  unfold vouch_odd.run_t
  refine nwk fun b1 H1 hb1 e1 s1 => ?_
  simp only [get_at e1, List.getElem?_cons_zero, List.getElem?_cons_succ, ldI_mk]
  refine Row.mkSl hN0 (by omega) fun b2 H2 hb2 r2 s2 => ?_
  have e12 := s2.keep _ _ e1 fun h => h
  simp only [get_at e12, List.getElem?_cons_zero, List.getElem?_cons_succ, ldS_mk]
  have start : Rows2 H1 H2 b2 N.toNat (fun _ => ⟨none, 0, 0⟩) (nbs e W 0) := ⟨r2, hb2, fun _ _ => rfl, fun _ _ => .nil, fun _ _ _ _ _ _ h => (by rw [fpS_none] at h; exact h.elim), fun _ _ _ h => (by rw [fpS_none] at h; exact h.elim), fun _ _ _ h => by rw [fpS_none] at h; exact h.elim⟩
  have he := he.keep s1 fun _ _ _ h => h
  have hw := hw.keep s1 fun _ _ h => h
  have kk : ∀ H', Step (fun _ => False) H1 H' → K (oddN N n e W) H' := fun H' s => kk _ (s1.and s)
  have l1 : H1 b1 ≠ none := by rw [e1]; exact fun h => by cases h
  refine vouch_odd.l1_rule (fun wp' wn' wc' g2 np nn nc tp tn tc t19 t20 H' => wp = wp' ∧ wn' = N.toNat ∧ wc = wc' ∧ b1 = g2 ∧ np = some ⟨b2, 0, none⟩ ∧ nn = N.toNat ∧ ep = tp ∧ n = tn ∧ t19 = n ∧
      ∃ i : Nat, t20 = i ∧ i ≤ n ∧ Step (fun _ => False) H1 H' ∧ H' b1 = some ⟨[.int .i64 N, .slice ep n ec], 24⟩ ∧ ∃ sl, Rows2 H1 H' b2 N.toNat sl (nbs e W i))
    (fun wp' wn' wc' g2 np nn nc tp tn tc t19 t20 H' => n - t20.toNat) ?_ ⟨rfl, rfl, rfl, rfl, rfl, rfl, rfl, rfl, rfl, 0, rfl, by omega, s2, e12, _, start⟩
  clear start r2 e12 s2 e1 s1
  rintro wp' wn' wc' g2 np nn nc tp tn tc t19 t20 H3 ⟨rfl, rfl, rfl, rfl, rfl, rfl, rfl, rfl, rfl, i, rfl, hi, s3, e3, sl, rows⟩ X hX
  refine vouch_odd.b1_eq ?_
  unfold vouch_odd.b1_t
  have hw3 := hw.keep s3 fun _ _ h => h
  have ne12 : b1 ≠ b2 := ne_of_live hb2 l1
  refine bc (fun hlt => ?_) fun hge => ?_
  · refine (he.keep s3 fun _ _ _ h => h).edge (by omega) (by omega) ?_
    simp only [Int.toNat_natCast]
    refine nwst rfl rfl fun b4 H4 hb4 e4 s4 => ?_
    have hx := hr.ed i (by omega)
    have hf0 := hx.f0; have hf1 := hx.f1; have ht0 := hx.t0; have ht1 := hx.t1
    obtain ⟨a, ha⟩ : ∃ a : Nat, (e i).fr = a := ⟨(e i).fr.toNat, by omega⟩
    obtain ⟨b, hb⟩ : ∃ b : Nat, (e i).to = b := ⟨(e i).to.toNat, by omega⟩
    have ean : a < N.toNat := by omega
    have ebn : b < N.toNat := by omega
    rw [ha, hb] at e4
    simp only [get_at e4, List.getElem?_cons_zero, List.getElem?_cons_succ, ldI_mk]
    have hw4 := hw3.keep s4 fun _ _ h => h
    have rows4 := rows.keep0 s4
    have s04 := s3.and s4
    have e14 := s4.keep _ _ e3 fun h => h
    have hgo : ∀ H' sl', Step (fun _ => False) H1 H' → H' b1 = some ⟨[.int .i64 N, .slice ep n ec], 24⟩ → Rows2 H1 H' b2 N.toNat sl' (nbs e W (i + 1)) → vouch_odd.j1 wp N.toNat wc b1 (some ⟨b2, 0, none⟩) N.toNat nc ep n tc (n : Int) (i : Int) X E H' K := fun H' sl' s' e' rows' => by
      refine vouch_odd.j1_eq ?_
      unfold vouch_odd.j1_t
      rw [i64w (by omega) (by omega)]
      exact hX _ _ _ _ _ _ _ _ _ _ _ _ _ ⟨rfl, rfl, rfl, rfl, rfl, rfl, rfl, rfl, rfl, i + 1, by omega, by omega, s', e', _, rows'⟩ (by omega)
    have okv : okE W (e i) = (!W a && !W b) := by unfold okE; rw [ha, hb]; rfl
    have hskip : okE W (e i) = false → vouch_odd.j1 wp N.toNat wc b1 (some ⟨b2, 0, none⟩) N.toNat nc ep n tc (n : Int) (i : Int) X E H4 K := fun h => hgo _ sl s04 e14 (by rw [nbs_succ, if_neg (by rw [h]; exact fun h => by cases h)]; exact rows4)
    refine hw4.ixB (by omega) (by omega) ?_
    simp only [Int.toNat_natCast]
    refine bcb (fun hWa => ?_) fun hWa => hskip (by rw [okv, (by simpa using hWa : W a = true)]; rfl)
    refine hw4.ixB (by omega) (by omega) ?_
    simp only [Int.toNat_natCast]
    refine bcb (fun hWb => ?_) fun hWb => hskip (by rw [okv, (by simpa using hWb : W b = true)]; simp)
    have hok : okE W (e i) = true := by rw [okv, hWa, hWb]; rfl
    have hnb : nbs e W (i + 1) = upf (upf (nbs e W i) a (nbs e W i a ++ [b])) b ((upf (nbs e W i) a (nbs e W i a ++ [b])) b ++ [a]) := by
      rw [nbs_succ, if_pos hok, ha, hb]; rfl
    have lb4 : ∀ v, v < N.toNat → ∀ y, fpS (sl v).p y → y ≠ b4 := fun v hv y hy ey => (rows.each v hv).live hy (ey ▸ hb4)
    have b2b4 : b4 ≠ b2 := fun ee => rows.row.live (b := b2) ⟨_, rfl⟩ (ee ▸ hb4)
    have hlen := sm_nbs (e := e) (W := W) (N := N.toNat) i
    refine rows4.row.rdr.ixS (by omega) (by omega) ?_
    simp only [Int.toNat_natCast]
    rw [rows4.len a ean]
    have hla : (nbs e W i a).length ≤ 2 * i := Nat.le_trans (le_sm (f := fun v => (nbs e W i v).length) ean) hlen
    refine (rows4.each a ean).appI _ (by omega) fun p5 c5 H5 r5 s5 f5 => ?_
    have e45 := s5.keep _ _ e4 fun h => lb4 a ean b4 h rfl
    have e15 := s5.keep _ _ e14 fun h => l1 (rows.new a ean b1 h)
    simp only [get_at e45, List.getElem?_cons_zero, List.getElem?_cons_succ, ldI_mk]
    refine ⟨trivial, ?_⟩
    have row5 := rows4.row.keep s5 fun y hy hy' => by rw [fpS_mk] at hy; exact rows4.out a ean y hy' hy
    refine row5.st (α := Sl) (by omega) (by omega) ⟨p5, (nbs e W i a).length + 1, c5⟩ fun H6 r6 s6 => ?_
    simp only [Int.toNat_natCast] at r6
    have rows6 := rows4.push ean s04 r5 s5 f5 r6 s6
    have s06 := (s04.own s5 (rows4.new a ean)).own s6 fun y hy => by rw [fpS_mk] at hy; exact hy ▸ hb2
    have e46 := s6.keep _ _ e45 (by rw [fpS_mk]; exact b2b4)
    have e16 := s6.keep _ _ e15 (by rw [fpS_mk]; exact ne12)
    simp only [get_at e46, List.getElem?_cons_zero, List.getElem?_cons_succ, ldI_mk]
    refine rows6.row.rdr.ixS (by omega) (by omega) ?_
    simp only [Int.toNat_natCast]
    rw [rows6.len b ebn]
    have hlb : (upf (nbs e W i) a (nbs e W i a ++ [b]) b).length ≤ 2 * i + 1 := by
      by_cases hab : b = a
      · subst hab; rw [upf_same]; simp; exact hla
      · rw [upf_ne hab]
        have := Nat.le_trans (le_sm (f := fun v => (nbs e W i v).length) ebn) hlen
        omega
    have lb6 : ∀ v, v < N.toNat → ∀ y, fpS (upf sl a ⟨p5, (nbs e W i a).length + 1, c5⟩ v).p y → y ≠ b4 := fun v hv y hy ey => by
      by_cases hv' : v = a
      · subst hv'
        rw [upf_same] at hy
        rcases f5 y hy with h | h
        · exact lb4 v hv y h ey
        · rw [ey, e4] at h; cases h
      · rw [upf_ne hv'] at hy
        exact lb4 v hv y hy ey
    refine (rows6.each b ebn).appI _ (by omega) fun p7 c7 H7 r7 s7 f7 => ?_
    have e47 := s7.keep _ _ e46 fun h => lb6 b ebn b4 h rfl
    have e17 := s7.keep _ _ e16 fun h => l1 (rows6.new b ebn b1 h)
    simp only [get_at e47, List.getElem?_cons_zero, List.getElem?_cons_succ, ldI_mk]
    refine ⟨trivial, ?_⟩
    have row7 := rows6.row.keep s7 fun y hy hy' => by rw [fpS_mk] at hy; exact rows6.out b ebn y hy' hy
    refine row7.st (α := Sl) (by omega) (by omega) ⟨p7, (upf (nbs e W i) a (nbs e W i a ++ [b]) b).length + 1, c7⟩ fun H8 r8 s8 => ?_
    simp only [Int.toNat_natCast] at r8
    have rows8 := rows6.push ebn s06 r7 s7 f7 r8 s8
    have s08 := (s06.own s7 (rows6.new b ebn)).own s8 fun y hy => by rw [fpS_mk] at hy; exact hy ▸ hb2
    rw [← hnb] at rows8
    exact hgo _ _ s08 (s8.keep _ _ e17 (by rw [fpS_mk]; exact ne12)) rows8
  · have : i = n := by omega
    subst this
    clear hX
    refine vouch_odd.j2_eq ?_
    unfold vouch_odd.j2_t
    simp only [get_at e3, List.getElem?_cons_zero, List.getElem?_cons_succ, ldI_mk]
    refine Row.mkB hN0 (by omega) fun b3 H4 hb3 r4 s4 => ?_
    refine r4.cpyB (hw3.keep s4 fun _ _ h => h) fun H5 r5 s5 => ?_
    have l3b1 : b1 ≠ b3 := ne_of_live hb3 (by rw [e3]; exact fun h => by cases h)
    have l3b2 : b2 ≠ b3 := ne_of_live hb3 (rows.row.live (b := b2) ⟨_, rfl⟩)
    have lb3 : ∀ v, v < N.toNat → ∀ y, fpS (sl v).p y → y ≠ b3 := fun v hv y hy => ne_of_live hb3 ((rows.each v hv).live hy)
    have f3 : H1 b3 = none := s3.mono _ hb3
    have e5 := s5.keep _ _ (s4.keep _ _ e3 fun h => h) (by rw [fpS_mk]; exact l3b1)
    have rows5 := (rows.keep0 s4).keep s5 (by rw [fpS_mk]; exact l3b2) fun v hv y hy h => by rw [fpS_mk] at h; exact lb3 v hv y hy h
    have s05 : Step (fun _ => False) H1 H5 := (s3.and s4).own s5 fun y hy => by rw [fpS_mk] at hy; exact hy ▸ f3
    simp only [get_at e5, List.getElem?_cons_zero, List.getElem?_cons_succ, ldI_mk]
    have hR : ∀ u v, Adj e i W u v → u < N.toNat ∧ v < N.toNat := fun u v ⟨j, hj, _, h⟩ => by
      have hx := hr.ed j hj
      have := hx.f0; have := hx.f1; have := hx.t0; have := hx.t1
      rcases h with ⟨h1, h2⟩ | ⟨h1, h2⟩ <;> omega
    have hsym : ∀ u v, Adj e i W u v → Adj e i W v u := fun _ _ h => h.symm
    refine vouch_odd.l2_rule (fun np nn nc sp sn sc c9 t72 t73 H' => np = some ⟨b2, 0, none⟩ ∧ nn = N.toNat ∧ sp = some ⟨b3, 0, none⟩ ∧ sn = N.toNat ∧ sc = N.toNat ∧ N = t72 ∧
        ∃ s : Nat, t73 = s ∧ s ≤ N.toNat ∧ c9 = (oddB (Adj e i W) W N.toNat s : Int) ∧ Step (fun _ => False) H1 H' ∧ Rows2 H1 H' b2 N.toNat sl (nbs e W i) ∧ ∃ S0, Row H' (some ⟨b3, 0, none⟩) N.toNat N.toNat S0 ∧ ∀ v, v < N.toNat → (S0 v = true ↔ W v = true ∨ ∃ u, u < s ∧ Cn (Adj e i W) u v))
      (fun np nn nc sp sn sc c9 t72 t73 H' => N.toNat - t73.toNat) ?_ ⟨rfl, rfl, rfl, rfl, rfl, rfl, 0, rfl, by omega, rfl, s05, rows5, W, r5, fun v hv => ⟨.inl, fun h => h.elim id fun ⟨u, hu, _⟩ => by omega⟩⟩
    clear rows5 r5 e5 s05 s5 s4 r4 rows e3 hb3 hw3 s3
    rintro np nn nc sp sn sc c9 t72 t73 H6 ⟨rfl, rfl, rfl, rfl, rfl, rfl, s, rfl, hs, rfl, s6, rows, S0, r6, hS0⟩ X hX
    have hodd := oddB_le (R := Adj e i W) (W := W) (N := N.toNat) s
    refine vouch_odd.b2_eq ?_
    unfold vouch_odd.b2_t
    refine bc (fun hlt => ?_) fun hge => ?_
    · have hsN : s < N.toNat := by omega
      refine nwk fun b4 H7 hb4 e7 s7 => ?_
      have hSR : ∀ u v, Adj e i W u v → S0 u = S0 v := fun u v h => by
        have hl := h.left
        have h1 := hS0 u (hR u v h).1
        have h2 := hS0 v (hR u v h).2
        rw [hl.1] at h1
        rw [hl.2] at h2
        rw [Bool.eq_iff_iff, h1, h2]
        constructor
        · rintro (h' | ⟨w, hw, h'⟩)
          · cases h'
          · exact .inr ⟨w, hw, h'.trans (.edge h)⟩
        · rintro (h' | ⟨w, hw, h'⟩)
          · cases h'
          · exact .inr ⟨w, hw, h'.trans (.symm (.edge h))⟩
      have hlen := sm_nbs (e := e) (W := W) (N := N.toNat) i
      refine vouch_odd.l3_rule (fun np nn nc sp sn sc c9 sz tp tn tc t72 t73 H' => np = some ⟨b2, 0, none⟩ ∧ nn = N.toNat ∧ sp = some ⟨b3, 0, none⟩ ∧ sn = N.toNat ∧ sc = N.toNat ∧ c9 = (oddB (Adj e i W) W N.toNat s : Int) ∧ N = t72 ∧ t73 = s ∧
          Step (fun _ => False) H1 H' ∧ Rows2 H1 H' b2 N.toNat sl (nbs e W i) ∧ ∃ seen st size, sz = (size : Nat) ∧ tn = st.length ∧ Dfs (Adj e i W) S0 N.toNat s seen st size ∧ Row H' (some ⟨b3, 0, none⟩) N.toNat N.toNat seen ∧ Row H' tp st.length tc (lsF st) ∧
            st.length + sm (fun v => if seen v then 0 else (nbs e W i v).length) N.toNat ≤ 2 * i + 1 ∧ ∀ y, fpS tp y → H1 y = none ∧ y ≠ b3 ∧ y ≠ b2 ∧ ∀ v, v < N.toNat → ¬ fpS (sl v).p y)
        (fun np nn nc sp sn sc c9 sz tp tn tc t72 t73 H' => tn + sm (fun v => if rdB H' b3 v then 0 else (nbs e W i v).length) N.toNat) ?_
        ⟨rfl, rfl, rfl, rfl, rfl, rfl, rfl, rfl, s6.and s7, rows.keep0 s7, S0, [s], 0, rfl, rfl, Dfs.start hsN, r6.keep s7 fun _ _ h => h, (row_one e7 rfl).congr fun j hj => ?_, ?_, fun y hy => ?_⟩
      · rintro np nn nc sp sn sc c9 sz tp tn tc t72 t73 H8 ⟨rfl, rfl, rfl, rfl, rfl, rfl, rfl, rfl, s8, rows8, seen, st, size, rfl, rfl, dfs, r8, rt, hmu, hfp⟩ Y hY
        refine vouch_odd.b3_eq ?_
        unfold vouch_odd.b3_t
        refine bc (fun hlt => ?_) fun hge => ?_
        · obtain ⟨st, x, rfl⟩ : ∃ l x, st = l ++ [x] := by
            cases List.eq_nil_or_concat st with
            | inl h => subst h; simp at hlt
            | inr h => obtain ⟨l, x, h⟩ := h; exact ⟨l, x, by simpa using h⟩
          have hxN := (dfs.stc x (by simp)).1
          have hlx : (st ++ [x]).length = st.length + 1 := by simp
          have hst : st.length ≤ 2 * i := by rw [hlx] at hmu; omega
          rw [i64w (by omega) (by omega)]
          have ewl : (((st ++ [x]).length : Nat) : Int) - 1 = st.length := by rw [hlx]; omega
          rw [ewl]
          refine rt.ixI (by omega) (by rw [hlx]; omega) ?_
          have hlast : lsF (st ++ [x]) ((st.length : Nat) : Int).toNat = x := by simp [lsF]
          rw [hlast]
          refine ⟨⟨by omega, by have := rt.le; rw [hlx] at this; omega⟩, ?_⟩
          refine r8.ixB (by omega) (by omega) ?_
          simp only [Int.toNat_natCast]
          rw [rt.slp0]
          have hrd : ∀ {H' : Hp} {sn : Nat → Bool}, Row H' (some ⟨b3, 0, none⟩) N.toNat N.toNat sn → sm (fun v => if rdB H' b3 v then 0 else (nbs e W i v).length) N.toNat = sm (fun v => if sn v then 0 else (nbs e W i v).length) N.toNat := fun r => sm_congr fun v hv => by rw [r.rdB hv]
          have rt' : Row H8 tp st.length tc (lsF st) := (rt.cut (m := st.length) (by rw [hlx]; omega)).congr fun j hj => by unfold lsF; rw [List.getElem?_append_left hj]
          refine bcb (fun hns => ?_) fun hsn => ?_
          · have hx0 : seen x = false := by simpa using hns
            refine r8.stB (by omega) (by omega) true fun H9 r9 s9 => ?_
            simp only [Int.toNat_natCast] at r9
            have rows9 := rows8.keep s9 (by rw [fpS_mk]; exact l3b2) fun v hv y hy h => by rw [fpS_mk] at h; exact (rows8.each v hv |> fun _ => lb3 v hv y hy) h
            have rt9 := rt'.keep s9 fun y hy h => by rw [fpS_mk] at h; exact (hfp y hy).2.1 h
            refine rows9.row.rdr.ixS (by omega) (by omega) ?_
            simp only [Int.toNat_natCast]
            rw [rows9.len x hxN]
            have hone := sm_one (f := fun v => if upf seen x true v then 0 else (nbs e W i v).length) (g := fun v => if seen v then 0 else (nbs e W i v).length) hxN fun j hj hne => by simp only [upf_ne hne]
            simp only [upf_same, hx0, if_true, Bool.false_eq_true, if_false, Nat.add_zero] at hone
            refine rt9.appR (rows9.each x hxN) rfl (by rw [hlx] at hmu; omega) (by decide) fun p' c' H10 r10 s10 f10 => ?_
            have hsz : size ≤ N.toNat := by rw [dfs.cnt]; exact cnt_le _ _
            rw [i64w (by omega) (by omega)]
            have s09 := s8.own s9 fun y hy => by rw [fpS_mk] at hy; exact hy ▸ f3
            have s010 := s09.own s10 fun y hy => (hfp y hy).1
            have rows10 := rows9.keep s10 (fun h => (hfp _ h).2.2.1 rfl) fun v hv y hy h => (hfp y h).2.2.2 v hv hy
            have r8' := r9.keep s10 fun y hy h => by rw [fpS_mk] at hy; exact (hfp y h).2.1 hy
            refine hY _ _ _ _ _ _ _ _ _ _ _ _ _ _ ⟨rfl, rfl, rfl, rfl, rfl, rfl, rfl, rfl, s010, rows10, upf seen x true, st ++ nbs e W i x, size + 1, by omega, by simp, dfs.take hx0 (fun w => mem_nbs) (fun u v h _ => (hR u v h).2), r8', ?_, ?_, fun y hy => ?_⟩ ?_
            · rw [lsF_apps] at r10; rw [List.length_append]; exact r10
            · rw [List.length_append]; rw [hlx] at hmu; omega
            · rcases f10 y hy with h | h
              · exact hfp y h
              · have hl9 : ∀ z, H9 z ≠ none → y ≠ z := fun z hz e => hz (e ▸ h)
                exact ⟨s09.mono _ h, hl9 _ (r9.live (b := b3) ⟨_, rfl⟩), hl9 _ (rows9.row.live (b := b2) ⟨_, rfl⟩), fun v hv hv' => (rows9.each v hv).live hv' h⟩
            · rw [hrd r8', hrd r8, hlx]; omega
          · have hx1 : seen x = true := by simpa using hsn
            have emp : ((st.length : Nat) : Int).toNat = st.length := by omega
            refine hY _ _ _ _ _ _ _ _ _ _ _ _ _ _ ⟨rfl, rfl, rfl, rfl, rfl, rfl, rfl, rfl, s8, rows8, seen, st, size, rfl, rfl, dfs.skip hx1, r8, rt', by rw [hlx] at hmu; omega, hfp⟩ (by rw [hlx]; omega)
        · have : st = [] := List.eq_nil_of_length_eq_zero (by omega)
          subst this
          refine vouch_odd.j3_eq ?_
          unfold vouch_odd.j3_t
          have hsz := dfs.size hsN hR hsym hSR hS0
          have hdone := dfs.done hsN hR hsym hSR
          have hsl : size ≤ N.toNat := by rw [dfs.cnt]; exact cnt_le _ _
          have hnew : (oddB (Adj e i W) W N.toNat (s + 1) : Int) = (oddB (Adj e i W) W N.toNat s : Int) + (size : Int) % 2 := by
            show ((oddB (Adj e i W) W N.toNat s + _ : Nat) : Int) = _
            rw [← hsz]; omega
          rw [and1 (by omega) (by omega), i64w (n := (oddB (Adj e i W) W N.toNat s : Int) + (size : Int) % 2) (by omega) (by omega), i64w (by omega) (by omega)]
          refine hX _ _ _ _ _ _ _ _ _ _ ⟨rfl, rfl, rfl, rfl, rfl, rfl, s + 1, by omega, by omega, hnew.symm, s8, rows8, seen, r8, fun v hv => ?_⟩ (by omega)
          rw [hdone v hv, hS0 v hv]
          constructor
          · rintro ((h | ⟨u, hu, h⟩) | h)
            · exact .inl h
            · exact .inr ⟨u, by omega, h⟩
            · exact .inr ⟨s, by omega, h⟩
          · rintro (h | ⟨u, hu, h⟩)
            · exact .inl (.inl h)
            · by_cases e' : u = s
              · subst e'; exact .inr h
              · exact .inl (.inr ⟨u, by omega, h⟩)
      · have : j = 0 := by omega
        subst this; rfl
      · have := sm_le (f := fun v => if S0 v then 0 else (nbs e W i v).length) (g := fun v => (nbs e W i v).length) (n := N.toNat) fun v hv => by split <;> omega
        simp only [List.length_singleton]; omega
      · rw [fpS_mk] at hy
        subst hy
        exact ⟨s6.mono _ hb4, fun h => r6.live (b := b3) ⟨_, rfl⟩ (h ▸ hb4), fun h => rows.row.live (b := b2) ⟨_, rfl⟩ (h ▸ hb4), fun v hv h => (rows.each v hv).live h hb4⟩
    · have : s = N.toNat := by omega
      subst this
      exact kk _ s6
end
end Go.Mz
