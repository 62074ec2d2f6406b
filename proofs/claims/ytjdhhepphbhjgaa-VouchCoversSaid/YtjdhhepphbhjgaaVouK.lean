/-
  Walks of layer 12, more: build.
-/
import Derived.Test.YtjdhhepphbhjgaaVouJ
import Derived.Test.YtjdhhepphbhjgaaMzY
set_option linter.unusedSimpArgs false
set_option linter.unusedVariables false
namespace Go.Mz
section
variable {E : Value → Hp → Prop}

/-- the gadget while it is built: two rows of numbers that are but read, the result's place, the graph at hand -/
structure Bst (H0 H : Hp) (fb lb tb ob : Nat) (ln lc N : Nat) (f g : Nat → Int) (nodes : Int) (op : Option Addr) (oc : Nat) (L : List Edg) : Prop where
  s : Step (fun _ => False) H0 H
  fr : Row H (some ⟨fb, 0, none⟩) N N f
  la : Row H (some ⟨lb, 0, none⟩) ln lc g
  t : H tb = some ⟨[.int .i64 0, .slice none 0 0], 24⟩
  o : H ob = some ⟨[.int .i64 nodes, .slice op L.length oc], 24⟩
  r : Row H op L.length oc (lsE L)
  new : ∀ y, fpS op y → H0 y = none ∧ y ≠ fb ∧ y ≠ lb ∧ y ≠ tb ∧ y ≠ ob
  ob0 : H0 ob = none
  tb0 : H0 tb = none
  of : ob ≠ fb
  ol : ob ≠ lb
  ot : ob ≠ tb

theorem Bst.keep {H0 H H' : Hp} {fb lb tb ob ln lc N : Nat} {f g : Nat → Int} {nodes : Int} {op : Option Addr} {oc : Nat} {L : List Edg} (h : Bst H0 H fb lb tb ob ln lc N f g nodes op oc L) (s : Step (fun _ => False) H H') :
    Bst H0 H' fb lb tb ob ln lc N f g nodes op oc L :=
  ⟨h.s.and s, h.fr.keep s fun _ _ h => h, h.la.keep s fun _ _ h => h, s.keep _ _ h.t fun h => h, s.keep _ _ h.o fun h => h, h.r.keep s fun _ _ h => h, h.new, h.ob0, h.tb0, h.of, h.ol, h.ot⟩

theorem Bst.setN {H0 H : Hp} {fb lb tb ob ln lc N : Nat} {f g : Nat → Int} {nodes x : Int} {op : Option Addr} {oc : Nat} {L : List Edg} {K : Hp → Prop} (h : Bst H0 H fb lb tb ob ln lc N f g nodes op oc L)
    (k : ∀ H', Bst H0 H' fb lb tb ob ln lc N f g x op oc L → Step (· = ob) H H' → K H') : stC H ob 0 [.int .i64 x] K := by
  refine stp h.o (by simp) rfl fun H' e' s' => k H' ?_ s'
  exact ⟨h.s.own s' fun y hy => hy ▸ h.ob0, h.fr.keep s' fun y hy e => by rw [fpS_mk] at hy; exact h.of (e ▸ hy), h.la.keep s' fun y hy e => by rw [fpS_mk] at hy; exact h.ol (e ▸ hy),
    s'.keep _ _ h.t fun e => h.ot e.symm, e', h.r.keep s' fun y hy e => (h.new y hy).2.2.2.2 e, h.new, h.ob0, h.tb0, h.of, h.ol, h.ot⟩

theorem Bst.push {H0 H : Hp} {fb lb tb ob ln lc N : Nat} {f g : Nat → Int} {nodes x y : Int} {op : Option Addr} {oc : Nat} {L : List Edg} {K : Hp → Prop} (h : Bst H0 H fb lb tb ob ln lc N f g nodes op oc L) (hL : L.length ≤ 1048576)
    (k : ∀ H' op' oc', Bst H0 H' fb lb tb ob ln lc N f g nodes op' oc' (L ++ [(x, y, 0, 0)]) → (∀ a z, H a = some z → a ≠ ob → ¬ fpS op a → H' a = some z ∧ ¬ fpS op' a) → K H') :
    nw H ⟨[.int .i64 x, .int .i64 y, .int .i64 0, .int .i64 0], 84⟩ fun bb H1 => appM 84 [.i .i64, .i .i64, .i .i64, .i .i64] 32 op L.length oc (some ⟨bb, 0, none⟩) 1 H1 fun p' n' c' H2 => stC H2 ob 1 [.slice p' n' c'] K := by
  refine h.r.app (α := Edg) (x, y, 0, 0) rfl hL (by decide) fun p' c' H2 r2 s2 f2 => ?_
  have oo : ¬ fpS op ob := fun hh => (h.new _ hh).2.2.2.2 rfl
  have o2 := s2.keep _ _ h.o oo
  refine stp o2 (by simp) rfl fun H3 e3 s3 => ?_
  have lv : ∀ z, H z ≠ none → (∀ y, fpS op y → y ≠ z) → ∀ y, fpS p' y → y ≠ z := fun z hz hn y hy e => by
    rcases f2 y hy with h' | h'
    · exact hn y h' e
    · exact hz (e ▸ h')
  have nob := lv ob (by rw [h.o]; exact fun h => by cases h) fun y hy => (h.new y hy).2.2.2.2
  have s02 := h.s.own s2 fun y hy => (h.new y hy).1
  rw [lsE_app] at r2
  refine k H3 p' c' ⟨s02.own s3 fun y hy => hy ▸ h.ob0, (h.fr.keep s2 fun y hy hy' => ?_).keep s3 fun y hy e => ?_, (h.la.keep s2 fun y hy hy' => ?_).keep s3 fun y hy e => ?_, s3.keep _ _ (s2.keep _ _ h.t fun hh => (h.new _ hh).2.2.2.1 rfl) fun e => h.ot e.symm, ?_, ?_, fun y hy => ?_, h.ob0, h.tb0, h.of, h.ol, h.ot⟩ fun a z ha hao haf => ?_
  · rw [fpS_mk] at hy; exact (h.new _ hy').2.1 hy
  · rw [fpS_mk] at hy; exact h.of (e ▸ hy)
  · rw [fpS_mk] at hy; exact (h.new _ hy').2.2.1 hy
  · rw [fpS_mk] at hy; exact h.ol (e ▸ hy)
  · rw [List.length_append]; exact e3
  · rw [List.length_append]; exact r2.keep s3 fun y hy e => nob y hy e
  · refine ⟨?_, lv fb (h.fr.live ⟨_, rfl⟩) (fun y hy => (h.new y hy).2.1) y hy, lv lb (h.la.live ⟨_, rfl⟩) (fun y hy => (h.new y hy).2.2.1) y hy, lv tb (by rw [h.t]; exact fun h => by cases h) (fun y hy => (h.new y hy).2.2.2.1) y hy, nob y hy⟩
    rcases f2 y hy with h' | h'
    · exact (h.new y h').1
    · exact h.s.mono _ h'
  · refine ⟨s3.keep _ _ (s2.keep _ _ ha haf) hao, fun hh => ?_⟩
    rcases f2 a hh with h' | h'
    · exact haf h'
    · rw [ha] at h'; cases h'

theorem Bst.get0 {H0 H : Hp} {fb lb tb ob ln lc N : Nat} {f g : Nat → Int} {nodes : Int} {op : Option Addr} {oc : Nat} {L : List Edg} (h : Bst H0 H fb lb tb ob ln lc N f g nodes op oc L) : H.get ob 0 = some (.int .i64 nodes) := by rw [get_at h.o]; rfl
theorem Bst.get1 {H0 H : Hp} {fb lb tb ob ln lc N : Nat} {f g : Nat → Int} {nodes : Int} {op : Option Addr} {oc : Nat} {L : List Edg} (h : Bst H0 H fb lb tb ob ln lc N f g nodes op oc L) : H.get ob 1 = some (.slice op L.length oc) := by rw [get_at h.o]; rfl

theorem fanI_len {a lo : Int} {k : Nat} : (fanI a lo k).length = k := by simp [fanI]
theorem fanO_len {a lo : Int} {k : Nat} : (fanO a lo k).length = k := by simp [fanO]

/-- the rounds over the edges -/
theorem vbuild2 {N : Int} {ep : Option Addr} {n ec : Nat} {e : Nat → Edg} {cp : Nat → Int} {H0 H : Hp} {fb lb tb ob ln lc : Nat} {g : Nat → Int} {K : Int → Option Addr → Nat → Nat → Int → Hp → Prop}
    (he : Rdr H0 ep n e) (hr : Right N n e) (hc : ∀ v, v < N.toNat → 0 ≤ cp v ∧ cp v ≤ 4096) (hln : N.toNat ≤ ln) (hg : ∀ v, v < N.toNat → g v = psum cp (v + 1))
    (st : Bst H0 H fb lb tb ob ln lc N.toNat (psum cp) g (psum cp N.toNat) none 0 [])
    (kk : ∀ H' op oc, Step (fun _ => False) H0 H' → Gsz e cp N.toNat n → Row H' op (gel e cp N.toNat n).length oc (lsE (gel e cp N.toNat n)) → (∀ y, fpS op y → H0 y = none) → K (gnn e cp N.toNat n) op (gel e cp N.toNat n).length oc (nol e n) H')
    (bad : ∀ H', Step (fun _ => False) H0 H' → ¬ Gsz e cp N.toNat n → E (pv 3) H') : vouch_build.l2 tb (some ⟨fb, 0, none⟩) N.toNat N.toNat ob (some ⟨lb, 0, none⟩) ln lc 0 ep n ec (n : Int) 0 E H K := by
  have hN0 := hr.N0; have hN1 := hr.N1; have hn1 := hr.n1
  have hpb : ∀ v, v ≤ N.toNat → 0 ≤ psum cp v ∧ psum cp v ≤ 4096 * 1024 := fun v hv => by
    have := psum_bound (f := cp) (a := 0) (b := 4096) (i := v) fun u hu => hc u (by omega)
    omega
  have hgb : ∀ i, i ≤ n → 0 ≤ gnn e cp N.toNat i ∧ gnn e cp N.toNat i ≤ 4096 * 1024 + 8192 := fun i hi => by
    have h1 := hpb N.toNat (Nat.le_refl _)
    have h2 := nol_le (e := e) i
    unfold gnn; omega
  refine vouch_build.l2_rule (fun t4 fp fn fc o7 lp' lnn lcc cnt tp tn tc t49 t50 H' => tb = t4 ∧ fp = some ⟨fb, 0, none⟩ ∧ fn = N.toNat ∧ fc = N.toNat ∧ ob = o7 ∧ lp' = some ⟨lb, 0, none⟩ ∧ ln = lnn ∧ lc = lcc ∧ ep = tp ∧ n = tn ∧ ec = tc ∧ t49 = n ∧
      ∃ i : Nat, t50 = i ∧ i ≤ n ∧ cnt = (nol e i : Int) ∧ (gel e cp N.toNat i).length ≤ 4096 ∧ ∃ op oc, Bst H0 H' fb lb tb ob ln lc N.toNat (psum cp) g (gnn e cp N.toNat i) op oc (gel e cp N.toNat i))
    (fun t4 fp fn fc o7 lp' lnn lcc cnt tp tn tc t49 t50 H' => n - t50.toNat) ?_ ⟨rfl, rfl, rfl, rfl, rfl, rfl, rfl, rfl, rfl, rfl, rfl, rfl, 0, rfl, by omega, rfl, Nat.zero_le _, none, 0, by
      have : gnn e cp N.toNat 0 = psum cp N.toNat := by unfold gnn; simp [nol]
      rw [this]; exact st⟩
  clear st
  rintro t4 fp fn fc o7 lp' lnn lcc cnt tp tn tc t49 t50 H1 ⟨rfl, rfl, rfl, rfl, rfl, rfl, rfl, rfl, rfl, rfl, rfl, rfl, i, rfl, hi, rfl, hlen, op, oc, st⟩ X hX
  have hnol := nol_le (e := e) i
  refine vouch_build.b2_eq ?_
  unfold vouch_build.b2_t
  refine bc (fun hlt => ?_) fun hge => ?_
  · have hx := hr.ed i (by omega)
    have hf0 := hx.f0; have hf1 := hx.f1; have ht0 := hx.t0; have ht1 := hx.t1
    obtain ⟨a, ha⟩ : ∃ a : Nat, (e i).fr = a := ⟨(e i).fr.toNat, by omega⟩
    obtain ⟨d, hd⟩ : ∃ d : Nat, (e i).to = d := ⟨(e i).to.toNat, by omega⟩
    refine (he.keep st.s fun _ _ _ h => h).edge (by omega) (by omega) ?_
    simp only [Int.toNat_natCast]
    refine nwst rfl rfl fun eb H2 hb2 e2 s2 => ?_
    rw [ha, hd] at e2
    simp only [get_at e2, List.getElem?_cons_zero, List.getElem?_cons_succ, ldI_mk]
    refine vloop fun H3 s3 => ?_
    have e3 := s3.keep _ _ e2 fun h => h
    have st3 := (st.keep s2).keep s3
    have hstep : ∀ H' op' oc', (gel e cp N.toNat (i + 1)).length ≤ 4096 → Bst H0 H' fb lb tb ob ln lc N.toNat (psum cp) g (gnn e cp N.toNat (i + 1)) op' oc' (gel e cp N.toNat (i + 1)) →
        vouch_build.j4 tb (some ⟨fb, 0, none⟩) N.toNat N.toNat ob (some ⟨lb, 0, none⟩) ln lc (nol e (i + 1) : Int) ep n ec (n : Int) (i : Int) X E H' K := fun H' op' oc' hl st' => by
      refine vouch_build.j4_eq ?_
      unfold vouch_build.j4_t
      rw [i64w (by omega) (by omega)]
      exact hX _ _ _ _ _ _ _ _ _ _ _ _ _ _ _ ⟨rfl, rfl, rfl, rfl, rfl, rfl, rfl, rfl, rfl, rfl, rfl, rfl, i + 1, by omega, by omega, rfl, hl, op', oc', st'⟩ (by omega)
    refine bc (fun hl => ?_) fun hl => ?_
    · have hlp : lp (e i) := by show (e i).fr = (e i).to; rw [ha, hd]; exact hl
      have h1 : nol e (i + 1) = nol e i := by show nol e i + (if lp (e i) then 0 else 1) = _; rw [if_pos hlp]; rfl
      have h2 : gel e cp N.toNat (i + 1) = gel e cp N.toNat i := by rw [gel_succ, if_pos hlp]
      have h3 : gnn e cp N.toNat (i + 1) = gnn e cp N.toNat i := by unfold gnn; rw [h1]
      have := hstep H3 op oc (by rw [h2]; exact hlen) (by rw [h2, h3]; exact st3)
      rwa [h1] at this
    · have hnl : ¬ lp (e i) := fun h => hl (by have h' : (e i).fr = (e i).to := h; rw [ha, hd] at h'; exact h')
      have h1 : nol e (i + 1) = nol e i + 1 := by show nol e i + (if lp (e i) then 0 else 1) = _; rw [if_neg hnl]
      have h3 : gnn e cp N.toNat (i + 1) = gnn e cp N.toNat i + 2 := by unfold gnn; rw [h1]; omega
      have h2 : gel e cp N.toNat (i + 1) = gel e cp N.toNat i ++ [(gnn e cp N.toNat i, gnn e cp N.toNat i + 1, 0, 0)] ++ fanI (gnn e cp N.toNat i) (psum cp a) (cp a).toNat ++ fanO (gnn e cp N.toNat i + 1) (psum cp d) (cp d).toNat := by
        rw [gel_succ, if_neg hnl, ha, hd]; rfl
      have g0 := hgb i hi
      have g1 := hgb (i + 1) (by omega)
      obtain ⟨A, hA⟩ : ∃ A, gnn e cp N.toNat i = A := ⟨_, rfl⟩
      rw [hA] at h2 h3 g0 st3
      have ean : a < N.toNat := by omega
      have edn : d < N.toNat := by omega
      have ca := hc a ean
      have cd := hc d edn
      have pa := hpb a (by omega)
      have pd := hpb d (by omega)
      have pa1 : psum cp (a + 1) = psum cp a + cp a := rfl
      have pd1 : psum cp (d + 1) = psum cp d + cp d := rfl
      simp only [st3.get0, ldI_mk]
      rw [i64w (n := A + 2) (by omega) (by omega)]
      refine st3.setN fun H4 st4 s4 => ?_
      simp only [st4.get1, ldS_mk]
      rw [i64w (n := A + 1) (by omega) (by omega)]
      have ebo : eb ≠ ob := fun h => by rw [h, st.o] at hb2; cases hb2
      have ebp : ¬ fpS op eb := fun h => st.r.live h hb2
      have e4 := s4.keep _ _ e3 ebo
      refine st4.push (by omega) fun H5 op5 oc5 st5 hkp5 => ?_
      obtain ⟨e5, ebp5⟩ := hkp5 eb _ e4 ebo ebp
      simp only [get_at e5, List.getElem?_cons_zero, List.getElem?_cons_succ, ldI_mk]
      refine st5.fr.ixI (by omega) (by omega) ?_
      simp only [Int.toNat_natCast]
      rw [i64w (n := (nol e i : Int) + 1) (by omega) (by omega)]
      obtain ⟨B, hB⟩ : ∃ B, gel e cp N.toNat i ++ [(A, A + 1, 0, 0)] = B := ⟨_, rfl⟩
      rw [hB] at st5 h2
      have hBl : B.length ≤ 4097 := by rw [← hB]; simp; omega
      refine vouch_build.l3_rule (fun t4 fp fn fc o7 lp' lnn lcc cnt e13 a14 c15 tp tn tc t49 t50 H' => tb = t4 ∧ fp = some ⟨fb, 0, none⟩ ∧ fn = N.toNat ∧ fc = N.toNat ∧ ob = o7 ∧ lp' = some ⟨lb, 0, none⟩ ∧ ln = lnn ∧ lc = lcc ∧ cnt = (nol e i : Int) + 1 ∧ eb = e13 ∧ A = a14 ∧ ep = tp ∧ n = tn ∧ ec = tc ∧ t49 = n ∧ t50 = i ∧
          H' eb = some ⟨[.int .i64 a, .int .i64 d, .int .i64 (e i).cp, .int .i64 (e i).co], 84⟩ ∧ ∃ j : Nat, c15 = psum cp a + j ∧ (j : Int) ≤ cp a ∧ ∃ op oc, ¬ fpS op eb ∧ Bst H0 H' fb lb tb ob ln lc N.toNat (psum cp) g (A + 2) op oc (B ++ fanI A (psum cp a) j))
        (fun t4 fp fn fc o7 lp' lnn lcc cnt e13 a14 c15 tp tn tc t49 t50 H' => (psum cp a + cp a - c15).toNat) ?_
        ⟨rfl, rfl, rfl, rfl, rfl, rfl, rfl, rfl, rfl, rfl, rfl, rfl, rfl, rfl, rfl, rfl, e5, 0, by simp, by simp; omega, op5, oc5, ebp5, by simpa [fanI] using st5⟩
      clear st5 e5 ebp5 hkp5 st4 e4 s4 st3 e3 s3 e2 s2 hb2 ebp st
      rintro t4 fp fn fc o7 lp' lnn lcc cnt e13 a14 c15 tp tn tc t49 t50 H6 ⟨rfl, rfl, rfl, rfl, rfl, rfl, rfl, rfl, rfl, rfl, rfl, rfl, rfl, rfl, rfl, rfl, e6, j, rfl, hj, op6, oc6, ebp6, st6⟩ Y hY
      refine vouch_build.b3_eq ?_
      unfold vouch_build.b3_t
      simp only [get_at e6, List.getElem?_cons_zero, List.getElem?_cons_succ, ldI_mk]
      refine st6.la.ixI (by omega) (by omega) ?_
      simp only [Int.toNat_natCast]
      have hga := hg a ean
      rw [pa1] at hga
      refine bc (fun hlt2 => ?_) fun hge2 => ?_
      · simp only [st6.get1, ldS_mk]
        have hl6 : (B ++ fanI A (psum cp a) j).length = B.length + j := by rw [List.length_append, fanI_len]
        refine st6.push (by rw [hl6]; omega) fun H7 op7 oc7 st7 hkp7 => ?_
        obtain ⟨e7, ebp7⟩ := hkp7 eb _ e6 ebo ebp6
        rw [i64w (n := psum cp a + (j : Int) + 1) (by omega) (by omega)]
        refine hY _ _ _ _ _ _ _ _ _ _ _ _ _ _ _ _ _ _ ⟨rfl, rfl, rfl, rfl, rfl, rfl, rfl, rfl, rfl, rfl, rfl, rfl, rfl, rfl, rfl, rfl, e7, j + 1, by omega, by omega, op7, oc7, ebp7, ?_⟩ (by omega)
        rw [fanI_succ, ← List.append_assoc]; exact st7
      · have hjc : j = (cp a).toNat := by omega
        subst hjc
        clear hY
        refine vouch_build.j2_eq ?_
        unfold vouch_build.j2_t
        simp only [get_at e6, List.getElem?_cons_zero, List.getElem?_cons_succ, ldI_mk]
        refine st6.fr.ixI (by omega) (by omega) ?_
        simp only [Int.toNat_natCast]
        obtain ⟨C, hC⟩ : ∃ C, B ++ fanI A (psum cp a) (cp a).toNat = C := ⟨_, rfl⟩
        rw [hC] at st6 h2
        have hCl : C.length ≤ 8193 := by rw [← hC, List.length_append, fanI_len]; omega
        refine vouch_build.l4_rule (fun t4 fp fn fc o7 lp' lnn lcc cnt e13 a14 c16 tp tn tc t49 t50 H' => tb = t4 ∧ fp = some ⟨fb, 0, none⟩ ∧ fn = N.toNat ∧ fc = N.toNat ∧ ob = o7 ∧ lp' = some ⟨lb, 0, none⟩ ∧ ln = lnn ∧ lc = lcc ∧ cnt = (nol e i : Int) + 1 ∧ eb = e13 ∧ A = a14 ∧ ep = tp ∧ n = tn ∧ ec = tc ∧ t49 = n ∧ t50 = i ∧
            H' eb = some ⟨[.int .i64 a, .int .i64 d, .int .i64 (e i).cp, .int .i64 (e i).co], 84⟩ ∧ ∃ j : Nat, c16 = psum cp d + j ∧ (j : Int) ≤ cp d ∧ ∃ op oc, ¬ fpS op eb ∧ Bst H0 H' fb lb tb ob ln lc N.toNat (psum cp) g (A + 2) op oc (C ++ fanO (A + 1) (psum cp d) j))
          (fun t4 fp fn fc o7 lp' lnn lcc cnt e13 a14 c16 tp tn tc t49 t50 H' => (psum cp d + cp d - c16).toNat) ?_
          ⟨rfl, rfl, rfl, rfl, rfl, rfl, rfl, rfl, rfl, rfl, rfl, rfl, rfl, rfl, rfl, rfl, e6, 0, by simp, by simp; omega, op6, oc6, ebp6, by simpa [fanO] using st6⟩
        clear st6 e6 ebp6
        rintro t4 fp fn fc o7 lp' lnn lcc cnt e13 a14 c16 tp tn tc t49 t50 H8 ⟨rfl, rfl, rfl, rfl, rfl, rfl, rfl, rfl, rfl, rfl, rfl, rfl, rfl, rfl, rfl, rfl, e8, j, rfl, hj, op8, oc8, ebp8, st8⟩ Y hY
        refine vouch_build.b4_eq ?_
        unfold vouch_build.b4_t
        simp only [get_at e8, List.getElem?_cons_zero, List.getElem?_cons_succ, ldI_mk]
        refine st8.la.ixI (by omega) (by omega) ?_
        simp only [Int.toNat_natCast]
        have hgd := hg d edn
        rw [pd1] at hgd
        refine bc (fun hlt3 => ?_) fun hge3 => ?_
        · simp only [st8.get1, ldS_mk]
          have hl8 : (C ++ fanO (A + 1) (psum cp d) j).length = C.length + j := by rw [List.length_append, fanO_len]
          rw [i64w (n := A + 1) (by omega) (by omega)]
          refine st8.push (by rw [hl8]; omega) fun H9 op9 oc9 st9 hkp9 => ?_
          obtain ⟨e9, ebp9⟩ := hkp9 eb _ e8 ebo ebp8
          rw [i64w (n := psum cp d + (j : Int) + 1) (by omega) (by omega)]
          refine hY _ _ _ _ _ _ _ _ _ _ _ _ _ _ _ _ _ _ ⟨rfl, rfl, rfl, rfl, rfl, rfl, rfl, rfl, rfl, rfl, rfl, rfl, rfl, rfl, rfl, rfl, e9, j + 1, by omega, by omega, op9, oc9, ebp9, ?_⟩ (by omega)
          rw [fanO_succ, ← List.append_assoc]; exact st9
        · have hjd : j = (cp d).toNat := by omega
          subst hjd
          clear hY
          rw [← h2] at st8
          rw [← h3] at st8
          have bigN : ∀ z, gnn e cp N.toNat (i + 1) = z → ¬ z ≤ 1024 → ¬ Gsz e cp N.toNat n := fun z hz hb hh => hb (by
            have hm := gnn_mono (e := e) (cp := cp) (N := N.toNat) (i := i + 1) (n - (i + 1))
            rw [show i + 1 + (n - (i + 1)) = n by omega] at hm
            have := hh.1; omega)
          refine vouch_build.j3_eq ?_
          unfold vouch_build.j3_t
          simp only [st8.get0, st8.get1, ldI_mk, ldS_mk]
          refine bc (fun hsz => ?_) fun hsz => vneed (fun h => by cases h) fun _ => bad _ st8.s (bigN _ rfl hsz)
          refine vneedD (fun hll => ?_) fun hll => bad _ st8.s fun hh => hll ?_
          · have := hstep H8 op8 oc8 (by omega) st8
            rw [h1] at this
            exact this
          · have hm := gel_mono (e := e) (cp := cp) (N := N.toNat) (i := i + 1) (n - (i + 1))
            rw [show i + 1 + (n - (i + 1)) = n by omega] at hm
            have := hh.2; omega
  · have : i = n := by omega
    subst this
    refine vouch_build.j5_eq ?_
    unfold vouch_build.j5_t
    simp only [st.get0, st.get1, ldI_mk, ldS_mk]
    refine vneedD (fun hsz => ?_) fun hsz => bad _ st.s fun hh => hsz hh.1
    try simp only [st.get0, st.get1, ldI_mk, ldS_mk]
    refine stk st.t rfl rfl fun H2 e2 s2 => ?_
    simp only [get_at e2, List.getElem?_cons_zero, List.getElem?_cons_succ, ldI_mk, ldS_mk]
    exact kk _ op oc (st.s.own s2 fun y hy => hy ▸ st.tb0) ⟨hsz, hlen⟩ (st.r.keep s2 fun y hy e => (st.new y hy).2.2.2.1 e) fun y hy => (st.new y hy).1
end
end Go.Mz
