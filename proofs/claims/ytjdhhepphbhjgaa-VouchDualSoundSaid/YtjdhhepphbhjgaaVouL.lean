/-
  Walks of layer 12, more: build whole, Gadget, Many.
-/
import Derived.Test.YtjdhhepphbhjgaaVouK
set_option linter.unusedSimpArgs false
set_option linter.unusedVariables false
namespace Go.Mz
section
variable {E : Value → Hp → Prop}

theorem vbuild {N : Int} {ep : Option Addr} {n ec : Nat} {e : Nat → Edg} {bp : Option Addr} {bn bk : Nat} {b : Nat → Int} {H : Hp} {K : Int → Option Addr → Nat → Nat → Int → Hp → Prop}
    (he : Rdr H ep n e) (hr : Right N n e) (hb : Rdr H bp bn b) (hbn : bn < 2 ^ 63)
    (kk : ∀ H' op oc, Step (fun _ => False) H H' → Bnd N b bn → Gsz e (cps e n b) N.toNat n → Row H' op (gel e (cps e n b) N.toNat n).length oc (lsE (gel e (cps e n b) N.toNat n)) → (∀ y, fpS op y → H y = none) →
      K (gnn e (cps e n b) N.toNat n) op (gel e (cps e n b) N.toNat n).length oc (nol e n) H')
    (bad1 : ∀ H', Step (fun _ => False) H H' → ¬ Bnd N b bn → E (pv 130) H')
    (bad2 : ∀ H', Step (fun _ => False) H H' → Bnd N b bn → ¬ Gsz e (cps e n b) N.toNat n → E (pv 3) H') : vouch_build.call N ep n ec bp bn bk E H K := by
  have hN0 := hr.N0; have hN1 := hr.N1; have hn1 := hr.n1
  refine vouch_build.of (vouch_build.run_eq ?_)
  unfold vouch_build.run_t
  refine nwk fun b1 H1 hb1 e1 s1 => ?_
  refine nwk fun tb H2 hb2 e2 s2 => ?_
  have e12 := s2.keep _ _ e1 fun h => h
  have s02 := s1.and s2
  simp only [get_at e12, List.getElem?_cons_zero, List.getElem?_cons_succ, ldI_mk, ldS_mk]
  refine vcopies (he.keep s02 fun _ _ _ h => h) hr (hb.keep s02 fun _ _ _ h => h) hbn (fun fb H3 s3 hbd hfb rf => ?_) fun H3 s3 h => bad1 _ (s02.and s3) h
  refine nwk fun ob H4 hb4 e4 s4 => ?_
  have s04 := (s02.and s3).and s4
  have e14 := (s3.and s4).keep _ _ e12 fun h => h
  have e24 := (s3.and s4).keep _ _ e2 fun h => h
  have rf4 := rf.keep s4 fun _ _ h => h
  have ob0 : H ob = none := (s02.and s3).mono _ hb4
  have tb0 : H tb = none := s1.mono _ hb2
  have fb0 : H fb = none := s02.mono _ hfb
  have off : ob ≠ fb := fun h => rf.live (b := fb) ⟨_, rfl⟩ (h ▸ hb4)
  have obt : ob ≠ tb := fun h => by rw [h] at hb4; have := s3.keep _ _ e2 fun h => h; rw [this] at hb4; cases hb4
  have obg : ob ≠ b1 := fun h => by rw [h] at hb4; have := s3.keep _ _ e12 fun h => h; rw [this] at hb4; cases hb4
  have fbt : fb ≠ tb := fun h => by rw [h, e2] at hfb; cases hfb
  have fbg : fb ≠ b1 := fun h => by rw [h, e12] at hfb; cases hfb
  generalize hcp : cps e n b = cp at *
  have hc : ∀ v, v < N.toNat → 0 ≤ cp v ∧ cp v ≤ 4096 := fun v hv => by
    have h1 := hbd.len
    have := cps_bound (e := e) (n := n) hbd (v := v) (by omega)
    rw [hcp] at this
    exact ⟨this.1, this.2.1⟩
  have hpb : ∀ v, v ≤ N.toNat → 0 ≤ psum cp v ∧ psum cp v ≤ 4096 * 1024 := fun v hv => by
    have := psum_bound (f := cp) (a := 0) (b := 4096) (i := v) fun u hu => hc u (by omega)
    omega
  refine vouch_build.l1_rule (fun g2 t4 fp fn fc o7 tp tn tc t21 t22 H' => b1 = g2 ∧ tb = t4 ∧ fp = some ⟨fb, 0, none⟩ ∧ fn = N.toNat ∧ fc = N.toNat ∧ ob = o7 ∧ tp = some ⟨fb, 0, none⟩ ∧ tn = N.toNat ∧ t21 = (N.toNat : Int) ∧
      ∃ i : Nat, t22 = i ∧ i ≤ N.toNat ∧ Step (fun _ => False) H H' ∧ H' b1 = some ⟨[.int .i64 N, .slice ep n ec], 24⟩ ∧ H' tb = some ⟨[.int .i64 0, .slice none 0 0], 24⟩ ∧ H' ob = some ⟨[.int .i64 (psum cp i), .slice none 0 0], 24⟩ ∧
        Row H' (some ⟨fb, 0, none⟩) N.toNat N.toNat (fun v => if v < i then psum cp v else cp v))
    (fun g2 t4 fp fn fc o7 tp tn tc t21 t22 H' => N.toNat - t22.toNat) ?_ ⟨rfl, rfl, rfl, rfl, rfl, rfl, rfl, rfl, rfl, 0, rfl, by omega, s04, e14, e24, e4, rf4.congr fun v _ => by simp⟩
  clear rf4 e24 e14 s04 e4 s4 hb4 rf s3 e12 e2 s2 e1 hfb s02 hb2
  rintro g2 t4 fp fn fc o7 tp tn tc t21 t22 H5 ⟨rfl, rfl, rfl, rfl, rfl, rfl, rfl, rfl, rfl, i, rfl, hi, s5, e15, e25, e45, rf5⟩ X hX
  refine vouch_build.b1_eq ?_
  unfold vouch_build.b1_t
  refine bc (fun hlt => ?_) fun hge => ?_
  · have hci := hc i (by omega)
    have hpi := hpb i (by omega)
    refine rf5.ixI (by omega) (by omega) ?_
    simp only [Int.toNat_natCast, Nat.lt_irrefl, if_false, get_at e45, List.getElem?_cons_zero, List.getElem?_cons_succ, ldI_mk, ldS_mk]
    refine rf5.stI (by omega) (by omega) _ fun H6 rf6 s6 => ?_
    simp only [Int.toNat_natCast] at rf6
    have kf : ∀ {y : Nat}, fb ≠ y → ¬ fpS (some ⟨fb, 0, none⟩) y := fun h h' => by rw [fpS_mk] at h'; exact h h'.symm
    have e46 := s6.keep _ _ e45 (kf off.symm)
    simp only [get_at e46, List.getElem?_cons_zero, List.getElem?_cons_succ, ldI_mk, ldS_mk]
    rw [i64w (n := psum cp i + cp i) (by omega) (by omega)]
    refine stp e46 (by simp) rfl fun H7 e7 s7 => ?_
    rw [i64w (by omega) (by omega)]
    refine hX _ _ _ _ _ _ _ _ _ _ _ _ ⟨rfl, rfl, rfl, rfl, rfl, rfl, rfl, rfl, rfl, i + 1, by omega, by omega, (s5.own s6 fun y hy => by rw [fpS_mk] at hy; exact hy ▸ fb0).own s7 fun y hy => hy ▸ ob0,
      s7.keep _ _ (s6.keep _ _ e15 (kf fbg)) (fun h => obg h.symm), s7.keep _ _ (s6.keep _ _ e25 (kf fbt)) (fun h => obt h.symm), e7, (rf6.congr fun v hv => ?_).keep s7 fun y hy h => by rw [fpS_mk] at hy; exact off (h ▸ hy)⟩ (by omega)
    by_cases ev : v = i
    · subst ev; rw [upf_same, if_pos (by omega)]
    · rw [upf_ne ev]
      by_cases h : v < i
      · rw [if_pos h, if_pos (by omega)]
      · rw [if_neg h, if_neg (by omega)]
  · have : i = N.toNat := by omega
    subst this
    clear hX
    have hpN := hpb N.toNat (Nat.le_refl _)
    refine vouch_build.j1_eq ?_
    unfold vouch_build.j1_t
    obtain ⟨l, hl, hl'⟩ : ∃ l : Nat, (if (N.toNat : Int) < 1 then (N.toNat : Int) else 1) = l ∧ l = min 1 N.toNat := ⟨min 1 N.toNat, by split <;> omega, rfl⟩
    rw [hl]
    simp only [Int.toNat_natCast]
    refine ⟨⟨by omega, by omega⟩, ?_⟩
    simp only [get_at e45, List.getElem?_cons_zero, List.getElem?_cons_succ, ldI_mk, ldS_mk]
    have rfp : Row H5 (some ⟨fb, 0, none⟩) N.toNat N.toNat (psum cp) := rf5.congr fun v hv => by rw [if_pos hv]
    have rd := rfp.drop (l := l) (by omega)
    refine rd.appFull (α := Int) (psum cp N.toNat) rfl (by omega) (by decide) (by omega) fun lb lc H6 hlb rl s6 => ?_
    have e16 := s6.keep _ _ e15 fun h => h
    simp only [get_at e16, List.getElem?_cons_zero, List.getElem?_cons_succ, ldI_mk, ldS_mk]
    have st : Bst H H6 fb lb tb ob (N.toNat - l + 1) lc N.toNat (psum cp) (upf (fun i => psum cp (i + l)) (N.toNat - l) (psum cp N.toNat)) (psum cp N.toNat) none 0 [] :=
      ⟨s5.and s6, rfp.keep s6 fun _ _ h => h, rl, s6.keep _ _ e25 fun h => h, s6.keep _ _ e45 fun h => h, .nil, fun y hy => by rw [fpS_none] at hy; exact hy.elim, ob0, tb0, off, fun h => (by rw [← h, e45] at hlb; cases hlb), obt⟩
    refine vbuild2 he hr hc (by omega) (fun v hv => ?_) st (fun H' op oc s' hz ro hn => kk H' op oc s' hbd hz ro hn) fun H' s' h => bad2 H' s' hbd h
    have hl1 : l = 1 := by omega
    subst hl1
    by_cases ev : v = N.toNat - 1
    · subst ev; rw [upf_same, show N.toNat - 1 + 1 = N.toNat by omega]
    · rw [upf_ne ev]

/-- what is wrong with a graph and bounds: no gadget is built -/
def GadB (N : Int) (n : Nat) (e : Nat → Edg) (b : Nat → Int) (bn : Nat) (c : Int) : Prop :=
  (c = chk N n e ∧ c ≠ 0) ∨ (c = 130 ∧ Right N n e ∧ ¬ Bnd N b bn) ∨ (c = 3 ∧ Right N n e ∧ Bnd N b bn ∧ ¬ Gsz e (cps e n b) N.toNat n)

theorem GadB.ne {N : Int} {n : Nat} {e : Nat → Edg} {b : Nat → Int} {bn : Nat} {c : Int} (h : GadB N n e b bn c) : c ≠ 0 := by
  rcases h with ⟨_, h⟩ | ⟨rfl, _⟩ | ⟨rfl, _⟩
  · exact h
  · decide
  · decide

theorem vgadget1 {N : Int} {ep : Option Addr} {n ec : Nat} {e : Nat → Edg} {bp : Option Addr} {bn bk : Nat} {b : Nat → Int} {c0 c1 c2 : Nat} {H : Hp} {K : Hp → Prop}
    (h0 : H c0 = some ⟨[.int .i64 N, .slice ep n ec], 24⟩) (h1 : H c1 = some ⟨[.slice bp bn bk], 25⟩) (h2 : H c2 = some ⟨[.int .i64 0, .slice none 0 0], 24⟩)
    (he : Rdr H ep n e) (hn : n < 2 ^ 63) (hb : Rdr H bp bn b) (hbn : bn < 2 ^ 63)
    (kk : ∀ H' op oc, Step (· = c2) H H' → Right N n e → Bnd N b bn → Gsz e (cps e n b) N.toNat n → Row H' op (gel e (cps e n b) N.toNat n).length oc (lsE (gel e (cps e n b) N.toNat n)) → (∀ y, fpS op y → H y = none) →
      H' c2 = some ⟨[.int .i64 (gnn e (cps e n b) N.toNat n), .slice op (gel e (cps e n b) N.toNat n).length oc], 24⟩ → K H')
    (bad : ∀ H' c, Step (fun _ => False) H H' → GadB N n e b bn c → E (pv c) H') : vouch_Gadget_1.call c0 0 c1 0 c2 0 E H K := by
  refine vouch_Gadget_1.of (vouch_Gadget_1.run_eq ?_)
  unfold vouch_Gadget_1.run_t
  simp only [get_at h0, List.getElem?_cons_zero, List.getElem?_cons_succ, ldI_mk, ldS_mk, Nat.zero_add]
  refine vright he hn (fun H1 s1 hr => ?_) fun H1 s1 hc => bad _ _ s1 (.inl ⟨rfl, hc⟩)
  have h01 := s1.keep _ _ h0 fun h => h
  have h11 := s1.keep _ _ h1 fun h => h
  simp only [get_at h01, get_at h11, List.getElem?_cons_zero, List.getElem?_cons_succ, ldI_mk, ldS_mk]
  refine vbuild (he.keep s1 fun _ _ _ h => h) hr (hb.keep s1 fun _ _ _ h => h) hbn (fun H2 op oc s2 hbd hsz ro hno => ?_) (fun H2 s2 h => bad _ _ (s1.and s2) (.inr (.inl ⟨rfl, hr, h⟩))) fun H2 s2 hbd h => bad _ _ (s1.and s2) (.inr (.inr ⟨rfl, hr, hbd, h⟩))
  have s02 := s1.and s2
  have h22 := s02.keep _ _ h2 fun h => h
  refine stk h22 rfl rfl fun H3 e3 s3 => ?_
  have hne : ∀ y, fpS op y → y ≠ c2 := fun y hy e => by
    have := hno y hy
    rw [e, s1.keep _ _ h2 fun h => h] at this; cases this
  exact kk _ op oc ((s02.weak fun _ h => h.elim).trans s3 fun _ h => .inl h) hr hbd hsz (ro.keep s3 fun y hy e => hne y hy e) (fun y hy => s1.mono _ (hno y hy)) e3

theorem vGadget {N : Int} {ep : Option Addr} {n ec : Nat} {e : Nat → Edg} {bp : Option Addr} {bn bk : Nat} {b : Nat → Int} {H : Hp} {K : Int → Option Addr → Nat → Nat → Int → Hp → Prop}
    (he : Rdr H ep n e) (hn : n < 2 ^ 63) (hb : Rdr H bp bn b) (hbn : bn < 2 ^ 63)
    (kk : ∀ H' op oc, Step (fun _ => False) H H' → Right N n e → Bnd N b bn → Gsz e (cps e n b) N.toNat n → Row H' op (gel e (cps e n b) N.toNat n).length oc (lsE (gel e (cps e n b) N.toNat n)) → (∀ y, fpS op y → H y = none) →
      K (gnn e (cps e n b) N.toNat n) op (gel e (cps e n b) N.toNat n).length oc 0 H')
    (bad : ∀ H' c, Step (fun _ => False) H H' → GadB N n e b bn c → K 0 none 0 0 c H') : vouch_Gadget.call N ep n ec bp bn bk E H K := by
  refine vouch_Gadget.of (vouch_Gadget.run_eq ?_)
  unfold vouch_Gadget.run_t
  refine nwk fun b1 H1 hb1 e1 s1 => ?_
  refine nwk fun b2 H2 hb2 e2 s2 => ?_
  refine nwk fun b3 H3 hb3 e3 s3 => ?_
  refine nwk fun b4 H4 hb4 e4 s4 => ?_
  have s04 := ((s1.and s2).and s3).and s4
  refine vlook rfl fun x H5 hx e5 s5 => ?_
  have s05 := s04.and s5
  have e1 := (((s2.and s3).and s4).and s5).keep _ _ e1 fun h => h
  have e2 := ((s3.and s4).and s5).keep _ _ e2 fun h => h
  have e34 := s4.keep _ _ e3 fun h => h
  have e35 := s5.keep _ _ e34 fun h => h
  have e45 := s5.keep _ _ e4 fun h => h
  have fx : H x = none := s04.mono _ hx
  have f4 : H b4 = none := ((s1.and s2).and s3).mono _ hb4
  have f3 : H b3 = none := (s1.and s2).mono _ hb3
  have ne4 : b4 ≠ x := ne_of_live hx (by rw [e4]; exact fun h => by cases h)
  have ne3 : b3 ≠ x := ne_of_live hx (by rw [e34]; exact fun h => by cases h)
  have ne34 : b3 ≠ b4 := ne_of_live hb4 (by rw [e3]; exact fun h => by cases h)
  refine callW_mono (fun v H' h => ldR_spec h) (fun _ _ h => h) (vgadget1 (K := fun H2 => H2 x = some ⟨[.int .i64 0], 27⟩ ∧ ∀ H3, Step (· = x) H2 H3 → ldI .i64 (H3.get b4 0) fun x_1 => ldS (H3.get b4 1) fun x_2p x_2n x_2c => stC H3 b3 0 [.int .i64 x_1, .slice x_2p x_2n x_2c] fun H_6 => ldI .i64 (H_6.get b3 0) fun x_3 => ldS (H_6.get b3 1) fun x_4p x_4n x_4c => K x_3 x_4p x_4n x_4c 0 H_6)
    e1 e2 e45 (he.keep s05 fun _ _ _ h => h) hn (hb.keep s05 fun _ _ _ h => h) hbn (fun H6 op oc s6 hr hbd hsz ro hno e6 => ?_) fun H6 cd s6 hg => ?_)
  · refine ⟨s6.keep _ _ e5 fun h => ne4 h.symm, fun H7 s7 => ?_⟩
    have e7 := s7.keep _ _ e6 ne4
    have e37 := s7.keep _ _ (s6.keep _ _ e35 fun h => ne34 h) ne3
    simp only [get_at e7, List.getElem?_cons_zero, List.getElem?_cons_succ, ldI_mk, ldS_mk]
    refine stk e37 rfl rfl fun H8 e8 s8 => ?_
    simp only [get_at e8, List.getElem?_cons_zero, List.getElem?_cons_succ, ldI_mk, ldS_mk]
    have h5 : ∀ y, fpS op y → y ≠ x ∧ y ≠ b3 := fun y hy => ⟨fun ey => (by have := hno y hy; rw [ey, e5] at this; cases this), fun ey => (by have := hno y hy; rw [ey, e35] at this; cases this)⟩
    exact kk _ op oc (((s05.own s6 fun y hy => hy ▸ f4).own s7 fun y hy => hy ▸ fx).own s8 fun y hy => hy ▸ f3) hr hbd hsz ((ro.keep s7 fun y hy => (h5 y hy).1).keep s8 fun y hy => (h5 y hy).2) fun y hy => s05.mono _ (hno y hy)
  · refine ⟨cd, rfl, s6.keep _ _ e5 fun h => h, fun H7 s7 => ?_⟩
    have e7 := s7.keep _ _ (s6.keep _ _ e45 fun h => h) ne4
    have e37 := s7.keep _ _ (s6.keep _ _ e35 fun h => h) ne3
    simp only [get_at e7, List.getElem?_cons_zero, List.getElem?_cons_succ, ldI_mk, ldS_mk]
    refine stk e37 rfl rfl fun H8 e8 s8 => ?_
    simp only [get_at e8, List.getElem?_cons_zero, List.getElem?_cons_succ, ldI_mk, ldS_mk]
    exact bad _ cd (((s05.and s6).own s7 fun y hy => hy ▸ fx).own s8 fun y hy => hy ▸ f3) hg

/-- a list that is read, at a node -/
theorem fun1_at {H : Hp} {cb : Nat} {N : Int} {bp : Option Addr} {bn bk : Nat} {b : Nat → Int} (h : H cb = some ⟨[.slice bp bn bk], 25⟩) (hb : Rdr H bp bn b) (hN : N ≤ bn) : Fun1 E H 70 [.pointer (some ⟨cb, 0, none⟩)] N (fun v => b v.toNat) := by
  refine ⟨rfl, fun v H1 K v0 v1 s k => ?_⟩
  have hc : vouch_Many_1_1.call v cb 0 E H1 (fun x H' => x = b v.toNat ∧ K (.int .i64 (b v.toNat)) H') := by
    refine vouch_Many_1_1.of (vouch_Many_1_1.run_eq ?_)
    unfold vouch_Many_1_1.run_t
    simp only [get_at (s.keep _ _ h fun h => h), List.getElem?_cons_zero, ldS_mk]
    exact (hb.keep s fun _ _ _ h => h).ixI v0 (by omega) ⟨rfl, k _ .refl⟩
  refine callW_mono (fun r H' hr => ?_) (fun _ _ h => h) hc
  obtain ⟨x, rfl, hx, hk⟩ := asR_int (K := fun x => x = b v.toNat ∧ K (.int .i64 (b v.toNat)) H') hr
  rw [hx]; exact hk

structure MnyP (N : Int) (n : Nat) (e : Nat → Edg) (b : Nat → Int) (m : Nat → Int) (k : Nat) (set : Nat → Int) (q : Nat) : Prop where
  tk : Tkn N n e m k fun v => b v.toNat
  ris : Ris set q (gnn e (cps e n b) N.toNat n)
  eq : 2 * ((nol e n : Int) + k) = gnn e (cps e n b) N.toNat n + q - oddS (gnn e (cps e n b) N.toNat n) (gel e (cps e n b) N.toNat n).length (lsE (gel e (cps e n b) N.toNat n)) set q

/-- what Many answers -/
def MnyO (N : Int) (n : Nat) (e : Nat → Edg) (b : Nat → Int) (bn : Nat) (m : Nat → Int) (k : Nat) (set : Nat → Int) (q : Nat) (c : Int) : Prop :=
  (c = 0 ∧ Right N n e ∧ Bnd N b bn ∧ Gsz e (cps e n b) N.toNat n ∧ MnyP N n e b m k set q) ∨ GadB N n e b bn c ∨ (c = 221 ∧ Right N n e ∧ Bnd N b bn ∧ Gsz e (cps e n b) N.toNat n ∧ ¬ MnyP N n e b m k set q)

theorem vmany1 {N : Int} {ep : Option Addr} {n ec : Nat} {e : Nat → Edg} {bp : Option Addr} {bn bk : Nat} {b : Nat → Int} {p : Option Addr} {k c : Nat} {m : Nat → Int} {vp : Option Addr} {q vc : Nat} {set : Nat → Int} {c0 c1 c2 c3 c4 : Nat} {H : Hp} {K : Hp → Prop}
    (h0 : H c0 = some ⟨[.int .i64 N, .slice ep n ec], 24⟩) (h1 : H c1 = some ⟨[.slice bp bn bk], 25⟩) (h2 : H c2 = some ⟨[.slice p k c], 25⟩) (h3 : H c3 = some ⟨[.slice vp q vc], 25⟩) (h4 : H c4 = some ⟨[.int .i64 0], 3⟩)
    (he : Rdr H ep n e) (hn : n < 2 ^ 63) (hb : Rdr H bp bn b) (hbn : bn < 2 ^ 63) (hm : Rdr H p k m) (hk : k < 2 ^ 63) (hv : Rdr H vp q set) (hq : q < 2 ^ 63)
    (kk : ∀ H', Step (· = c4) H H' → H' c4 = some ⟨[.int .i64 k], 3⟩ → MnyO N n e b bn m k set q 0 → K H')
    (bad : ∀ H' c, Step (fun _ => False) H H' → c ≠ 0 → MnyO N n e b bn m k set q c → E (pv c) H') : vouch_Many_1.call c0 0 c1 0 c2 0 c3 0 c4 0 E H K := by
  refine vouch_Many_1.of (vouch_Many_1.run_eq ?_)
  unfold vouch_Many_1.run_t
  simp only [get_at h0, List.getElem?_cons_zero, List.getElem?_cons_succ, ldI_mk, ldS_mk, Nat.zero_add]
  have hgb : ∀ H' c, Step (fun _ => False) H H' → GadB N n e b bn c → E (pv c) H' := fun H' c s h => bad _ _ s h.ne (.inr (.inl h))
  refine vright he hn (fun H1 s1 hr => ?_) fun H1 s1 hc => hgb _ _ s1 (.inl ⟨rfl, hc⟩)
  have hN0 := hr.N0; have hN1 := hr.N1; have hn1 := hr.n1
  have h01 := s1.keep _ _ h0 fun h => h
  have h11 := s1.keep _ _ h1 fun h => h
  simp only [get_at h01, get_at h11, List.getElem?_cons_zero, List.getElem?_cons_succ, ldI_mk, ldS_mk]
  refine vbuild (he.keep s1 fun _ _ _ h => h) hr (hb.keep s1 fun _ _ _ h => h) hbn (fun H2 op oc s2 hbd hsz ro hnew => ?_) (fun H2 s2 h => hgb _ _ (s1.and s2) (.inr (.inl ⟨rfl, hr, h⟩))) fun H2 s2 hbd h => hgb _ _ (s1.and s2) (.inr (.inr ⟨rfl, hr, hbd, h⟩))
  refine nwst rfl rfl fun hb3 H3 hbn3 e3 s3 => ?_
  have s03 := (s1.and s2).and s3
  have h03 := s03.keep _ _ h0 fun h => h
  have h13 := s03.keep _ _ h1 fun h => h
  have h23 := s03.keep _ _ h2 fun h => h
  simp only [get_at h03, get_at h23, List.getElem?_cons_zero, List.getElem?_cons_succ, ldI_mk, ldS_mk]
  have hno : ∀ H', Step (fun _ => False) H H' → ¬ MnyP N n e b m k set q → E (pv 221) H' := fun H' s h => bad _ _ s (by decide) (.inr (.inr ⟨rfl, hr, hbd, hsz, h⟩))
  have hcb : ∀ v, v < N.toNat → 0 ≤ cps e n b v := fun v hv => (cps_bound (e := e) (n := n) hbd (v := v) (by have := hbd.len; omega)).1
  have hgr := gad_right hr hcb hsz
  refine vmatched (he.keep s03 fun _ _ _ h => h) hr (hm.keep s03 fun _ _ _ h => h) hk (fun1_at h13 (hb.keep s03 fun _ _ _ h => h) (by have := hbd.len; omega)) (fun H4 s4 ht => ?_) fun H4 s4 ht => hno _ (s03.and s4) fun h => ht h.tk
  have s04 := s03.and s4
  have h24 := s04.keep _ _ h2 fun h => h
  have h34 := s04.keep _ _ h3 fun h => h
  have e4 := s4.keep _ _ e3 fun h => h
  simp only [get_at h24, get_at h34, get_at e4, List.getElem?_cons_zero, List.getElem?_cons_succ, ldI_mk, ldS_mk]
  have hG0 := hgr.N0; have hG1 := hgr.N1; have hG2 := hgr.n1
  refine vmarked (hv.keep s04 fun _ _ _ h => h) hq hG0 (by omega) (fun x H5 hs s5 hx r5 => ?_) fun h => hno _ s04 fun hh => h hh.ris
  have s05 := s04.and s5
  have h25 := s05.keep _ _ h2 fun h => h
  have h35 := s05.keep _ _ h3 fun h => h
  have e5 := s5.keep _ _ e4 fun h => h
  simp only [get_at h25, get_at h35, get_at e5, List.getElem?_cons_zero, List.getElem?_cons_succ, ldI_mk, ldS_mk, true_and]
  have ro5 := ro.keep ((s3.and s4).and s5) fun _ _ h => h
  refine vodd ro5.rdr hgr r5 fun H6 s6 => ?_
  have s06 := s05.and s6
  have h26 := s06.keep _ _ h2 fun h => h
  have h36 := s06.keep _ _ h3 fun h => h
  have h46 := s06.keep _ _ h4 fun h => h
  have e6 := s6.keep _ _ e5 fun h => h
  simp only [get_at h26, get_at h36, get_at e6, List.getElem?_cons_zero, List.getElem?_cons_succ, ldI_mk, ldS_mk, true_and]
  have hod : oddN (gnn e (cps e n b) N.toNat n) (gel e (cps e n b) N.toNat n).length (lsE (gel e (cps e n b) N.toNat n)) _ = oddS (gnn e (cps e n b) N.toNat n) (gel e (cps e n b) N.toNat n).length (lsE (gel e (cps e n b) N.toNat n)) set q := rfl
  rw [hod]
  have ho := oddS_le (N := gnn e (cps e n b) N.toNat n) (n := (gel e (cps e n b) N.toNat n).length) (e := lsE (gel e (cps e n b) N.toNat n)) (set := set) (q := q)
  have hkn := ht.ris.len
  have hqn := hs.len
  have hnl := nol_le (e := e) n
  rw [i64w (n := (nol e n : Int) + (k : Int)) (by omega) (by omega), i64w (n := 2 * ((nol e n : Int) + (k : Int))) (by omega) (by omega), i64w (n := gnn e (cps e n b) N.toNat n + (q : Int)) (by omega) (by omega), i64w (by omega) (by omega)]
  refine vneedD (fun hh => ?_) fun hh => hno _ s06 fun h => hh h.eq
  simp only [get_at h26, List.getElem?_cons_zero, List.getElem?_cons_succ, ldI_mk, ldS_mk]
  refine stk h46 rfl rfl fun H7 e7 s7 => ?_
  exact kk _ ((s06.weak fun _ h => h.elim).trans s7 fun _ h => .inl h) e7 (.inl ⟨rfl, hr, hbd, hsz, ht, hs, hh⟩)

theorem vMany {N : Int} {ep : Option Addr} {n ec : Nat} {e : Nat → Edg} {bp : Option Addr} {bn bk : Nat} {b : Nat → Int} {p : Option Addr} {k c : Nat} {m : Nat → Int} {vp : Option Addr} {q vc : Nat} {set : Nat → Int} {H : Hp} {K : Int → Int → Hp → Prop}
    (he : Rdr H ep n e) (hn : n < 2 ^ 63) (hb : Rdr H bp bn b) (hbn : bn < 2 ^ 63) (hm : Rdr H p k m) (hk : k < 2 ^ 63) (hv : Rdr H vp q set) (hq : q < 2 ^ 63)
    (kk : ∀ H' c, Step (fun _ => False) H H' → MnyO N n e b bn m k set q c → K (if c = 0 then (k : Int) else 0) c H') : vouch_Many.call N ep n ec bp bn bk p k c vp q vc E H K := by
  refine vouch_Many.of (vouch_Many.run_eq ?_)
  unfold vouch_Many.run_t
  refine nwk fun b1 H1 hb1 e1 s1 => ?_
  refine nwk fun b2 H2 hb2 e2 s2 => ?_
  refine nwk fun b3 H3 hb3 e3 s3 => ?_
  refine nwk fun b4 H4 hb4 e4 s4 => ?_
  refine nwst rfl rfl fun b5 H5 hb5 e5 s5 => ?_
  have s05 := (((s1.and s2).and s3).and s4).and s5
  refine vlook rfl fun x H6 hx e6 s6 => ?_
  have s06 := s05.and s6
  have e1 := ((((s2.and s3).and s4).and s5).and s6).keep _ _ e1 fun h => h
  have e2 := (((s3.and s4).and s5).and s6).keep _ _ e2 fun h => h
  have e3 := ((s4.and s5).and s6).keep _ _ e3 fun h => h
  have e4 := (s5.and s6).keep _ _ e4 fun h => h
  have e56 := s6.keep _ _ e5 fun h => h
  have fx : H x = none := s05.mono _ hx
  have f5 : H b5 = none := (((s1.and s2).and s3).and s4).mono _ hb5
  have ne : b5 ≠ x := ne_of_live hx (by rw [e5]; exact fun h => by cases h)
  refine callW_mono (fun v H' h => ldR_spec h) (fun _ _ h => h) (vmany1 (K := fun H2 => H2 x = some ⟨[.int .i64 0], 27⟩ ∧ ∀ H3, Step (· = x) H2 H3 → ldI .i64 (H3.get b5 0) fun y => K y 0 H3) e1 e2 e3 e4 e56 (he.keep s06 fun _ _ _ h => h) hn (hb.keep s06 fun _ _ _ h => h) hbn (hm.keep s06 fun _ _ _ h => h) hk (hv.keep s06 fun _ _ _ h => h) hq (fun H7 s7 e7 hP => ?_) fun H7 cd s7 hc ho => ?_)
  · refine ⟨s7.keep _ _ e6 fun h => ne h.symm, fun H8 s8 => ?_⟩
    have e8 := s8.keep _ _ e7 ne
    simp only [get_at e8, List.getElem?_cons_zero, ldI_mk]
    have := kk H8 0 ((s06.own s7 fun b' hb' => hb' ▸ f5).own s8 fun b' hb' => hb' ▸ fx) hP
    rwa [if_pos rfl] at this
  · refine ⟨cd, rfl, s7.keep _ _ e6 fun h => h, fun H8 s8 => ?_⟩
    have e8 := s8.keep _ _ (s7.keep _ _ e56 fun h => h) ne
    simp only [get_at e8, List.getElem?_cons_zero, ldI_mk]
    have := kk H8 cd ((s06.and s7).own s8 fun b' hb' => hb' ▸ fx) ho
    rwa [if_neg hc] at this
end
end Go.Mz
