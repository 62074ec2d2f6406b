/-
  Walks of layer 12, more: Cheapest.
-/
import Derived.Test.YtjdhhepphbhjgaaVouH
set_option linter.unusedSimpArgs false
set_option linter.unusedVariables false
namespace Go.Mz
section
variable {E : Value → Hp → Prop}

structure ChpP (N : Int) (n : Nat) (e : Nat → Edg) (m : Nat → Int) (k : Nat) (Y : Nat → Int) (yn : Nat) (z : Nat → Int) (ln : Nat → Nat) (nd : Nat → Nat → Int) (sn : Nat) : Prop where
  tk : Tkn N n e m k fun _ => 1
  all : 2 * (k : Int) = N
  wt : Wt N Y yn z ln nd sn
  ed : ∀ i, i < n → lp (e i) ∨ prW Y z ln nd sn (e i).fr (e i).to ≤ 2 * (e i).co
  sum : wsum Y yn z ln sn = 2 * cst e m k

theorem vcheapest1 {N : Int} {ep : Option Addr} {n ec : Nat} {e : Nat → Edg} {p : Option Addr} {k c : Nat} {m : Nat → Int} {yp : Option Addr} {yn yc : Nat} {sp : Option Addr} {sn sc : Nat} {Y : Nat → Int} {z : Nat → Int} {sl : Nat → Sl} {nd : Nat → Nat → Int} {c0 c1 c2 c3 : Nat} {H : Hp} {K : Hp → Prop}
    (h0 : H c0 = some ⟨[.int .i64 N, .slice ep n ec], 24⟩) (h1 : H c1 = some ⟨[.slice p k c], 25⟩) (h2 : H c2 = some ⟨[.slice yp yn yc, .slice sp sn sc], 38⟩) (h3 : H c3 = some ⟨[.int .i64 0], 2⟩)
    (he : Rdr H ep n e) (hn : n < 2 ^ 63) (hm : Rdr H p k m) (hk : k < 2 ^ 63) (hd : DualR H yp yn sp sn Y z sl nd) (hyn : yn < 2 ^ 63) (hsn : sn < 2 ^ 63)
    (kk : ∀ H', Step (· = c3) H H' → H' c3 = some ⟨[.int .i64 (cst e m k)], 2⟩ → Right N n e → ChpP N n e m k Y yn z (fun i => (sl i).n) nd sn → K H')
    (bad : ∀ H' c, Step (fun _ => False) H H' → c ≠ 0 → Out N n e (ChpP N n e m k Y yn z (fun i => (sl i).n) nd sn) c → E (pv c) H') : vouch_Cheapest_1.call c0 0 c1 0 c2 0 c3 0 E H K := by
  refine vouch_Cheapest_1.of (vouch_Cheapest_1.run_eq ?_)
  unfold vouch_Cheapest_1.run_t
  simp only [get_at h0, List.getElem?_cons_zero, List.getElem?_cons_succ, ldI_mk, ldS_mk, Nat.zero_add]
  refine vright he hn (fun H1 s1 hr => ?_) fun H1 s1 hc => bad _ _ s1 hc (.inr (.inl ⟨rfl, hc⟩))
  have h01 := s1.keep _ _ h0 fun h => h
  have h11 := s1.keep _ _ h1 fun h => h
  simp only [get_at h01, get_at h11, List.getElem?_cons_zero, List.getElem?_cons_succ, ldI_mk, ldS_mk]
  have hno : ∀ H', Step (fun _ => False) H H' → ¬ ChpP N n e m k Y yn z (fun i => (sl i).n) nd sn → E (pv 221) H' := fun H' s h => bad _ _ s (by decide) (.inr (.inr ⟨rfl, hr, h⟩))
  refine vmatched (he.keep s1 fun _ _ _ h => h) hr (hm.keep s1 fun _ _ _ h => h) hk fun1_one (fun H2 s2 ht => ?_) fun H2 s2 ht => hno _ (s1.and s2) fun h => ht h.tk
  have s02 := s1.and s2
  have h02 := s02.keep _ _ h0 fun h => h
  have h12 := s02.keep _ _ h1 fun h => h
  have h22 := s02.keep _ _ h2 fun h => h
  simp only [get_at h02, get_at h12, get_at h22, List.getElem?_cons_zero, List.getElem?_cons_succ, ldI_mk, ldS_mk]
  have hN0 := hr.N0; have hN1 := hr.N1; have hn1 := hr.n1
  have hkn := ht.ris.len
  rw [i64w (n := 2 * (k : Int)) (by omega) (by omega)]
  refine vneedD (fun hall => ?_) fun h => hno _ s02 fun hh => h hh.all
  try simp only [get_at h02, get_at h12, get_at h22, List.getElem?_cons_zero, List.getElem?_cons_succ, ldI_mk, ldS_mk]
  refine vweigh (hd.keep s02) hyn hsn hN0 hN1 (fun H3 g gk s3 hw hf => ?_) fun H3 s3 h => hno _ (s02.and s3) fun hh => h hh.wt
  have s03 := s02.and s3
  have h03 := s03.keep _ _ h0 fun h => h
  simp only [get_at h03, List.getElem?_cons_zero, List.getElem?_cons_succ, ldI_mk, ldS_mk]
  refine vouch_Cheapest_1.l1_rule (fun t0b t0o t1b t1o t3b t3o sm pg pk tp tn tc t29 t30 H' => c0 = t0b ∧ t0o = 0 ∧ c1 = t1b ∧ t1o = 0 ∧ c3 = t3b ∧ t3o = 0 ∧ sm = wsum Y yn z (fun i => (sl i).n) sn ∧ g = pg ∧ gk = pk ∧ ep = tp ∧ n = tn ∧ t29 = n ∧
      ∃ i : Nat, t30 = i ∧ i ≤ n ∧ Step (fun _ => False) H3 H' ∧ ∀ a, a < i → lp (e a) ∨ prW Y z (fun i => (sl i).n) nd sn (e a).fr (e a).to ≤ 2 * (e a).co)
    (fun t0b t0o t1b t1o t3b t3o sm pg pk tp tn tc t29 t30 H' => n - t30.toNat) ?_ ⟨rfl, rfl, rfl, rfl, rfl, rfl, rfl, rfl, rfl, rfl, rfl, rfl, 0, rfl, by omega, .refl, fun a ha => by omega⟩
  rintro t0b t0o t1b t1o t3b t3o sm pg pk tp tn tc t29 t30 H4 ⟨rfl, rfl, rfl, rfl, rfl, rfl, rfl, rfl, rfl, rfl, rfl, rfl, i, rfl, hi, s4, hed⟩ X hX
  have s04 := s03.and s4
  refine vouch_Cheapest_1.b1_eq ?_
  unfold vouch_Cheapest_1.b1_t
  refine bc (fun hlt => ?_) fun hge => ?_
  · refine (he.keep s04 fun _ _ _ h => h).edge (by omega) (by omega) ?_
    simp only [Int.toNat_natCast]
    refine nwst rfl rfl fun b5 H5 hb5 e5 s5 => ?_
    simp only [get_at e5, List.getElem?_cons_zero, List.getElem?_cons_succ, ldI_mk]
    refine vloop fun H6 s6 => ?_
    have s46 := s5.and s6
    have e6 := s6.keep _ _ e5 fun h => h
    have hx := hr.ed i (by omega)
    have hf0 := hx.f0; have hf1 := hx.f1; have ht0 := hx.t0; have ht1 := hx.t1; have hk0 := hx.k0; have hk1 := hx.k1
    have next : ∀ H', Step (fun _ => False) H6 H' → (lp (e i) ∨ prW Y z (fun i => (sl i).n) nd sn (e i).fr (e i).to ≤ 2 * (e i).co) → vouch_Cheapest_1.j1 c0 0 c1 0 c3 0 (wsum Y yn z (fun i => (sl i).n) sn) g gk ep n tc (n : Int) (i : Int) X E H' K := fun H' s' h => by
      refine vouch_Cheapest_1.j1_eq ?_
      unfold vouch_Cheapest_1.j1_t
      rw [i64w (by omega) (by omega)]
      refine hX _ _ _ _ _ _ _ _ _ _ _ _ _ _ _ ⟨rfl, rfl, rfl, rfl, rfl, rfl, rfl, rfl, rfl, rfl, rfl, rfl, i + 1, by omega, by omega, (s4.and s46).and s', fun a ha => ?_⟩ (by omega)
      by_cases ea : a = i
      · subst ea; exact h
      · exact hed a (by omega)
    simp only [get_at e6, List.getElem?_cons_zero, List.getElem?_cons_succ, ldI_mk]
    refine bc (fun hl => vneed (fun _ => next _ .refl (.inl hl)) fun h => by cases h) fun hl => ?_
    refine ⟨hf.1, hf.2 _ _ H6 _ hf0 hf1 ht0 ht1 (s4.and s46) fun H7 s7 => ldR_int ?_⟩
    have e7 := s7.keep _ _ e6 fun h => h
    simp only [get_at e7, List.getElem?_cons_zero, List.getElem?_cons_succ, ldI_mk, true_and]
    rw [i64w (n := 2 * (e i).co) (by omega) (by omega)]
    refine vneedD (fun h => next _ s7 (.inr h)) fun h => hno _ ((s04.and s46).and s7) fun hh => ?_
    rcases hh.ed i (by omega) with h' | h'
    · exact hl h'
    · exact h h'
  · have : i = n := by omega
    subst this
    refine vouch_Cheapest_1.j2_eq ?_
    unfold vouch_Cheapest_1.j2_t
    have h04 := s04.keep _ _ h0 fun h => h
    have h14 := s04.keep _ _ h1 fun h => h
    simp only [get_at h04, get_at h14, List.getElem?_cons_zero, List.getElem?_cons_succ, ldI_mk, ldS_mk, Nat.zero_add]
    refine vcost (he.keep s04 fun _ _ _ h => h) hr (hm.keep s04 fun _ _ _ h => h) ht.ris fun H5 s5 => ?_
    have s05 := s04.and s5
    have hcb := cst_bound hr ht.ris
    rw [i64w (n := 2 * cst e m k) (by omega) (by omega)]
    refine vneedD (fun hs => ?_) fun h => hno _ s05 fun hh => h hh.sum
    have h05 := s05.keep _ _ h0 fun h => h
    have h15 := s05.keep _ _ h1 fun h => h
    simp only [get_at h05, get_at h15, List.getElem?_cons_zero, List.getElem?_cons_succ, ldI_mk, ldS_mk, Nat.zero_add]
    refine vcost (he.keep s05 fun _ _ _ h => h) hr (hm.keep s05 fun _ _ _ h => h) ht.ris fun H6 s6 => ?_
    have s06 := s05.and s6
    have h36 := s06.keep _ _ h3 fun h => h
    refine stk h36 rfl rfl fun H7 e7 s7 => ?_
    exact kk _ ((s06.weak fun _ h => h.elim).trans s7 fun _ h => .inl h) e7 hr ⟨ht, hall, hw, hed, hs⟩

theorem vCheapest {N : Int} {ep : Option Addr} {n ec : Nat} {e : Nat → Edg} {p : Option Addr} {k c : Nat} {m : Nat → Int} {yp : Option Addr} {yn yc : Nat} {sp : Option Addr} {sn sc : Nat} {Y : Nat → Int} {z : Nat → Int} {sl : Nat → Sl} {nd : Nat → Nat → Int} {H : Hp} {K : Int → Int → Hp → Prop}
    (he : Rdr H ep n e) (hn : n < 2 ^ 63) (hm : Rdr H p k m) (hk : k < 2 ^ 63) (hd : DualR H yp yn sp sn Y z sl nd) (hyn : yn < 2 ^ 63) (hsn : sn < 2 ^ 63)
    (kk : ∀ H' c, Step (fun _ => False) H H' → Out N n e (ChpP N n e m k Y yn z (fun i => (sl i).n) nd sn) c → K (if c = 0 then cst e m k else 0) c H') : vouch_Cheapest.call N ep n ec p k c yp yn yc sp sn sc E H K := by
  refine vouch_Cheapest.of (vouch_Cheapest.run_eq ?_)
  unfold vouch_Cheapest.run_t
  refine nwk fun b1 H1 hb1 e1 s1 => ?_
  refine nwk fun b2 H2 hb2 e2 s2 => ?_
  refine nwk fun b3 H3 hb3 e3 s3 => ?_
  refine nwst rfl rfl fun b4 H4 hb4 e4 s4 => ?_
  have s04 := ((s1.and s2).and s3).and s4
  refine vlook rfl fun b H5 hb e5 s5 => ?_
  have s05 := s04.and s5
  have e1 := (((s2.and s3).and s4).and s5).keep _ _ e1 fun h => h
  have e2 := ((s3.and s4).and s5).keep _ _ e2 fun h => h
  have e3 := (s4.and s5).keep _ _ e3 fun h => h
  have e45 := s5.keep _ _ e4 fun h => h
  have fb : H b = none := s04.mono _ hb
  have f4 : H b4 = none := ((s1.and s2).and s3).mono _ hb4
  have ne : b4 ≠ b := ne_of_live hb (by rw [e4]; exact fun h => by cases h)
  refine callW_mono (fun v H' h => ldR_spec h) (fun _ _ h => h) (vcheapest1 (K := fun H2 => H2 b = some ⟨[.int .i64 0], 27⟩ ∧ ∀ H3, Step (· = b) H2 H3 → ldI .i64 (H3.get b4 0) fun x => K x 0 H3) e1 e2 e3 e45 (he.keep s05 fun _ _ _ h => h) hn (hm.keep s05 fun _ _ _ h => h) hk (hd.keep s05) hyn hsn (fun H6 s6 e6 hr hP => ?_) fun H6 cd s6 hc ho => ?_)
  · refine ⟨s6.keep _ _ e5 fun h => ne h.symm, fun H7 s7 => ?_⟩
    have e7 := s7.keep _ _ e6 ne
    simp only [get_at e7, List.getElem?_cons_zero, ldI_mk]
    have := kk H7 0 ((s05.own s6 fun b' hb' => hb' ▸ f4).own s7 fun b' hb' => hb' ▸ fb) (.inl ⟨rfl, hr, hP⟩)
    rwa [if_pos rfl] at this
  · refine ⟨cd, rfl, s6.keep _ _ e5 fun h => h, fun H7 s7 => ?_⟩
    have e7 := s7.keep _ _ (s6.keep _ _ e45 fun h => h) ne
    simp only [get_at e7, List.getElem?_cons_zero, ldI_mk]
    have := kk H7 cd ((s05.and s6).own s7 fun b' hb' => hb' ▸ fb) ho
    rwa [if_neg hc] at this
end
end Go.Mz
