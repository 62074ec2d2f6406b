/-
  Walks of layer 12, more: Matching, Covered, Heaviest.
-/
import Derived.Test.YtjdhhepphbhjgaaVouC
set_option linter.unusedSimpArgs false
set_option linter.unusedVariables false
namespace Go.Mz
section
variable {E : Value → Hp → Prop}

theorem vmatching1 {N : Int} {ep : Option Addr} {n ec : Nat} {e : Nat → Edg} {p : Option Addr} {k c : Nat} {m : Nat → Int} {c0 c1 : Nat} {H : Hp} {K : Hp → Prop}
    (h0 : H c0 = some ⟨[.int .i64 N, .slice ep n ec], 24⟩) (h1 : H c1 = some ⟨[.slice p k c], 25⟩) (he : Rdr H ep n e) (hn : n < 2 ^ 63) (hm : Rdr H p k m) (hk : k < 2 ^ 63)
    (kk : ∀ H', Step (fun _ => False) H H' → Right N n e → Tkn N n e m k (fun _ => 1) → K H')
    (bad : ∀ H' c, Step (fun _ => False) H H' → c ≠ 0 → Out N n e (Tkn N n e m k fun _ => 1) c → E (pv c) H') : vouch_Matching_1.call c0 0 c1 0 E H K := by
  refine vouch_Matching_1.of (vouch_Matching_1.run_eq ?_)
  unfold vouch_Matching_1.run_t
  simp only [get_at h0, List.getElem?_cons_zero, List.getElem?_cons_succ, ldI_mk, ldS_mk, Nat.zero_add]
  refine vright he hn (fun H1 s1 hr => ?_) fun H1 s1 hc => bad _ _ s1 hc (.inr (.inl ⟨rfl, hc⟩))
  have h0 := s1.keep _ _ h0 fun h => h
  have h1 := s1.keep _ _ h1 fun h => h
  simp only [get_at h0, get_at h1, List.getElem?_cons_zero, List.getElem?_cons_succ, ldI_mk, ldS_mk]
  refine vmatched (he.keep s1 fun _ _ _ h => h) hr (hm.keep s1 fun _ _ _ h => h) hk fun1_one (fun H2 s2 ht => ?_) fun H2 s2 ht => bad _ _ (s1.and s2) (by decide) (.inr (.inr ⟨rfl, hr, ht⟩))
  exact kk _ (s1.and s2) hr ht

theorem vMatching {N : Int} {ep : Option Addr} {n ec : Nat} {e : Nat → Edg} {p : Option Addr} {k c : Nat} {m : Nat → Int} {H : Hp} {K : Int → Hp → Prop} (he : Rdr H ep n e) (hn : n < 2 ^ 63) (hm : Rdr H p k m) (hk : k < 2 ^ 63)
    (kk : ∀ H' c, Step (fun _ => False) H H' → Out N n e (Tkn N n e m k fun _ => 1) c → K c H') : vouch_Matching.call N ep n ec p k c E H K := by
  refine vouch_Matching.of (vouch_Matching.run_eq ?_)
  unfold vouch_Matching.run_t
  refine nwk fun b1 H1 hb1 e1 s1 => ?_
  refine nwk fun b2 H2 hb2 e2 s2 => ?_
  have s02 := s1.and s2
  refine vlook rfl fun b H3 hb e3 s3 => ?_
  have s03 := s02.and s3
  have e1 := (s2.and s3).keep _ _ e1 fun h => h
  have e2 := s3.keep _ _ e2 fun h => h
  have fb : H b = none := s02.mono _ hb
  refine callW_mono (fun v H' h => ldR_spec h) (fun _ _ h => h) (vmatching1 (K := fun H2 => H2 b = some ⟨[.int .i64 0], 27⟩ ∧ ∀ H3, Step (· = b) H2 H3 → K 0 H3) e1 e2 (he.keep s03 fun _ _ _ h => h) hn (hm.keep s03 fun _ _ _ h => h) hk (fun H4 s4 hr ht => ?_) fun H4 cd s4 hc ho => ?_)
  · exact ⟨s4.keep _ _ e3 fun h => h, fun H5 s5 => kk _ _ ((s03.and s4).own s5 fun b' hb' => hb' ▸ fb) (.inl ⟨rfl, hr, ht⟩)⟩
  · exact ⟨cd, rfl, s4.keep _ _ e3 fun h => h, fun H5 s5 => kk _ _ ((s03.and s4).own s5 fun b' hb' => hb' ▸ fb) ho⟩

/-- nodes cover all edges that are no loops -/
def Cvr (e : Nat → Edg) (n : Nat) (cv : Nat → Int) (q : Nat) : Prop := ∀ i, i < n → lp (e i) ∨ In cv q (e i).fr ∨ In cv q (e i).to

structure CovP (N : Int) (n : Nat) (e : Nat → Edg) (m : Nat → Int) (k : Nat) (cv : Nat → Int) (q : Nat) : Prop where
  tk : Tkn N n e m k fun _ => 1
  ris : Ris cv q N
  cvr : Cvr e n cv q
  eq : k = q

open Classical in
theorem vcovered1 {N : Int} {ep : Option Addr} {n ec : Nat} {e : Nat → Edg} {p : Option Addr} {k c : Nat} {m : Nat → Int} {vp : Option Addr} {q vc : Nat} {cv : Nat → Int} {c0 c1 c2 c3 : Nat} {H : Hp} {K : Hp → Prop}
    (h0 : H c0 = some ⟨[.int .i64 N, .slice ep n ec], 24⟩) (h1 : H c1 = some ⟨[.slice p k c], 25⟩) (h2 : H c2 = some ⟨[.slice vp q vc], 25⟩) (h3 : H c3 = some ⟨[.int .i64 0], 3⟩)
    (he : Rdr H ep n e) (hn : n < 2 ^ 63) (hm : Rdr H p k m) (hk : k < 2 ^ 63) (hv : Rdr H vp q cv) (hq : q < 2 ^ 63)
    (kk : ∀ H', Step (· = c3) H H' → H' c3 = some ⟨[.int .i64 k], 3⟩ → Right N n e → CovP N n e m k cv q → K H')
    (bad : ∀ H' c, Step (fun _ => False) H H' → c ≠ 0 → Out N n e (CovP N n e m k cv q) c → E (pv c) H') : vouch_Covered_1.call c0 0 c1 0 c2 0 c3 0 E H K := by
  refine vouch_Covered_1.of (vouch_Covered_1.run_eq ?_)
  unfold vouch_Covered_1.run_t
  simp only [get_at h0, List.getElem?_cons_zero, List.getElem?_cons_succ, ldI_mk, ldS_mk, Nat.zero_add]
  refine vright he hn (fun H1 s1 hr => ?_) fun H1 s1 hc => bad _ _ s1 hc (.inr (.inl ⟨rfl, hc⟩))
  have h01 := s1.keep _ _ h0 fun h => h
  have h11 := s1.keep _ _ h1 fun h => h
  simp only [get_at h01, get_at h11, List.getElem?_cons_zero, List.getElem?_cons_succ, ldI_mk, ldS_mk]
  have hno : ∀ H', Step (fun _ => False) H H' → ¬ CovP N n e m k cv q → E (pv 221) H' := fun H' s h => bad _ _ s (by decide) (.inr (.inr ⟨rfl, hr, h⟩))
  refine vmatched (he.keep s1 fun _ _ _ h => h) hr (hm.keep s1 fun _ _ _ h => h) hk fun1_one (fun H2 s2 ht => ?_) fun H2 s2 ht => hno _ (s1.and s2) fun h => ht h.tk
  have s02 := s1.and s2
  have h02 := s02.keep _ _ h0 fun h => h
  have h22 := s02.keep _ _ h2 fun h => h
  simp only [get_at h02, get_at h22, List.getElem?_cons_zero, List.getElem?_cons_succ, ldI_mk, ldS_mk]
  have hN0 := hr.N0; have hN1 := hr.N1; have hn1 := hr.n1
  refine vmarked (hv.keep s02 fun _ _ _ h => h) hq hN0 (by omega) (fun b H3 hs s3 hb r3 => ?_) fun h => hno _ s02 fun hh => h hh.ris
  have s03 := s02.and s3
  have h03 := s03.keep _ _ h0 fun h => h
  simp only [get_at h03, List.getElem?_cons_zero, List.getElem?_cons_succ, ldI_mk, ldS_mk]
  refine vouch_Covered_1.l1_rule (fun t1b t1o t2b t2o t3b t3o ip inn ic tp tn tc t18 t19 H' => c1 = t1b ∧ t1o = 0 ∧ c2 = t2b ∧ t2o = 0 ∧ c3 = t3b ∧ t3o = 0 ∧ ip = some ⟨b, 0, none⟩ ∧ inn = N.toNat ∧ ep = tp ∧ n = tn ∧ t18 = n ∧
      ∃ i : Nat, t19 = i ∧ i ≤ n ∧ Step (fun _ => False) H3 H' ∧ Cvr e i cv q)
    (fun t1b t1o t2b t2o t3b t3o ip inn ic tp tn tc t18 t19 H' => n - t19.toNat) ?_ ⟨rfl, rfl, rfl, rfl, rfl, rfl, rfl, rfl, rfl, rfl, rfl, 0, rfl, by omega, .refl, fun i hi => by omega⟩
  rintro t1b t1o t2b t2o t3b t3o ip inn ic tp tn tc t18 t19 H4 ⟨rfl, rfl, rfl, rfl, rfl, rfl, rfl, rfl, rfl, rfl, rfl, i, rfl, hi, s4, hcv⟩ X hX
  have s04 := s03.and s4
  refine vouch_Covered_1.b1_eq ?_
  unfold vouch_Covered_1.b1_t
  refine bc (fun hlt => ?_) fun hge => ?_
  · refine (he.keep s04 fun _ _ _ h => h).edge (by omega) (by omega) ?_
    simp only [Int.toNat_natCast]
    refine nwst rfl rfl fun b5 H5 hb5 e5 s5 => ?_
    simp only [get_at e5, List.getElem?_cons_zero, List.getElem?_cons_succ, ldI_mk]
    refine vloop fun H6 s6 => ?_
    have s46 := s5.and s6
    have e6 := s6.keep _ _ e5 fun h => h
    have r6 := r3.keep (s4.and s46) fun _ _ h => h
    have hx := hr.ed i (by omega)
    have hf0 := hx.f0; have hf1 := hx.f1; have ht0 := hx.t0; have ht1 := hx.t1
    have next : (lp (e i) ∨ In cv q (e i).fr ∨ In cv q (e i).to) → vouch_Covered_1.j1 c1 0 c2 0 c3 0 (some ⟨b, 0, none⟩) N.toNat ic ep n tc (n : Int) (i : Int) X E H6 K := fun h => by
      refine vouch_Covered_1.j1_eq ?_
      unfold vouch_Covered_1.j1_t
      rw [i64w (by omega) (by omega)]
      refine hX _ _ _ _ _ _ _ _ _ _ _ _ _ _ _ ⟨rfl, rfl, rfl, rfl, rfl, rfl, rfl, rfl, rfl, rfl, rfl, i + 1, by omega, by omega, s4.and s46, fun j hj => ?_⟩ (by omega)
      by_cases ej : j = i
      · subst ej; exact h
      · exact hcv j (by omega)
    simp only [get_at e6, List.getElem?_cons_zero, List.getElem?_cons_succ, ldI_mk]
    refine bc (fun hl => vneed (fun _ => next (.inl hl)) fun h => by cases h) fun hl => ?_
    refine r6.ixB (by omega) (by omega) ?_
    rw [show (((e i).fr.toNat : Nat) : Int) = (e i).fr by omega]
    refine bc (fun h => vneed (fun _ => next (.inr (.inl h))) fun h => by cases h) fun hnf => ?_
    refine r6.ixB (by omega) (by omega) ?_
    rw [show (((e i).to.toNat : Nat) : Int) = (e i).to by omega]
    refine vneedD (fun h => next (.inr (.inr h))) fun h => hno _ (s04.and s46) fun hh => ?_
    rcases hh.cvr i (by omega) with h' | h' | h'
    · exact hl h'
    · exact hnf h'
    · exact h h'
  · have : i = n := by omega
    subst this
    refine vouch_Covered_1.j2_eq ?_
    unfold vouch_Covered_1.j2_t
    have h14 := s04.keep _ _ h1 fun h => h
    have h24 := s04.keep _ _ h2 fun h => h
    have h34 := s04.keep _ _ h3 fun h => h
    simp only [get_at h14, get_at h24, List.getElem?_cons_zero, ldS_mk]
    refine vneedD (fun hkq => ?_) fun h => hno _ s04 fun hh => h (by rw [hh.eq])
    simp only [get_at h14, List.getElem?_cons_zero, ldS_mk]
    refine stk h34 rfl rfl fun H5 e5 s5 => ?_
    exact kk _ ((s04.weak fun _ h => h.elim).trans s5 fun _ h => .inl h) e5 hr ⟨ht, hs, hcv, by omega⟩

theorem vCovered {N : Int} {ep : Option Addr} {n ec : Nat} {e : Nat → Edg} {p : Option Addr} {k c : Nat} {m : Nat → Int} {vp : Option Addr} {q vc : Nat} {cv : Nat → Int} {H : Hp} {K : Int → Int → Hp → Prop}
    (he : Rdr H ep n e) (hn : n < 2 ^ 63) (hm : Rdr H p k m) (hk : k < 2 ^ 63) (hv : Rdr H vp q cv) (hq : q < 2 ^ 63)
    (kk : ∀ H' c, Step (fun _ => False) H H' → Out N n e (CovP N n e m k cv q) c → K (if c = 0 then (k : Int) else 0) c H') : vouch_Covered.call N ep n ec p k c vp q vc E H K := by
  refine vouch_Covered.of (vouch_Covered.run_eq ?_)
  unfold vouch_Covered.run_t
  refine nwk fun b1 H1 hb1 e1 s1 => ?_
  refine nwk fun b2 H2 hb2 e2 s2 => ?_
  refine nwk fun b3 H3 hb3 e3 s3 => ?_
  refine nwst rfl rfl fun b4 H4 hb4 e4 s4 => ?_
  have s04 := ((s1.and s2).and s3).and s4
  refine vlook rfl fun b H5 hb e5 s5 => ?_
  have s05 := s04.and s5
  have e1 := (((s2.and s3).and s4).and s5).keep _ _ e1 fun h => h
  have e2 := ((s3.and s4).and s5).keep _ _ e2 fun h => h
  have e3 := (s4.and s5).keep _ _ e3 fun h => h
  have e45 := s5.keep _ _ e4 fun h => h
  have fb : H b = none := s04.mono _ hb
  have f4 : H b4 = none := ((s1.and s2).and s3).mono _ hb4
  have ne : b4 ≠ b := ne_of_live hb (by rw [e4]; exact fun h => by cases h)
  refine callW_mono (fun v H' h => ldR_spec h) (fun _ _ h => h) (vcovered1 (K := fun H2 => H2 b = some ⟨[.int .i64 0], 27⟩ ∧ ∀ H3, Step (· = b) H2 H3 → ldI .i64 (H3.get b4 0) fun x => K x 0 H3) e1 e2 e3 e45 (he.keep s05 fun _ _ _ h => h) hn (hm.keep s05 fun _ _ _ h => h) hk (hv.keep s05 fun _ _ _ h => h) hq (fun H6 s6 e6 hr hP => ?_) fun H6 cd s6 hc ho => ?_)
  · refine ⟨s6.keep _ _ e5 fun h => ne h.symm, fun H7 s7 => ?_⟩
    have e7 := s7.keep _ _ e6 ne
    simp only [get_at e7, List.getElem?_cons_zero, ldI_mk]
    have := kk H7 0 ((s05.own s6 fun b' hb' => hb' ▸ f4).own s7 fun b' hb' => hb' ▸ fb) (.inl ⟨rfl, hr, hP⟩)
    rwa [if_pos rfl] at this
  · refine ⟨cd, rfl, s6.keep _ _ e5 fun h => h, fun H7 s7 => ?_⟩
    have e7 := s7.keep _ _ (s6.keep _ _ e45 fun h => h) ne
    simp only [get_at e7, List.getElem?_cons_zero, ldI_mk]
    have := kk H7 cd ((s05.and s6).own s7 fun b' hb' => hb' ▸ fb) ho
    rwa [if_neg hc] at this
end
end Go.Mz
