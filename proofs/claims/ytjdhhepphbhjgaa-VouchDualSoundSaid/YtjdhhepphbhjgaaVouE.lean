/-
  Walks of layer 12, more: Heaviest.
-/
import Derived.Test.YtjdhhepphbhjgaaVouD
set_option linter.unusedSimpArgs false
set_option linter.unusedVariables false
namespace Go.Mz
section
variable {E : Value → Hp → Prop}

/-- the sum of the first numbers -/
def psum (f : Nat → Int) : Nat → Int
  | 0 => 0
  | i + 1 => psum f i + f i

theorem psum_bound {f : Nat → Int} {a b : Int} : ∀ {i : Nat}, (∀ v, v < i → a ≤ f v ∧ f v ≤ b) → a * (i : Int) ≤ psum f i ∧ psum f i ≤ b * (i : Int) := by
  intro i
  induction i with
  | zero => intro _; simp [psum]
  | succ i ih =>
    intro h
    have h1 := ih fun v hv => h v (by omega)
    have h2 := h i (by omega)
    show _ ≤ psum f i + f i ∧ psum f i + f i ≤ _
    have e1 : a * ((i + 1 : Nat) : Int) = a * (i : Int) + a := by rw [Int.natCast_add, Int.mul_add]; simp
    have e2 : b * ((i + 1 : Nat) : Int) = b * (i : Int) + b := by rw [Int.natCast_add, Int.mul_add]; simp
    rw [e1, e2]
    omega

structure HvyP (N : Int) (n : Nat) (e : Nat → Edg) (m : Nat → Int) (k : Nat) (pot : Nat → Int) (q : Nat) : Prop where
  tk : Tkn N n e m k fun _ => 1
  len : (q : Int) = N
  bnd : ∀ v, v < q → 0 ≤ pot v ∧ pot v ≤ 4398046511104
  ed : ∀ i, i < n → lp (e i) ∨ (e i).co ≤ pot (e i).fr.toNat + pot (e i).to.toNat
  sum : psum pot q = cst e m k

theorem vheaviest1 {N : Int} {ep : Option Addr} {n ec : Nat} {e : Nat → Edg} {p : Option Addr} {k c : Nat} {m : Nat → Int} {vp : Option Addr} {q vc : Nat} {pot : Nat → Int} {c0 c1 c2 c3 : Nat} {H : Hp} {K : Hp → Prop}
    (h0 : H c0 = some ⟨[.int .i64 N, .slice ep n ec], 24⟩) (h1 : H c1 = some ⟨[.slice p k c], 25⟩) (h2 : H c2 = some ⟨[.slice vp q vc], 35⟩) (h3 : H c3 = some ⟨[.int .i64 0], 2⟩)
    (he : Rdr H ep n e) (hn : n < 2 ^ 63) (hm : Rdr H p k m) (hk : k < 2 ^ 63) (hv : Rdr H vp q pot) (hq : q < 2 ^ 63)
    (kk : ∀ H', Step (· = c3) H H' → H' c3 = some ⟨[.int .i64 (cst e m k)], 2⟩ → Right N n e → HvyP N n e m k pot q → K H')
    (bad : ∀ H' c, Step (fun _ => False) H H' → c ≠ 0 → Out N n e (HvyP N n e m k pot q) c → E (pv c) H') : vouch_Heaviest_1.call c0 0 c1 0 c2 0 c3 0 E H K := by
  refine vouch_Heaviest_1.of (vouch_Heaviest_1.run_eq ?_)
  unfold vouch_Heaviest_1.run_t
  simp only [get_at h0, List.getElem?_cons_zero, List.getElem?_cons_succ, ldI_mk, ldS_mk, Nat.zero_add]
  refine vright he hn (fun H1 s1 hr => ?_) fun H1 s1 hc => bad _ _ s1 hc (.inr (.inl ⟨rfl, hc⟩))
  have h01 := s1.keep _ _ h0 fun h => h
  have h11 := s1.keep _ _ h1 fun h => h
  simp only [get_at h01, get_at h11, List.getElem?_cons_zero, List.getElem?_cons_succ, ldI_mk, ldS_mk]
  have hno : ∀ H', Step (fun _ => False) H H' → ¬ HvyP N n e m k pot q → E (pv 221) H' := fun H' s h => bad _ _ s (by decide) (.inr (.inr ⟨rfl, hr, h⟩))
  refine vmatched (he.keep s1 fun _ _ _ h => h) hr (hm.keep s1 fun _ _ _ h => h) hk fun1_one (fun H2 s2 ht => ?_) fun H2 s2 ht => hno _ (s1.and s2) fun h => ht h.tk
  have s02 := s1.and s2
  have h02 := s02.keep _ _ h0 fun h => h
  have h22 := s02.keep _ _ h2 fun h => h
  simp only [get_at h02, get_at h22, List.getElem?_cons_zero, List.getElem?_cons_succ, ldI_mk, ldS_mk]
  have hN0 := hr.N0; have hN1 := hr.N1; have hn1 := hr.n1
  refine vneedD (fun hqN => ?_) fun h => hno _ s02 fun hh => h hh.len
  simp only [get_at h22, List.getElem?_cons_zero, List.getElem?_cons_succ, ldI_mk, ldS_mk]
  refine vouch_Heaviest_1.l1_rule (fun t0b t0o t1b t1o t2b t2o t3b t3o sm tp tn tc t21 t22 H' => c0 = t0b ∧ t0o = 0 ∧ c1 = t1b ∧ t1o = 0 ∧ c2 = t2b ∧ t2o = 0 ∧ c3 = t3b ∧ t3o = 0 ∧ vp = tp ∧ q = tn ∧ t21 = q ∧ H2 = H' ∧
      ∃ i : Nat, t22 = i ∧ i ≤ q ∧ sm = psum pot i ∧ ∀ v, v < i → 0 ≤ pot v ∧ pot v ≤ 4398046511104)
    (fun t0b t0o t1b t1o t2b t2o t3b t3o sm tp tn tc t21 t22 H' => q - t22.toNat) ?_ ⟨rfl, rfl, rfl, rfl, rfl, rfl, rfl, rfl, rfl, rfl, rfl, rfl, 0, rfl, by omega, rfl, fun v hv => by omega⟩
  rintro t0b t0o t1b t1o t2b t2o t3b t3o sm tp tn tc t21 t22 H' ⟨rfl, rfl, rfl, rfl, rfl, rfl, rfl, rfl, rfl, rfl, rfl, rfl, i, rfl, hi, rfl, hb⟩ X hX
  refine vouch_Heaviest_1.b1_eq ?_
  unfold vouch_Heaviest_1.b1_t
  have hv2 := hv.keep s02 fun _ _ _ h => h
  refine bc (fun hlt => ?_) fun hge => ?_
  · refine hv2.ixI (by omega) (by omega) ?_
    simp only [Int.toNat_natCast]
    refine bc (fun g1 => ?_) fun g1 => vneed (fun h => by cases h) fun _ => hno _ s02 fun hh => g1 (hh.bnd i (by omega)).1
    refine vneedD (fun g2 => ?_) fun g2 => hno _ s02 fun hh => g2 (hh.bnd i (by omega)).2
    refine vouch_Heaviest_1.j1_eq ?_
    unfold vouch_Heaviest_1.j1_t
    have hp := psum_bound hb
    rw [i64w (n := psum pot i + pot i) (by omega) (by omega), i64w (by omega) (by omega)]
    refine hX _ _ _ _ _ _ _ _ _ _ _ _ _ _ _ ⟨rfl, rfl, rfl, rfl, rfl, rfl, rfl, rfl, rfl, rfl, rfl, rfl, i + 1, by omega, by omega, rfl, fun v hv => ?_⟩ (by omega)
    by_cases ev : v = i
    · subst ev; exact ⟨g1, g2⟩
    · exact hb v (by omega)
  have : i = q := by omega
  subst this
  clear hX
  refine vouch_Heaviest_1.j2_eq ?_
  unfold vouch_Heaviest_1.j2_t
  simp only [get_at h02, List.getElem?_cons_zero, List.getElem?_cons_succ, ldI_mk, ldS_mk, Nat.zero_add]
  refine vouch_Heaviest_1.l2_rule (fun t0b t0o t1b t1o t2b t2o t3b t3o sm tp tn tc t39 t40 H' => c0 = t0b ∧ t0o = 0 ∧ c1 = t1b ∧ t1o = 0 ∧ c2 = t2b ∧ t2o = 0 ∧ c3 = t3b ∧ t3o = 0 ∧ sm = psum pot i ∧ ep = tp ∧ n = tn ∧ t39 = n ∧
      ∃ j : Nat, t40 = j ∧ j ≤ n ∧ Step (fun _ => False) H H' ∧ ∀ a, a < j → lp (e a) ∨ (e a).co ≤ pot (e a).fr.toNat + pot (e a).to.toNat)
    (fun t0b t0o t1b t1o t2b t2o t3b t3o sm tp tn tc t39 t40 H' => n - t40.toNat) ?_ ⟨rfl, rfl, rfl, rfl, rfl, rfl, rfl, rfl, rfl, rfl, rfl, rfl, 0, rfl, by omega, s02, fun a ha => by omega⟩
  rintro t0b t0o t1b t1o t2b t2o t3b t3o sm tp tn tc t39 t40 H3 ⟨rfl, rfl, rfl, rfl, rfl, rfl, rfl, rfl, rfl, rfl, rfl, rfl, j, rfl, hj, s3, hed⟩ Y hY
  refine vouch_Heaviest_1.b2_eq ?_
  unfold vouch_Heaviest_1.b2_t
  refine bc (fun hlt => ?_) fun hge => ?_
  · refine (he.keep s3 fun _ _ _ h => h).edge (by omega) (by omega) ?_
    simp only [Int.toNat_natCast]
    refine nwst rfl rfl fun b5 H5 hb5 e5 s5 => ?_
    simp only [get_at e5, List.getElem?_cons_zero, List.getElem?_cons_succ, ldI_mk]
    refine vloop fun H6 s6 => ?_
    have s06 := s3.and (s5.and s6)
    have e6 := s6.keep _ _ e5 fun h => h
    have h26 := s06.keep _ _ h2 fun h => h
    have hv6 := hv.keep s06 fun _ _ _ h => h
    have hx := hr.ed j (by omega)
    have hf0 := hx.f0; have hf1 := hx.f1; have ht0 := hx.t0; have ht1 := hx.t1
    have next : (lp (e j) ∨ (e j).co ≤ pot (e j).fr.toNat + pot (e j).to.toNat) → vouch_Heaviest_1.j3 c0 0 c1 0 c2 0 c3 0 (psum pot i) ep n tc (n : Int) (j : Int) Y E H6 K := fun h => by
      refine vouch_Heaviest_1.j3_eq ?_
      unfold vouch_Heaviest_1.j3_t
      rw [i64w (by omega) (by omega)]
      refine hY _ _ _ _ _ _ _ _ _ _ _ _ _ _ _ ⟨rfl, rfl, rfl, rfl, rfl, rfl, rfl, rfl, rfl, rfl, rfl, rfl, j + 1, by omega, by omega, s06, fun a ha => ?_⟩ (by omega)
      by_cases ea : a = j
      · subst ea; exact h
      · exact hed a (by omega)
    simp only [get_at e6, get_at h26, List.getElem?_cons_zero, List.getElem?_cons_succ, ldI_mk, ldS_mk]
    refine bc (fun hl => vneed (fun _ => next (.inl hl)) fun h => by cases h) fun hl => ?_
    refine hv6.ixI (by omega) (by omega) ?_
    refine hv6.ixI (by omega) (by omega) ?_
    have b1 := hb (e j).fr.toNat (by omega)
    have b2 := hb (e j).to.toNat (by omega)
    rw [i64w (by omega) (by omega)]
    refine vneedD (fun h => next (.inr h)) fun h => hno _ s06 fun hh => ?_
    rcases hh.ed j (by omega) with h' | h'
    · exact hl h'
    · exact h h'
  · have : j = n := by omega
    subst this
    refine vouch_Heaviest_1.j4_eq ?_
    unfold vouch_Heaviest_1.j4_t
    have h03 := s3.keep _ _ h0 fun h => h
    have h13 := s3.keep _ _ h1 fun h => h
    simp only [get_at h03, get_at h13, List.getElem?_cons_zero, List.getElem?_cons_succ, ldI_mk, ldS_mk, Nat.zero_add]
    refine vcost (he.keep s3 fun _ _ _ h => h) hr (hm.keep s3 fun _ _ _ h => h) ht.ris fun H4 s4 => ?_
    have s04 := s3.and s4
    refine vneedD (fun hs => ?_) fun h => hno _ s04 fun hh => h hh.sum
    have h34 := s04.keep _ _ h3 fun h => h
    refine stk h34 rfl rfl fun H5 e5 s5 => ?_
    rw [hs] at e5
    exact kk _ ((s04.weak fun _ h => h.elim).trans s5 fun _ h => .inl h) e5 hr ⟨ht, hqN, hb, hed, hs⟩

theorem vHeaviest {N : Int} {ep : Option Addr} {n ec : Nat} {e : Nat → Edg} {p : Option Addr} {k c : Nat} {m : Nat → Int} {vp : Option Addr} {q vc : Nat} {pot : Nat → Int} {H : Hp} {K : Int → Int → Hp → Prop}
    (he : Rdr H ep n e) (hn : n < 2 ^ 63) (hm : Rdr H p k m) (hk : k < 2 ^ 63) (hv : Rdr H vp q pot) (hq : q < 2 ^ 63)
    (kk : ∀ H' c, Step (fun _ => False) H H' → Out N n e (HvyP N n e m k pot q) c → K (if c = 0 then cst e m k else 0) c H') : vouch_Heaviest.call N ep n ec p k c vp q vc E H K := by
  refine vouch_Heaviest.of (vouch_Heaviest.run_eq ?_)
  unfold vouch_Heaviest.run_t
  refine nwk fun b1 H1 hb1 e1 s1 => ?_
  refine nwk fun b2 H2 hb2 e2 s2 => ?_
  refine nwk fun b3 H3 hb3 e3 s3 => ?_
  refine nwst rfl rfl fun b4 H4 hb4 e4 s4 => ?_
  have s04 := ((s1.and s2).and s3).and s4
  refine vlook rfl fun b H5 hb e5 s5 => ?_
  have s05 := s04.and s5
  have e1 := (((s2.and s3).and s4).and s5).keep _ _ e1 fun h => h
  have e2 := ((s3.and s4).and s5).keep _ _ e2 fun h => h
  have e3 := (s4.and s5).keep _ _ e3 fun h => h
  have e45 := s5.keep _ _ e4 fun h => h
  have fb : H b = none := s04.mono _ hb
  have f4 : H b4 = none := ((s1.and s2).and s3).mono _ hb4
  have ne : b4 ≠ b := ne_of_live hb (by rw [e4]; exact fun h => by cases h)
  refine callW_mono (fun v H' h => ldR_spec h) (fun _ _ h => h) (vheaviest1 (K := fun H2 => H2 b = some ⟨[.int .i64 0], 27⟩ ∧ ∀ H3, Step (· = b) H2 H3 → ldI .i64 (H3.get b4 0) fun x => K x 0 H3) e1 e2 e3 e45 (he.keep s05 fun _ _ _ h => h) hn (hm.keep s05 fun _ _ _ h => h) hk (hv.keep s05 fun _ _ _ h => h) hq (fun H6 s6 e6 hr hP => ?_) fun H6 cd s6 hc ho => ?_)
  · refine ⟨s6.keep _ _ e5 fun h => ne h.symm, fun H7 s7 => ?_⟩
    have e7 := s7.keep _ _ e6 ne
    simp only [get_at e7, List.getElem?_cons_zero, ldI_mk]
    have := kk H7 0 ((s05.own s6 fun b' hb' => hb' ▸ f4).own s7 fun b' hb' => hb' ▸ fb) (.inl ⟨rfl, hr, hP⟩)
    rwa [if_pos rfl] at this
  · refine ⟨cd, rfl, s6.keep _ _ e5 fun h => h, fun H7 s7 => ?_⟩
    have e7 := s7.keep _ _ (s6.keep _ _ e45 fun h => h) ne
    simp only [get_at e7, List.getElem?_cons_zero, ldI_mk]
    have := kk H7 cd ((s05.and s6).own s7 fun b' hb' => hb' ▸ fb) ho
    rwa [if_neg hc] at this
end
end Go.Mz
