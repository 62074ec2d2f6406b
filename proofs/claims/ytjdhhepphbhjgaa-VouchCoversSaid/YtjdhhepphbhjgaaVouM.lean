/-
  Walks of layer 12, more: Doubled.
-/
import Derived.Test.YtjdhhepphbhjgaaVouL
set_option linter.unusedSimpArgs false
set_option linter.unusedVariables false
namespace Go.Mz
section
variable {E : Value → Hp → Prop}

/-- no edge costs less than nothing -/
def Pos (n : Nat) (e : Nat → Edg) : Prop := ∀ i, i < n → 0 ≤ (e i).co

/-- the edges that are walked twice, one after the other -/
def sub (e : Nat → Edg) (tw : Nat → Int) : Nat → Edg := fun i => e (tw i).toNat

structure DblP (N : Int) (n : Nat) (e : Nat → Edg) (tw : Nat → Int) (k : Nat) (dn : Nat) (dl : Nat → Sl) (row : Nat → Nat → Int) (Y : Nat → Int) (yn : Nat) (z : Nat → Int) (ln : Nat → Nat) (nd : Nat → Nat → Int) (sn : Nat) : Prop where
  ris : Ris tw k n
  even : odds (sub e tw) k N.toNat = odds e n N.toNat
  dlen : dn = (odds e n N.toNat).length
  near : ∀ i, i < (odds e n N.toNat).length → Nr N n e (row i) (dl i).n (lsF (odds e n N.toNat) i)
  wt : Wt (odds e n N.toNat).length Y yn z ln nd sn
  pr : ∀ i, i < (odds e n N.toNat).length → ∀ j, j < i → prW Y z ln nd sn j i ≤ 2 * row j (lsF (odds e n N.toNat) i).toNat
  sum : wsum Y yn z ln sn = 2 * cst e tw k

def DblO (N : Int) (n : Nat) (e : Nat → Edg) (tw : Nat → Int) (k : Nat) (dn : Nat) (dl : Nat → Sl) (row : Nat → Nat → Int) (Y : Nat → Int) (yn : Nat) (z : Nat → Int) (ln : Nat → Nat) (nd : Nat → Nat → Int) (sn : Nat) (c : Int) : Prop :=
  (c = 0 ∧ Right N n e ∧ Pos n e ∧ DblP N n e tw k dn dl row Y yn z ln nd sn) ∨ (c = chk N n e ∧ c ≠ 0) ∨ (c = 80 ∧ Right N n e ∧ ¬ Pos n e) ∨ (c = 221 ∧ Right N n e ∧ Pos n e ∧ ¬ DblP N n e tw k dn dl row Y yn z ln nd sn)

/-- what all edges cost -/
def allc (e : Nat → Edg) (n : Nat) : Int := cst e (fun i => (i : Int)) n

theorem sub_right {N : Int} {n : Nat} {e : Nat → Edg} {tw : Nat → Int} {k : Nat} (hr : Right N n e) (h : Ris tw k n) : Right N k (sub e tw) := by
  have := h.len; have := hr.n1
  refine ⟨hr.N0, hr.N1, by omega, fun i hi => ?_⟩
  have := h i hi
  exact hr.ed _ (by omega)

theorem odds_mem {e : Nat → Edg} {n N i : Nat} (hi : i < (odds e n N).length) : 0 ≤ lsF (odds e n N) i ∧ lsF (odds e n N) i < N := by
  unfold lsF
  rw [List.getElem?_eq_getElem hi]
  have hm := List.getElem_mem hi
  unfold odds at hm
  rw [List.mem_filter, List.mem_range] at hm
  simp only [Option.getD_some]
  exact ⟨by omega, by exact_mod_cast hm.1⟩

theorem odds_len {e : Nat → Edg} {n N : Nat} : (odds e n N).length ≤ N := by
  unfold odds; exact Nat.le_trans (List.length_filter_le _ _) (by simp)

/-- a metric as it lies in memory, read only -/
structure DistR (H : Hp) (dp : Option Addr) (dn : Nat) (dl : Nat → Sl) (row : Nat → Nat → Int) : Prop where
  d : Rdr H dp dn dl
  r : ∀ i, i < dn → Rdr H (dl i).p (dl i).n (row i) ∧ (dl i).n < 2 ^ 63

theorem DistR.keep {H H' : Hp} {dp : Option Addr} {dn : Nat} {dl : Nat → Sl} {row : Nat → Nat → Int} (h : DistR H dp dn dl row) (s : Step (fun _ => False) H H') : DistR H' dp dn dl row :=
  ⟨h.d.keep s fun _ _ _ h => h, fun i hi => ⟨(h.r i hi).1.keep s fun _ _ _ h => h, (h.r i hi).2⟩⟩

theorem lsF_ext {l r : List Nat} (hl : l.length = r.length) (h : ∀ i, i < l.length → lsF l i = lsF r i) : l = r := by
  refine List.ext_getElem hl fun i h1 h2 => ?_
  have := h i h1
  unfold lsF at this
  rw [List.getElem?_eq_getElem h1, List.getElem?_eq_getElem h2] at this
  simp at this; omega

/-- the rounds that add what all edges cost -/
theorem vdbl6 {N : Int} {ep : Option Addr} {n ec : Nat} {e : Nat → Edg} {c3 : Nat} {x : Int} {H : Hp} {K : Hp → Prop} (he : Rdr H ep n e) (hr : Right N n e) (hep : 0 < n → ∀ y, fpS ep y → y ≠ c3) (h3 : H c3 = some ⟨[.int .i64 x], 2⟩) (hx : -8589934592 ≤ x ∧ x ≤ 8589934592)
    (kk : ∀ H', Step (· = c3) H H' → H' c3 = some ⟨[.int .i64 (x + allc e n)], 2⟩ → K H') : vouch_Doubled_1.l6 c3 0 ep n ec (n : Int) 0 E H K := by
  have hn1 := hr.n1
  refine vouch_Doubled_1.l6_rule (fun t3b t3o tp tn tc t148 t149 H' => c3 = t3b ∧ t3o = 0 ∧ ep = tp ∧ n = tn ∧ t148 = n ∧ ∃ i : Nat, t149 = i ∧ i ≤ n ∧ Step (· = c3) H H' ∧ H' c3 = some ⟨[.int .i64 (x + allc e i)], 2⟩)
    (fun t3b t3o tp tn tc t148 t149 H' => n - t149.toNat) ?_ ⟨rfl, rfl, rfl, rfl, rfl, 0, rfl, by omega, .refl, by simpa [allc, cst] using h3⟩
  rintro t3b t3o tp tn tc t148 t149 H1 ⟨rfl, rfl, rfl, rfl, rfl, i, rfl, hi, s1, e1⟩ X hX
  refine vouch_Doubled_1.b6_eq ?_
  unfold vouch_Doubled_1.b6_t
  refine bc (fun hlt => ?_) fun hge => ?_
  · refine (he.keep s1 fun y hy _ => hep (by omega) y hy).edge (by omega) (by omega) ?_
    simp only [Int.toNat_natCast]
    refine nwst rfl rfl fun b4 H4 hb4 e4 s4 => ?_
    have e14 := s4.keep _ _ e1 fun h => h
    simp only [get_at e4, get_at e14, List.getElem?_cons_zero, List.getElem?_cons_succ, ldI_mk]
    have hx' := hr.ed i (by omega)
    have hk0 := hx'.k0; have hk1 := hx'.k1
    have hri : ∀ j, j ≤ n → Ris (fun i => (i : Int)) j n := fun j hj a ha => ⟨by show (0 : Int) ≤ (a : Int); omega, by show (a : Int) < (n : Int); omega, fun h => by show ((a - 1 : Nat) : Int) < (a : Int); omega⟩
    have hb := cst_bound hr (hri i hi)
    have ha : allc e i = cst e (fun i => (i : Int)) i := rfl
    have hs : allc e (i + 1) = allc e i + (e i).co := by
      show cst e (fun i => (i : Int)) i + (e ((i : Int)).toNat).co = _
      rw [Int.toNat_natCast]; rfl
    rw [i64w (n := x + allc e i + (e i).co) (by omega) (by omega)]
    refine stk e14 rfl rfl fun H5 e5 s5 => ?_
    rw [i64w (by omega) (by omega)]
    exact hX _ _ _ _ _ _ _ _ ⟨rfl, rfl, rfl, rfl, rfl, i + 1, by omega, by omega, (s1.and s4).trans s5 fun _ h => .inl h, by rw [e5, hs]; simp [Int.add_assoc]⟩ (by omega)
  · have : i = n := by omega
    subst this
    exact kk _ s1 e1

theorem vdbl3 {N : Int} {ep : Option Addr} {n ec : Nat} {e : Nat → Edg} {p : Option Addr} {k c : Nat} {tw : Nat → Int} {dp : Option Addr} {dn dc : Nat} {dl : Nat → Sl} {row : Nat → Nat → Int} {yp : Option Addr} {yn yc : Nat} {sp : Option Addr} {sn sc : Nat} {Y : Nat → Int} {z : Nat → Int} {sl : Nat → Sl} {nd : Nat → Nat → Int} {c0 c1 c2 c3 : Nat} {H H1 : Hp} {K : Hp → Prop} {op qp : Option Addr} {oc qc : Nat}
    (h0 : H c0 = some ⟨[.int .i64 N, .slice ep n ec], 24⟩) (h1 : H c1 = some ⟨[.slice p k c], 25⟩) (h2 : H c2 = some ⟨[.slice dp dn dc, .slice yp yn yc, .slice sp sn sc], 60⟩) (h3 : H c3 = some ⟨[.int .i64 0], 2⟩)
    (he : Rdr H ep n e) (hr : Right N n e) (hm : Rdr H p k tw) (hris : Ris tw k n) (hd : DistR H dp dn dl row) (hu : DualR H yp yn sp sn Y z sl nd) (hyn : yn < 2 ^ 63) (hsn : sn < 2 ^ 63) (hep : 0 < n → ∀ y, fpS ep y → y ≠ c3)
    (s1 : Step (fun _ => False) H H1) (ro : Rdr H1 op (odds e n N.toNat).length (lsF (odds e n N.toNat))) (rq : Rdr H1 qp (odds (sub e tw) k N.toNat).length (lsF (odds (sub e tw) k N.toNat)))
    (hl : (odds (sub e tw) k N.toNat).length = (odds e n N.toNat).length) (hdl : dn = (odds e n N.toNat).length) (hPos : Pos n e)
    (kk : ∀ H', Step (· = c3) H H' → H' c3 = some ⟨[.int .i64 (cst e tw k + allc e n)], 2⟩ → DblO N n e tw k dn dl row Y yn z (fun i => (sl i).n) nd sn 0 → K H')
    (hno : ∀ H', Step (fun _ => False) H H' → ¬ DblP N n e tw k dn dl row Y yn z (fun i => (sl i).n) nd sn → E (pv 221) H') :
    vouch_Doubled_1.j3 c0 0 c1 0 c2 0 c3 0 op (odds e n N.toNat).length oc qp (odds (sub e tw) k N.toNat).length qc E H1 K := by
  have hN0 := hr.N0; have hN1 := hr.N1; have hn1 := hr.n1
  have hol := odds_len (e := e) (n := n) (N := N.toNat)
  generalize hO : odds e n N.toNat = O at *
  generalize hQ : odds (sub e tw) k N.toNat = Q at *
  have hOm : ∀ i, i < O.length → 0 ≤ lsF O i ∧ lsF O i < N := fun i hi => by
    have := odds_mem (e := e) (n := n) (N := N.toNat) (i := i) (by rw [hO]; exact hi)
    rw [hO] at this
    omega
  refine vouch_Doubled_1.j3_eq ?_
  unfold vouch_Doubled_1.j3_t
  refine vouch_Doubled_1.l3_rule (fun t0b t0o t1b t1o t2b t2o t3b t3o op' on oc' qp' qn qc' tp tn tc t78 t79 H' => c0 = t0b ∧ t0o = 0 ∧ c1 = t1b ∧ t1o = 0 ∧ c2 = t2b ∧ t2o = 0 ∧ c3 = t3b ∧ t3o = 0 ∧ op = op' ∧ on = O.length ∧ oc = oc' ∧ qp = qp' ∧ qn = Q.length ∧ op = tp ∧ tn = O.length ∧ t78 = O.length ∧
      ∃ i : Nat, t79 = i ∧ i ≤ O.length ∧ Step (fun _ => False) H1 H' ∧ ∀ a, a < i → lsF Q a = lsF O a ∧ Nr N n e (row a) (dl a).n (lsF O a))
    (fun t0b t0o t1b t1o t2b t2o t3b t3o op' on oc' qp' qn qc' tp tn tc t78 t79 H' => O.length - t79.toNat) ?_ ⟨rfl, rfl, rfl, rfl, rfl, rfl, rfl, rfl, rfl, rfl, rfl, rfl, rfl, rfl, rfl, rfl, 0, rfl, by omega, .refl, fun a ha => by omega⟩
  rintro t0b t0o t1b t1o t2b t2o t3b t3o op' on oc' qp' qn qc' tp tn tc t78 t79 H2 ⟨rfl, rfl, rfl, rfl, rfl, rfl, rfl, rfl, rfl, rfl, rfl, rfl, rfl, rfl, rfl, rfl, i, rfl, hi, s2, hnr⟩ X hX
  have s02 := s1.and s2
  refine vouch_Doubled_1.b3_eq ?_
  unfold vouch_Doubled_1.b3_t
  refine bc (fun hlt => ?_) fun hge => ?_
  · refine (ro.keep s2 fun _ _ _ h => h).ixI (by omega) (by omega) ?_
    refine (rq.keep s2 fun _ _ _ h => h).ixI (by omega) (by omega) ?_
    simp only [Int.toNat_natCast]
    refine vneedD (fun g1 => ?_) fun g1 => hno _ s02 fun hh => g1 (by
      have := hh.even
      rw [hQ, hO] at this
      rw [this])
    have h02 := s02.keep _ _ h0 fun h => h
    have h22 := s02.keep _ _ h2 fun h => h
    simp only [get_at h02, get_at h22, List.getElem?_cons_zero, List.getElem?_cons_succ, ldI_mk, ldS_mk, Nat.zero_add]
    have hd2 := hd.keep s02
    refine hd2.d.ixS (by omega) (by omega) ?_
    simp only [Int.toNat_natCast]
    obtain ⟨hrow, hrl⟩ := hd2.r i (by omega)
    have hoi := hOm i (by omega)
    refine vnear (he.keep s02 fun _ _ _ h => h) hr hrow hrl hoi.1 hoi.2 (fun H3 s3 hN => ?_) fun H3 s3 h => hno _ (s02.and s3) fun hh => h (by
      have := hh.near i (by rw [hO]; omega)
      rwa [hO] at this)
    rw [i64w (by omega) (by omega)]
    refine hX _ _ _ _ _ _ _ _ _ _ _ _ _ _ _ _ _ _ _ _ ⟨rfl, rfl, rfl, rfl, rfl, rfl, rfl, rfl, rfl, rfl, rfl, rfl, rfl, rfl, rfl, rfl, i + 1, by omega, by omega, s2.and s3, fun a ha => ?_⟩ (by omega)
    by_cases ea : a = i
    · subst ea; exact ⟨g1, hN⟩
    · exact hnr a (by omega)
  have : i = O.length := by omega
  subst this
  clear hX
  have hQO : Q = O := lsF_ext hl fun a ha => (hnr a (by omega)).1
  refine vouch_Doubled_1.j4_eq ?_
  unfold vouch_Doubled_1.j4_t
  have h22 := s02.keep _ _ h2 fun h => h
  simp only [get_at h22, List.getElem?_cons_zero, List.getElem?_cons_succ, ldI_mk, ldS_mk, Nat.zero_add]
  refine vweigh (hu.keep s02) hyn hsn (by omega) (by omega) (fun H3 g gk s3 hw hf => ?_) fun H3 s3 h => hno _ (s02.and s3) fun hh => h (by
    have := hh.wt; rwa [hO] at this)
  have s03 := s02.and s3
  have s13 := s2.and s3
  refine vouch_Doubled_1.l4_rule (fun t0b t0o t1b t1o t2b t2o t3b t3o op' on oc' sm pg pk t109 t110 H' => c0 = t0b ∧ t0o = 0 ∧ c1 = t1b ∧ t1o = 0 ∧ c2 = t2b ∧ t2o = 0 ∧ c3 = t3b ∧ t3o = 0 ∧ op = op' ∧ on = O.length ∧ oc = oc' ∧ sm = wsum Y yn z (fun i => (sl i).n) sn ∧ g = pg ∧ gk = pk ∧ t109 = O.length ∧
      ∃ i : Nat, t110 = i ∧ i ≤ O.length ∧ Step (fun _ => False) H3 H' ∧ ∀ a, a < i → ∀ j, j < a → prW Y z (fun i => (sl i).n) nd sn j a ≤ 2 * row j (lsF O a).toNat)
    (fun t0b t0o t1b t1o t2b t2o t3b t3o op' on oc' sm pg pk t109 t110 H' => O.length - t110.toNat) ?_ ⟨rfl, rfl, rfl, rfl, rfl, rfl, rfl, rfl, rfl, rfl, rfl, rfl, rfl, rfl, rfl, 0, rfl, by omega, .refl, fun a ha => by omega⟩
  rintro t0b t0o t1b t1o t2b t2o t3b t3o op' on oc' sm pg pk t109 t110 H4 ⟨rfl, rfl, rfl, rfl, rfl, rfl, rfl, rfl, rfl, rfl, rfl, rfl, rfl, rfl, rfl, i, rfl, hi, s4, hpr⟩ X hX
  refine vouch_Doubled_1.b4_eq ?_
  unfold vouch_Doubled_1.b4_t
  refine bc (fun hlt => ?_) fun hge => ?_
  · refine vouch_Doubled_1.l5_rule (fun t0b t0o t1b t1o t2b t2o t3b t3o op' on oc' sm pg pk i15 t109 t110 t113 t114 H' => c0 = t0b ∧ t0o = 0 ∧ c1 = t1b ∧ t1o = 0 ∧ c2 = t2b ∧ t2o = 0 ∧ c3 = t3b ∧ t3o = 0 ∧ op = op' ∧ on = O.length ∧ oc = oc' ∧ sm = wsum Y yn z (fun i => (sl i).n) sn ∧ g = pg ∧ gk = pk ∧ i15 = i ∧ t109 = O.length ∧ t110 = i ∧ t113 = i ∧
        ∃ j : Nat, t114 = j ∧ j ≤ i ∧ Step (fun _ => False) H3 H' ∧ ∀ b, b < j → prW Y z (fun i => (sl i).n) nd sn b i ≤ 2 * row b (lsF O i).toNat)
      (fun t0b t0o t1b t1o t2b t2o t3b t3o op' on oc' sm pg pk i15 t109 t110 t113 t114 H' => i - t114.toNat) ?_ ⟨rfl, rfl, rfl, rfl, rfl, rfl, rfl, rfl, rfl, rfl, rfl, rfl, rfl, rfl, rfl, rfl, rfl, rfl, 0, rfl, by omega, s4, fun b hb => by omega⟩
    rintro t0b t0o t1b t1o t2b t2o t3b t3o op' on oc' sm pg pk i15 t109 t110 t113 t114 H5 ⟨rfl, rfl, rfl, rfl, rfl, rfl, rfl, rfl, rfl, rfl, rfl, rfl, rfl, rfl, rfl, rfl, rfl, rfl, j, rfl, hj, s5, hprj⟩ Z hZ
    have s05 := s03.and s5
    refine vouch_Doubled_1.b5_eq ?_
    unfold vouch_Doubled_1.b5_t
    refine bc (fun hlt2 => ?_) fun hge2 => ?_
    · have h25 := s05.keep _ _ h2 fun h => h
      simp only [get_at h25, List.getElem?_cons_zero, List.getElem?_cons_succ, ldI_mk, ldS_mk, Nat.zero_add]
      have hd5 := hd.keep s05
      have ro5 := ro.keep (s13.and s5) fun _ _ _ h => h
      have hoi := hOm i (by omega)
      obtain ⟨hrow, hrl⟩ := hd5.r j (by omega)
      have hNj := (hnr j (by omega)).2
      refine hd5.d.ix (α := Sl) (by omega) (by omega) fun b1 o1 _ hg1 => ?_
      have g1 := hg1 0 (by decide)
      simp only [El.enc, Nat.add_zero, List.getElem?_cons_zero, Int.toNat_natCast] at g1
      rw [g1]
      simp only [ldS_mk]
      refine ro5.ix (α := Int) (by omega) (by omega) fun b2 o2 _ hg2 => ?_
      have g2 := hg2 0 (by decide)
      simp only [El.enc, Nat.add_zero, List.getElem?_cons_zero, Int.toNat_natCast] at g2
      rw [g2]
      simp only [ldI_mk]
      refine hrow.ix (α := Int) hoi.1 (by have := hNj.len; omega) fun b3 o3 _ hg3 => ?_
      have g3 := hg3 0 (by decide)
      simp only [El.enc, Nat.add_zero, List.getElem?_cons_zero, Int.toNat_natCast] at g3
      rw [g3]
      simp only [ldI_mk]
      refine ⟨hf.1, hf.2 _ _ H5 _ (by omega) (by omega) (by omega) (by omega) s5 fun H6 s6 => ldR_int ?_⟩
      have h26 := s6.keep _ _ h25 fun h => h
      simp only [get_at h26, s6.get g1 fun h => h, s6.get g2 fun h => h, s6.get g3 fun h => h, List.getElem?_cons_zero, List.getElem?_cons_succ, ldI_mk, ldS_mk, true_and, Nat.zero_add]
      have hb := hNj.bnd (lsF O i).toNat (by have := hNj.len; omega)
      rw [i64w (n := 2 * row j (lsF O i).toNat) (by omega) (by omega)]
      refine vneedD (fun h => ?_) fun h => hno _ (s05.and s6) fun hh => h (by
        have := hh.pr i (by rw [hO]; omega) j (by omega)
        rwa [hO] at this)
      rw [i64w (by omega) (by omega)]
      refine hZ _ _ _ _ _ _ _ _ _ _ _ _ _ _ _ _ _ _ _ _ ⟨rfl, rfl, rfl, rfl, rfl, rfl, rfl, rfl, rfl, rfl, rfl, rfl, rfl, rfl, rfl, rfl, rfl, rfl, j + 1, by omega, by omega, s5.and s6, fun b hb' => ?_⟩ (by omega)
      by_cases eb : b = j
      · subst eb; exact h
      · exact hprj b (by omega)
    · have : j = i := by omega
      subst this
      refine vouch_Doubled_1.j5_eq ?_
      unfold vouch_Doubled_1.j5_t
      rw [i64w (by omega) (by omega)]
      refine hX _ _ _ _ _ _ _ _ _ _ _ _ _ _ _ _ _ ⟨rfl, rfl, rfl, rfl, rfl, rfl, rfl, rfl, rfl, rfl, rfl, rfl, rfl, rfl, rfl, j + 1, by omega, by omega, s5, fun a ha => ?_⟩ (by omega)
      by_cases ea : a = j
      · subst ea; exact hprj
      · exact hpr a (by omega)
  · have : i = O.length := by omega
    subst this
    clear hX
    have s04 := s03.and s4
    refine vouch_Doubled_1.j6_eq ?_
    unfold vouch_Doubled_1.j6_t
    have h04 := s04.keep _ _ h0 fun h => h
    have h14 := s04.keep _ _ h1 fun h => h
    simp only [get_at h04, get_at h14, List.getElem?_cons_zero, List.getElem?_cons_succ, ldI_mk, ldS_mk, Nat.zero_add]
    refine vcost (he.keep s04 fun _ _ _ h => h) hr (hm.keep s04 fun _ _ _ h => h) hris fun H5 s5 => ?_
    have s05 := s04.and s5
    have hcb := cst_bound hr hris
    have hkl := hris.len
    rw [i64w (n := 2 * cst e tw k) (by omega) (by omega)]
    refine vneedD (fun hs => ?_) fun h => hno _ s05 fun hh => h hh.sum
    have h35 := s05.keep _ _ h3 fun h => h
    have h05 := s05.keep _ _ h0 fun h => h
    refine stk h35 rfl rfl fun H6 e6 s6 => ?_
    have h06 := s6.keep _ _ h05 (fun h => by rw [h, h3] at h0; cases h0)
    simp only [get_at h06, List.getElem?_cons_zero, List.getElem?_cons_succ, ldI_mk, ldS_mk, Nat.zero_add]
    have he6 : Rdr H6 ep n e := by
      by_cases hn : 0 < n
      · exact Rdr.keep (he.keep s05 fun _ _ _ h => h) s6 fun y hy _ h => hep hn y hy h
      · exact fun i hi => by omega
    refine vdbl6 he6 hr hep e6 (by omega) fun H7 s7 e7 => ?_
    · refine kk H7 ((s05.weak fun _ h => h.elim).trans (s6.trans s7 fun _ h => .inl h) fun _ h => .inl h) e7 (.inl ⟨rfl, hr, hPos, ⟨hris, by rw [hQ, hO]; exact hQO, by rw [hO]; exact hdl, fun a ha => ?_, by rw [hO]; exact hw, fun a ha j hj => ?_, hs⟩⟩)
      · rw [hO] at ha ⊢; exact (hnr a ha).2
      · rw [hO] at ha ⊢; exact hpr a ha j hj

theorem vdoubled1 {N : Int} {ep : Option Addr} {n ec : Nat} {e : Nat → Edg} {p : Option Addr} {k c : Nat} {tw : Nat → Int} {dp : Option Addr} {dn dc : Nat} {dl : Nat → Sl} {row : Nat → Nat → Int} {yp : Option Addr} {yn yc : Nat} {sp : Option Addr} {sn sc : Nat} {Y : Nat → Int} {z : Nat → Int} {sl : Nat → Sl} {nd : Nat → Nat → Int} {c0 c1 c2 c3 : Nat} {H : Hp} {K : Hp → Prop}
    (h0 : H c0 = some ⟨[.int .i64 N, .slice ep n ec], 24⟩) (h1 : H c1 = some ⟨[.slice p k c], 25⟩) (h2 : H c2 = some ⟨[.slice dp dn dc, .slice yp yn yc, .slice sp sn sc], 60⟩) (h3 : H c3 = some ⟨[.int .i64 0], 2⟩)
    (he : Rdr H ep n e) (hn : n < 2 ^ 63) (hm : Rdr H p k tw) (hk : k < 2 ^ 63) (hd : DistR H dp dn dl row) (hdn : dn < 2 ^ 63) (hu : DualR H yp yn sp sn Y z sl nd) (hyn : yn < 2 ^ 63) (hsn : sn < 2 ^ 63) (hep : 0 < n → ∀ y, fpS ep y → y ≠ c3)
    (kk : ∀ H', Step (· = c3) H H' → H' c3 = some ⟨[.int .i64 (cst e tw k + allc e n)], 2⟩ → DblO N n e tw k dn dl row Y yn z (fun i => (sl i).n) nd sn 0 → K H')
    (bad : ∀ H' c, Step (fun _ => False) H H' → c ≠ 0 → DblO N n e tw k dn dl row Y yn z (fun i => (sl i).n) nd sn c → E (pv c) H') : vouch_Doubled_1.call c0 0 c1 0 c2 0 c3 0 E H K := by
  refine vouch_Doubled_1.of (vouch_Doubled_1.run_eq ?_)
  unfold vouch_Doubled_1.run_t
  simp only [get_at h0, List.getElem?_cons_zero, List.getElem?_cons_succ, ldI_mk, ldS_mk, Nat.zero_add]
  refine vright he hn (fun H1 s1 hr => ?_) fun H1 s1 hc => bad _ _ s1 hc (.inr (.inl ⟨rfl, hc⟩))
  have hN0 := hr.N0; have hN1 := hr.N1; have hn1 := hr.n1
  have h01 := s1.keep _ _ h0 fun h => h
  simp only [get_at h01, List.getElem?_cons_zero, List.getElem?_cons_succ, ldI_mk, ldS_mk]
  refine vouch_Doubled_1.l1_rule (fun t0b t0o t1b t1o t2b t2o t3b t3o tp tn tc t24 t25 H' => c0 = t0b ∧ t0o = 0 ∧ c1 = t1b ∧ t1o = 0 ∧ c2 = t2b ∧ t2o = 0 ∧ c3 = t3b ∧ t3o = 0 ∧ ep = tp ∧ n = tn ∧ t24 = n ∧
      ∃ i : Nat, t25 = i ∧ i ≤ n ∧ Step (fun _ => False) H H' ∧ ∀ a, a < i → 0 ≤ (e a).co)
    (fun t0b t0o t1b t1o t2b t2o t3b t3o tp tn tc t24 t25 H' => n - t25.toNat) ?_ ⟨rfl, rfl, rfl, rfl, rfl, rfl, rfl, rfl, rfl, rfl, rfl, 0, rfl, by omega, s1, fun a ha => by omega⟩
  clear h01 s1
  rintro t0b t0o t1b t1o t2b t2o t3b t3o tp tn tc t24 t25 H2 ⟨rfl, rfl, rfl, rfl, rfl, rfl, rfl, rfl, rfl, rfl, rfl, i, rfl, hi, s2, hpos⟩ X hX
  refine vouch_Doubled_1.b1_eq ?_
  unfold vouch_Doubled_1.b1_t
  refine bc (fun hlt => ?_) fun hge => ?_
  · refine (he.keep s2 fun _ _ _ h => h).edge (by omega) (by omega) ?_
    simp only [Int.toNat_natCast]
    refine nwst rfl rfl fun b4 H4 hb4 e4 s4 => ?_
    simp only [get_at e4, List.getElem?_cons_zero, List.getElem?_cons_succ, ldI_mk]
    refine vneedD (fun h => ?_) fun h => bad _ _ (s2.and s4) (by decide) (.inr (.inr (.inl ⟨rfl, hr, fun hh => h (hh i (by omega))⟩)))
    rw [i64w (by omega) (by omega)]
    refine hX _ _ _ _ _ _ _ _ _ _ _ _ _ _ ⟨rfl, rfl, rfl, rfl, rfl, rfl, rfl, rfl, rfl, rfl, rfl, i + 1, by omega, by omega, s2.and s4, fun a ha => ?_⟩ (by omega)
    by_cases ea : a = i
    · subst ea; exact h
    · exact hpos a (by omega)
  have : i = n := by omega
  subst this
  clear hX
  have hPos : Pos i e := hpos
  have hno : ∀ H', Step (fun _ => False) H H' → ¬ DblP N i e tw k dn dl row Y yn z (fun i => (sl i).n) nd sn → E (pv 221) H' := fun H' s h => bad _ _ s (by decide) (.inr (.inr (.inr ⟨rfl, hr, hPos, h⟩)))
  refine vouch_Doubled_1.j1_eq ?_
  unfold vouch_Doubled_1.j1_t
  have h02 := s2.keep _ _ h0 fun h => h
  have h12 := s2.keep _ _ h1 fun h => h
  simp only [get_at h02, get_at h12, List.getElem?_cons_zero, List.getElem?_cons_succ, ldI_mk, ldS_mk, Nat.zero_add]
  refine vrising (hm.keep s2 fun _ _ _ h => h) hk (fun hris => ?_) fun h => hno _ s2 fun hh => h hh.ris
  try simp only [get_at h02, get_at h12, List.getElem?_cons_zero, List.getElem?_cons_succ, ldI_mk, ldS_mk, Nat.zero_add]
  refine vuneven (he.keep s2 fun _ _ _ h => h) hr fun op oc H3 s3 ro hon => ?_
  have hkl := hris.len
  have s03 := s2.and s3
  have h03' := s03.keep _ _ h0 fun h => h
  have h13 := s03.keep _ _ h1 fun h => h
  simp only [get_at h03', List.getElem?_cons_zero, List.getElem?_cons_succ, ldI_mk, ldS_mk, Nat.zero_add]
  refine nwst rfl rfl fun bb H4 hbb e4 s4 => ?_
  have s04 := s03.and s4
  have h14 := s04.keep _ _ h1 fun h => h
  simp only [get_at h14, List.getElem?_cons_zero, List.getElem?_cons_succ, ldI_mk, ldS_mk, Nat.zero_add]
  have hol := odds_len (e := e) (n := i) (N := N.toNat)
  have bb0 : H bb = none := s03.mono _ hbb
  have ro4 := ro.rdr.keep s4 fun _ _ _ h => h
  have hsub := sub_right hr hris
  have hopb : ∀ y, fpS op y → y ≠ bb := fun y hy e => ro.live hy (e ▸ hbb)
  refine vouch_Doubled_1.l2_rule (fun t0b t0o t1b t1o t2b t2o t3b t3o op' on oc' bt tp tn tc t45 t46 H' => c0 = t0b ∧ t0o = 0 ∧ c1 = t1b ∧ t1o = 0 ∧ c2 = t2b ∧ t2o = 0 ∧ c3 = t3b ∧ t3o = 0 ∧ op = op' ∧ on = (odds e i N.toNat).length ∧ bb = bt ∧ p = tp ∧ k = tn ∧ t45 = k ∧
      ∃ j : Nat, t46 = j ∧ j ≤ k ∧ Step (fun _ => False) H H' ∧ Row H' op (odds e i N.toNat).length oc (lsF (odds e i N.toNat)) ∧ ∃ qp qc, H' bb = some ⟨[.int .i64 N, .slice qp j qc], 24⟩ ∧ Row H' qp j qc (sub e tw) ∧ ∀ y, fpS qp y → H y = none ∧ y ≠ bb ∧ ¬ fpS op y)
    (fun t0b t0o t1b t1o t2b t2o t3b t3o op' on oc' bt tp tn tc t45 t46 H' => k - t46.toNat) ?_ ⟨rfl, rfl, rfl, rfl, rfl, rfl, rfl, rfl, rfl, rfl, rfl, rfl, rfl, rfl, 0, rfl, by omega, s04, ro.keep s4 fun _ _ h => h, none, 0, e4, .nil, fun y hy => by rw [fpS_none] at hy; exact hy.elim⟩
  clear ro4 h14 s04 e4 s4 hbb h13 h03' s03 ro s3 h12 h02 s2
  rintro t0b t0o t1b t1o t2b t2o t3b t3o op' on oc' bt tp tn tc t45 t46 H5 ⟨rfl, rfl, rfl, rfl, rfl, rfl, rfl, rfl, rfl, rfl, rfl, rfl, rfl, rfl, j, rfl, hj, s5, ro, qp, qc, e5, rq, hqn⟩ X hX
  refine vouch_Doubled_1.b2_eq ?_
  unfold vouch_Doubled_1.b2_t
  refine bc (fun hlt => ?_) fun hge => ?_
  · refine (hm.keep s5 fun _ _ _ h => h).ixI (by omega) (by omega) ?_
    have h05 := s5.keep _ _ h0 fun h => h
    simp only [Int.toNat_natCast, get_at e5, get_at h05, List.getElem?_cons_zero, List.getElem?_cons_succ, ldI_mk, ldS_mk, Nat.zero_add]
    have htj := hris j (by omega)
    refine (he.keep s5 fun _ _ _ h => h).edge (by omega) (by omega) ?_
    refine rq.app (α := Edg) (e (tw j).toNat) rfl (by omega) (by decide) fun qp' qc' H6 r6 s6 f6 => ?_
    have e6 := s6.keep _ _ e5 fun h => (hqn _ h).2.1 rfl
    refine stp e6 (by simp) rfl fun H7 e7 s7 => ?_
    rw [i64w (by omega) (by omega)]
    have s57 := (s5.own s6 fun y hy => (hqn y hy).1).own s7 fun y hy => hy ▸ bb0
    have hq' : ∀ y, fpS qp' y → H y = none ∧ y ≠ bb ∧ ¬ fpS op y := fun y hy => by
      rcases f6 y hy with h | h
      · exact hqn y h
      · exact ⟨s5.mono _ h, fun ey => (by rw [ey, e5] at h; cases h), fun h' => ro.live h' h⟩
    refine hX _ _ _ _ _ _ _ _ _ _ _ _ _ _ _ _ _ _ ⟨rfl, rfl, rfl, rfl, rfl, rfl, rfl, rfl, rfl, rfl, rfl, rfl, rfl, rfl, j + 1, by omega, by omega, s57, (ro.keep s6 fun y hy hy' => (hqn y hy').2.2 hy).keep s7 fun y hy h => hopb y hy h, qp', qc', e7, (r6.congr fun a ha => ?_).keep s7 fun y hy h => (hq' y hy).2.1 h, hq'⟩ (by omega)
    by_cases ea : a = j
    · subst ea; rw [upf_same]; rfl
    · rw [upf_ne ea]
  · have : j = k := by omega
    subst this
    clear hX
    refine vouch_Doubled_1.j2_eq ?_
    unfold vouch_Doubled_1.j2_t
    simp only [get_at e5, List.getElem?_cons_zero, List.getElem?_cons_succ, ldI_mk, ldS_mk, Nat.zero_add]
    refine vuneven rq.rdr hsub fun vp vc H6 s6 rv hvn => ?_
    have s06 := s5.and s6
    have h26 := s06.keep _ _ h2 fun h => h
    refine bc (fun g1 => ?_) fun g1 => vneed (fun h => by cases h) fun _ => hno _ s06 fun hh => g1 (by rw [hh.even])
    simp only [get_at h26, List.getElem?_cons_zero, List.getElem?_cons_succ, ldI_mk, ldS_mk, Nat.zero_add]
    refine vneedD (fun g2 => ?_) fun g2 => hno _ s06 fun hh => g2 (by rw [hh.dlen])
    exact vdbl3 h0 h1 h2 h3 he hr hm hris hd hu hyn hsn hep s06 (ro.rdr.keep s6 fun _ _ _ h => h) rv.rdr (by omega) (by omega) hPos kk hno

theorem vDoubled {N : Int} {ep : Option Addr} {n ec : Nat} {e : Nat → Edg} {p : Option Addr} {k c : Nat} {tw : Nat → Int} {dp : Option Addr} {dn dc : Nat} {dl : Nat → Sl} {row : Nat → Nat → Int} {yp : Option Addr} {yn yc : Nat} {sp : Option Addr} {sn sc : Nat} {Y : Nat → Int} {z : Nat → Int} {sl : Nat → Sl} {nd : Nat → Nat → Int} {H : Hp} {K : Int → Int → Hp → Prop}
    (he : Rdr H ep n e) (hn : n < 2 ^ 63) (hm : Rdr H p k tw) (hk : k < 2 ^ 63) (hd : DistR H dp dn dl row) (hdn : dn < 2 ^ 63) (hu : DualR H yp yn sp sn Y z sl nd) (hyn : yn < 2 ^ 63) (hsn : sn < 2 ^ 63)
    (kk : ∀ H' c, Step (fun _ => False) H H' → DblO N n e tw k dn dl row Y yn z (fun i => (sl i).n) nd sn c → K (if c = 0 then cst e tw k + allc e n else 0) c H') : vouch_Doubled.call N ep n ec p k c dp dn dc yp yn yc sp sn sc E H K := by
  refine vouch_Doubled.of (vouch_Doubled.run_eq ?_)
  unfold vouch_Doubled.run_t
  refine nwk fun b1 H1 hb1 e1 s1 => ?_
  refine nwk fun b2 H2 hb2 e2 s2 => ?_
  refine nwk fun b3 H3 hb3 e3 s3 => ?_
  refine nwst rfl rfl fun b4 H4 hb4 e4 s4 => ?_
  have s04 := ((s1.and s2).and s3).and s4
  refine vlook rfl fun b H5 hb e5 s5 => ?_
  have s05 := s04.and s5
  have e1 := (((s2.and s3).and s4).and s5).keep _ _ e1 fun h => h
  have e2 := ((s3.and s4).and s5).keep _ _ e2 fun h => h
  have e3 := (s4.and s5).keep _ _ e3 fun h => h
  have e45 := s5.keep _ _ e4 fun h => h
  have fb : H b = none := s04.mono _ hb
  have f4 : H b4 = none := ((s1.and s2).and s3).mono _ hb4
  have ne : b4 ≠ b := ne_of_live hb (by rw [e4]; exact fun h => by cases h)
  refine callW_mono (fun v H' h => ldR_spec h) (fun _ _ h => h) (vdoubled1 (K := fun H2 => H2 b = some ⟨[.int .i64 0], 27⟩ ∧ ∀ H3, Step (· = b) H2 H3 → ldI .i64 (H3.get b4 0) fun x => K x 0 H3) e1 e2 e3 e45 (he.keep s05 fun _ _ _ h => h) hn (hm.keep s05 fun _ _ _ h => h) hk (hd.keep s05) hdn (hu.keep s05) hyn hsn (fun hn0 y hy h => he.live hy hn0 (h ▸ f4)) (fun H6 s6 e6 hP => ?_) fun H6 cd s6 hc ho => ?_)
  · refine ⟨s6.keep _ _ e5 fun h => ne h.symm, fun H7 s7 => ?_⟩
    have e7 := s7.keep _ _ e6 ne
    simp only [get_at e7, List.getElem?_cons_zero, ldI_mk]
    have := kk H7 0 ((s05.own s6 fun b' hb' => hb' ▸ f4).own s7 fun b' hb' => hb' ▸ fb) hP
    rwa [if_pos rfl] at this
  · refine ⟨cd, rfl, s6.keep _ _ e5 fun h => h, fun H7 s7 => ?_⟩
    have e7 := s7.keep _ _ (s6.keep _ _ e45 fun h => h) ne
    simp only [get_at e7, List.getElem?_cons_zero, ldI_mk]
    have := kk H7 cd ((s05.and s6).own s7 fun b' hb' => hb' ▸ fb) ho
    rwa [if_neg hc] at this
end
end Go.Mz
