/-
  The document's functions of layer 12, walked, more: Doubled.
-/
import Derived.Test.YtjdhhepphbhjgaaRefH
set_option linter.unusedSimpArgs false
set_option linter.unusedVariables false
namespace Go.Mz
section
variable {E : Value → Hp → Prop}

open Classical in
theorem prW_comm {Y : Nat → Int} {z : Nat → Int} {ln : Nat → Nat} {nd : Nat → Nat → Int} {sn : Nat} {u v : Int} : prW Y z ln nd sn u v = prW Y z ln nd sn v u := by
  have h : (fun i => if In (nd i) (ln i) u ∧ In (nd i) (ln i) v then z i else 0) = fun i => if In (nd i) (ln i) v ∧ In (nd i) (ln i) u then z i else 0 := by
    funext i
    by_cases h1 : In (nd i) (ln i) u <;> by_cases h2 : In (nd i) (ln i) v <;> simp [h1, h2]
  unfold prW
  rw [Int.add_comm (Y u.toNat), h]

theorem rdoubled {N : Int} {ep : Option Addr} {n ec : Nat} {e : Nat → Edg} {p : Option Addr} {k c : Nat} {tw : Nat → Int} {dp : Option Addr} {dn dc : Nat} {dl : Nat → Sl} {row : Nat → Nat → Int} {yp : Option Addr} {yn yc : Nat} {sp : Option Addr} {sn sc : Nat} {Y : Nat → Int} {z : Nat → Int} {sl : Nat → Sl} {nd : Nat → Nat → Int} {H : Hp} {K : Int → Int → Hp → Prop}
    (he : Rdr H ep n e) (hm : Rdr H p k tw) (hk : k < 2 ^ 63) (hd : DistR H dp dn dl row) (hdn : dn < 2 ^ 63) (hu : DualR H yp yn sp sn Y z sl nd) (hyn : yn < 2 ^ 63) (hsn : sn < 2 ^ 62)
    (kk : ∀ H' c, Step (fun _ => False) H H' → DblO N n e tw k dn dl row Y yn z (fun i => (sl i).n) nd sn c → K (if c = 0 then cst e tw k + allc e n else 0) c H') : compassref12_Doubled.call N ep n ec p k c dp dn dc yp yn yc sp sn sc E H K := by
  refine compassref12_Doubled.of (compassref12_Doubled.run_eq ?_)
  unfold compassref12_Doubled.run_t
  refine nwk fun b1 H1 hb1 e1 s1 => ?_
  refine nwk fun b2 H2 hb2 e2 s2 => ?_
  have s02 := s1.and s2
  have e12 := s2.keep _ _ e1 fun h => h
  simp only [get_at e12, List.getElem?_cons_zero, List.getElem?_cons_succ, ldI_mk, ldS_mk]
  refine rcosts (he.keep s02 fun _ _ _ h => h) fun H3 c1 s3 o1 => ?_
  have s03 := s02.and s3
  have e13 := s3.keep _ _ e12 fun h => h
  have e23 := s3.keep _ _ e2 fun h => h
  have bad : c1 ≠ 0 → K 0 c1 H3 := fun hc => by
    have := kk H3 c1 s03 (by
      rcases o1 with h | ⟨h1, h2, h3⟩ | ⟨h, _⟩
      · exact .inr (.inl h)
      · exact .inr (.inr (.inl ⟨h1, h2, h3⟩))
      · exact absurd h hc)
    rwa [if_neg hc] at this
  refine bcn bad fun hc => ?_
  obtain ⟨hr, hPos⟩ : Right N n e ∧ Pos n e := by
    rcases o1 with ⟨h1, h2⟩ | ⟨h1, h2, h3⟩ | ⟨_, h⟩
    · exact absurd hc h2
    · rw [h1] at hc; cases hc
    · exact h
  have hN0 := hr.N0; have hN1 := hr.N1; have hn1 := hr.n1
  have no : ∀ H', Step (fun _ => False) H H' → ¬ DblP N n e tw k dn dl row Y yn z (fun i => (sl i).n) nd sn → K 0 221 H' := fun H' s h => by
    have := kk H' 221 s (.inr (.inr (.inr ⟨rfl, hr, hPos, h⟩)))
    rwa [if_neg (by decide)] at this
  simp only [get_at e13, List.getElem?_cons_zero, List.getElem?_cons_succ, ldI_mk, ldS_mk]
  refine rall (he.keep s03 fun _ _ _ h => h) hn1 fun lp' lc H4 s4 rl => ?_
  have s04 := s03.and s4
  have e14 := s4.keep _ _ e13 fun h => h
  have e24 := s4.keep _ _ e23 fun h => h
  simp only [get_at e14, List.getElem?_cons_zero, List.getElem?_cons_succ, ldI_mk, ldS_mk, true_and]
  refine runeven (he.keep s04 fun _ _ _ h => h) hr rl.rdr (ris_id n) fun op oc H5 s5 ro => ?_
  rw [sub_id] at ro ⊢
  have s05 := s04.and s5
  have e15 := s5.keep _ _ e14 fun h => h
  have e25 := s5.keep _ _ e24 fun h => h
  simp only [get_at e15, List.getElem?_cons_zero, List.getElem?_cons_succ, ldI_mk, ldS_mk, true_and]
  have hol := odds_len (e := e) (n := n) (N := N.toNat)
  generalize hO : odds e n N.toNat = O at *
  have hOm : ∀ i, i < O.length → 0 ≤ lsF O i ∧ lsF O i < N := fun i hi => by
    have := odds_mem (e := e) (n := n) (N := N.toNat) (i := i) (by rw [hO]; exact hi)
    rw [hO] at this
    omega
  refine revens (he.keep s05 fun _ _ _ h => h) hr (hm.keep s05 fun _ _ _ h => h) hk (fun H6 s6 hris hev => ?_) fun H6 s6 h => bcb (fun _ => no _ (s05.and s6) fun hh => h ⟨hh.ris, hh.even⟩) fun h => by cases h
  refine bcb (fun h => by cases h) fun _ => ?_
  have s06 := s05.and s6
  have e16 := s6.keep _ _ e15 fun h => h
  have e26 := s6.keep _ _ e25 fun h => h
  refine bcn (fun h => no _ s06 fun hh => h (by have := hh.dlen; rw [hO] at this; rw [this])) fun hdl => ?_
  have hdl' : dn = O.length := by omega
  simp only [get_at e26, List.getElem?_cons_zero, List.getElem?_cons_succ, ldI_mk, ldS_mk]
  refine rweights (hu.keep s06) hyn hsn (fun H7 s7 hw => ?_) fun H7 s7 h => bcb (fun _ => no _ (s06.and s7) fun hh => h (by have := hh.wt; rwa [hO] at this)) fun h => by cases h
  refine bcb (fun h => by cases h) fun _ => ?_
  have s07 := s06.and s7
  have e17 := s7.keep _ _ e16 fun h => h
  have e27 := s7.keep _ _ e26 fun h => h
  have s57 := s6.and s7
  have hsn2 := hw.slen
  refine compassref12_Doubled.l1_rule (fun tp tn tc d' dn' dc' g4 d7 op' on oc' i12 H' => p = tp ∧ k = tn ∧ dp = d' ∧ dn = dn' ∧ b1 = g4 ∧ b2 = d7 ∧ op = op' ∧ O.length = on ∧
      ∃ i : Nat, i12 = i ∧ i ≤ O.length ∧ Step (fun _ => False) H7 H' ∧ (∀ a, a < i → Nr N n e (row a) (dl a).n (lsF O a)) ∧ ∀ a, a < i → ∀ j, j < a → prW Y z (fun i => (sl i).n) nd sn j a ≤ 2 * row j (lsF O a).toNat)
    (fun tp tn tc d' dn' dc' g4 d7 op' on oc' i12 H' => O.length - i12.toNat) ?_ ⟨rfl, rfl, rfl, rfl, rfl, rfl, rfl, rfl, 0, rfl, by omega, .refl, fun a ha => by omega, fun a ha => by omega⟩
  rintro tp tn tc d' dn' dc' g4 d7 op' on oc' i12 H8 ⟨rfl, rfl, rfl, rfl, rfl, rfl, rfl, rfl, i, rfl, hi, s8, hnr, hpr⟩ X hX
  have s08 := s07.and s8
  have e18 := s8.keep _ _ e17 fun h => h
  have e28 := s8.keep _ _ e27 fun h => h
  refine compassref12_Doubled.b1_eq ?_
  unfold compassref12_Doubled.b1_t
  refine bc (fun hlt => ?_) fun hge => ?_
  · simp only [get_at e18, List.getElem?_cons_zero, List.getElem?_cons_succ, ldI_mk, ldS_mk]
    have hd8 := hd.keep s08
    refine hd8.d.ixS (by omega) (by omega) ?_
    refine (ro.keep (s57.and s8) fun _ _ h => h).ixI (by omega) (by omega) ?_
    simp only [Int.toNat_natCast]
    obtain ⟨hrow, hrl⟩ := hd8.r i (by omega)
    have hoi := hOm i (by omega)
    refine rnear (he.keep s08 fun _ _ _ h => h) hr hrow hrl hoi.1 hoi.2 (fun H9 s9 hN => ?_) fun H9 s9 h => bcb (fun _ => no _ (s08.and s9) fun hh => h (by
      have := hh.near i (by rw [hO]; omega)
      rwa [hO] at this)) fun h => by cases h
    refine bcb (fun h => by cases h) fun _ => ?_
    refine compassref12_Doubled.l2_rule (fun tp tn tc d' dn' dc' g4 d7 op' on oc' i12 j13 H' => p = tp ∧ k = tn ∧ dp = d' ∧ dn = dn' ∧ b1 = g4 ∧ b2 = d7 ∧ op = op' ∧ O.length = on ∧ i12 = i ∧
        ∃ j : Nat, j13 = j ∧ j ≤ i ∧ Step (fun _ => False) H7 H' ∧ ∀ b, b < j → prW Y z (fun i => (sl i).n) nd sn b i ≤ 2 * row b (lsF O i).toNat)
      (fun tp tn tc d' dn' dc' g4 d7 op' on oc' i12 j13 H' => i - j13.toNat) ?_ ⟨rfl, rfl, rfl, rfl, rfl, rfl, rfl, rfl, rfl, 0, rfl, by omega, s8.and s9, fun b hb => by omega⟩
    rintro tp tn tc d' dn' dc' g4 d7 op' on oc' i12 j13 H10 ⟨rfl, rfl, rfl, rfl, rfl, rfl, rfl, rfl, rfl, j, rfl, hj, s10, hprj⟩ Z hZ
    have s010 := s07.and s10
    have e210 := s10.keep _ _ e27 fun h => h
    refine compassref12_Doubled.b2_eq ?_
    unfold compassref12_Doubled.b2_t
    refine bc (fun hlt2 => ?_) fun hge2 => ?_
    · have hd10 := hd.keep s010
      have hNj : Nr N n e (row j) (dl j).n (lsF O j) := hnr j (by omega)
      obtain ⟨hrowj, hrlj⟩ := hd10.r j (by omega)
      refine hd10.d.ixS (by omega) (by omega) ?_
      refine (ro.keep (s57.and s10) fun _ _ h => h).ixI (by omega) (by omega) ?_
      simp only [Int.toNat_natCast]
      refine hrowj.ixI hoi.1 (by have := hNj.len; omega) ?_
      simp only [get_at e210, List.getElem?_cons_zero, List.getElem?_cons_succ, ldI_mk, ldS_mk]
      refine rpair (hu.keep s010) hw (by omega) (by omega) (by omega) (by omega) (by omega) fun H11 s11 => ?_
      have hb := hNj.bnd (lsF O i).toNat (by have := hNj.len; omega)
      rw [prW_comm, i64w (by omega) (by omega)]
      refine bc (fun h => no _ (s010.and s11) fun hh => ?_) fun h => ?_
      · have := hh.pr i (by rw [hO]; omega) j (by omega)
        rw [hO] at this
        omega
      · rw [i64w (by omega) (by omega)]
        refine hZ _ _ _ _ _ _ _ _ _ _ _ _ _ _ ⟨rfl, rfl, rfl, rfl, rfl, rfl, rfl, rfl, rfl, j + 1, by omega, by omega, s10.and s11, fun b hb' => ?_⟩ (by omega)
        by_cases eb : b = j
        · subst eb; omega
        · exact hprj b (by omega)
    · have : j = i := by omega
      subst this
      refine compassref12_Doubled.j1_eq ?_
      unfold compassref12_Doubled.j1_t
      rw [i64w (by omega) (by omega)]
      refine hX _ _ _ _ _ _ _ _ _ _ _ _ _ ⟨rfl, rfl, rfl, rfl, rfl, rfl, rfl, rfl, j + 1, by omega, by omega, s10, fun a ha => ?_, fun a ha => ?_⟩ (by omega)
      · by_cases ea : a = j
        · subst ea; exact hN
        · exact hnr a (by omega)
      · by_cases ea : a = j
        · subst ea; exact hprj
        · exact hpr a (by omega)
  · have : i = O.length := by omega
    subst this
    clear hX
    have hkl := hris.len
    refine compassref12_Doubled.j2_eq ?_
    unfold compassref12_Doubled.j2_t
    simp only [get_at e18, List.getElem?_cons_zero, List.getElem?_cons_succ, ldI_mk, ldS_mk]
    refine rcost (he.keep s08 fun _ _ _ h => h) hr (hm.keep s08 fun _ _ _ h => h) hris fun H9 s9 => ?_
    have s09 := s08.and s9
    have e19 := s9.keep _ _ e18 fun h => h
    have e29 := s9.keep _ _ e28 fun h => h
    simp only [get_at e29, List.getElem?_cons_zero, List.getElem?_cons_succ, ldI_mk, ldS_mk]
    refine rworth (hu.keep s09) hw (by omega) fun H10 s10 => ?_
    have s010 := s09.and s10
    have e110 := s10.keep _ _ e19 fun h => h
    have hcb := cst_bound hr hris
    rw [i64w (n := cst e tw k + cst e tw k) (by omega) (by omega)]
    refine bcn (fun h => no _ s010 fun hh => h (by have := hh.sum; omega)) fun h => ?_
    simp only [get_at e110, List.getElem?_cons_zero, List.getElem?_cons_succ, ldI_mk, ldS_mk]
    refine rall (he.keep s010 fun _ _ _ h => h) hn1 fun lp'' lc' H11 s11 rl' => ?_
    have s011 := s010.and s11
    have e111 := s11.keep _ _ e110 fun h => h
    simp only [get_at e111, List.getElem?_cons_zero, List.getElem?_cons_succ, ldI_mk, ldS_mk, true_and]
    refine rcost (he.keep s011 fun _ _ _ h => h) hr rl'.rdr (ris_id n) fun H12 s12 => ?_
    have hab := cst_bound hr (ris_id n)
    rw [i64w (by omega) (by omega)]
    have hP : DblP N n e tw k dn dl row Y yn z (fun i => (sl i).n) nd sn := ⟨hris, hev, by rw [hO]; exact hdl', by rw [hO]; exact hnr, by rw [hO]; exact hw, by rw [hO]; exact hpr, by omega⟩
    have := kk H12 0 (s011.and s12) (.inl ⟨rfl, hr, hPos, hP⟩)
    rw [if_pos rfl] at this
    rw [Int.add_comm]
    exact this

theorem DblO.det {N : Int} {n : Nat} {e : Nat → Edg} {tw : Nat → Int} {k dn : Nat} {dl : Nat → Sl} {row : Nat → Nat → Int} {Y : Nat → Int} {yn : Nat} {z : Nat → Int} {ln : Nat → Nat} {nd : Nat → Nat → Int} {sn : Nat} {c c' : Int}
    (h : DblO N n e tw k dn dl row Y yn z ln nd sn c) (h' : DblO N n e tw k dn dl row Y yn z ln nd sn c') : c = c' := by
  have hz : chk N n e = 0 ↔ Right N n e := chk_zero
  rcases h with ⟨a1, a2, a3, a4⟩ | ⟨a1, a2⟩ | ⟨a1, a2, a3⟩ | ⟨a1, a2, a3, a4⟩ <;> rcases h' with ⟨d1, d2, d3, d4⟩ | ⟨d1, d2⟩ | ⟨d1, d2, d3⟩ | ⟨d1, d2, d3, d4⟩
  · rw [a1, d1]
  · exact absurd (by rw [d1]; exact hz.2 a2) d2
  · exact absurd a3 d3
  · exact absurd a4 d4
  · exact absurd (by rw [a1]; exact hz.2 d2) a2
  · rw [a1, d1]
  · exact absurd (by rw [a1]; exact hz.2 d2) a2
  · exact absurd (by rw [a1]; exact hz.2 d2) a2
  · exact absurd d3 a3
  · exact absurd (by rw [d1]; exact hz.2 a2) d2
  · rw [a1, d1]
  · exact absurd d3 a3
  · exact absurd d4 a4
  · exact absurd (by rw [d1]; exact hz.2 a2) d2
  · exact absurd a3 d3
  · rw [a1, d1]
end
end Go.Mz
