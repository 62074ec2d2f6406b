/-
  The document's functions of layer 12, walked, more: Has, Covers, Covered, Pots, Heaviest.
-/
import Derived.Test.YtjdhhepphbhjgaaRefA
import Derived.Test.YtjdhhepphbhjgaaGReb
set_option linter.unusedSimpArgs false
set_option linter.unusedVariables false
namespace Go.Mz
section
variable {E : Value → Hp → Prop}

theorem rhas {p : Option Addr} {k c : Nat} {m : Nat → Int} {x : Int} {H : Hp} {K : Bool → Hp → Prop} (hm : Rdr H p k m) (hk : k < 2 ^ 63) (kt : In m k x → K true H) (kf : ¬ In m k x → K false H) : compassref12_Has.call p k c x E H K := by
  refine compassref12_Has.of (compassref12_Has.run_eq ?_)
  unfold compassref12_Has.run_t
  refine compassref12_Has.l1_rule (fun tp tn tc x1 i5 H' => p = tp ∧ k = tn ∧ x = x1 ∧ H = H' ∧ ∃ i : Nat, i5 = i ∧ i ≤ k ∧ ¬ In m i x)
    (fun tp tn tc x1 i5 H' => k - i5.toNat) ?_ ⟨rfl, rfl, rfl, rfl, 0, rfl, by omega, fun ⟨i, hi, _⟩ => by omega⟩
  rintro tp tn tc x1 i5 H' ⟨rfl, rfl, rfl, rfl, i, rfl, hi, hn⟩ X hX
  refine compassref12_Has.b1_eq ?_
  unfold compassref12_Has.b1_t
  refine bc (fun hlt => ?_) fun hge => ?_
  · refine hm.ixI (by omega) (by omega) ?_
    simp only [Int.toNat_natCast]
    refine bc (fun h => kt ⟨i, by omega, h⟩) fun h => ?_
    rw [i64w (by omega) (by omega)]
    refine hX _ _ _ _ _ _ ⟨rfl, rfl, rfl, rfl, i + 1, by omega, by omega, fun ⟨j, hj, hv⟩ => ?_⟩ (by omega)
    by_cases ej : j = i
    · subst ej; exact h hv
    · exact hn ⟨j, by omega, hv⟩
  · have : i = k := by omega
    subst this
    exact kf hn

theorem rcovers {N : Int} {ep : Option Addr} {n ec : Nat} {e : Nat → Edg} {p : Option Addr} {q c : Nat} {cv : Nat → Int} {H : Hp} {K : Bool → Hp → Prop} (he : Rdr H ep n e) (hn : n ≤ 4096) (hm : Rdr H p q cv) (hq : q < 2 ^ 63)
    (kt : ∀ H', Step (fun _ => False) H H' → Cvr e n cv q → K true H') (kf : ∀ H', Step (fun _ => False) H H' → ¬ Cvr e n cv q → K false H') : compassref12_Covers.call N ep n ec p q c E H K := by
  refine compassref12_Covers.of (compassref12_Covers.run_eq ?_)
  unfold compassref12_Covers.run_t
  refine nwk fun b1 H1 hb1 e1 s1 => ?_
  refine compassref12_Covers.l1_rule (fun tp tn tc g2 i5 H' => p = tp ∧ q = tn ∧ b1 = g2 ∧ ∃ i : Nat, i5 = i ∧ i ≤ n ∧ Step (fun _ => False) H1 H' ∧ Cvr e i cv q)
    (fun tp tn tc g2 i5 H' => n - i5.toNat) ?_ ⟨rfl, rfl, rfl, 0, rfl, by omega, .refl, fun i hi => by omega⟩
  rintro tp tn tc g2 i5 H2 ⟨rfl, rfl, rfl, i, rfl, hi, s2, hcv⟩ X hX
  have s02 := s1.and s2
  have e12 := s2.keep _ _ e1 fun h => h
  refine compassref12_Covers.b1_eq ?_
  unfold compassref12_Covers.b1_t
  simp only [get_at e12, List.getElem?_cons_zero, List.getElem?_cons_succ, ldI_mk, ldS_mk]
  refine bc (fun hlt => ?_) fun hge => ?_
  · refine (he.keep s02 fun _ _ _ h => h).edge (by omega) (by omega) ?_
    simp only [Int.toNat_natCast]
    refine nwst rfl rfl fun b3 H3 hb3 e3 s3 => ?_
    simp only [get_at e3, List.getElem?_cons_zero, List.getElem?_cons_succ, ldI_mk, ldS_mk]
    have hm3 := hm.keep (s02.and s3) fun _ _ _ h => h
    have next : (lp (e i) ∨ In cv q (e i).fr ∨ In cv q (e i).to) → compassref12_Covers.j1 p q tc b1 (i : Int) X E H3 K := fun h => by
      refine compassref12_Covers.j1_eq ?_
      unfold compassref12_Covers.j1_t
      rw [i64w (by omega) (by omega)]
      refine hX _ _ _ _ _ _ ⟨rfl, rfl, rfl, i + 1, by omega, by omega, s2.and s3, fun j hj => ?_⟩ (by omega)
      by_cases ej : j = i
      · subst ej; exact h
      · exact hcv j (by omega)
    refine bcn (fun hl => ?_) fun hl => next (.inl hl)
    refine rhas hm3 hq (fun h => bcb (fun h' => by cases h') fun _ => next (.inr (.inl h))) fun h1 => ?_
    refine bcb (fun _ => ?_) fun h' => by cases h'
    simp only [get_at e3, List.getElem?_cons_zero, List.getElem?_cons_succ, ldI_mk, ldS_mk]
    refine rhas hm3 hq (fun h => bcb (fun h' => by cases h') fun _ => next (.inr (.inr h))) fun h2 => ?_
    refine bcb (fun _ => kf _ (s02.and s3) fun hh => ?_) fun h' => by cases h'
    rcases hh i (by omega) with h | h | h
    · exact hl h
    · exact h1 h
    · exact h2 h
  · have : i = n := by omega
    subst this
    exact kt _ s02 hcv

theorem rcovered {N : Int} {ep : Option Addr} {n ec : Nat} {e : Nat → Edg} {p : Option Addr} {k c : Nat} {m : Nat → Int} {vp : Option Addr} {q vc : Nat} {cv : Nat → Int} {H : Hp} {K : Int → Int → Hp → Prop}
    (he : Rdr H ep n e) (hm : Rdr H p k m) (hk : k < 2 ^ 63) (hv : Rdr H vp q cv) (hq : q < 2 ^ 63)
    (kk : ∀ H' c, Step (fun _ => False) H H' → Out N n e (CovP N n e m k cv q) c → K (if c = 0 then (k : Int) else 0) c H') : compassref12_Covered.call N ep n ec p k c vp q vc E H K := by
  refine compassref12_Covered.of (compassref12_Covered.run_eq ?_)
  unfold compassref12_Covered.run_t
  refine nwk fun b1 H1 hb1 e1 s1 => ?_
  simp only [get_at e1, List.getElem?_cons_zero, List.getElem?_cons_succ, ldI_mk, ldS_mk]
  refine rmatching (he.keep s1 fun _ _ _ h => h) (hm.keep s1 fun _ _ _ h => h) hk fun H2 r s2 o => ?_
  have s02 := s1.and s2
  have e12 := s2.keep _ _ e1 fun h => h
  have neg : ∀ H' c', Step (fun _ => False) H H' → c' ≠ 0 → Out N n e (CovP N n e m k cv q) c' → K 0 c' H' := fun H' c' s h0 h => by
    have := kk H' c' s h
    rwa [if_neg h0] at this
  refine bcn (fun hr0 => ?_) fun hr0 => ?_
  · refine neg _ _ s02 hr0 ?_
    rcases o with ⟨h, _⟩ | h | ⟨h1, h2, h3⟩
    · exact absurd h hr0
    · exact .inr (.inl h)
    · exact .inr (.inr ⟨h1, h2, fun hh => h3 hh.tk⟩)
  · obtain ⟨hr, ht⟩ := o.ok hr0
    have no : ∀ H', Step (fun _ => False) H H' → ¬ CovP N n e m k cv q → K 0 221 H' := fun H' s h => neg H' 221 s (by decide) (.inr (.inr ⟨rfl, hr, h⟩))
    simp only [get_at e12, List.getElem?_cons_zero, List.getElem?_cons_succ, ldI_mk, ldS_mk]
    refine rrising (hv.keep s02 fun _ _ _ h => h) hq (fun hs => ?_) fun hs => bcb (fun _ => no _ s02 fun hh => hs hh.ris) fun h => by cases h
    refine bcb (fun h => by cases h) fun _ => ?_
    try simp only [get_at e12, List.getElem?_cons_zero, List.getElem?_cons_succ, ldI_mk, ldS_mk]
    refine rcovers (he.keep s02 fun _ _ _ h => h) hr.n1 (hv.keep s02 fun _ _ _ h => h) hq (fun H3 s3 hc => ?_) fun H3 s3 hc => bcb (fun _ => no _ (s02.and s3) fun hh => hc hh.cvr) fun h => by cases h
    refine bcb (fun h => by cases h) fun _ => ?_
    refine bcn (fun hkq => no _ (s02.and s3) fun hh => hkq (by rw [hh.eq])) fun hkq => ?_
    have := kk H3 0 (s02.and s3) (.inl ⟨rfl, hr, ht, hs, hc, by omega⟩)
    rwa [if_pos rfl] at this

/-- a number for each node, none too great -/
def Pots (N : Int) (pot : Nat → Int) (q : Nat) : Prop := (q : Int) = N ∧ ∀ v, v < q → -4398046511104 ≤ pot v ∧ pot v ≤ 4398046511104

theorem rpots {N : Int} {ep : Option Addr} {n ec : Nat} {vp : Option Addr} {q vc : Nat} {pot : Nat → Int} {H : Hp} {K : Bool → Hp → Prop} (hv : Rdr H vp q pot) (hq : q < 2 ^ 63)
    (kt : ∀ H', Step (fun _ => False) H H' → Pots N pot q → K true H') (kf : ∀ H', Step (fun _ => False) H H' → ¬ Pots N pot q → K false H') : compassref11_Pots.call N ep n ec vp q vc E H K := by
  refine compassref11_Pots.of (compassref11_Pots.run_eq ?_)
  unfold compassref11_Pots.run_t
  refine nwk fun b1 H1 hb1 e1 s1 => ?_
  simp only [get_at e1, List.getElem?_cons_zero, List.getElem?_cons_succ, ldI_mk, ldS_mk]
  refine bcn (fun h => kf _ s1 fun hh => h hh.1) fun hqN => ?_
  have hv1 := hv.keep s1 fun _ _ _ h => h
  refine compassref11_Pots.l1_rule (fun tp tn tc g2 v5 H' => vp = tp ∧ q = tn ∧ b1 = g2 ∧ H1 = H' ∧ ∃ i : Nat, v5 = i ∧ i ≤ q ∧ ∀ v, v < i → -4398046511104 ≤ pot v ∧ pot v ≤ 4398046511104)
    (fun tp tn tc g2 v5 H' => q - v5.toNat) ?_ ⟨rfl, rfl, rfl, rfl, 0, rfl, by omega, fun v hv => by omega⟩
  rintro tp tn tc g2 v5 H' ⟨rfl, rfl, rfl, rfl, i, rfl, hi, hb⟩ X hX
  refine compassref11_Pots.b1_eq ?_
  unfold compassref11_Pots.b1_t
  simp only [get_at e1, List.getElem?_cons_zero, List.getElem?_cons_succ, ldI_mk, ldS_mk]
  refine bc (fun hlt => ?_) fun hge => ?_
  · refine hv1.ixI (by omega) (by omega) ?_
    simp only [Int.toNat_natCast]
    refine bc (fun h => kf _ s1 fun hh => by have := (hh.2 i (by omega)).1; omega) fun h1 => ?_
    refine hv1.ixI (by omega) (by omega) ?_
    simp only [Int.toNat_natCast]
    refine bc (fun h => kf _ s1 fun hh => by have := (hh.2 i (by omega)).2; omega) fun h2 => ?_
    rw [i64w (by omega) (by omega)]
    refine hX _ _ _ _ _ _ ⟨rfl, rfl, rfl, rfl, i + 1, by omega, by omega, fun v hv => ?_⟩ (by omega)
    by_cases ev : v = i
    · subst ev; exact ⟨by omega, by omega⟩
    · exact hb v (by omega)
  · have : i = q := by omega
    subst this
    exact kt _ s1 ⟨hqN, hb⟩

theorem rheaviest {N : Int} {ep : Option Addr} {n ec : Nat} {e : Nat → Edg} {p : Option Addr} {k c : Nat} {m : Nat → Int} {vp : Option Addr} {q vc : Nat} {pot : Nat → Int} {H : Hp} {K : Int → Int → Hp → Prop}
    (he : Rdr H ep n e) (hm : Rdr H p k m) (hk : k < 2 ^ 63) (hv : Rdr H vp q pot) (hq : q < 2 ^ 63)
    (kk : ∀ H' c, Step (fun _ => False) H H' → Out N n e (HvyP N n e m k pot q) c → K (if c = 0 then cst e m k else 0) c H') : compassref12_Heaviest.call N ep n ec p k c vp q vc E H K := by
  refine compassref12_Heaviest.of (compassref12_Heaviest.run_eq ?_)
  unfold compassref12_Heaviest.run_t
  refine nwk fun b1 H1 hb1 e1 s1 => ?_
  simp only [get_at e1, List.getElem?_cons_zero, List.getElem?_cons_succ, ldI_mk, ldS_mk]
  refine rmatching (he.keep s1 fun _ _ _ h => h) (hm.keep s1 fun _ _ _ h => h) hk fun H2 r s2 o => ?_
  have s02 := s1.and s2
  have e12 := s2.keep _ _ e1 fun h => h
  have neg : ∀ H' c', Step (fun _ => False) H H' → c' ≠ 0 → Out N n e (HvyP N n e m k pot q) c' → K 0 c' H' := fun H' c' s h0 h => by
    have := kk H' c' s h
    rwa [if_neg h0] at this
  refine bcn (fun hr0 => ?_) fun hr0 => ?_
  · refine neg _ _ s02 hr0 ?_
    rcases o with ⟨h, _⟩ | h | ⟨h1, h2, h3⟩
    · exact absurd h hr0
    · exact .inr (.inl h)
    · exact .inr (.inr ⟨h1, h2, fun hh => h3 hh.tk⟩)
  obtain ⟨hr, ht⟩ := o.ok hr0
  have hN0 := hr.N0; have hN1 := hr.N1; have hn1 := hr.n1
  have no : ∀ H', Step (fun _ => False) H H' → ¬ HvyP N n e m k pot q → K 0 221 H' := fun H' s h => neg H' 221 s (by decide) (.inr (.inr ⟨rfl, hr, h⟩))
  simp only [get_at e12, List.getElem?_cons_zero, List.getElem?_cons_succ, ldI_mk, ldS_mk]
  refine rpots (hv.keep s02 fun _ _ _ h => h) hq (fun H3 s3 hp => ?_) fun H3 s3 hp => bcb (fun _ => no _ (s02.and s3) fun hh => hp ⟨hh.len, fun v hv => by have := hh.bnd v hv; omega⟩) fun h => by cases h
  refine bcb (fun h => by cases h) fun _ => ?_
  have s03 := s02.and s3
  have e13 := s3.keep _ _ e12 fun h => h
  have hqN := hp.1
  have hv3 := hv.keep s03 fun _ _ _ h => h
  refine compassref12_Heaviest.l1_rule (fun tp tn tc pp pn pc g3 sm v10 H' => p = tp ∧ k = tn ∧ vp = pp ∧ q = pn ∧ b1 = g3 ∧ H3 = H' ∧ ∃ i : Nat, v10 = i ∧ i ≤ q ∧ sm = psum pot i ∧ ∀ v, v < i → 0 ≤ pot v ∧ pot v ≤ 4398046511104)
    (fun tp tn tc pp pn pc g3 sm v10 H' => q - v10.toNat) ?_ ⟨rfl, rfl, rfl, rfl, rfl, rfl, 0, rfl, by omega, rfl, fun v hv => by omega⟩
  rintro tp tn tc pp pn pc g3 sm v10 H' ⟨rfl, rfl, rfl, rfl, rfl, rfl, i, rfl, hi, rfl, hb⟩ X hX
  have hps := psum_bound hb
  refine compassref12_Heaviest.b1_eq ?_
  unfold compassref12_Heaviest.b1_t
  simp only [get_at e13, List.getElem?_cons_zero, List.getElem?_cons_succ, ldI_mk, ldS_mk]
  refine bc (fun hlt => ?_) fun hge => ?_
  · refine hv3.ixI (by omega) (by omega) ?_
    simp only [Int.toNat_natCast]
    refine bc (fun h => no _ s03 fun hh => by have := (hh.bnd i (by omega)).1; omega) fun h1 => ?_
    refine hv3.ixI (by omega) (by omega) ?_
    simp only [Int.toNat_natCast]
    have hpi := hp.2 i (by omega)
    rw [i64w (n := psum pot i + pot i) (by omega) (by omega), i64w (by omega) (by omega)]
    refine hX _ _ _ _ _ _ _ _ _ _ ⟨rfl, rfl, rfl, rfl, rfl, rfl, i + 1, by omega, by omega, rfl, fun v hv => ?_⟩ (by omega)
    by_cases ev : v = i
    · subst ev; exact ⟨by omega, by omega⟩
    · exact hb v (by omega)
  have : i = q := by omega
  subst this
  clear hX
  refine compassref12_Heaviest.j1_eq ?_
  unfold compassref12_Heaviest.j1_t
  refine compassref12_Heaviest.l2_rule (fun tp tn tc pp pn pc g3 sm i11 H' => p = tp ∧ k = tn ∧ vp = pp ∧ i = pn ∧ b1 = g3 ∧ sm = psum pot i ∧ ∃ j : Nat, i11 = j ∧ j ≤ n ∧ Step (fun _ => False) H3 H' ∧ ∀ a, a < j → lp (e a) ∨ (e a).co ≤ pot (e a).fr.toNat + pot (e a).to.toNat)
    (fun tp tn tc pp pn pc g3 sm i11 H' => n - i11.toNat) ?_ ⟨rfl, rfl, rfl, rfl, rfl, rfl, 0, rfl, by omega, .refl, fun a ha => by omega⟩
  rintro tp tn tc pp pn pc g3 sm i11 H4 ⟨rfl, rfl, rfl, rfl, rfl, rfl, j, rfl, hj, s4, hed⟩ Y hY
  have s04 := s03.and s4
  have e14 := s4.keep _ _ e13 fun h => h
  refine compassref12_Heaviest.b2_eq ?_
  unfold compassref12_Heaviest.b2_t
  simp only [get_at e14, List.getElem?_cons_zero, List.getElem?_cons_succ, ldI_mk, ldS_mk]
  refine bc (fun hlt => ?_) fun hge => ?_
  · refine (he.keep s04 fun _ _ _ h => h).edge (by omega) (by omega) ?_
    simp only [Int.toNat_natCast]
    refine nwst rfl rfl fun b5 H5 hb5 e5 s5 => ?_
    simp only [get_at e5, List.getElem?_cons_zero, List.getElem?_cons_succ, ldI_mk, ldS_mk]
    have s05 := s04.and s5
    have hv5 := hv.keep s05 fun _ _ _ h => h
    have hx := hr.ed j (by omega)
    have hf0 := hx.f0; have hf1 := hx.f1; have ht0 := hx.t0; have ht1 := hx.t1
    have next : (lp (e j) ∨ (e j).co ≤ pot (e j).fr.toNat + pot (e j).to.toNat) → compassref12_Heaviest.j2 p k tc vp i pc b1 (psum pot i) (j : Int) Y E H5 K := fun h => by
      refine compassref12_Heaviest.j2_eq ?_
      unfold compassref12_Heaviest.j2_t
      rw [i64w (by omega) (by omega)]
      refine hY _ _ _ _ _ _ _ _ _ _ ⟨rfl, rfl, rfl, rfl, rfl, rfl, j + 1, by omega, by omega, s4.and s5, fun a ha => ?_⟩ (by omega)
      by_cases ea : a = j
      · subst ea; exact h
      · exact hed a (by omega)
    refine bcn (fun hl => ?_) fun hl => next (.inl hl)
    refine hv5.ixI (by omega) (by omega) ?_
    refine hv5.ixI (by omega) (by omega) ?_
    have b1 := hb (e j).fr.toNat (by omega)
    have b2 := hb (e j).to.toNat (by omega)
    rw [i64w (by omega) (by omega)]
    refine bc (fun h => no _ s05 fun hh => ?_) fun h => next (.inr (by omega))
    rcases hh.ed j (by omega) with h' | h'
    · exact hl h'
    · omega
  · have : j = n := by omega
    subst this
    refine compassref12_Heaviest.j3_eq ?_
    unfold compassref12_Heaviest.j3_t
    simp only [get_at e14, List.getElem?_cons_zero, List.getElem?_cons_succ, ldI_mk, ldS_mk]
    refine rcost (he.keep s04 fun _ _ _ h => h) hr (hm.keep s04 fun _ _ _ h => h) ht.ris fun H5 s5 => ?_
    refine bcn (fun h => no _ (s04.and s5) fun hh => h hh.sum) fun hs => ?_
    have := kk H5 0 (s04.and s5) (.inl ⟨rfl, hr, ht, hqN, hb, hed, hs⟩)
    rw [if_pos rfl] at this
    rw [hs]; exact this
end
end Go.Mz
