/-
  The document's functions of layer 12, walked, more: Has, Covers, Covered, Pots, Heaviest.
-/
import Derived.Test.YtmaeboaopebaiaaRefA
import Derived.Test.YtmaeboaopebaiaaGReb
set_option linter.unusedSimpArgs false
set_option linter.unusedVariables false
namespace Go.Mz
section
variable {E : Value → Hp → Prop}

theorem rhas {p : Option Addr} {k c : Nat} {m : Nat → Int} {x : Int} {H : Hp} {K : Bool → Hp → Prop} (hm : Rdr H p k m) (hk : k < 2 ^ 63) (kt : In m k x → K true H) (kf : ¬ In m k x → K false H) : compassref12_Has.call p k c x E H K := by
  refine compassref12_Has.of (compassref12_Has.run_eq ?_)
  unfold compassref12_Has.run_t
  refine compassref12_Has.l1_rule (fun tp tn tc x1 i5 H' => p = tp ∧ k = tn ∧ x = x1 ∧ H = H' ∧ ∃ i : Nat, i5 = i ∧ i ≤ k ∧ ¬ In m i x)
    (fun tp tn tc x1 i5 H' => k - i5.toNat) ?_ ⟨rfl, rfl, rfl, rfl, 0, rfl, by omega, fun ⟨i, hi, _⟩ => by omega⟩
  rintro tp tn tc x1 i5 H' ⟨rfl, rfl, rfl, rfl, i, rfl, hi, hn⟩ X hX
  refine compassref12_Has.b1_eq ?_
  unfold compassref12_Has.b1_t
  refine bc (fun hlt => ?_) fun hge => ?_
  · refine hm.ixI (by omega) (by omega) ?_
    simp only [Int.toNat_natCast]
    refine bc (fun h => kt ⟨i, by omega, h⟩) fun h => ?_
    rw [i64w (by omega) (by omega)]
    refine hX _ _ _ _ _ _ ⟨rfl, rfl, rfl, rfl, i + 1, by omega, by omega, fun ⟨j, hj, hv⟩ => ?_⟩ (by omega)
    by_cases ej : j = i
    · subst ej; exact h hv
    · exact hn ⟨j, by omega, hv⟩
  · have : i = k := by omega
    subst this
    exact kf hn

theorem rcovers {N : Int} {ep : Option Addr} {n ec : Nat} {e : Nat → Edg} {p : Option Addr} {q c : Nat} {cv : Nat → Int} {H : Hp} {K : Bool → Hp → Prop} (he : Rdr H ep n e) (hn : n ≤ 4096) (hm : Rdr H p q cv) (hq : q < 2 ^ 63)
    (kt : ∀ H', Step (fun _ => False) H H' → Cvr e n cv q → K true H') (kf : ∀ H', Step (fun _ => False) H H' → ¬ Cvr e n cv q → K false H') : compassref12_Covers.call N ep n ec p q c E H K := by
  refine compassref12_Covers.of (compassref12_Covers.run_eq ?_)
  unfold compassref12_Covers.run_t
  refine nwk fun b1 H1 hb1 e1 s1 => ?_
  refine compassref12_Covers.l1_rule (fun tp tn tc g2 i5 H' => p = tp ∧ q = tn ∧ b1 = g2 ∧ ∃ i : Nat, i5 = i ∧ i ≤ n ∧ Step (fun _ => False) H1 H' ∧ Cvr e i cv q)
    (fun tp tn tc g2 i5 H' => n - i5.toNat) ?_ ⟨rfl, rfl, rfl, 0, rfl, by omega, .refl, fun i hi => by omega⟩
  rintro tp tn tc g2 i5 H2 ⟨rfl, rfl, rfl, i, rfl, hi, s2, hcv⟩ X hX
  have s02 := s1.and s2
  have e12 := s2.keep _ _ e1 fun h => h
  refine compassref12_Covers.b1_eq ?_
  unfold compassref12_Covers.b1_t
  simp only [get_at e12, List.getElem?_cons_zero, List.getElem?_cons_succ, ldI_mk, ldS_mk]
  refine bc (fun hlt => ?_) fun hge => ?_
  · refine (he.keep s02 fun _ _ _ h => h).edge (by omega) (by omega) ?_
    simp only [Int.toNat_natCast]
    refine nwst rfl rfl fun b3 H3 hb3 e3 s3 => ?_
    simp only [get_at e3, List.getElem?_cons_zero, List.getElem?_cons_succ, ldI_mk, ldS_mk]
    have hm3 := hm.keep (s02.and s3) fun _ _ _ h => h
    have next : (lp (e i) ∨ In cv q (e i).fr ∨ In cv q (e i).to) → compassref12_Covers.j1 p q tc b1 (i : Int) X E H3 K := fun h => by
      refine compassref12_Covers.j1_eq ?_
      unfold compassref12_Covers.j1_t
      rw [i64w (by omega) (by omega)]
      refine hX _ _ _ _ _ _ ⟨rfl, rfl, rfl, i + 1, by omega, by omega, s2.and s3, fun j hj => ?_⟩ (by omega)
      by_cases ej : j = i
      · subst ej; exact h
      · exact hcv j (by omega)
    refine bcn (fun hl => ?_) fun hl => next (.inl hl)
    refine rhas hm3 hq (fun h => bcb (fun h' => by cases h') fun _ => next (.inr (.inl h))) fun h1 => ?_
    refine bcb (fun _ => ?_) fun h' => by cases h'
    simp only [get_at e3, List.getElem?_cons_zero, List.getElem?_cons_succ, ldI_mk, ldS_mk]
    refine rhas hm3 hq (fun h => bcb (fun h' => by cases h') fun _ => next (.inr (.inr h))) fun h2 => ?_
    refine bcb (fun _ => kf _ (s02.and s3) fun hh => ?_) fun h' => by cases h'
    rcases hh i (by omega) with h | h | h
    · exact hl h
    · exact h1 h
    · exact h2 h
  · have : i = n := by omega
    subst this
    exact kt _ s02 hcv

theorem rcovered {N : Int} {ep : Option Addr} {n ec : Nat} {e : Nat → Edg} {p : Option Addr} {k c : Nat} {m : Nat → Int} {vp : Option Addr} {q vc : Nat} {cv : Nat → Int} {H : Hp} {K : Int → Int → Hp → Prop}
    (he : Rdr H ep n e) (hm : Rdr H p k m) (hk : k < 2 ^ 63) (hv : Rdr H vp q cv) (hq : q < 2 ^ 63)
    (kk : ∀ H' c, Step (fun _ => False) H H' → Out N n e (CovP N n e m k cv q) c → K (if c = 0 then (k : Int) else 0) c H') : compassref12_Covered.call N ep n ec p k c vp q vc E H K := by
  refine compassref12_Covered.of (compassref12_Covered.run_eq ?_)
  unfold compassref12_Covered.run_t
  refine nwk fun b1 H1 hb1 e1 s1 => ?_
  simp only [get_at e1, List.getElem?_cons_zero, List.getElem?_cons_succ, ldI_mk, ldS_mk]
  refine rmatching (he.keep s1 fun _ _ _ h => h) (hm.keep s1 fun _ _ _ h => h) hk fun H2 r s2 o => ?_
  have s02 := s1.and s2
  have e12 := s2.keep _ _ e1 fun h => h
  have neg : ∀ H' c', Step (fun _ => False) H H' → c' ≠ 0 → Out N n e (CovP N n e m k cv q) c' → K 0 c' H' := fun H' c' s h0 h => by
    have := kk H' c' s h
    rwa [if_neg h0] at this
  refine bcn (fun hr0 => ?_) fun hr0 => ?_
  · refine neg _ _ s02 hr0 ?_
    rcases o with ⟨h, _⟩ | h | ⟨h1, h2, h3⟩
    · exact absurd h hr0
    · exact .inr (.inl h)
    · exact .inr (.inr ⟨h1, h2, fun hh => h3 hh.tk⟩)
  · obtain ⟨hr, ht⟩ := o.ok hr0
    have no : ∀ H', Step (fun _ => False) H H' → ¬ CovP N n e m k cv q → K 0 221 H' := fun H' s h => neg H' 221 s (by decide) (.inr (.inr ⟨rfl, hr, h⟩))
    simp only [get_at e12, List.getElem?_cons_zero, List.getElem?_cons_succ, ldI_mk, ldS_mk]
    refine rrising (hv.keep s02 fun _ _ _ h => h) hq (fun hs => ?_) fun hs => bcb (fun _ => no _ s02 fun hh => hs hh.ris) fun h => by cases h
    refine bcb (fun h => by cases h) fun _ => ?_
    try simp only [get_at e12, List.getElem?_cons_zero, List.getElem?_cons_succ, ldI_mk, ldS_mk]
    refine rcovers (he.keep s02 fun _ _ _ h => h) hr.n1 (hv.keep s02 fun _ _ _ h => h) hq (fun H3 s3 hc => ?_) fun H3 s3 hc => bcb (fun _ => no _ (s02.and s3) fun hh => hc hh.cvr) fun h => by cases h
    refine bcb (fun h => by cases h) fun _ => ?_
    refine bcn (fun hkq => no _ (s02.and s3) fun hh => hkq (by rw [hh.eq])) fun hkq => ?_
    have := kk H3 0 (s02.and s3) (.inl ⟨rfl, hr, ht, hs, hc, by omega⟩)
    rwa [if_pos rfl] at this

/-- a number for each node, none too great -/
def Pots (N : Int) (pot : Nat → Int) (q : Nat) : Prop := (q : Int) = N ∧ ∀ v, v < q → -4398046511104 ≤ pot v ∧ pot v ≤ 4398046511104

end
end Go.Mz
