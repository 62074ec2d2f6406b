/-
  The document's functions of layers 3, 11 and 12, walked: Check, Costs, Rising, At, Taken, Matching, Cost.
-/
import Derived.Test.YtbocpfdlfnodfaaPkX
import Derived.Test.YtbocpfdlfnodfaaGRea
set_option linter.unusedSimpArgs false
set_option linter.unusedVariables false
namespace Go.Mz
section
variable {E : Value → Hp → Prop}

theorem rrising {p : Option Addr} {k c : Nat} {n : Int} {m : Nat → Int} {H : Hp} {K : Bool → Hp → Prop} (hm : Rdr H p k m) (hk : k < 2 ^ 63)
    (kt : Ris m k n → K true H) (kf : ¬ Ris m k n → K false H) : compassref12_Rising.call p k c n E H K := by
  refine compassref12_Rising.of (compassref12_Rising.run_eq ?_)
  unfold compassref12_Rising.run_t
  refine compassref12_Rising.l1_rule (fun tp tn tc n1 i5 H' => p = tp ∧ k = tn ∧ n = n1 ∧ H = H' ∧ ∃ i : Nat, i5 = i ∧ i ≤ k ∧ Ris m i n)
    (fun tp tn tc n1 i5 H' => k - i5.toNat) ?_ ⟨rfl, rfl, rfl, rfl, 0, rfl, by omega, fun i hi => by omega⟩
  rintro tp tn tc n1 i5 H' ⟨rfl, rfl, rfl, rfl, i, rfl, hi, hr⟩ X hX
  refine compassref12_Rising.b1_eq ?_
  unfold compassref12_Rising.b1_t
  refine bc (fun hlt => ?_) fun hge => ?_
  · refine hm.ixI (by omega) (by omega) ?_
    simp only [Int.toNat_natCast]
    refine bc (fun h => kf fun hh => by have := (hh i (by omega)).1; omega) fun h1 => ?_
    refine hm.ixI (by omega) (by omega) ?_
    simp only [Int.toNat_natCast]
    refine bc (fun h => kf fun hh => by have := (hh i (by omega)).2.1; omega) fun h2 => ?_
    have next : (0 < i → m (i - 1) < m i) → compassref12_Rising.j1 p k tc n (i : Int) X E H K := fun h3 => by
      refine compassref12_Rising.j1_eq ?_
      unfold compassref12_Rising.j1_t
      rw [i64w (by omega) (by omega)]
      refine hX _ _ _ _ _ _ ⟨rfl, rfl, rfl, rfl, i + 1, by omega, by omega, fun j hj => ?_⟩ (by omega)
      by_cases e : j = i
      · subst e; exact ⟨by omega, by omega, h3⟩
      · exact hr j (by omega)
    refine bc (fun h0 => ?_) fun h0 => next fun h => by omega
    refine hm.ixI (by omega) (by omega) ?_
    rw [i64w (by omega) (by omega)]
    refine hm.ixI (by omega) (by omega) ?_
    simp only [Int.toNat_natCast]
    have ei : ((i : Int) - 1).toNat = i - 1 := by omega
    rw [ei]
    refine bc (fun h => kf fun hh => by have := (hh i (by omega)).2.2 (by omega); omega) fun h => next fun _ => by omega
  · have : i = k := by omega
    subst this
    exact kt hr

theorem rat {N : Int} {ep : Option Addr} {n ec : Nat} {e : Nat → Edg} {p : Option Addr} {k c : Nat} {m : Nat → Int} {v : Int} {H : Hp} {K : Int → Hp → Prop} (he : Rdr H ep n e) (hn : n ≤ 4096) (hm : Rdr H p k m) (hs : Ris m k n)
    (kk : ∀ H', Step (fun _ => False) H H' → K (dg e m k v) H') : compassref12_At.call N ep n ec p k c v E H K := by
  have hl := hs.len
  refine compassref12_At.of (compassref12_At.run_eq ?_)
  unfold compassref12_At.run_t
  refine nwk fun b1 H1 hb1 e1 s1 => ?_
  have he1 := he.keep s1 fun _ _ _ h => h
  have hm1 := hm.keep s1 fun _ _ _ h => h
  refine compassref12_At.l1_rule (fun tp tn tc v2 g3 n7 i8 H' => p = tp ∧ k = tn ∧ v = v2 ∧ b1 = g3 ∧ H1 = H' ∧ ∃ i : Nat, i8 = i ∧ i ≤ k ∧ n7 = (dg e m i v : Int))
    (fun tp tn tc v2 g3 n7 i8 H' => k - i8.toNat) ?_ ⟨rfl, rfl, rfl, rfl, rfl, 0, rfl, by omega, rfl⟩
  rintro tp tn tc v2 g3 n7 i8 H' ⟨rfl, rfl, rfl, rfl, rfl, i, rfl, hi, rfl⟩ X hX
  refine compassref12_At.b1_eq ?_
  unfold compassref12_At.b1_t
  refine bc (fun hlt => ?_) fun hge => ?_
  · have hmi := hs i (by omega)
    have hdl := dg_le (e := e) (m := m) (v := v) i
    simp only [get_at e1, List.getElem?_cons_zero, List.getElem?_cons_succ, ldI_mk, ldS_mk]
    have next : ∀ x : Int, x = (dg e m (i + 1) v : Int) → compassref12_At.j2 p k tc v b1 x (i : Int) X E H1 K := fun x hx => by
      refine compassref12_At.j2_eq ?_
      unfold compassref12_At.j2_t
      rw [i64w (by omega) (by omega)]
      exact hX _ _ _ _ _ _ _ _ ⟨rfl, rfl, rfl, rfl, rfl, i + 1, by omega, by omega, hx⟩ (by omega)
    have hds : (dg e m (i + 1) v : Int) = (dg e m i v : Int) + (if (e (m i).toNat).fr = v then 1 else 0) + (if (e (m i).toNat).to = v then 1 else 0) := by
      show ((dg e m i v + (if (e (m i).toNat).fr = v then 1 else 0) + (if (e (m i).toNat).to = v then 1 else 0) : Nat) : Int) = _
      split <;> split <;> simp
    have mid : ∀ x : Int, x = (dg e m i v : Int) + (if (e (m i).toNat).fr = v then 1 else 0) → compassref12_At.j1 p k tc v b1 x (i : Int) X E H1 K := fun x hx => by
      have hx2 : x ≤ 8193 ∧ 0 ≤ x := by rw [hx]; split <;> omega
      refine compassref12_At.j1_eq ?_
      unfold compassref12_At.j1_t
      simp only [get_at e1, List.getElem?_cons_zero, List.getElem?_cons_succ, ldI_mk, ldS_mk]
      refine hm1.ixI (by omega) (by omega) ?_
      simp only [Int.toNat_natCast]
      refine he1.edgeT (by omega) (by omega) ?_
      refine bc (fun h => ?_) fun h => ?_
      · rw [i64w (by omega) (by omega)]
        exact next _ (by rw [hds, hx, if_pos h])
      · exact next _ (by rw [hds, hx, if_neg h]; omega)
    refine hm1.ixI (by omega) (by omega) ?_
    simp only [Int.toNat_natCast]
    refine he1.edgeF (by omega) (by omega) ?_
    refine bc (fun h => ?_) fun h => ?_
    · rw [i64w (by omega) (by omega)]
      exact mid _ (by rw [if_pos h])
    · exact mid _ (by rw [if_neg h]; omega)
  · have : i = k := by omega
    subst this
    exact kk _ s1

theorem rtaken {N : Int} {ep : Option Addr} {n ec : Nat} {e : Nat → Edg} {p : Option Addr} {k c : Nat} {m : Nat → Int} {qp : Option Addr} {q qc : Nat} {most : Nat → Int} {H : Hp} {K : Bool → Hp → Prop}
    (he : Rdr H ep n e) (hr : Right N n e) (hm : Rdr H p k m) (hk : k < 2 ^ 63) (hq : Rdr H qp q most) (hN : N ≤ q) (h0 : ∀ v, v < N.toNat → 0 ≤ most v)
    (kt : ∀ H', Step (fun _ => False) H H' → Tkn N n e m k (fun v => most v.toNat) → K true H') (kf : ∀ H', Step (fun _ => False) H H' → ¬ Tkn N n e m k (fun v => most v.toNat) → K false H') :
    compassref12_Taken.call N ep n ec p k c qp q qc E H K := by
  have hN0 := hr.N0; have hN1 := hr.N1; have hn1 := hr.n1
  refine compassref12_Taken.of (compassref12_Taken.run_eq ?_)
  unfold compassref12_Taken.run_t
  refine nwk fun b1 H1 hb1 e1 s1 => ?_
  simp only [get_at e1, List.getElem?_cons_zero, List.getElem?_cons_succ, ldI_mk, ldS_mk]
  refine rrising (hm.keep s1 fun _ _ _ h => h) hk (fun hris => ?_) fun hn => bcb (fun _ => kf _ s1 fun h => hn h.ris) fun h => by cases h
  refine bcb (fun h => by cases h) fun _ => ?_
  have hl := hris.len
  have he1 := he.keep s1 fun _ _ _ h => h
  have hm1 := hm.keep s1 fun _ _ _ h => h
  refine compassref12_Taken.l1_rule (fun tp tn tc op on oc g3 i7 H' => p = tp ∧ k = tn ∧ qp = op ∧ q = on ∧ b1 = g3 ∧ H1 = H' ∧ ∃ i : Nat, i7 = i ∧ i ≤ k ∧ ∀ a, a < i → ¬ lp (e (m a).toNat))
    (fun tp tn tc op on oc g3 i7 H' => k - i7.toNat) ?_ ⟨rfl, rfl, rfl, rfl, rfl, rfl, 0, rfl, by omega, fun a ha => by omega⟩
  rintro tp tn tc op on oc g3 i7 H' ⟨rfl, rfl, rfl, rfl, rfl, rfl, i, rfl, hi, hnl⟩ X hX
  refine compassref12_Taken.b1_eq ?_
  unfold compassref12_Taken.b1_t
  refine bc (fun hlt => ?_) fun hge => ?_
  · have hmi := hris i (by omega)
    simp only [get_at e1, List.getElem?_cons_zero, List.getElem?_cons_succ, ldI_mk, ldS_mk]
    refine hm1.ixI (by omega) (by omega) ?_
    simp only [Int.toNat_natCast]
    refine he1.edgeF (by omega) (by omega) ?_
    refine hm1.ixI (by omega) (by omega) ?_
    simp only [Int.toNat_natCast]
    refine he1.edgeT (by omega) (by omega) ?_
    refine bc (fun h => kf _ s1 fun hh => hh.nl i (by omega) h) fun h => ?_
    rw [i64w (by omega) (by omega)]
    refine hX _ _ _ _ _ _ _ _ _ ⟨rfl, rfl, rfl, rfl, rfl, rfl, i + 1, by omega, by omega, fun a ha => ?_⟩ (by omega)
    by_cases ea : a = i
    · subst ea; exact h
    · exact hnl a (by omega)
  · have : i = k := by omega
    subst this
    clear hX
    refine compassref12_Taken.j1_eq ?_
    unfold compassref12_Taken.j1_t
    refine compassref12_Taken.l2_rule (fun tp tn tc op on oc g3 v8 H' => p = tp ∧ i = tn ∧ qp = op ∧ q = on ∧ b1 = g3 ∧ ∃ v : Nat, v8 = v ∧ (v : Int) ≤ N ∧ Step (fun _ => False) H1 H' ∧ ∀ u : Nat, u < v → (dg e m i u : Int) ≤ most u)
      (fun tp tn tc op on oc g3 v8 H' => N.toNat - v8.toNat) ?_ ⟨rfl, rfl, rfl, rfl, rfl, 0, rfl, by omega, .refl, fun a ha => by omega⟩
    rintro tp tn tc op on oc g3 v8 H2 ⟨rfl, rfl, rfl, rfl, rfl, v, rfl, hv, s2, hle⟩ Y hY
    refine compassref12_Taken.b2_eq ?_
    unfold compassref12_Taken.b2_t
    have e12 := s2.keep _ _ e1 fun h => h
    have s02 := s1.and s2
    simp only [get_at e12, List.getElem?_cons_zero, List.getElem?_cons_succ, ldI_mk, ldS_mk]
    refine bc (fun hlt => ?_) fun hge => ?_
    · refine (hq.keep s02 fun _ _ _ h => h).ix (α := Int) (by omega) (by omega) fun b o _ hg => ?_
      have g0 := hg 0 (by decide)
      simp only [El.enc, Nat.add_zero, List.getElem?_cons_zero, Int.toNat_natCast] at g0
      rw [g0]
      simp only [ldI_mk]
      refine rat (he.keep s02 fun _ _ _ h => h) hn1 (hm.keep s02 fun _ _ _ h => h) hris fun H3 s3 => ?_
      rw [s3.get g0 fun h => h]
      refine ⟨rfl, ?_⟩
      refine bc (fun h => kf _ (s02.and s3) fun hh => ?_) fun h => ?_
      · have h1 := h0 v (by omega)
        have h2 := hh.mst v (by omega) (by omega) (by omega)
        simp only [Int.toNat_natCast] at h2
        omega
      · rw [i64w (by omega) (by omega)]
        refine hY _ _ _ _ _ _ _ _ _ ⟨rfl, rfl, rfl, rfl, rfl, v + 1, by omega, by omega, s2.and s3, fun u hu => ?_⟩ (by omega)
        by_cases eu : u = v
        · subst eu; omega
        · exact hle u (by omega)
    · refine kt _ s02 ⟨hris, hnl, fun u u0 u1 _ => ?_⟩
      have := hle u.toNat (by omega)
      rwa [show ((u.toNat : Nat) : Int) = u by omega] at this

end
end Go.Mz
