/-
  The document's functions of layer 12, walked, more: All, Uneven, ints, Evens, Near, Doubled.
-/
import Derived.Test.YtjdhhepphbhjgaaRefF
import Derived.Test.YtjdhhepphbhjgaaPkX
import Derived.Test.YtjdhhepphbhjgaaGRef
set_option linter.unusedSimpArgs false
set_option linter.unusedVariables false
namespace Go.Mz
section
variable {E : Value → Hp → Prop}

theorem dg_sub {e : Nat → Edg} {tw : Nat → Int} {v : Int} : ∀ {k : Nat}, dg (sub e tw) (fun i => (i : Int)) k v = dg e tw k v
  | 0 => rfl
  | k + 1 => by
    have h : sub e tw ((k : Int)).toNat = e (tw k).toNat := by rw [Int.toNat_natCast]; rfl
    show dg (sub e tw) (fun i => (i : Int)) k v + _ + _ = dg e tw k v + _ + _
    rw [dg_sub, h]

theorem sub_id {e : Nat → Edg} : sub e (fun i => (i : Int)) = e := by
  funext i
  show e ((i : Int)).toNat = e i
  rw [Int.toNat_natCast]

theorem ris_id (n : Nat) : Ris (fun i => (i : Int)) n n := fun a ha => ⟨by show (0 : Int) ≤ (a : Int); omega, by show (a : Int) < (n : Int); omega, fun h => by show ((a - 1 : Nat) : Int) < (a : Int); omega⟩

theorem rall {N : Int} {ep : Option Addr} {n ec : Nat} {e : Nat → Edg} {H : Hp} {K : Option Addr → Nat → Nat → Hp → Prop} (he : Rdr H ep n e) (hn : n ≤ 4096)
    (kk : ∀ p c H', Step (fun _ => False) H H' → Row H' p n c (fun i => (i : Int)) → K p n c H') : compassref12_All.call N ep n ec E H K := by
  refine compassref12_All.of (compassref12_All.run_eq ?_)
  unfold compassref12_All.run_t
  refine nwk fun b1 H1 hb1 e1 s1 => ?_
  refine compassref12_All.l1_rule (fun g1 op on oc i4 H' => b1 = g1 ∧ ∃ i : Nat, i4 = i ∧ i = on ∧ i ≤ n ∧ Step (fun _ => False) H H' ∧ H' b1 = some ⟨[.int .i64 N, .slice ep n ec], 24⟩ ∧ Row H' op i oc (fun i => (i : Int)) ∧ ∀ y, fpS op y → H y = none ∧ y ≠ b1)
    (fun g1 op on oc i4 H' => n - i4.toNat) ?_ ⟨rfl, 0, rfl, rfl, by omega, s1, e1, Row.nil, fun y hy => (by rw [fpS_none] at hy; exact hy.elim)⟩
  rintro g1 op on oc i4 H2 ⟨rfl, i, rfl, rfl, hi, s2, e2, ro, hop⟩ X hX
  refine compassref12_All.b1_eq ?_
  unfold compassref12_All.b1_t
  simp only [get_at e2, List.getElem?_cons_zero, List.getElem?_cons_succ, ldI_mk, ldS_mk]
  refine bc (fun hlt => ?_) fun hge => ?_
  · refine ro.app (α := Int) (i : Int) rfl (by omega) (by decide) fun p' c' H3 r3 s3 f3 => ?_
    rw [i64w (by omega) (by omega)]
    have e3 := s3.keep _ _ e2 fun h => (hop _ h).2 rfl
    refine hX _ _ _ _ _ _ ⟨rfl, i + 1, by omega, rfl, by omega, s2.own s3 fun y hy => (hop y hy).1, e3, r3.congr fun j hj => ?_, fun y hy => ?_⟩ (by omega)
    · by_cases ej : j = i
      · subst ej; rw [upf_same]
      · rw [upf_ne ej]
    · rcases f3 y hy with h | h
      · exact hop y h
      · exact ⟨s2.mono _ h, fun ey => (by rw [ey, e2] at h; cases h)⟩
  · have : i = n := by omega
    subst this
    exact kk _ _ _ s2 ro

theorem runeven {N : Int} {ep : Option Addr} {n ec : Nat} {e : Nat → Edg} {p : Option Addr} {k c : Nat} {tw : Nat → Int} {H : Hp} {K : Option Addr → Nat → Nat → Hp → Prop} (he : Rdr H ep n e) (hr : Right N n e) (hm : Rdr H p k tw) (hs : Ris tw k n)
    (kk : ∀ p c H', Step (fun _ => False) H H' → Row H' p (odds (sub e tw) k N.toNat).length c (lsF (odds (sub e tw) k N.toNat)) → K p (odds (sub e tw) k N.toNat).length c H') : compassref12_Uneven.call N ep n ec p k c E H K := by
  have hN0 := hr.N0; have hN1 := hr.N1; have hn1 := hr.n1
  have hkl := hs.len
  refine compassref12_Uneven.of (compassref12_Uneven.run_eq ?_)
  unfold compassref12_Uneven.run_t
  refine nwk fun b1 H1 hb1 e1 s1 => ?_
  refine compassref12_Uneven.l1_rule (fun tp tn tc g2 op on oc v6 H' => p = tp ∧ k = tn ∧ b1 = g2 ∧ ∃ i : Nat, v6 = i ∧ on = (odds (sub e tw) k i).length ∧ i ≤ N.toNat ∧ Step (fun _ => False) H H' ∧ H' b1 = some ⟨[.int .i64 N, .slice ep n ec], 24⟩ ∧ Row H' op (odds (sub e tw) k i).length oc (lsF (odds (sub e tw) k i)) ∧ ∀ y, fpS op y → H y = none ∧ y ≠ b1)
    (fun tp tn tc g2 op on oc v6 H' => N.toNat - v6.toNat) ?_ ⟨rfl, rfl, rfl, 0, rfl, rfl, by omega, s1, e1, Row.nil, fun y hy => (by rw [fpS_none] at hy; exact hy.elim)⟩
  rintro tp tn tc g2 op on oc v6 H2 ⟨rfl, rfl, rfl, i, rfl, rfl, hi, s2, e2, ro, hop⟩ X hX
  have hol := odds_len (e := sub e tw) (n := k) (N := i)
  refine compassref12_Uneven.b1_eq ?_
  unfold compassref12_Uneven.b1_t
  simp only [get_at e2, List.getElem?_cons_zero, List.getElem?_cons_succ, ldI_mk, ldS_mk]
  refine bc (fun hlt => ?_) fun hge => ?_
  · refine rat (he.keep s2 fun _ _ _ h => h) hn1 (hm.keep s2 fun _ _ _ h => h) hs fun H3 s3 => ?_
    refine ⟨by decide, ?_⟩
    have hmd : Int.tmod ((dg e tw k (i : Int) : Nat) : Int) 2 = ((dg e tw k (i : Int) % 2 : Nat) : Int) := by
      rw [Int.tmod_eq_emod_of_nonneg (by omega)]; omega
    rw [hmd]
    have hdeg : deg (sub e tw) k i = dg e tw k (i : Int) := dg_sub
    have e3 := s3.keep _ _ e2 fun h => h
    have ro3 := ro.keep s3 fun _ _ h => h
    have next : ∀ H' op' on' oc', on' = (odds (sub e tw) k (i + 1)).length → Step (fun _ => False) H H' → H' b1 = some ⟨[.int .i64 N, .slice ep n ec], 24⟩ → Row H' op' (odds (sub e tw) k (i + 1)).length oc' (lsF (odds (sub e tw) k (i + 1))) → (∀ y, fpS op' y → H y = none ∧ y ≠ b1) →
        compassref12_Uneven.j1 p k tc b1 op' on' oc' (i : Int) X E H' K := fun H' op' on' oc' hon s' e' r' h' => by
      refine compassref12_Uneven.j1_eq ?_
      unfold compassref12_Uneven.j1_t
      rw [i64w (by omega) (by omega)]
      exact hX _ _ _ _ _ _ _ _ _ ⟨rfl, rfl, rfl, i + 1, by omega, hon, by omega, s', e', r', h'⟩ (by omega)
    refine bc (fun h1 => ?_) fun h1 => ?_
    · have hl : odds (sub e tw) k (i + 1) = odds (sub e tw) k i ++ [i] := by rw [odds_succ, if_pos (by rw [hdeg]; omega)]
      refine ro3.app (α := Int) (i : Int) rfl (by omega) (by decide) fun p' c' H4 r4 s4 f4 => ?_
      have e4 := s4.keep _ _ e3 fun h => (hop _ h).2 rfl
      refine next _ _ _ _ (by rw [hl]; simp) ((s2.and s3).own s4 fun y hy => (hop y hy).1) e4 ?_ fun y hy => ?_
      · rw [hl, ← lsF_app]; simpa using r4
      · rcases f4 y hy with h | h
        · exact hop y h
        · exact ⟨(s2.and s3).mono _ h, fun ey => (by rw [ey, e3] at h; cases h)⟩
    · have hl : odds (sub e tw) k (i + 1) = odds (sub e tw) k i := by rw [odds_succ, if_neg (by rw [hdeg]; omega)]
      exact next _ _ _ _ (by rw [hl]) (s2.and s3) e3 (by rw [hl]; exact ro3) hop
  · have : i = N.toNat := by omega
    subst this
    exact kk _ _ _ s2 ro

theorem rints {p : Option Addr} {n c : Nat} {f : Nat → Int} {p' : Option Addr} {n' c' : Nat} {f' : Nat → Int} {H : Hp} {K : Bool → Hp → Prop} (hf : Rdr H p n f) (hf' : Rdr H p' n' f') (hn : n < 2 ^ 62)
    (kt : n = n' → (∀ i, i < n → f i = f' i) → K true H) (kf : ¬ (n = n' ∧ ∀ i, i < n → f i = f' i) → K false H) : compassref12_ints.call p n c p' n' c' E H K := by
  refine compassref12_ints.of (compassref12_ints.run_eq ?_)
  unfold compassref12_ints.run_t
  refine bcn (fun h => kf fun hh => h (by rw [hh.1])) fun hnn => ?_
  have hnn' : n = n' := by omega
  refine compassref12_ints.l1_rule (fun ap an ac bp bn bcc i5 H' => p = ap ∧ n = an ∧ p' = bp ∧ n' = bn ∧ H = H' ∧ ∃ i : Nat, i5 = i ∧ i ≤ n ∧ ∀ a, a < i → f a = f' a)
    (fun ap an ac bp bn bcc i5 H' => n - i5.toNat) ?_ ⟨rfl, rfl, rfl, rfl, rfl, 0, rfl, by omega, fun a ha => by omega⟩
  rintro ap an ac bp bn bcc i5 H' ⟨rfl, rfl, rfl, rfl, rfl, i, rfl, hi, hq⟩ X hX
  refine compassref12_ints.b1_eq ?_
  unfold compassref12_ints.b1_t
  refine bc (fun hlt => ?_) fun hge => ?_
  · refine hf.ixI (by omega) (by omega) ?_
    refine hf'.ixI (by omega) (by omega) ?_
    simp only [Int.toNat_natCast]
    refine bcn (fun h => kf fun hh => h (hh.2 i (by omega))) fun h => ?_
    rw [i64w (by omega) (by omega)]
    refine hX _ _ _ _ _ _ _ _ ⟨rfl, rfl, rfl, rfl, rfl, i + 1, by omega, by omega, fun a ha => ?_⟩ (by omega)
    by_cases ea : a = i
    · subst ea; exact h
    · exact hq a (by omega)
  · have : i = n := by omega
    subst this
    exact kt hnn' hq

theorem revens {N : Int} {ep : Option Addr} {n ec : Nat} {e : Nat → Edg} {p : Option Addr} {k c : Nat} {tw : Nat → Int} {H : Hp} {K : Bool → Hp → Prop} (he : Rdr H ep n e) (hr : Right N n e) (hm : Rdr H p k tw) (hk : k < 2 ^ 63)
    (kt : ∀ H', Step (fun _ => False) H H' → Ris tw k n → odds (sub e tw) k N.toNat = odds e n N.toNat → K true H') (kf : ∀ H', Step (fun _ => False) H H' → ¬ (Ris tw k n ∧ odds (sub e tw) k N.toNat = odds e n N.toNat) → K false H') :
    compassref12_Evens.call N ep n ec p k c E H K := by
  have hN0 := hr.N0; have hN1 := hr.N1; have hn1 := hr.n1
  refine compassref12_Evens.of (compassref12_Evens.run_eq ?_)
  unfold compassref12_Evens.run_t
  refine nwk fun b1 H1 hb1 e1 s1 => ?_
  simp only [get_at e1, List.getElem?_cons_zero, List.getElem?_cons_succ, ldI_mk, ldS_mk]
  refine rrising (hm.keep s1 fun _ _ _ h => h) hk (fun hs => ?_) fun h => bcb (fun h => by cases h) fun _ => kf _ s1 fun hh => h hh.1
  refine bcb (fun _ => ?_) fun h => by cases h
  simp only [get_at e1, List.getElem?_cons_zero, List.getElem?_cons_succ, ldI_mk, ldS_mk]
  refine runeven (he.keep s1 fun _ _ _ h => h) hr (hm.keep s1 fun _ _ _ h => h) hs fun ap ac H2 s2 ra => ?_
  have e2 := s2.keep _ _ e1 fun h => h
  have s02 := s1.and s2
  simp only [get_at e2, List.getElem?_cons_zero, List.getElem?_cons_succ, ldI_mk, ldS_mk, true_and]
  refine rall (he.keep s02 fun _ _ _ h => h) hn1 fun lp' lc H3 s3 rl => ?_
  have e3 := s3.keep _ _ e2 fun h => h
  have s03 := s02.and s3
  simp only [get_at e3, List.getElem?_cons_zero, List.getElem?_cons_succ, ldI_mk, ldS_mk, true_and]
  refine runeven (he.keep s03 fun _ _ _ h => h) hr rl.rdr (ris_id n) fun bp bc' H4 s4 rb => ?_
  rw [sub_id] at rb ⊢
  have hol := odds_len (e := sub e tw) (n := k) (N := N.toNat)
  refine rints (ra.keep (s3.and s4) fun _ _ h => h).rdr rb.rdr (by omega) (fun h1 h2 => kt _ (s03.and s4) hs (lsF_ext h1 h2)) fun h => kf _ (s03.and s4) fun hh => h (by rw [hh.2]; exact ⟨rfl, fun _ _ => rfl⟩)

end
end Go.Mz
