/-
  The document's functions of layers 3, 11 and 12, walked: Check, Costs, Rising, At, Taken, Matching, Cost.
-/
import Derived.Test.YtmaeboaopebaiaaPkX
import Derived.Test.YtmaeboaopebaiaaGRea
set_option linter.unusedSimpArgs false
set_option linter.unusedVariables false
namespace Go.Mz
section
variable {E : Value → Hp → Prop}

theorem rbad {N a b c d : Int} {H : Hp} {K : Int → Hp → Prop} (k : ∀ H', Step (fun _ => False) H H' → K (badE N (a, b, c, d)) H') : compassref03_Bad.call N a b c d E H K := by
  refine compassref03_Bad.of (compassref03_Bad.run_eq ?_)
  unfold compassref03_Bad.run_t
  refine nwk fun b1 H1 hb1 e1 s1 => ?_
  simp only [get_at e1, List.getElem?_cons_zero, List.getElem?_cons_succ, ldI_mk]
  have k := k H1 s1
  have b30 : (a < 0 ∨ N ≤ a ∨ b < 0 ∨ N ≤ b) → K 30 H1 := fun h => by
    have : badE N (a, b, c, d) = 30 := by unfold badE; exact if_pos h
    rwa [this] at k
  have b31 : ¬ (a < 0 ∨ N ≤ a ∨ b < 0 ∨ N ≤ b) → ¬ (0 ≤ c ∧ c ≤ 1048576 ∧ -1048576 ≤ d ∧ d ≤ 1048576) → K 31 H1 := fun h h' => by
    have : badE N (a, b, c, d) = 31 := by unfold badE; rw [if_neg h]; exact if_neg h'
    rwa [this] at k
  refine bc (fun h => b30 (.inl h)) fun h1 => ?_
  refine bc (fun h => b30 (.inr (.inr (.inl h)))) fun h2 => ?_
  refine bc (fun h => b30 (.inr (.inl h))) fun h3 => ?_
  refine bc (fun h => b30 (.inr (.inr (.inr h)))) fun h4 => ?_
  refine bc (fun h => b31 (by omega) (by omega)) fun h5 => ?_
  refine bc (fun h => b31 (by omega) (by omega)) fun h6 => ?_
  refine bc (fun h => b31 (by omega) (by omega)) fun h7 => ?_
  refine bc (fun h => b31 (by omega) (by omega)) fun h8 => ?_
  have : badE N (a, b, c, d) = 0 := by unfold badE; rw [if_neg (show ¬ (a < 0 ∨ N ≤ a ∨ b < 0 ∨ N ≤ b) by omega)]; exact if_pos (show 0 ≤ c ∧ c ≤ 1048576 ∧ -1048576 ≤ d ∧ d ≤ 1048576 by omega)
  rwa [this] at k

theorem rcheckA {N : Int} {p : Option Addr} {n c : Nat} {e : Nat → Edg} {H : Hp} {K : Int → Int → Hp → Prop} (he : Rdr H p n e)
    (k : ∀ H' a, Step (fun _ => False) H H' → ChkAt N n e a → K (chk N n e) a H') : compassref03_Check.call N p n c E H K := by
  refine compassref03_Check.of (compassref03_Check.run_eq ?_)
  unfold compassref03_Check.run_t
  refine nwk fun b1 H1 hb1 e1 s1 => ?_
  simp only [get_at e1, List.getElem?_cons_zero, List.getElem?_cons_succ, ldI_mk, ldS_mk]
  have bad : (N < 0 ∨ 1024 < N ∨ 4096 < n) → K 3 0 H1 := fun hs => by
    have hc : 3 = chk N n e := by unfold chk; rw [if_pos hs]
    rw [hc]; exact k _ _ s1 (ChkAt.none (.inl hs))
  refine bc (fun h => bad (by omega)) fun h1 => ?_
  refine bc (fun h => bad (by omega)) fun h2 => ?_
  refine bc (fun h => bad (by omega)) fun h3 => ?_
  have hsz : ¬ (N < 0 ∨ 1024 < N ∨ 4096 < n) := by omega
  have hc : chk N n e = chkE N e n := by unfold chk; rw [if_neg (by omega)]
  refine compassref03_Check.l1_rule (fun g1 i4 H' => b1 = g1 ∧ ∃ i : Nat, i4 = i ∧ i ≤ n ∧ chkE N e i = 0 ∧ Step (fun _ => False) H H' ∧ H' b1 = some ⟨[.int .i64 N, .slice p n c], 24⟩)
    (fun g1 i4 H' => n - i4.toNat) ?_ ⟨rfl, 0, rfl, by omega, rfl, s1, e1⟩
  clear e1 s1 bad
  rintro g1 i4 H3 ⟨rfl, i, rfl, hi, hz, s3, e3⟩ X hX
  refine compassref03_Check.b1_eq ?_
  unfold compassref03_Check.b1_t
  simp only [get_at e3, List.getElem?_cons_zero, List.getElem?_cons_succ, ldI_mk, ldS_mk]
  refine bc (fun hlt => ?_) fun hge => ?_
  · refine (he.keep s3 fun _ _ _ h => h).edge (by omega) (by omega) ?_
    simp only [Int.toNat_natCast]
    refine rbad fun H4 s4 => ?_
    have s04 := s3.and s4
    refine bcn (fun hb => ?_) fun hb => ?_
    · have h1 : chkE N e (i + 1) = badE N (e i) := by
        show (if chkE N e i = 0 then badE N (e i) else chkE N e i) = _
        rw [if_pos hz]
      have : chk N n e = badE N (e i) := by
        rw [hc, show n = i + 1 + (n - (i + 1)) by omega, chkE_stay (by rw [h1]; exact hb), h1]
      have k := k H4 i s04 (ChkAt.here hsz (by omega) hz hb)
      rwa [this] at k
    · rw [i64w (by omega) (by omega)]
      refine hX _ _ _ ⟨rfl, i + 1, by omega, by omega, ?_, s04, s4.keep _ _ e3 fun h => h⟩ (by omega)
      show (if chkE N e i = 0 then badE N (e i) else chkE N e i) = 0
      rw [if_pos hz]; exact hb
  · have : i = n := by omega
    subst this
    have k := k H3 0 s3 (ChkAt.none (.inr hz))
    rwa [hc, hz] at k

theorem rcheck {N : Int} {p : Option Addr} {n c : Nat} {e : Nat → Edg} {H : Hp} {K : Int → Int → Hp → Prop} (he : Rdr H p n e)
    (k : ∀ H' a, Step (fun _ => False) H H' → K (chk N n e) a H') : compassref03_Check.call N p n c E H K := rcheckA he fun H' a s _ => k H' a s

theorem rrising {p : Option Addr} {k c : Nat} {n : Int} {m : Nat → Int} {H : Hp} {K : Bool → Hp → Prop} (hm : Rdr H p k m) (hk : k < 2 ^ 63)
    (kt : Ris m k n → K true H) (kf : ¬ Ris m k n → K false H) : compassref12_Rising.call p k c n E H K := by
  refine compassref12_Rising.of (compassref12_Rising.run_eq ?_)
  unfold compassref12_Rising.run_t
  refine compassref12_Rising.l1_rule (fun tp tn tc n1 i5 H' => p = tp ∧ k = tn ∧ n = n1 ∧ H = H' ∧ ∃ i : Nat, i5 = i ∧ i ≤ k ∧ Ris m i n)
    (fun tp tn tc n1 i5 H' => k - i5.toNat) ?_ ⟨rfl, rfl, rfl, rfl, 0, rfl, by omega, fun i hi => by omega⟩
  rintro tp tn tc n1 i5 H' ⟨rfl, rfl, rfl, rfl, i, rfl, hi, hr⟩ X hX
  refine compassref12_Rising.b1_eq ?_
  unfold compassref12_Rising.b1_t
  refine bc (fun hlt => ?_) fun hge => ?_
  · refine hm.ixI (by omega) (by omega) ?_
    simp only [Int.toNat_natCast]
    refine bc (fun h => kf fun hh => by have := (hh i (by omega)).1; omega) fun h1 => ?_
    refine hm.ixI (by omega) (by omega) ?_
    simp only [Int.toNat_natCast]
    refine bc (fun h => kf fun hh => by have := (hh i (by omega)).2.1; omega) fun h2 => ?_
    have next : (0 < i → m (i - 1) < m i) → compassref12_Rising.j1 p k tc n (i : Int) X E H K := fun h3 => by
      refine compassref12_Rising.j1_eq ?_
      unfold compassref12_Rising.j1_t
      rw [i64w (by omega) (by omega)]
      refine hX _ _ _ _ _ _ ⟨rfl, rfl, rfl, rfl, i + 1, by omega, by omega, fun j hj => ?_⟩ (by omega)
      by_cases e : j = i
      · subst e; exact ⟨by omega, by omega, h3⟩
      · exact hr j (by omega)
    refine bc (fun h0 => ?_) fun h0 => next fun h => by omega
    refine hm.ixI (by omega) (by omega) ?_
    rw [i64w (by omega) (by omega)]
    refine hm.ixI (by omega) (by omega) ?_
    simp only [Int.toNat_natCast]
    have ei : ((i : Int) - 1).toNat = i - 1 := by omega
    rw [ei]
    refine bc (fun h => kf fun hh => by have := (hh i (by omega)).2.2 (by omega); omega) fun h => next fun _ => by omega
  · have : i = k := by omega
    subst this
    exact kt hr

theorem rat {N : Int} {ep : Option Addr} {n ec : Nat} {e : Nat → Edg} {p : Option Addr} {k c : Nat} {m : Nat → Int} {v : Int} {H : Hp} {K : Int → Hp → Prop} (he : Rdr H ep n e) (hn : n ≤ 4096) (hm : Rdr H p k m) (hs : Ris m k n)
    (kk : ∀ H', Step (fun _ => False) H H' → K (dg e m k v) H') : compassref12_At.call N ep n ec p k c v E H K := by
  have hl := hs.len
  refine compassref12_At.of (compassref12_At.run_eq ?_)
  unfold compassref12_At.run_t
  refine nwk fun b1 H1 hb1 e1 s1 => ?_
  have he1 := he.keep s1 fun _ _ _ h => h
  have hm1 := hm.keep s1 fun _ _ _ h => h
  refine compassref12_At.l1_rule (fun tp tn tc v2 g3 n7 i8 H' => p = tp ∧ k = tn ∧ v = v2 ∧ b1 = g3 ∧ H1 = H' ∧ ∃ i : Nat, i8 = i ∧ i ≤ k ∧ n7 = (dg e m i v : Int))
    (fun tp tn tc v2 g3 n7 i8 H' => k - i8.toNat) ?_ ⟨rfl, rfl, rfl, rfl, rfl, 0, rfl, by omega, rfl⟩
  rintro tp tn tc v2 g3 n7 i8 H' ⟨rfl, rfl, rfl, rfl, rfl, i, rfl, hi, rfl⟩ X hX
  refine compassref12_At.b1_eq ?_
  unfold compassref12_At.b1_t
  refine bc (fun hlt => ?_) fun hge => ?_
  · have hmi := hs i (by omega)
    have hdl := dg_le (e := e) (m := m) (v := v) i
    simp only [get_at e1, List.getElem?_cons_zero, List.getElem?_cons_succ, ldI_mk, ldS_mk]
    have next : ∀ x : Int, x = (dg e m (i + 1) v : Int) → compassref12_At.j2 p k tc v b1 x (i : Int) X E H1 K := fun x hx => by
      refine compassref12_At.j2_eq ?_
      unfold compassref12_At.j2_t
      rw [i64w (by omega) (by omega)]
      exact hX _ _ _ _ _ _ _ _ ⟨rfl, rfl, rfl, rfl, rfl, i + 1, by omega, by omega, hx⟩ (by omega)
    have hds : (dg e m (i + 1) v : Int) = (dg e m i v : Int) + (if (e (m i).toNat).fr = v then 1 else 0) + (if (e (m i).toNat).to = v then 1 else 0) := by
      show ((dg e m i v + (if (e (m i).toNat).fr = v then 1 else 0) + (if (e (m i).toNat).to = v then 1 else 0) : Nat) : Int) = _
      split <;> split <;> simp
    have mid : ∀ x : Int, x = (dg e m i v : Int) + (if (e (m i).toNat).fr = v then 1 else 0) → compassref12_At.j1 p k tc v b1 x (i : Int) X E H1 K := fun x hx => by
      have hx2 : x ≤ 8193 ∧ 0 ≤ x := by rw [hx]; split <;> omega
      refine compassref12_At.j1_eq ?_
      unfold compassref12_At.j1_t
      simp only [get_at e1, List.getElem?_cons_zero, List.getElem?_cons_succ, ldI_mk, ldS_mk]
      refine hm1.ixI (by omega) (by omega) ?_
      simp only [Int.toNat_natCast]
      refine he1.edgeT (by omega) (by omega) ?_
      refine bc (fun h => ?_) fun h => ?_
      · rw [i64w (by omega) (by omega)]
        exact next _ (by rw [hds, hx, if_pos h])
      · exact next _ (by rw [hds, hx, if_neg h]; omega)
    refine hm1.ixI (by omega) (by omega) ?_
    simp only [Int.toNat_natCast]
    refine he1.edgeF (by omega) (by omega) ?_
    refine bc (fun h => ?_) fun h => ?_
    · rw [i64w (by omega) (by omega)]
      exact mid _ (by rw [if_pos h])
    · exact mid _ (by rw [if_neg h]; omega)
  · have : i = k := by omega
    subst this
    exact kk _ s1

theorem rtaken {N : Int} {ep : Option Addr} {n ec : Nat} {e : Nat → Edg} {p : Option Addr} {k c : Nat} {m : Nat → Int} {qp : Option Addr} {q qc : Nat} {most : Nat → Int} {H : Hp} {K : Bool → Hp → Prop}
    (he : Rdr H ep n e) (hr : Right N n e) (hm : Rdr H p k m) (hk : k < 2 ^ 63) (hq : Rdr H qp q most) (hN : N ≤ q) (h0 : ∀ v, v < N.toNat → 0 ≤ most v)
    (kt : ∀ H', Step (fun _ => False) H H' → Tkn N n e m k (fun v => most v.toNat) → K true H') (kf : ∀ H', Step (fun _ => False) H H' → ¬ Tkn N n e m k (fun v => most v.toNat) → K false H') :
    compassref12_Taken.call N ep n ec p k c qp q qc E H K := by
  have hN0 := hr.N0; have hN1 := hr.N1; have hn1 := hr.n1
  refine compassref12_Taken.of (compassref12_Taken.run_eq ?_)
  unfold compassref12_Taken.run_t
  refine nwk fun b1 H1 hb1 e1 s1 => ?_
  simp only [get_at e1, List.getElem?_cons_zero, List.getElem?_cons_succ, ldI_mk, ldS_mk]
  refine rrising (hm.keep s1 fun _ _ _ h => h) hk (fun hris => ?_) fun hn => bcb (fun _ => kf _ s1 fun h => hn h.ris) fun h => by cases h
  refine bcb (fun h => by cases h) fun _ => ?_
  have hl := hris.len
  have he1 := he.keep s1 fun _ _ _ h => h
  have hm1 := hm.keep s1 fun _ _ _ h => h
  refine compassref12_Taken.l1_rule (fun tp tn tc op on oc g3 i7 H' => p = tp ∧ k = tn ∧ qp = op ∧ q = on ∧ b1 = g3 ∧ H1 = H' ∧ ∃ i : Nat, i7 = i ∧ i ≤ k ∧ ∀ a, a < i → ¬ lp (e (m a).toNat))
    (fun tp tn tc op on oc g3 i7 H' => k - i7.toNat) ?_ ⟨rfl, rfl, rfl, rfl, rfl, rfl, 0, rfl, by omega, fun a ha => by omega⟩
  rintro tp tn tc op on oc g3 i7 H' ⟨rfl, rfl, rfl, rfl, rfl, rfl, i, rfl, hi, hnl⟩ X hX
  refine compassref12_Taken.b1_eq ?_
  unfold compassref12_Taken.b1_t
  refine bc (fun hlt => ?_) fun hge => ?_
  · have hmi := hris i (by omega)
    simp only [get_at e1, List.getElem?_cons_zero, List.getElem?_cons_succ, ldI_mk, ldS_mk]
    refine hm1.ixI (by omega) (by omega) ?_
    simp only [Int.toNat_natCast]
    refine he1.edgeF (by omega) (by omega) ?_
    refine hm1.ixI (by omega) (by omega) ?_
    simp only [Int.toNat_natCast]
    refine he1.edgeT (by omega) (by omega) ?_
    refine bc (fun h => kf _ s1 fun hh => hh.nl i (by omega) h) fun h => ?_
    rw [i64w (by omega) (by omega)]
    refine hX _ _ _ _ _ _ _ _ _ ⟨rfl, rfl, rfl, rfl, rfl, rfl, i + 1, by omega, by omega, fun a ha => ?_⟩ (by omega)
    by_cases ea : a = i
    · subst ea; exact h
    · exact hnl a (by omega)
  · have : i = k := by omega
    subst this
    clear hX
    refine compassref12_Taken.j1_eq ?_
    unfold compassref12_Taken.j1_t
    refine compassref12_Taken.l2_rule (fun tp tn tc op on oc g3 v8 H' => p = tp ∧ i = tn ∧ qp = op ∧ q = on ∧ b1 = g3 ∧ ∃ v : Nat, v8 = v ∧ (v : Int) ≤ N ∧ Step (fun _ => False) H1 H' ∧ ∀ u : Nat, u < v → (dg e m i u : Int) ≤ most u)
      (fun tp tn tc op on oc g3 v8 H' => N.toNat - v8.toNat) ?_ ⟨rfl, rfl, rfl, rfl, rfl, 0, rfl, by omega, .refl, fun a ha => by omega⟩
    rintro tp tn tc op on oc g3 v8 H2 ⟨rfl, rfl, rfl, rfl, rfl, v, rfl, hv, s2, hle⟩ Y hY
    refine compassref12_Taken.b2_eq ?_
    unfold compassref12_Taken.b2_t
    have e12 := s2.keep _ _ e1 fun h => h
    have s02 := s1.and s2
    simp only [get_at e12, List.getElem?_cons_zero, List.getElem?_cons_succ, ldI_mk, ldS_mk]
    refine bc (fun hlt => ?_) fun hge => ?_
    · refine (hq.keep s02 fun _ _ _ h => h).ix (α := Int) (by omega) (by omega) fun b o _ hg => ?_
      have g0 := hg 0 (by decide)
      simp only [El.enc, Nat.add_zero, List.getElem?_cons_zero, Int.toNat_natCast] at g0
      rw [g0]
      simp only [ldI_mk]
      refine rat (he.keep s02 fun _ _ _ h => h) hn1 (hm.keep s02 fun _ _ _ h => h) hris fun H3 s3 => ?_
      rw [s3.get g0 fun h => h]
      refine ⟨rfl, ?_⟩
      refine bc (fun h => kf _ (s02.and s3) fun hh => ?_) fun h => ?_
      · have h1 := h0 v (by omega)
        have h2 := hh.mst v (by omega) (by omega) (by omega)
        simp only [Int.toNat_natCast] at h2
        omega
      · rw [i64w (by omega) (by omega)]
        refine hY _ _ _ _ _ _ _ _ _ ⟨rfl, rfl, rfl, rfl, rfl, v + 1, by omega, by omega, s2.and s3, fun u hu => ?_⟩ (by omega)
        by_cases eu : u = v
        · subst eu; omega
        · exact hle u (by omega)
    · refine kt _ s02 ⟨hris, hnl, fun u u0 u1 _ => ?_⟩
      have := hle u.toNat (by omega)
      rwa [show ((u.toNat : Nat) : Int) = u by omega] at this

theorem rones {N : Int} {ep : Option Addr} {n ec : Nat} {H : Hp} {K : Option Addr → Nat → Nat → Hp → Prop} (hN0 : 0 ≤ N) (hN1 : N ≤ 1024)
    (kk : ∀ x H', Step (fun _ => False) H H' → H x = none → Row H' (some ⟨x, 0, none⟩) N.toNat N.toNat (fun _ => (1 : Int)) → K (some ⟨x, 0, none⟩) N.toNat N.toNat H') : compassref12_ones.call N ep n ec E H K := by
  refine compassref12_ones.of (compassref12_ones.run_eq ?_)
  unfold compassref12_ones.run_t
  refine nwk fun b1 H1 hb1 e1 s1 => ?_
  simp only [get_at e1, List.getElem?_cons_zero, List.getElem?_cons_succ, ldI_mk, ldS_mk]
  refine Row.mkI hN0 (by omega) fun b2 H2 hb2 r2 s2 => ?_
  have e12 := s2.keep _ _ e1 fun h => h
  have ne : b1 ≠ b2 := ne_of_live hb2 (by rw [e1]; exact fun h => by cases h)
  have f2 : H b2 = none := s1.mono _ hb2
  refine compassref12_ones.l1_rule (fun g1 op on oc v4 H' => b1 = g1 ∧ op = some ⟨b2, 0, none⟩ ∧ on = N.toNat ∧ oc = N.toNat ∧ ∃ v : Nat, v4 = v ∧ v ≤ N.toNat ∧ Step (fun _ => False) H H' ∧ H' b1 = some ⟨[.int .i64 N, .slice ep n ec], 24⟩ ∧ Row H' (some ⟨b2, 0, none⟩) N.toNat N.toNat (fun u => if u < v then (1 : Int) else 0))
    (fun g1 op on oc v4 H' => N.toNat - v4.toNat) ?_ ⟨rfl, rfl, rfl, rfl, 0, rfl, by omega, s1.and s2, e12, r2.congr fun i _ => by simp⟩
  clear r2 e12 s2 hb2 e1 s1
  rintro g1 op on oc v4 H3 ⟨rfl, rfl, rfl, rfl, v, rfl, hv, s3, e3, r3⟩ X hX
  refine compassref12_ones.b1_eq ?_
  unfold compassref12_ones.b1_t
  simp only [get_at e3, List.getElem?_cons_zero, List.getElem?_cons_succ, ldI_mk, ldS_mk]
  refine bc (fun hlt => ?_) fun hge => ?_
  · refine r3.stI (by omega) (by omega) _ fun H4 r4 s4 => ?_
    rw [i64w (by omega) (by omega)]
    refine hX _ _ _ _ _ _ ⟨rfl, rfl, rfl, rfl, v + 1, by omega, by omega, s3.own s4 fun y hy => by rw [fpS_mk] at hy; exact hy ▸ f2, s4.keep _ _ e3 (by rw [fpS_mk]; exact ne), r4.congr fun u hu => ?_⟩ (by omega)
    simp only [Int.toNat_natCast]
    by_cases eu : u = v
    · subst eu; rw [upf_same, if_pos (Nat.lt_succ_self u)]
    · rw [upf_ne eu]
      by_cases h : u < v
      · rw [if_pos h, if_pos (by omega)]
      · rw [if_neg h, if_neg (by omega)]
  · exact kk b2 H3 s3 f2 (r3.congr fun u hu => by rw [if_pos (by omega)])

theorem rmatches {N : Int} {ep : Option Addr} {n ec : Nat} {e : Nat → Edg} {p : Option Addr} {k c : Nat} {m : Nat → Int} {H : Hp} {K : Bool → Hp → Prop} (he : Rdr H ep n e) (hr : Right N n e) (hm : Rdr H p k m) (hk : k < 2 ^ 63)
    (kt : ∀ H', Step (fun _ => False) H H' → Tkn N n e m k (fun _ => 1) → K true H') (kf : ∀ H', Step (fun _ => False) H H' → ¬ Tkn N n e m k (fun _ => 1) → K false H') : compassref12_Matches.call N ep n ec p k c E H K := by
  have hN0 := hr.N0; have hN1 := hr.N1
  refine compassref12_Matches.of (compassref12_Matches.run_eq ?_)
  unfold compassref12_Matches.run_t
  refine nwk fun b1 H1 hb1 e1 s1 => ?_
  simp only [get_at e1, List.getElem?_cons_zero, List.getElem?_cons_succ, ldI_mk, ldS_mk]
  refine rones hN0 hN1 fun x H2 s2 hx r2 => ?_
  have e12 := s2.keep _ _ e1 fun h => h
  have s02 := s1.and s2
  simp only [get_at e12, List.getElem?_cons_zero, List.getElem?_cons_succ, ldI_mk, ldS_mk, true_and]
  exact rtaken (he.keep s02 fun _ _ _ h => h) hr (hm.keep s02 fun _ _ _ h => h) hk r2.rdr (by omega) (fun _ _ => by omega) (fun H3 s3 h => kt _ (s02.and s3) h) fun H3 s3 h => kf _ (s02.and s3) h

theorem rmatching {N : Int} {ep : Option Addr} {n ec : Nat} {e : Nat → Edg} {p : Option Addr} {k c : Nat} {m : Nat → Int} {H : Hp} {K : Int → Hp → Prop} (he : Rdr H ep n e) (hm : Rdr H p k m) (hk : k < 2 ^ 63)
    (kk : ∀ H' c, Step (fun _ => False) H H' → Out N n e (Tkn N n e m k fun _ => 1) c → K c H') : compassref12_Matching.call N ep n ec p k c E H K := by
  refine compassref12_Matching.of (compassref12_Matching.run_eq ?_)
  unfold compassref12_Matching.run_t
  refine nwk fun b1 H1 hb1 e1 s1 => ?_
  simp only [get_at e1, List.getElem?_cons_zero, List.getElem?_cons_succ, ldI_mk, ldS_mk]
  refine rcheck (he.keep s1 fun _ _ _ h => h) fun H2 a s2 => ?_
  have s02 := s1.and s2
  refine bc (fun hc => ?_) fun hc => kk _ _ s02 (.inr (.inl ⟨rfl, hc⟩))
  have hr := chk_zero.1 hc
  have e12 := s2.keep _ _ e1 fun h => h
  simp only [get_at e12, List.getElem?_cons_zero, List.getElem?_cons_succ, ldI_mk, ldS_mk]
  refine rmatches (he.keep s02 fun _ _ _ h => h) hr (hm.keep s02 fun _ _ _ h => h) hk (fun H3 s3 ht => ?_) fun H3 s3 ht => ?_
  · refine bcb (fun h => by cases h) fun _ => ?_
    rw [hc]
    exact kk _ _ (s02.and s3) (.inl ⟨rfl, hr, ht⟩)
  · refine bcb (fun _ => ?_) fun h => by cases h
    exact kk _ _ (s02.and s3) (.inr (.inr ⟨rfl, hr, ht⟩))

end
end Go.Mz
