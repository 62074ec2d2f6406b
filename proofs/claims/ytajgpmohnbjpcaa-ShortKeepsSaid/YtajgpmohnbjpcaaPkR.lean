/-
  Joined: RfA, RfB.
-/
import Derived.Test.YtajgpmohnbjpcaaPkB
import Derived.Test.YtajgpmohnbjpcaaPkG
import Derived.Test.YtajgpmohnbjpcaaGRfb
set_option linter.unusedSimpArgs false
set_option linter.unusedVariables false
/-
  The document's functions of layers 4 and 8, walked: Wrong, rounds, settled, Dist, Potentials.
-/
namespace Go.Mz
section
variable {E : Value → Hp → Prop}

theorem rwrong4 {N s : Int} {p : Option Addr} {n c : Nat} {e : Nat → Edg} {H : Hp} {K : Int → Hp → Prop} (he : Rdr H p n e)
    (k : ∀ H', Step (fun _ => False) H H' → K (wrg N n e s) H') : compassref04_Wrong.call N p n c s E H K := by
  refine compassref04_Wrong.of (compassref04_Wrong.run_eq ?_)
  unfold compassref04_Wrong.run_t
  refine nwk fun b1 H1 hb1 e1 s1 => ?_
  simp only [get_at e1, List.getElem?_cons_zero, List.getElem?_cons_succ, ldI_mk, ldS_mk]
  refine rcheck (he.keep s1 fun _ _ _ h => h) fun H2 a s2 => ?_
  have e12 := s2.keep _ _ e1 fun h => h
  have k := k H2 (s1.and s2)
  simp only [get_at e12, List.getElem?_cons_zero, List.getElem?_cons_succ, ldI_mk, ldS_mk]
  have bad : chk N n e = 0 → (s < 0 ∨ N ≤ s) → K 30 H2 := fun h h' => by
    have e : wrg N n e s = 30 := by unfold wrg; rw [if_pos h, if_pos h']
    rwa [e] at k
  refine bc (fun h => ?_) fun h => ?_
  · refine bc (fun h' => bad h (.inl h')) fun h1 => ?_
    refine bc (fun h' => bad h (.inr h')) fun h2 => ?_
    have e : wrg N n e s = chk N n e := by unfold wrg; rw [if_pos h, if_neg (by omega), h]
    rwa [e] at k
  · have e : wrg N n e s = chk N n e := by unfold wrg; rw [if_neg h]
    rwa [e] at k

theorem rrounds {N : Int} {ep dp : Option Addr} {n ec dc : Nat} {e : Nat → Edg} {d0 : Nat → Int} {H : Hp} {K : Option Addr → Nat → Nat → Hp → Prop} (he : Rdr H ep n e) (hr : Right N n e) (h0 : ∀ v, v < N.toNat → d0 v = 0 ∨ d0 v = Far) (rd : Row H dp N.toNat dc d0)
    (k : ∀ H' p c, Step (fun _ => False) H H' → Row H' p N.toNat c (jac n (ga e) (gb e) (gc e) d0 N.toNat) → (∀ y, fpS p y → fpS dp y ∨ H y = none) → K p N.toNat c H') : compassref08_rounds.call N ep n ec dp N.toNat dc N E H K := by
  have hG := hr.gr
  have hN0 := hr.N0; have hN1 := hr.N1; have hn1 := hr.n1
  have hF : Far = 4611686018427387904 := rfl
  refine compassref08_rounds.of (compassref08_rounds.run_eq ?_)
  unfold compassref08_rounds.run_t
  refine nwk fun b1 H1 hb1 e1 s1 => ?_
  have dl : ∀ y, fpS dp y → y ≠ b1 := fun y hy h => rd.live hy (h ▸ hb1)
  refine compassref08_rounds.l1_rule (fun p' n' c' times g3 k7 H' => n' = N.toNat ∧ times = N ∧ g3 = b1 ∧ ∃ t : Nat, k7 = t ∧ t ≤ N.toNat ∧ Row H' p' N.toNat c' (jac n (ga e) (gb e) (gc e) d0 t) ∧ (∀ y, fpS p' y → (fpS dp y ∨ H y = none) ∧ y ≠ b1) ∧ Step (fun _ => False) H H' ∧ H' b1 = some ⟨[.int .i64 N, .slice ep n ec], 51⟩)
    (fun p' n' c' times g3 k7 H' => N.toNat - k7.toNat) ?_ ⟨rfl, rfl, rfl, 0, rfl, by omega, rd.keep s1 fun _ _ h => h, fun y hy => ⟨.inl hy, dl y hy⟩, s1, e1⟩
  clear e1
  rintro p' n' c' times g3 k7 H2 ⟨rfl, rfl, rfl, t, rfl, ht, rT, fT, s2, c1⟩ X hX
  refine compassref08_rounds.b1_eq ?_
  unfold compassref08_rounds.b1_t
  refine bc (fun hlt => ?_) fun hge => ?_
  · refine nwk fun b2 H3 hb2 e2 s3 => ?_
    have hrow0 : Row H3 (some ⟨b2, 0, none⟩) 0 0 (fun _ => (0 : Int)) := ⟨Nat.le_refl _, by decide, .inr ⟨b2, 0, _, rfl, e2, ⟨by simp, rfl⟩, fun i hi => by omega⟩⟩
    have rT3 := rT.keep s3 fun _ _ h => h
    refine hrow0.appR (α := Int) rT3 rfl (by omega) (by decide) fun np nc H4 r4 s4 f4 => ?_
    replace r4 : Row H4 np times.toNat nc (jac n (ga e) (gb e) (gc e) d0 t) := by
      rw [Nat.zero_add] at r4
      exact r4.congr fun i _ => by rw [if_neg (by omega), Nat.sub_zero]
    rw [Nat.zero_add]
    have fN2 : ∀ y, fpS np y → H2 y = none := fun y hy => by
      rcases f4 y hy with h | h
      · rw [fpS_mk] at h; exact h ▸ hb2
      · exact s3.mono y h
    have s24 : Step (fun _ => False) H2 H4 := s3.own s4 fun y hy => by rw [fpS_mk] at hy; exact hy ▸ hb2
    have s04 := s2.and s24
    refine compassref08_rounds.l2_rule (fun q' m' d' times' a3 k7 np' nn' nc' i9 H' => q' = p' ∧ m' = times.toNat ∧ d' = c' ∧ times' = times ∧ a3 = g3 ∧ k7 = t ∧ np' = np ∧ nn' = times.toNat ∧ nc' = nc ∧ ∃ i : Nat, i9 = i ∧ i ≤ n ∧ Row H' p' times.toNat c' (jac n (ga e) (gb e) (gc e) d0 t) ∧ Row H' np times.toNat nc (jstep (ga e) (gb e) (gc e) (jac n (ga e) (gb e) (gc e) d0 t) i) ∧
        Step (fun _ => False) H H' ∧ H' g3 = some ⟨[.int .i64 times, .slice ep n ec], 51⟩)
      (fun q' m' d' times' a3 k7 np' nn' nc' i9 H' => n - i9.toNat) ?_ ⟨rfl, rfl, rfl, rfl, rfl, rfl, rfl, rfl, rfl, 0, rfl, by omega, rT.keep s24 fun _ _ h => h, r4, s04, s24.keep _ _ c1 fun h => h⟩
    rintro q' m' d' times' a3 k7 np' nn' nc' i9 H5 ⟨rfl, rfl, rfl, rfl, rfl, rfl, rfl, rfl, rfl, i, rfl, hi, rD, rN, s5, c15⟩ Y hY
    refine compassref08_rounds.b2_eq ?_
    unfold compassref08_rounds.b2_t
    simp only [get_at c15, List.getElem?_cons_zero, List.getElem?_cons_succ, ldI_mk, ldS_mk]
    have fN : ∀ y, fpS np' y → H y = none := fun y hy => s2.mono _ (fN2 y hy)
    have dN : ∀ y, fpS q' y → ¬ fpS np' y := fun y hy h => rT.live hy (fN2 y h)
    have gN : ¬ fpS np' a3 := fun h => by have := fN2 _ h; rw [c1] at this; cases this
    refine bc (fun hlt2 => ?_) fun hge2 => ?_
    · try simp only [get_at c15, List.getElem?_cons_zero, List.getElem?_cons_succ, ldI_mk, ldS_mk]
      obtain ⟨u, w, hu, hw, hun, hwn⟩ := (hr.ed i (by omega)).nat
      have hk0 := (hr.ed i (by omega)).k0
      have hk1 := (hr.ed i (by omega)).k1
      have eu : ga e i = u := by unfold ga; omega
      have ew : gb e i = w := by unfold gb; omega
      have hco : (e i).co = gc e i := rfl
      refine (he.keep s5 fun _ _ _ h => h).edge (by omega) (by omega) ?_
      simp only [Int.toNat_natCast]
      rw [hu, hw]
      refine nwst rfl rfl fun b4 H6 hb4 e4 s6 => ?_
      have c16 := s6.keep _ _ c15 fun h => h
      have rD6 := rD.keep s6 fun _ _ h => h
      have rN6 := rN.keep s6 fun _ _ h => h
      have s06 := s5.and s6
      have bd := jac_far hG h0 (t := t) (v := u) (by omega) hun
      have next : ∀ (H' : Hp), Row H' q' times'.toNat d' (jac n (ga e) (gb e) (gc e) d0 t) → Row H' np' times'.toNat nc' (jstep (ga e) (gb e) (gc e) (jac n (ga e) (gb e) (gc e) d0 t) (i + 1)) → Step (fun _ => False) H H' → H' a3 = some ⟨[.int .i64 times', .slice ep n ec], 51⟩ →
          compassref08_rounds.j1 q' times'.toNat d' times' a3 (t : Int) np' times'.toNat nc' (i : Int) X Y E H' K := fun H' q1 q2 q3 q4 => by
        refine compassref08_rounds.j1_eq ?_
        unfold compassref08_rounds.j1_t
        rw [i64w (by omega) (by omega)]
        exact hY _ _ _ _ _ _ _ _ _ _ _ ⟨rfl, rfl, rfl, rfl, rfl, rfl, rfl, rfl, rfl, i + 1, by omega, by omega, q1, q2, q3, q4⟩ (by omega)
      have skip : ¬ (jac n (ga e) (gb e) (gc e) d0 t u < Far ∧ jac n (ga e) (gb e) (gc e) d0 t u + gc e i < jstep (ga e) (gb e) (gc e) (jac n (ga e) (gb e) (gc e) d0 t) i w) → compassref08_rounds.j1 q' times'.toNat d' times' a3 (t : Int) np' times'.toNat nc' (i : Int) X Y E H6 K := fun h => by
        refine next H6 rD6 ?_ s06 c16
        unfold jstep
        rw [eu, ew, if_neg h]; exact rN6
      simp only [get_at e4, List.getElem?_cons_zero, List.getElem?_cons_succ, ldI_mk, ldS_mk]
      refine rD6.ixI (by omega) (by omega) ?_
      refine bc (fun hf => ?_) fun hf => skip fun h => hf h.1
      simp only [Int.toNat_natCast] at hf
      try simp only [get_at e4, List.getElem?_cons_zero, List.getElem?_cons_succ, ldI_mk, ldS_mk]
      refine rD6.ixI (by omega) (by omega) ?_
      try simp only [get_at e4, List.getElem?_cons_zero, List.getElem?_cons_succ, ldI_mk, ldS_mk]
      refine rN6.ixI (by omega) (by omega) ?_
      rw [hco] at hk0 hk1 ⊢
      have hsum : IntKind.wrap .i64 (jac n (ga e) (gb e) (gc e) d0 t u + gc e i) = jac n (ga e) (gb e) (gc e) d0 t u + gc e i := i64w (by omega) (by omega)
      refine bc (fun hl => ?_) fun hl => skip fun h => by simp only [Int.toNat_natCast, hsum] at hl; omega
      simp only [Int.toNat_natCast, hsum] at hl
      try simp only [get_at e4, List.getElem?_cons_zero, List.getElem?_cons_succ, ldI_mk, ldS_mk]
      refine rD6.ixI (by omega) (by omega) ?_
      try simp only [get_at e4, List.getElem?_cons_zero, List.getElem?_cons_succ, ldI_mk, ldS_mk]
      simp only [Int.toNat_natCast]
      rw [hsum]
      refine rN6.stI (by omega) (by omega) _ fun H7 r7 s7 => ?_
      simp only [Int.toNat_natCast] at r7
      refine next H7 (rD6.keep s7 dN) ?_ (s06.own s7 fN) (s7.keep _ _ c16 gN)
      unfold jstep
      rw [eu, ew, if_pos ⟨hf, hl⟩]; exact r7
    · have : i = n := by omega
      subst this
      refine compassref08_rounds.j2_eq ?_
      unfold compassref08_rounds.j2_t
      rw [i64w (by omega) (by omega)]
      exact hX _ _ _ _ _ _ _ ⟨rfl, rfl, rfl, t + 1, by omega, by omega, rN, fun y hy => ⟨.inr (fN y hy), fun h => gN (h ▸ hy)⟩, s5, c15⟩ (by omega)
  · have : t = times.toNat := by omega
    subst this
    exact k H2 p' c' s2 rT fun y hy => (fT y hy).1

open Classical in
theorem rsettled {N : Int} {ep dp : Option Addr} {n ec dc : Nat} {e : Nat → Edg} {d : Nat → Int} {H : Hp} {K : Bool → Hp → Prop} (he : Rdr H ep n e) (hr : Right N n e) (hb : ∀ v, v < N.toNat → d v = Far ∨ (-1073741824 ≤ d v ∧ d v ≤ 1073741824)) (rd : Rdr H dp N.toNat d)
    (k : ∀ H', Step (fun _ => False) H H' → K (decide (Stl n (ga e) (gb e) (gc e) d)) H') : compassref08_settled.call N ep n ec dp N.toNat dc E H K := by
  have hN0 := hr.N0; have hN1 := hr.N1; have hn1 := hr.n1
  have hF : Far = 4611686018427387904 := rfl
  refine compassref08_settled.of (compassref08_settled.run_eq ?_)
  unfold compassref08_settled.run_t
  refine nwk fun b1 H1 hb1 e1 s1 => ?_
  refine compassref08_settled.l1_rule (fun p' n' c' g2 i5 H' => p' = dp ∧ n' = N.toNat ∧ g2 = b1 ∧ ∃ i : Nat, i5 = i ∧ i ≤ n ∧ (∀ j, j < i → d (ga e j) < Far → d (gb e j) ≤ d (ga e j) + gc e j) ∧ Step (fun _ => False) H H' ∧ H' b1 = some ⟨[.int .i64 N, .slice ep n ec], 51⟩)
    (fun p' n' c' g2 i5 H' => n - i5.toNat) ?_ ⟨rfl, rfl, rfl, 0, rfl, by omega, fun j hj => by omega, s1, e1⟩
  rintro p' n' c' g2 i5 H2 ⟨rfl, rfl, rfl, i, rfl, hi, hall, s2, c1⟩ X hX
  refine compassref08_settled.b1_eq ?_
  unfold compassref08_settled.b1_t
  simp only [get_at c1, List.getElem?_cons_zero, List.getElem?_cons_succ, ldI_mk, ldS_mk]
  refine bc (fun hlt => ?_) fun hge => ?_
  · try simp only [get_at c1, List.getElem?_cons_zero, List.getElem?_cons_succ, ldI_mk, ldS_mk]
    obtain ⟨u, w, hu, hw, hun, hwn⟩ := (hr.ed i (by omega)).nat
    have hk0 := (hr.ed i (by omega)).k0
    have hk1 := (hr.ed i (by omega)).k1
    have eu : ga e i = u := by unfold ga; omega
    have ew : gb e i = w := by unfold gb; omega
    have hco : (e i).co = gc e i := rfl
    refine (he.keep s2 fun _ _ _ h => h).edge (by omega) (by omega) ?_
    simp only [Int.toNat_natCast]
    rw [hu, hw]
    refine nwst rfl rfl fun b4 H3 hb4 e4 s3 => ?_
    have c13 := s3.keep _ _ c1 fun h => h
    have s03 := s2.and s3
    have rd3 := rd.keep s03 fun _ _ _ h => h
    have bd := hb u hun
    have next : (d u < Far → d w ≤ d u + gc e i) → compassref08_settled.j1 p' N.toNat c' g2 (i : Int) X E H3 K := fun h => by
      refine compassref08_settled.j1_eq ?_
      unfold compassref08_settled.j1_t
      rw [i64w (by omega) (by omega)]
      refine hX _ _ _ _ _ _ ⟨rfl, rfl, rfl, i + 1, by omega, by omega, fun j hj => ?_, s03, c13⟩ (by omega)
      by_cases e' : j = i
      · subst e'; rw [eu, ew]; exact h
      · exact hall j (by omega)
    simp only [get_at e4, List.getElem?_cons_zero, List.getElem?_cons_succ, ldI_mk, ldS_mk]
    refine rd3.ixI (by omega) (by omega) ?_
    refine bc (fun hf => ?_) fun hf => next fun h => (hf h).elim
    simp only [Int.toNat_natCast] at hf
    try simp only [get_at e4, List.getElem?_cons_zero, List.getElem?_cons_succ, ldI_mk, ldS_mk]
    refine rd3.ixI (by omega) (by omega) ?_
    try simp only [get_at e4, List.getElem?_cons_zero, List.getElem?_cons_succ, ldI_mk, ldS_mk]
    refine rd3.ixI (by omega) (by omega) ?_
    rw [hco] at hk0 hk1 ⊢
    have hsum : IntKind.wrap .i64 (d u + gc e i) = d u + gc e i := i64w (by omega) (by omega)
    refine bc (fun hl => ?_) fun hl => next fun _ => by simp only [Int.toNat_natCast, hsum] at hl; omega
    simp only [Int.toNat_natCast, hsum] at hl
    have := k H3 s03
    rwa [decide_eq_false fun h => by
      have := h i (by omega) (by rw [eu]; exact hf)
      rw [eu, ew] at this; omega] at this
  · have : i = n := by omega
    subst this
    have := k H2 s2
    rwa [decide_eq_true (show Stl i (ga e) (gb e) (gc e) d from hall)] at this

open Classical in
/-- what Dist answers -/
theorem rdist {N s : Int} {ep : Option Addr} {n ec : Nat} {e : Nat → Edg} {H : Hp} {K : Option Addr → Nat → Nat → Int → Hp → Prop} (he : Rdr H ep n e)
    (bad : wrg N n e s ≠ 0 → ∀ H', Step (fun _ => False) H H' → K none 0 0 (wrg N n e s) H')
    (neg : Right N n e → 0 ≤ s → s < N → ¬ Stl n (ga e) (gb e) (gc e) (jac n (ga e) (gb e) (gc e) (dz s.toNat) N.toNat) → ∀ H', Step (fun _ => False) H H' → K none 0 0 80 H')
    (ok : Right N n e → 0 ≤ s → s < N → Stl n (ga e) (gb e) (gc e) (jac n (ga e) (gb e) (gc e) (dz s.toNat) N.toNat) → ∀ H' p c, Step (fun _ => False) H H' → Row H' p N.toNat c (jac n (ga e) (gb e) (gc e) (dz s.toNat) N.toNat) → (∀ y, fpS p y → H y = none) → K p N.toNat c 0 H') : compassref08_Dist.call N ep n ec s E H K := by
  refine compassref08_Dist.of (compassref08_Dist.run_eq ?_)
  unfold compassref08_Dist.run_t
  refine nwk fun b1 H1 hb1 e1 s1 => ?_
  simp only [get_at e1, List.getElem?_cons_zero, List.getElem?_cons_succ, ldI_mk, ldS_mk]
  refine rwrong4 (he.keep s1 fun _ _ _ h => h) fun H2 s2 => ?_
  have c1 := s2.keep _ _ e1 fun h => h
  have s02 := s1.and s2
  refine bcn (fun hw => bad hw H2 s02) fun hw => ?_
  obtain ⟨hr, hs0, hs1⟩ := wrg_zero.1 hw
  have hN0 := hr.N0; have hN1 := hr.N1
  simp only [get_at c1, List.getElem?_cons_zero, List.getElem?_cons_succ, ldI_mk, ldS_mk]
  refine Row.mkI hN0 (by omega) fun bd H3 hbd rd s3 => ?_
  have c13 := s3.keep _ _ c1 fun h => h
  have fd : H bd = none := s02.mono _ hbd
  have d1 : b1 ≠ bd := ne_of_live hbd (by rw [c1]; exact fun h => by cases h)
  refine compassref08_Dist.l1_rule (fun s1' g2 p' n' c' v8 H' => s1' = s ∧ g2 = b1 ∧ p' = some ⟨bd, 0, none⟩ ∧ n' = N.toNat ∧ c' = N.toNat ∧ ∃ i : Nat, v8 = i ∧ i ≤ N.toNat ∧ Step (fun _ => False) H H' ∧ H' b1 = some ⟨[.int .i64 N, .slice ep n ec], 51⟩ ∧ ∃ f, Row H' (some ⟨bd, 0, none⟩) N.toNat N.toNat f ∧ ∀ u, u < i → f u = Far)
    (fun s1' g2 p' n' c' v8 H' => N.toNat - v8.toNat) ?_ ⟨rfl, rfl, rfl, rfl, rfl, 0, rfl, by omega, s02.and s3, c13, _, rd, fun u hu => by omega⟩
  clear rd c13 s3
  rintro s1' g2 p' n' c' v8 H4 ⟨rfl, rfl, rfl, rfl, rfl, i, rfl, hi, s4, c14, f, r4, hf⟩ X hX
  refine compassref08_Dist.b1_eq ?_
  unfold compassref08_Dist.b1_t
  simp only [get_at c14, List.getElem?_cons_zero, List.getElem?_cons_succ, ldI_mk, ldS_mk]
  have own : ∀ {H' H''}, Step (fun _ => False) H H' → Step (fpS (some ⟨bd, 0, none⟩)) H' H'' → Step (fun _ => False) H H'' := fun s s' => s.own s' fun y hy => by rw [fpS_mk] at hy; exact hy ▸ fd
  refine bc (fun hlt => ?_) fun hge => ?_
  · refine r4.stI (by omega) (by omega) _ fun H5 r5 s5 => ?_
    simp only [Int.toNat_natCast] at r5
    rw [i64w (by omega) (by omega)]
    refine hX _ _ _ _ _ _ _ ⟨rfl, rfl, rfl, rfl, rfl, i + 1, by omega, by omega, own s4 s5, s5.keep _ _ c14 (by rw [fpS_mk]; exact d1), _, r5, fun u hu => ?_⟩ (by omega)
    by_cases e' : u = i
    · subst e'; rw [upf_same]
    · rw [upf_ne e']; exact hf u (by omega)
  · have : i = N.toNat := by omega
    subst this
    refine compassref08_Dist.j1_eq ?_
    unfold compassref08_Dist.j1_t
    refine r4.stI hs0 (by omega) _ fun H5 r5 s5 => ?_
    have c15 := s5.keep _ _ c14 (by rw [fpS_mk]; exact d1)
    have s05 := own s4 s5
    replace r5 : Row H5 (some ⟨bd, 0, none⟩) N.toNat N.toNat (dz s1'.toNat) := r5.congr fun u hu => by
      unfold upf dz
      split
      · rfl
      · exact hf u hu
    simp only [get_at c15, List.getElem?_cons_zero, List.getElem?_cons_succ, ldI_mk, ldS_mk]
    refine rrounds (he.keep s05 fun _ _ _ h => h) hr (fun v _ => dz_or v) r5 fun H6 p c s6 r6 f6 => ?_
    have c16 := s6.keep _ _ c15 fun h => h
    have s06 := s05.and s6
    simp only [get_at c16, List.getElem?_cons_zero, List.getElem?_cons_succ, ldI_mk, ldS_mk]
    refine rsettled (he.keep s06 fun _ _ _ h => h) hr (fun v hv => jac_far hr.gr (fun v _ => dz_or v) (by omega) hv) r6.rdr fun H7 s7 => ?_
    by_cases hS : Stl n (ga e) (gb e) (gc e) (jac n (ga e) (gb e) (gc e) (dz s1'.toNat) N.toNat)
    · rw [decide_eq_true hS]
      refine bcb (fun h => by cases h) fun _ => ?_
      exact ok hr hs0 hs1 hS H7 p c (s06.and s7) (r6.keep s7 fun _ _ h => h) fun y hy => (f6 y hy).elim (fun h => by rw [fpS_mk] at h; exact h ▸ fd) fun h => s05.mono _ h
    · rw [decide_eq_false hS]
      refine bcb (fun _ => ?_) fun h => by cases h
      exact neg hr hs0 hs1 hS H7 (s06.and s7)

end
end Go.Mz

/-
  The document's functions of layers 4 and 8, walked: Cost, Circle, Levels, Way, Tree.
-/
namespace Go.Mz
section
variable {E : Value → Hp → Prop}

/-- where the levels stand: D rounds are done, i edges of the next -/
structure Lvl (M n : Nat) (a b : Nat → Nat) (s : Nat) (lv : Nat → Int) (D i : Nat) : Prop where
  src : lv s = 0
  rng : ∀ v, v < M → lv v = -1 ∨ (0 ≤ lv v ∧ lv v ≤ (D : Int) + 1)
  rng0 : i = 0 → ∀ v, v < M → lv v ≤ (D : Int)
  old : ∀ j, j < n → 0 ≤ lv (a j) → lv (a j) < (D : Int) → 0 ≤ lv (b j)
  now : ∀ j, j < i → lv (a j) = (D : Int) → 0 ≤ lv (b j)
  gap : ∀ v, v < M → 0 < lv v → ∃ u, u < M ∧ lv u = lv v - 1

section
variable {M n s D i : Nat} {a b : Nat → Nat} {lv : Nat → Int}

theorem Lvl.skip (h : Lvl M n a b s lv D i) (ht : lv (a i) = (D : Int) → 0 ≤ lv (b i)) : Lvl M n a b s lv D (i + 1) :=
  ⟨h.src, h.rng, fun h => by omega, h.old, fun j hj hd => by
    by_cases e : j = i
    · subst e; exact ht hd
    · exact h.now j (by omega) hd, h.gap⟩

theorem Lvl.put (h : Lvl M n a b s lv D i) (ha : a i < M) (hb : b i < M) (hs : s < M) (h1 : lv (a i) = (D : Int)) (h2 : lv (b i) < 0) : Lvl M n a b s (upf lv (b i) ((D : Int) + 1)) D (i + 1) := by
  have sb : s ≠ b i := fun e => by have := h.src; rw [e] at this; omega
  have up : ∀ v, 0 ≤ lv v → upf lv (b i) ((D : Int) + 1) v = lv v := fun v hv => upf_ne fun e => by rw [e] at hv; omega
  have pos : ∀ v, 0 ≤ lv v → 0 ≤ upf lv (b i) ((D : Int) + 1) v := fun v hv => by rw [up v hv]; exact hv
  refine ⟨by rw [upf_ne sb]; exact h.src, fun v hv => ?_, fun h => by omega, fun j hj h3 h4 => ?_, fun j hj h3 => ?_, fun v hv h3 => ?_⟩
  · by_cases e : v = b i
    · subst e; rw [upf_same]; right; omega
    · rw [upf_ne e]; exact h.rng v hv
  · have hne : a j ≠ b i := fun e => by rw [e, upf_same] at h4; omega
    rw [upf_ne hne] at h3 h4
    exact pos _ (h.old j hj h3 h4)
  · have hne : a j ≠ b i := fun e => by rw [e, upf_same] at h3; omega
    rw [upf_ne hne] at h3
    by_cases e : j = i
    · subst e; rw [upf_same]; omega
    · exact pos _ (h.now j (by omega) h3)
  · by_cases e : v = b i
    · subst e
      refine ⟨a i, ha, ?_⟩
      rw [upf_same, up _ (by omega)]; omega
    · rw [upf_ne e] at h3
      obtain ⟨u, hu, h4⟩ := h.gap v hv h3
      refine ⟨u, hu, ?_⟩
      rw [upf_ne e, up u (by omega)]; exact h4

theorem Lvl.round (h : Lvl M n a b s lv D n) (ha : ∀ j, j < n → a j < M) : Lvl M n a b s lv (D + 1) 0 :=
  ⟨h.src, fun v hv => by rcases h.rng v hv with h | h <;> omega, fun _ v hv => by rcases h.rng v hv with h | h <;> omega, fun j hj h1 h2 => by
    by_cases e : lv (a j) = (D : Int)
    · exact h.now j hj e
    · exact h.old j hj h1 (by omega), fun j hj => by omega, h.gap⟩

/-- all that can be reached has a level -/
theorem Lvl.done (h : Lvl M n a b s lv M 0) (ha : ∀ j, j < n → a j < M) : ∀ j, j < n → 0 ≤ lv (a j) → 0 ≤ lv (b j) := by
  intro j hj h1
  by_cases e : lv (a j) < (M : Int)
  · exact h.old j hj h1 e
  · exfalso
    have key : ∀ d, d ≤ M → ∃ u, u < M ∧ lv u = ((M - d : Nat) : Int) := by
      intro d
      induction d with
      | zero => intro _; exact ⟨a j, ha j hj, by have := h.rng0 rfl _ (ha j hj); omega⟩
      | succ d ih =>
        intro hd
        obtain ⟨u, hu, h2⟩ := ih (by omega)
        obtain ⟨w, hw, h3⟩ := h.gap u hu (by omega)
        exact ⟨w, hw, by omega⟩
    have key' : ∀ l, l ≤ M → ∃ u, u < M ∧ lv u = (l : Int) := fun l hl => by
      obtain ⟨u, h1, h2⟩ := key (M - l) (by omega)
      exact ⟨u, h1, by omega⟩
    have : ∃ f : Nat → Nat, ∀ l, l ≤ M → f l < M ∧ lv (f l) = (l : Int) := by
      refine ⟨fun l => if h : l ≤ M then Classical.choose (key' l h) else 0, fun l hl => ?_⟩
      simp only [hl, dif_pos]
      exact Classical.choose_spec (key' l hl)
    obtain ⟨f, hf⟩ := this
    obtain ⟨x, y, h2, h3, h4⟩ := pigeon (M := M) (f := f) fun i hi => (hf i hi).1
    have h5 := (hf x (by omega)).2
    have h6 := (hf y h3).2
    rw [h4] at h5
    omega
end

end
end Go.Mz
