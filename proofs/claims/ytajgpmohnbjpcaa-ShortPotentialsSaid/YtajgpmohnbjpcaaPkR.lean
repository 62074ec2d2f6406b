/-
  Joined: RfA, RfB.
-/
import Derived.Test.YtajgpmohnbjpcaaPkB
import Derived.Test.YtajgpmohnbjpcaaPkG
import Derived.Test.YtajgpmohnbjpcaaGRfb
set_option linter.unusedSimpArgs false
set_option linter.unusedVariables false
/-
  The document's functions of layers 4 and 8, walked: Wrong, rounds, settled, Dist, Potentials.
-/
namespace Go.Mz
section
variable {E : Value → Hp → Prop}

theorem rrounds {N : Int} {ep dp : Option Addr} {n ec dc : Nat} {e : Nat → Edg} {d0 : Nat → Int} {H : Hp} {K : Option Addr → Nat → Nat → Hp → Prop} (he : Rdr H ep n e) (hr : Right N n e) (h0 : ∀ v, v < N.toNat → d0 v = 0 ∨ d0 v = Far) (rd : Row H dp N.toNat dc d0)
    (k : ∀ H' p c, Step (fun _ => False) H H' → Row H' p N.toNat c (jac n (ga e) (gb e) (gc e) d0 N.toNat) → (∀ y, fpS p y → fpS dp y ∨ H y = none) → K p N.toNat c H') : compassref08_rounds.call N ep n ec dp N.toNat dc N E H K := by
  have hG := hr.gr
  have hN0 := hr.N0; have hN1 := hr.N1; have hn1 := hr.n1
  have hF : Far = 4611686018427387904 := rfl
  refine compassref08_rounds.of (compassref08_rounds.run_eq ?_)
  unfold compassref08_rounds.run_t
  refine nwk fun b1 H1 hb1 e1 s1 => ?_
  have dl : ∀ y, fpS dp y → y ≠ b1 := fun y hy h => rd.live hy (h ▸ hb1)
  refine compassref08_rounds.l1_rule (fun p' n' c' times g3 k7 H' => n' = N.toNat ∧ times = N ∧ g3 = b1 ∧ ∃ t : Nat, k7 = t ∧ t ≤ N.toNat ∧ Row H' p' N.toNat c' (jac n (ga e) (gb e) (gc e) d0 t) ∧ (∀ y, fpS p' y → (fpS dp y ∨ H y = none) ∧ y ≠ b1) ∧ Step (fun _ => False) H H' ∧ H' b1 = some ⟨[.int .i64 N, .slice ep n ec], 51⟩)
    (fun p' n' c' times g3 k7 H' => N.toNat - k7.toNat) ?_ ⟨rfl, rfl, rfl, 0, rfl, by omega, rd.keep s1 fun _ _ h => h, fun y hy => ⟨.inl hy, dl y hy⟩, s1, e1⟩
  clear e1
  rintro p' n' c' times g3 k7 H2 ⟨rfl, rfl, rfl, t, rfl, ht, rT, fT, s2, c1⟩ X hX
  refine compassref08_rounds.b1_eq ?_
  unfold compassref08_rounds.b1_t
  refine bc (fun hlt => ?_) fun hge => ?_
  · refine nwk fun b2 H3 hb2 e2 s3 => ?_
    have hrow0 : Row H3 (some ⟨b2, 0, none⟩) 0 0 (fun _ => (0 : Int)) := ⟨Nat.le_refl _, by decide, .inr ⟨b2, 0, _, rfl, e2, ⟨by simp, rfl⟩, fun i hi => by omega⟩⟩
    have rT3 := rT.keep s3 fun _ _ h => h
    refine hrow0.appR (α := Int) rT3 rfl (by omega) (by decide) fun np nc H4 r4 s4 f4 => ?_
    replace r4 : Row H4 np times.toNat nc (jac n (ga e) (gb e) (gc e) d0 t) := by
      rw [Nat.zero_add] at r4
      exact r4.congr fun i _ => by rw [if_neg (by omega), Nat.sub_zero]
    rw [Nat.zero_add]
    have fN2 : ∀ y, fpS np y → H2 y = none := fun y hy => by
      rcases f4 y hy with h | h
      · rw [fpS_mk] at h; exact h ▸ hb2
      · exact s3.mono y h
    have s24 : Step (fun _ => False) H2 H4 := s3.own s4 fun y hy => by rw [fpS_mk] at hy; exact hy ▸ hb2
    have s04 := s2.and s24
    refine compassref08_rounds.l2_rule (fun q' m' d' times' a3 k7 np' nn' nc' i9 H' => q' = p' ∧ m' = times.toNat ∧ d' = c' ∧ times' = times ∧ a3 = g3 ∧ k7 = t ∧ np' = np ∧ nn' = times.toNat ∧ nc' = nc ∧ ∃ i : Nat, i9 = i ∧ i ≤ n ∧ Row H' p' times.toNat c' (jac n (ga e) (gb e) (gc e) d0 t) ∧ Row H' np times.toNat nc (jstep (ga e) (gb e) (gc e) (jac n (ga e) (gb e) (gc e) d0 t) i) ∧
        Step (fun _ => False) H H' ∧ H' g3 = some ⟨[.int .i64 times, .slice ep n ec], 51⟩)
      (fun q' m' d' times' a3 k7 np' nn' nc' i9 H' => n - i9.toNat) ?_ ⟨rfl, rfl, rfl, rfl, rfl, rfl, rfl, rfl, rfl, 0, rfl, by omega, rT.keep s24 fun _ _ h => h, r4, s04, s24.keep _ _ c1 fun h => h⟩
    rintro q' m' d' times' a3 k7 np' nn' nc' i9 H5 ⟨rfl, rfl, rfl, rfl, rfl, rfl, rfl, rfl, rfl, i, rfl, hi, rD, rN, s5, c15⟩ Y hY
    refine compassref08_rounds.b2_eq ?_
    unfold compassref08_rounds.b2_t
    simp only [get_at c15, List.getElem?_cons_zero, List.getElem?_cons_succ, ldI_mk, ldS_mk]
    have fN : ∀ y, fpS np' y → H y = none := fun y hy => s2.mono _ (fN2 y hy)
    have dN : ∀ y, fpS q' y → ¬ fpS np' y := fun y hy h => rT.live hy (fN2 y h)
    have gN : ¬ fpS np' a3 := fun h => by have := fN2 _ h; rw [c1] at this; cases this
    refine bc (fun hlt2 => ?_) fun hge2 => ?_
    · try simp only [get_at c15, List.getElem?_cons_zero, List.getElem?_cons_succ, ldI_mk, ldS_mk]
      obtain ⟨u, w, hu, hw, hun, hwn⟩ := (hr.ed i (by omega)).nat
      have hk0 := (hr.ed i (by omega)).k0
      have hk1 := (hr.ed i (by omega)).k1
      have eu : ga e i = u := by unfold ga; omega
      have ew : gb e i = w := by unfold gb; omega
      have hco : (e i).co = gc e i := rfl
      refine (he.keep s5 fun _ _ _ h => h).edge (by omega) (by omega) ?_
      simp only [Int.toNat_natCast]
      rw [hu, hw]
      refine nwst rfl rfl fun b4 H6 hb4 e4 s6 => ?_
      have c16 := s6.keep _ _ c15 fun h => h
      have rD6 := rD.keep s6 fun _ _ h => h
      have rN6 := rN.keep s6 fun _ _ h => h
      have s06 := s5.and s6
      have bd := jac_far hG h0 (t := t) (v := u) (by omega) hun
      have next : ∀ (H' : Hp), Row H' q' times'.toNat d' (jac n (ga e) (gb e) (gc e) d0 t) → Row H' np' times'.toNat nc' (jstep (ga e) (gb e) (gc e) (jac n (ga e) (gb e) (gc e) d0 t) (i + 1)) → Step (fun _ => False) H H' → H' a3 = some ⟨[.int .i64 times', .slice ep n ec], 51⟩ →
          compassref08_rounds.j1 q' times'.toNat d' times' a3 (t : Int) np' times'.toNat nc' (i : Int) X Y E H' K := fun H' q1 q2 q3 q4 => by
        refine compassref08_rounds.j1_eq ?_
        unfold compassref08_rounds.j1_t
        rw [i64w (by omega) (by omega)]
        exact hY _ _ _ _ _ _ _ _ _ _ _ ⟨rfl, rfl, rfl, rfl, rfl, rfl, rfl, rfl, rfl, i + 1, by omega, by omega, q1, q2, q3, q4⟩ (by omega)
      have skip : ¬ (jac n (ga e) (gb e) (gc e) d0 t u < Far ∧ jac n (ga e) (gb e) (gc e) d0 t u + gc e i < jstep (ga e) (gb e) (gc e) (jac n (ga e) (gb e) (gc e) d0 t) i w) → compassref08_rounds.j1 q' times'.toNat d' times' a3 (t : Int) np' times'.toNat nc' (i : Int) X Y E H6 K := fun h => by
        refine next H6 rD6 ?_ s06 c16
        unfold jstep
        rw [eu, ew, if_neg h]; exact rN6
      simp only [get_at e4, List.getElem?_cons_zero, List.getElem?_cons_succ, ldI_mk, ldS_mk]
      refine rD6.ixI (by omega) (by omega) ?_
      refine bc (fun hf => ?_) fun hf => skip fun h => hf h.1
      simp only [Int.toNat_natCast] at hf
      try simp only [get_at e4, List.getElem?_cons_zero, List.getElem?_cons_succ, ldI_mk, ldS_mk]
      refine rD6.ixI (by omega) (by omega) ?_
      try simp only [get_at e4, List.getElem?_cons_zero, List.getElem?_cons_succ, ldI_mk, ldS_mk]
      refine rN6.ixI (by omega) (by omega) ?_
      rw [hco] at hk0 hk1 ⊢
      have hsum : IntKind.wrap .i64 (jac n (ga e) (gb e) (gc e) d0 t u + gc e i) = jac n (ga e) (gb e) (gc e) d0 t u + gc e i := i64w (by omega) (by omega)
      refine bc (fun hl => ?_) fun hl => skip fun h => by simp only [Int.toNat_natCast, hsum] at hl; omega
      simp only [Int.toNat_natCast, hsum] at hl
      try simp only [get_at e4, List.getElem?_cons_zero, List.getElem?_cons_succ, ldI_mk, ldS_mk]
      refine rD6.ixI (by omega) (by omega) ?_
      try simp only [get_at e4, List.getElem?_cons_zero, List.getElem?_cons_succ, ldI_mk, ldS_mk]
      simp only [Int.toNat_natCast]
      rw [hsum]
      refine rN6.stI (by omega) (by omega) _ fun H7 r7 s7 => ?_
      simp only [Int.toNat_natCast] at r7
      refine next H7 (rD6.keep s7 dN) ?_ (s06.own s7 fN) (s7.keep _ _ c16 gN)
      unfold jstep
      rw [eu, ew, if_pos ⟨hf, hl⟩]; exact r7
    · have : i = n := by omega
      subst this
      refine compassref08_rounds.j2_eq ?_
      unfold compassref08_rounds.j2_t
      rw [i64w (by omega) (by omega)]
      exact hX _ _ _ _ _ _ _ ⟨rfl, rfl, rfl, t + 1, by omega, by omega, rN, fun y hy => ⟨.inr (fN y hy), fun h => gN (h ▸ hy)⟩, s5, c15⟩ (by omega)
  · have : t = times.toNat := by omega
    subst this
    exact k H2 p' c' s2 rT fun y hy => (fT y hy).1

open Classical in
theorem rsettled {N : Int} {ep dp : Option Addr} {n ec dc : Nat} {e : Nat → Edg} {d : Nat → Int} {H : Hp} {K : Bool → Hp → Prop} (he : Rdr H ep n e) (hr : Right N n e) (hb : ∀ v, v < N.toNat → d v = Far ∨ (-1073741824 ≤ d v ∧ d v ≤ 1073741824)) (rd : Rdr H dp N.toNat d)
    (k : ∀ H', Step (fun _ => False) H H' → K (decide (Stl n (ga e) (gb e) (gc e) d)) H') : compassref08_settled.call N ep n ec dp N.toNat dc E H K := by
  have hN0 := hr.N0; have hN1 := hr.N1; have hn1 := hr.n1
  have hF : Far = 4611686018427387904 := rfl
  refine compassref08_settled.of (compassref08_settled.run_eq ?_)
  unfold compassref08_settled.run_t
  refine nwk fun b1 H1 hb1 e1 s1 => ?_
  refine compassref08_settled.l1_rule (fun p' n' c' g2 i5 H' => p' = dp ∧ n' = N.toNat ∧ g2 = b1 ∧ ∃ i : Nat, i5 = i ∧ i ≤ n ∧ (∀ j, j < i → d (ga e j) < Far → d (gb e j) ≤ d (ga e j) + gc e j) ∧ Step (fun _ => False) H H' ∧ H' b1 = some ⟨[.int .i64 N, .slice ep n ec], 51⟩)
    (fun p' n' c' g2 i5 H' => n - i5.toNat) ?_ ⟨rfl, rfl, rfl, 0, rfl, by omega, fun j hj => by omega, s1, e1⟩
  rintro p' n' c' g2 i5 H2 ⟨rfl, rfl, rfl, i, rfl, hi, hall, s2, c1⟩ X hX
  refine compassref08_settled.b1_eq ?_
  unfold compassref08_settled.b1_t
  simp only [get_at c1, List.getElem?_cons_zero, List.getElem?_cons_succ, ldI_mk, ldS_mk]
  refine bc (fun hlt => ?_) fun hge => ?_
  · try simp only [get_at c1, List.getElem?_cons_zero, List.getElem?_cons_succ, ldI_mk, ldS_mk]
    obtain ⟨u, w, hu, hw, hun, hwn⟩ := (hr.ed i (by omega)).nat
    have hk0 := (hr.ed i (by omega)).k0
    have hk1 := (hr.ed i (by omega)).k1
    have eu : ga e i = u := by unfold ga; omega
    have ew : gb e i = w := by unfold gb; omega
    have hco : (e i).co = gc e i := rfl
    refine (he.keep s2 fun _ _ _ h => h).edge (by omega) (by omega) ?_
    simp only [Int.toNat_natCast]
    rw [hu, hw]
    refine nwst rfl rfl fun b4 H3 hb4 e4 s3 => ?_
    have c13 := s3.keep _ _ c1 fun h => h
    have s03 := s2.and s3
    have rd3 := rd.keep s03 fun _ _ _ h => h
    have bd := hb u hun
    have next : (d u < Far → d w ≤ d u + gc e i) → compassref08_settled.j1 p' N.toNat c' g2 (i : Int) X E H3 K := fun h => by
      refine compassref08_settled.j1_eq ?_
      unfold compassref08_settled.j1_t
      rw [i64w (by omega) (by omega)]
      refine hX _ _ _ _ _ _ ⟨rfl, rfl, rfl, i + 1, by omega, by omega, fun j hj => ?_, s03, c13⟩ (by omega)
      by_cases e' : j = i
      · subst e'; rw [eu, ew]; exact h
      · exact hall j (by omega)
    simp only [get_at e4, List.getElem?_cons_zero, List.getElem?_cons_succ, ldI_mk, ldS_mk]
    refine rd3.ixI (by omega) (by omega) ?_
    refine bc (fun hf => ?_) fun hf => next fun h => (hf h).elim
    simp only [Int.toNat_natCast] at hf
    try simp only [get_at e4, List.getElem?_cons_zero, List.getElem?_cons_succ, ldI_mk, ldS_mk]
    refine rd3.ixI (by omega) (by omega) ?_
    try simp only [get_at e4, List.getElem?_cons_zero, List.getElem?_cons_succ, ldI_mk, ldS_mk]
    refine rd3.ixI (by omega) (by omega) ?_
    rw [hco] at hk0 hk1 ⊢
    have hsum : IntKind.wrap .i64 (d u + gc e i) = d u + gc e i := i64w (by omega) (by omega)
    refine bc (fun hl => ?_) fun hl => next fun _ => by simp only [Int.toNat_natCast, hsum] at hl; omega
    simp only [Int.toNat_natCast, hsum] at hl
    have := k H3 s03
    rwa [decide_eq_false fun h => by
      have := h i (by omega) (by rw [eu]; exact hf)
      rw [eu, ew] at this; omega] at this
  · have : i = n := by omega
    subst this
    have := k H2 s2
    rwa [decide_eq_true (show Stl i (ga e) (gb e) (gc e) d from hall)] at this

open Classical in
theorem rpotentials {N : Int} {ep : Option Addr} {n ec : Nat} {e : Nat → Edg} {H : Hp} {K : Option Addr → Nat → Nat → Int → Hp → Prop} (he : Rdr H ep n e)
    (bad : chk N n e ≠ 0 → ∀ H', Step (fun _ => False) H H' → K none 0 0 (chk N n e) H')
    (neg : Right N n e → ¬ Stl n (ga e) (gb e) (gc e) (jac n (ga e) (gb e) (gc e) (fun _ => 0) N.toNat) → ∀ H', Step (fun _ => False) H H' → K none 0 0 80 H')
    (ok : Right N n e → Stl n (ga e) (gb e) (gc e) (jac n (ga e) (gb e) (gc e) (fun _ => 0) N.toNat) → ∀ H' p c, Step (fun _ => False) H H' → Row H' p N.toNat c (jac n (ga e) (gb e) (gc e) (fun _ => 0) N.toNat) → (∀ y, fpS p y → H y = none) → K p N.toNat c 0 H') : compassref08_Potentials.call N ep n ec E H K := by
  refine compassref08_Potentials.of (compassref08_Potentials.run_eq ?_)
  unfold compassref08_Potentials.run_t
  refine nwk fun b1 H1 hb1 e1 s1 => ?_
  simp only [get_at e1, List.getElem?_cons_zero, List.getElem?_cons_succ, ldI_mk, ldS_mk]
  refine rcheck (he.keep s1 fun _ _ _ h => h) fun H2 a s2 => ?_
  have c1 := s2.keep _ _ e1 fun h => h
  have s02 := s1.and s2
  refine bcn (fun hw => bad hw H2 s02) fun hw => ?_
  have hr := chk_zero.1 hw
  have hN0 := hr.N0; have hN1 := hr.N1
  simp only [get_at c1, List.getElem?_cons_zero, List.getElem?_cons_succ, ldI_mk, ldS_mk]
  refine Row.mkI hN0 (by omega) fun bd H3 hbd rd s3 => ?_
  have c13 := s3.keep _ _ c1 fun h => h
  have fd : H bd = none := s02.mono _ hbd
  have s03 := s02.and s3
  simp only [get_at c13, List.getElem?_cons_zero, List.getElem?_cons_succ, ldI_mk, ldS_mk]
  refine rrounds (he.keep s03 fun _ _ _ h => h) hr (fun v _ => .inl rfl) rd fun H6 p c s6 r6 f6 => ?_
  have c16 := s6.keep _ _ c13 fun h => h
  have s06 := s03.and s6
  simp only [get_at c16, List.getElem?_cons_zero, List.getElem?_cons_succ, ldI_mk, ldS_mk]
  refine rsettled (he.keep s06 fun _ _ _ h => h) hr (fun v hv => jac_far hr.gr (fun v _ => .inl rfl) (by omega) hv) r6.rdr fun H7 s7 => ?_
  by_cases hS : Stl n (ga e) (gb e) (gc e) (jac n (ga e) (gb e) (gc e) (fun _ => 0) N.toNat)
  · rw [decide_eq_true hS]
    refine bcb (fun h => by cases h) fun _ => ?_
    exact ok hr hS H7 p c (s06.and s7) (r6.keep s7 fun _ _ h => h) fun y hy => (f6 y hy).elim (fun h => by rw [fpS_mk] at h; exact h ▸ fd) fun h => s03.mono _ h
  · rw [decide_eq_false hS]
    refine bcb (fun _ => ?_) fun h => by cases h
    exact neg hr hS H7 (s06.and s7)
end
end Go.Mz

/-
  The document's functions of layers 4 and 8, walked: Cost, Circle, Levels, Way, Tree.
-/
namespace Go.Mz
section
variable {E : Value → Hp → Prop}

theorem rcost8 {N : Int} {ep : Option Addr} {n ec : Nat} {e : Nat → Edg} {p : Option Addr} {m c : Nat} {f : Nat → Int} {H : Hp} {K : Int → Hp → Prop} (he : Rdr H ep n e) (hr : Right N n e) (hm : Rdr H p m f) (hs : ∀ k, k < m → 0 ≤ f k ∧ f k < (n : Int)) (hl : m ≤ 4096)
    (kk : ∀ H', Step (fun _ => False) H H' → K (cst e f m) H') : compassref08_Cost.call N ep n ec p m c E H K := by
  have hn := hr.n1
  refine compassref08_Cost.of (compassref08_Cost.run_eq ?_)
  unfold compassref08_Cost.run_t
  refine nwk fun b1 H1 hb1 e1 s1 => ?_
  refine compassref08_Cost.l1_rule (fun tp tn tc g2 n5 i6 H' => p = tp ∧ m = tn ∧ b1 = g2 ∧ H1 = H' ∧ ∃ i : Nat, i6 = i ∧ i ≤ m ∧ n5 = cst e f i ∧ -(1048576 * (i : Int)) ≤ cst e f i ∧ cst e f i ≤ 1048576 * (i : Int))
    (fun tp tn tc g2 n5 i6 H' => m - i6.toNat) ?_ ⟨rfl, rfl, rfl, rfl, 0, rfl, by omega, rfl, by simp [cst], by simp [cst]⟩
  rintro tp tn tc g2 n5 i6 H' ⟨rfl, rfl, rfl, rfl, i, rfl, hi, rfl, hb⟩ X hX
  refine compassref08_Cost.b1_eq ?_
  unfold compassref08_Cost.b1_t
  refine bc (fun hlt => ?_) fun hge => ?_
  · simp only [get_at e1, List.getElem?_cons_zero, List.getElem?_cons_succ, ldI_mk, ldS_mk]
    refine (hm.keep s1 fun _ _ _ h => h).ixI (by omega) (by omega) ?_
    simp only [Int.toNat_natCast]
    have hmi := hs i (by omega)
    have h0 := (hr.ed (f i).toNat (by omega)).k0
    have h1 := (hr.ed (f i).toNat (by omega)).k1
    refine (he.keep s1 fun _ _ _ h => h).edgeC (by omega) (by omega) ?_
    have hc : cst e f (i + 1) = cst e f i + (e (f i).toNat).co := rfl
    rw [i64w (by omega) (by omega), i64w (by omega) (by omega), ← hc]
    exact hX _ _ _ _ _ _ _ ⟨rfl, rfl, rfl, rfl, i + 1, by omega, by omega, rfl, by omega, by omega⟩ (by omega)
  · have : i = m := by omega
    subst this
    exact kk _ s1

theorem rcircle {N : Int} {ep : Option Addr} {n ec : Nat} {e : Nat → Edg} {p : Option Addr} {m c : Nat} {f : Nat → Int} {H : Hp} {K : Bool → Hp → Prop} (he : Rdr H ep n e) (hr : Right N n e) (hm : Rdr H p m f) (hC : Cyc N n e m f)
    (kk : ∀ H', Step (fun _ => False) H H' → K true H') : compassref04_Circle.call N ep n ec p m c E H K := by
  have hN0 := hr.N0; have hN1 := hr.N1; have hn1 := hr.n1
  have hm0 := hC.m0; have hmn := hC.mn
  refine compassref04_Circle.of (compassref04_Circle.run_eq ?_)
  unfold compassref04_Circle.run_t
  refine nwk fun b1 H1 hb1 e1 s1 => ?_
  refine bc (fun h => by omega) fun _ => ?_
  simp only [get_at e1, List.getElem?_cons_zero, List.getElem?_cons_succ, ldI_mk, ldS_mk]
  refine bc (fun h => by omega) fun _ => ?_
  try simp only [get_at e1, List.getElem?_cons_zero, List.getElem?_cons_succ, ldI_mk, ldS_mk]
  refine Row.mkB hN0 (by omega) fun b2 H2 hb2 r2 s2 => ?_
  have c1 := s2.keep _ _ e1 fun h => h
  have f2 : H b2 = none := s1.mono _ hb2
  have d1 : b1 ≠ b2 := ne_of_live hb2 (by rw [e1]; exact fun h => by cases h)
  refine compassref04_Circle.l1_rule (fun tp tn tc g2 sp sn sc k6 H' => tp = p ∧ tn = m ∧ g2 = b1 ∧ sp = some ⟨b2, 0, none⟩ ∧ sn = N.toNat ∧ sc = N.toNat ∧ ∃ k : Nat, k6 = k ∧ k ≤ m ∧ Step (fun _ => False) H H' ∧ H' b1 = some ⟨[.int .i64 N, .slice ep n ec], 51⟩ ∧ ∃ g, Row H' (some ⟨b2, 0, none⟩) N.toNat N.toNat g ∧ ∀ v, v < N.toNat → (g v = true ↔ ∃ j, j < k ∧ gb e (f j).toNat = v))
    (fun tp tn tc g2 sp sn sc k6 H' => m - k6.toNat) ?_ ⟨rfl, rfl, rfl, rfl, rfl, rfl, 0, rfl, by omega, s1.and s2, c1, _, r2, fun v hv => ⟨fun h => (by cases h), fun ⟨j, hj, _⟩ => (by omega)⟩⟩
  clear e1 c1 s2 r2
  rintro tp tn tc g2 sp sn sc k6 H3 ⟨rfl, rfl, rfl, rfl, rfl, rfl, k, rfl, hk, s3, c1, g, r3, hg⟩ X hX
  refine compassref04_Circle.b1_eq ?_
  unfold compassref04_Circle.b1_t
  refine bc (fun hlt => ?_) fun hge => kk _ s3
  have hm3 := hm.keep s3 fun _ _ _ h => h
  have he3 := he.keep s3 fun _ _ _ h => h
  obtain ⟨q0, q1⟩ := hC.rg k (by omega)
  have hmod : (k + 1) % tn < tn := Nat.mod_lt _ hm0
  obtain ⟨p0, p1⟩ := hC.rg ((k + 1) % tn) hmod
  have hon := hC.on k (by omega)
  obtain ⟨u, w, hu, hw, hun, hwn⟩ := (hr.ed (f k).toNat (by omega)).nat
  obtain ⟨u', w', hu', hw', hun', hwn'⟩ := (hr.ed (f ((k + 1) % tn)).toNat (by omega)).nat
  have ew : gb e (f k).toNat = w := by unfold gb; omega
  have eu' : ga e (f ((k + 1) % tn)).toNat = u' := by unfold ga; omega
  rw [ew, eu'] at hon
  refine hm3.ixI (by omega) (by omega) ?_
  simp only [Int.toNat_natCast]
  refine bc (fun h => by omega) fun _ => ?_
  refine hm3.ixI (by omega) (by omega) ?_
  simp only [Int.toNat_natCast]
  simp only [get_at c1, List.getElem?_cons_zero, List.getElem?_cons_succ, ldI_mk, ldS_mk]
  refine bc (fun h => by omega) fun _ => ?_
  refine ⟨by omega, ?_⟩
  rw [i64w (by omega) (by omega)]
  have htm : Int.tmod ((k : Int) + 1) (tn : Int) = (((k + 1) % tn : Nat) : Int) := by
    rw [Int.tmod_eq_emod_of_nonneg (by omega), show ((k : Int) + 1) = ((k + 1 : Nat) : Int) by omega, ← Int.natCast_emod]
  rw [htm]
  refine hm3.ixI (by omega) (by omega) ?_
  simp only [Int.toNat_natCast]
  refine bc (fun h => by omega) fun _ => ?_
  try simp only [get_at c1, List.getElem?_cons_zero, List.getElem?_cons_succ, ldI_mk, ldS_mk]
  refine bc (fun h => by omega) fun _ => ?_
  try simp only [get_at c1, List.getElem?_cons_zero, List.getElem?_cons_succ, ldI_mk, ldS_mk]
  refine hm3.ixI (by omega) (by omega) ?_
  simp only [Int.toNat_natCast]
  refine he3.edgeT (by omega) (by omega) ?_
  try simp only [get_at c1, List.getElem?_cons_zero, List.getElem?_cons_succ, ldI_mk, ldS_mk]
  refine he3.edgeF (by omega) (by omega) ?_
  refine bcn (fun h => (h (by rw [hw, hu', hon])).elim) fun _ => ?_
  try simp only [get_at c1, List.getElem?_cons_zero, List.getElem?_cons_succ, ldI_mk, ldS_mk]
  refine hm3.ixI (by omega) (by omega) ?_
  simp only [Int.toNat_natCast]
  refine he3.edgeT (by omega) (by omega) ?_
  rw [hw]
  refine r3.ixB (by omega) (by omega) ?_
  simp only [Int.toNat_natCast]
  have hgw : g w = false := by
    cases hh : g w with
    | false => rfl
    | true =>
      obtain ⟨j, hj, hje⟩ := (hg w hwn).1 hh
      exact (hC.df j k (by omega) (by omega) (by omega) (by rw [hje, ew])).elim
  rw [hgw]
  refine bcb (fun h => by cases h) fun _ => ?_
  try simp only [get_at c1, List.getElem?_cons_zero, List.getElem?_cons_succ, ldI_mk, ldS_mk]
  refine hm3.ixI (by omega) (by omega) ?_
  simp only [Int.toNat_natCast]
  refine he3.edgeT (by omega) (by omega) ?_
  rw [hw]
  refine r3.stB (by omega) (by omega) _ fun H4 r4 s4 => ?_
  simp only [Int.toNat_natCast] at r4
  refine hX _ _ _ _ _ _ _ _ _ ⟨rfl, rfl, rfl, rfl, rfl, rfl, k + 1, by omega, by omega, s3.own s4 fun y hy => (by rw [fpS_mk] at hy; exact hy ▸ f2), s4.keep _ _ c1 (by rw [fpS_mk]; exact d1), _, r4, fun v hv => ?_⟩ (by omega)
  by_cases e' : v = w
  · subst e'; rw [upf_same]; exact ⟨fun _ => ⟨k, by omega, ew⟩, fun _ => rfl⟩
  · rw [upf_ne e', hg v hv]
    refine ⟨fun ⟨j, h1, h2⟩ => ⟨j, by omega, h2⟩, fun ⟨j, h1, h2⟩ => ⟨j, ?_, h2⟩⟩
    by_cases hj : j = k
    · subst hj; rw [ew] at h2; exact (e' h2.symm).elim
    · omega

/-- where the levels stand: D rounds are done, i edges of the next -/
structure Lvl (M n : Nat) (a b : Nat → Nat) (s : Nat) (lv : Nat → Int) (D i : Nat) : Prop where
  src : lv s = 0
  rng : ∀ v, v < M → lv v = -1 ∨ (0 ≤ lv v ∧ lv v ≤ (D : Int) + 1)
  rng0 : i = 0 → ∀ v, v < M → lv v ≤ (D : Int)
  old : ∀ j, j < n → 0 ≤ lv (a j) → lv (a j) < (D : Int) → 0 ≤ lv (b j)
  now : ∀ j, j < i → lv (a j) = (D : Int) → 0 ≤ lv (b j)
  gap : ∀ v, v < M → 0 < lv v → ∃ u, u < M ∧ lv u = lv v - 1

section
variable {M n s D i : Nat} {a b : Nat → Nat} {lv : Nat → Int}

theorem Lvl.skip (h : Lvl M n a b s lv D i) (ht : lv (a i) = (D : Int) → 0 ≤ lv (b i)) : Lvl M n a b s lv D (i + 1) :=
  ⟨h.src, h.rng, fun h => by omega, h.old, fun j hj hd => by
    by_cases e : j = i
    · subst e; exact ht hd
    · exact h.now j (by omega) hd, h.gap⟩

theorem Lvl.put (h : Lvl M n a b s lv D i) (ha : a i < M) (hb : b i < M) (hs : s < M) (h1 : lv (a i) = (D : Int)) (h2 : lv (b i) < 0) : Lvl M n a b s (upf lv (b i) ((D : Int) + 1)) D (i + 1) := by
  have sb : s ≠ b i := fun e => by have := h.src; rw [e] at this; omega
  have up : ∀ v, 0 ≤ lv v → upf lv (b i) ((D : Int) + 1) v = lv v := fun v hv => upf_ne fun e => by rw [e] at hv; omega
  have pos : ∀ v, 0 ≤ lv v → 0 ≤ upf lv (b i) ((D : Int) + 1) v := fun v hv => by rw [up v hv]; exact hv
  refine ⟨by rw [upf_ne sb]; exact h.src, fun v hv => ?_, fun h => by omega, fun j hj h3 h4 => ?_, fun j hj h3 => ?_, fun v hv h3 => ?_⟩
  · by_cases e : v = b i
    · subst e; rw [upf_same]; right; omega
    · rw [upf_ne e]; exact h.rng v hv
  · have hne : a j ≠ b i := fun e => by rw [e, upf_same] at h4; omega
    rw [upf_ne hne] at h3 h4
    exact pos _ (h.old j hj h3 h4)
  · have hne : a j ≠ b i := fun e => by rw [e, upf_same] at h3; omega
    rw [upf_ne hne] at h3
    by_cases e : j = i
    · subst e; rw [upf_same]; omega
    · exact pos _ (h.now j (by omega) h3)
  · by_cases e : v = b i
    · subst e
      refine ⟨a i, ha, ?_⟩
      rw [upf_same, up _ (by omega)]; omega
    · rw [upf_ne e] at h3
      obtain ⟨u, hu, h4⟩ := h.gap v hv h3
      refine ⟨u, hu, ?_⟩
      rw [upf_ne e, up u (by omega)]; exact h4

theorem Lvl.round (h : Lvl M n a b s lv D n) (ha : ∀ j, j < n → a j < M) : Lvl M n a b s lv (D + 1) 0 :=
  ⟨h.src, fun v hv => by rcases h.rng v hv with h | h <;> omega, fun _ v hv => by rcases h.rng v hv with h | h <;> omega, fun j hj h1 h2 => by
    by_cases e : lv (a j) = (D : Int)
    · exact h.now j hj e
    · exact h.old j hj h1 (by omega), fun j hj => by omega, h.gap⟩

/-- all that can be reached has a level -/
theorem Lvl.done (h : Lvl M n a b s lv M 0) (ha : ∀ j, j < n → a j < M) : ∀ j, j < n → 0 ≤ lv (a j) → 0 ≤ lv (b j) := by
  intro j hj h1
  by_cases e : lv (a j) < (M : Int)
  · exact h.old j hj h1 e
  · exfalso
    have key : ∀ d, d ≤ M → ∃ u, u < M ∧ lv u = ((M - d : Nat) : Int) := by
      intro d
      induction d with
      | zero => intro _; exact ⟨a j, ha j hj, by have := h.rng0 rfl _ (ha j hj); omega⟩
      | succ d ih =>
        intro hd
        obtain ⟨u, hu, h2⟩ := ih (by omega)
        obtain ⟨w, hw, h3⟩ := h.gap u hu (by omega)
        exact ⟨w, hw, by omega⟩
    have key' : ∀ l, l ≤ M → ∃ u, u < M ∧ lv u = (l : Int) := fun l hl => by
      obtain ⟨u, h1, h2⟩ := key (M - l) (by omega)
      exact ⟨u, h1, by omega⟩
    have : ∃ f : Nat → Nat, ∀ l, l ≤ M → f l < M ∧ lv (f l) = (l : Int) := by
      refine ⟨fun l => if h : l ≤ M then Classical.choose (key' l h) else 0, fun l hl => ?_⟩
      simp only [hl, dif_pos]
      exact Classical.choose_spec (key' l hl)
    obtain ⟨f, hf⟩ := this
    obtain ⟨x, y, h2, h3, h4⟩ := pigeon (M := M) (f := f) fun i hi => (hf i hi).1
    have h5 := (hf x (by omega)).2
    have h6 := (hf y h3).2
    rw [h4] at h5
    omega
end

end
end Go.Mz
