/-
  Joined: RfA, RfB.
-/
import Derived.Test.YtajgpmohnbjpcaaPkB
import Derived.Test.YtajgpmohnbjpcaaPkG
import Derived.Test.YtajgpmohnbjpcaaGRfb
set_option linter.unusedSimpArgs false
set_option linter.unusedVariables false
/-
  The document's functions of layers 4 and 8, walked: Wrong, rounds, settled, Dist, Potentials.
-/
namespace Go.Mz
section
variable {E : Value → Hp → Prop}

end
end Go.Mz

/-
  The document's functions of layers 4 and 8, walked: Cost, Circle, Levels, Way, Tree.
-/
namespace Go.Mz
section
variable {E : Value → Hp → Prop}

theorem rcost8 {N : Int} {ep : Option Addr} {n ec : Nat} {e : Nat → Edg} {p : Option Addr} {m c : Nat} {f : Nat → Int} {H : Hp} {K : Int → Hp → Prop} (he : Rdr H ep n e) (hr : Right N n e) (hm : Rdr H p m f) (hs : ∀ k, k < m → 0 ≤ f k ∧ f k < (n : Int)) (hl : m ≤ 4096)
    (kk : ∀ H', Step (fun _ => False) H H' → K (cst e f m) H') : compassref08_Cost.call N ep n ec p m c E H K := by
  have hn := hr.n1
  refine compassref08_Cost.of (compassref08_Cost.run_eq ?_)
  unfold compassref08_Cost.run_t
  refine nwk fun b1 H1 hb1 e1 s1 => ?_
  refine compassref08_Cost.l1_rule (fun tp tn tc g2 n5 i6 H' => p = tp ∧ m = tn ∧ b1 = g2 ∧ H1 = H' ∧ ∃ i : Nat, i6 = i ∧ i ≤ m ∧ n5 = cst e f i ∧ -(1048576 * (i : Int)) ≤ cst e f i ∧ cst e f i ≤ 1048576 * (i : Int))
    (fun tp tn tc g2 n5 i6 H' => m - i6.toNat) ?_ ⟨rfl, rfl, rfl, rfl, 0, rfl, by omega, rfl, by simp [cst], by simp [cst]⟩
  rintro tp tn tc g2 n5 i6 H' ⟨rfl, rfl, rfl, rfl, i, rfl, hi, rfl, hb⟩ X hX
  refine compassref08_Cost.b1_eq ?_
  unfold compassref08_Cost.b1_t
  refine bc (fun hlt => ?_) fun hge => ?_
  · simp only [get_at e1, List.getElem?_cons_zero, List.getElem?_cons_succ, ldI_mk, ldS_mk]
    refine (hm.keep s1 fun _ _ _ h => h).ixI (by omega) (by omega) ?_
    simp only [Int.toNat_natCast]
    have hmi := hs i (by omega)
    have h0 := (hr.ed (f i).toNat (by omega)).k0
    have h1 := (hr.ed (f i).toNat (by omega)).k1
    refine (he.keep s1 fun _ _ _ h => h).edgeC (by omega) (by omega) ?_
    have hc : cst e f (i + 1) = cst e f i + (e (f i).toNat).co := rfl
    rw [i64w (by omega) (by omega), i64w (by omega) (by omega), ← hc]
    exact hX _ _ _ _ _ _ _ ⟨rfl, rfl, rfl, rfl, i + 1, by omega, by omega, rfl, by omega, by omega⟩ (by omega)
  · have : i = m := by omega
    subst this
    exact kk _ s1

theorem rcircle {N : Int} {ep : Option Addr} {n ec : Nat} {e : Nat → Edg} {p : Option Addr} {m c : Nat} {f : Nat → Int} {H : Hp} {K : Bool → Hp → Prop} (he : Rdr H ep n e) (hr : Right N n e) (hm : Rdr H p m f) (hC : Cyc N n e m f)
    (kk : ∀ H', Step (fun _ => False) H H' → K true H') : compassref04_Circle.call N ep n ec p m c E H K := by
  have hN0 := hr.N0; have hN1 := hr.N1; have hn1 := hr.n1
  have hm0 := hC.m0; have hmn := hC.mn
  refine compassref04_Circle.of (compassref04_Circle.run_eq ?_)
  unfold compassref04_Circle.run_t
  refine nwk fun b1 H1 hb1 e1 s1 => ?_
  refine bc (fun h => by omega) fun _ => ?_
  simp only [get_at e1, List.getElem?_cons_zero, List.getElem?_cons_succ, ldI_mk, ldS_mk]
  refine bc (fun h => by omega) fun _ => ?_
  try simp only [get_at e1, List.getElem?_cons_zero, List.getElem?_cons_succ, ldI_mk, ldS_mk]
  refine Row.mkB hN0 (by omega) fun b2 H2 hb2 r2 s2 => ?_
  have c1 := s2.keep _ _ e1 fun h => h
  have f2 : H b2 = none := s1.mono _ hb2
  have d1 : b1 ≠ b2 := ne_of_live hb2 (by rw [e1]; exact fun h => by cases h)
  refine compassref04_Circle.l1_rule (fun tp tn tc g2 sp sn sc k6 H' => tp = p ∧ tn = m ∧ g2 = b1 ∧ sp = some ⟨b2, 0, none⟩ ∧ sn = N.toNat ∧ sc = N.toNat ∧ ∃ k : Nat, k6 = k ∧ k ≤ m ∧ Step (fun _ => False) H H' ∧ H' b1 = some ⟨[.int .i64 N, .slice ep n ec], 51⟩ ∧ ∃ g, Row H' (some ⟨b2, 0, none⟩) N.toNat N.toNat g ∧ ∀ v, v < N.toNat → (g v = true ↔ ∃ j, j < k ∧ gb e (f j).toNat = v))
    (fun tp tn tc g2 sp sn sc k6 H' => m - k6.toNat) ?_ ⟨rfl, rfl, rfl, rfl, rfl, rfl, 0, rfl, by omega, s1.and s2, c1, _, r2, fun v hv => ⟨fun h => (by cases h), fun ⟨j, hj, _⟩ => (by omega)⟩⟩
  clear e1 c1 s2 r2
  rintro tp tn tc g2 sp sn sc k6 H3 ⟨rfl, rfl, rfl, rfl, rfl, rfl, k, rfl, hk, s3, c1, g, r3, hg⟩ X hX
  refine compassref04_Circle.b1_eq ?_
  unfold compassref04_Circle.b1_t
  refine bc (fun hlt => ?_) fun hge => kk _ s3
  have hm3 := hm.keep s3 fun _ _ _ h => h
  have he3 := he.keep s3 fun _ _ _ h => h
  obtain ⟨q0, q1⟩ := hC.rg k (by omega)
  have hmod : (k + 1) % tn < tn := Nat.mod_lt _ hm0
  obtain ⟨p0, p1⟩ := hC.rg ((k + 1) % tn) hmod
  have hon := hC.on k (by omega)
  obtain ⟨u, w, hu, hw, hun, hwn⟩ := (hr.ed (f k).toNat (by omega)).nat
  obtain ⟨u', w', hu', hw', hun', hwn'⟩ := (hr.ed (f ((k + 1) % tn)).toNat (by omega)).nat
  have ew : gb e (f k).toNat = w := by unfold gb; omega
  have eu' : ga e (f ((k + 1) % tn)).toNat = u' := by unfold ga; omega
  rw [ew, eu'] at hon
  refine hm3.ixI (by omega) (by omega) ?_
  simp only [Int.toNat_natCast]
  refine bc (fun h => by omega) fun _ => ?_
  refine hm3.ixI (by omega) (by omega) ?_
  simp only [Int.toNat_natCast]
  simp only [get_at c1, List.getElem?_cons_zero, List.getElem?_cons_succ, ldI_mk, ldS_mk]
  refine bc (fun h => by omega) fun _ => ?_
  refine ⟨by omega, ?_⟩
  rw [i64w (by omega) (by omega)]
  have htm : Int.tmod ((k : Int) + 1) (tn : Int) = (((k + 1) % tn : Nat) : Int) := by
    rw [Int.tmod_eq_emod_of_nonneg (by omega), show ((k : Int) + 1) = ((k + 1 : Nat) : Int) by omega, ← Int.natCast_emod]
  rw [htm]
  refine hm3.ixI (by omega) (by omega) ?_
  simp only [Int.toNat_natCast]
  refine bc (fun h => by omega) fun _ => ?_
  try simp only [get_at c1, List.getElem?_cons_zero, List.getElem?_cons_succ, ldI_mk, ldS_mk]
  refine bc (fun h => by omega) fun _ => ?_
  try simp only [get_at c1, List.getElem?_cons_zero, List.getElem?_cons_succ, ldI_mk, ldS_mk]
  refine hm3.ixI (by omega) (by omega) ?_
  simp only [Int.toNat_natCast]
  refine he3.edgeT (by omega) (by omega) ?_
  try simp only [get_at c1, List.getElem?_cons_zero, List.getElem?_cons_succ, ldI_mk, ldS_mk]
  refine he3.edgeF (by omega) (by omega) ?_
  refine bcn (fun h => (h (by rw [hw, hu', hon])).elim) fun _ => ?_
  try simp only [get_at c1, List.getElem?_cons_zero, List.getElem?_cons_succ, ldI_mk, ldS_mk]
  refine hm3.ixI (by omega) (by omega) ?_
  simp only [Int.toNat_natCast]
  refine he3.edgeT (by omega) (by omega) ?_
  rw [hw]
  refine r3.ixB (by omega) (by omega) ?_
  simp only [Int.toNat_natCast]
  have hgw : g w = false := by
    cases hh : g w with
    | false => rfl
    | true =>
      obtain ⟨j, hj, hje⟩ := (hg w hwn).1 hh
      exact (hC.df j k (by omega) (by omega) (by omega) (by rw [hje, ew])).elim
  rw [hgw]
  refine bcb (fun h => by cases h) fun _ => ?_
  try simp only [get_at c1, List.getElem?_cons_zero, List.getElem?_cons_succ, ldI_mk, ldS_mk]
  refine hm3.ixI (by omega) (by omega) ?_
  simp only [Int.toNat_natCast]
  refine he3.edgeT (by omega) (by omega) ?_
  rw [hw]
  refine r3.stB (by omega) (by omega) _ fun H4 r4 s4 => ?_
  simp only [Int.toNat_natCast] at r4
  refine hX _ _ _ _ _ _ _ _ _ ⟨rfl, rfl, rfl, rfl, rfl, rfl, k + 1, by omega, by omega, s3.own s4 fun y hy => (by rw [fpS_mk] at hy; exact hy ▸ f2), s4.keep _ _ c1 (by rw [fpS_mk]; exact d1), _, r4, fun v hv => ?_⟩ (by omega)
  by_cases e' : v = w
  · subst e'; rw [upf_same]; exact ⟨fun _ => ⟨k, by omega, ew⟩, fun _ => rfl⟩
  · rw [upf_ne e', hg v hv]
    refine ⟨fun ⟨j, h1, h2⟩ => ⟨j, by omega, h2⟩, fun ⟨j, h1, h2⟩ => ⟨j, ?_, h2⟩⟩
    by_cases hj : j = k
    · subst hj; rw [ew] at h2; exact (e' h2.symm).elim
    · omega

/-- where the levels stand: D rounds are done, i edges of the next -/
structure Lvl (M n : Nat) (a b : Nat → Nat) (s : Nat) (lv : Nat → Int) (D i : Nat) : Prop where
  src : lv s = 0
  rng : ∀ v, v < M → lv v = -1 ∨ (0 ≤ lv v ∧ lv v ≤ (D : Int) + 1)
  rng0 : i = 0 → ∀ v, v < M → lv v ≤ (D : Int)
  old : ∀ j, j < n → 0 ≤ lv (a j) → lv (a j) < (D : Int) → 0 ≤ lv (b j)
  now : ∀ j, j < i → lv (a j) = (D : Int) → 0 ≤ lv (b j)
  gap : ∀ v, v < M → 0 < lv v → ∃ u, u < M ∧ lv u = lv v - 1

section
variable {M n s D i : Nat} {a b : Nat → Nat} {lv : Nat → Int}

theorem Lvl.skip (h : Lvl M n a b s lv D i) (ht : lv (a i) = (D : Int) → 0 ≤ lv (b i)) : Lvl M n a b s lv D (i + 1) :=
  ⟨h.src, h.rng, fun h => by omega, h.old, fun j hj hd => by
    by_cases e : j = i
    · subst e; exact ht hd
    · exact h.now j (by omega) hd, h.gap⟩

theorem Lvl.put (h : Lvl M n a b s lv D i) (ha : a i < M) (hb : b i < M) (hs : s < M) (h1 : lv (a i) = (D : Int)) (h2 : lv (b i) < 0) : Lvl M n a b s (upf lv (b i) ((D : Int) + 1)) D (i + 1) := by
  have sb : s ≠ b i := fun e => by have := h.src; rw [e] at this; omega
  have up : ∀ v, 0 ≤ lv v → upf lv (b i) ((D : Int) + 1) v = lv v := fun v hv => upf_ne fun e => by rw [e] at hv; omega
  have pos : ∀ v, 0 ≤ lv v → 0 ≤ upf lv (b i) ((D : Int) + 1) v := fun v hv => by rw [up v hv]; exact hv
  refine ⟨by rw [upf_ne sb]; exact h.src, fun v hv => ?_, fun h => by omega, fun j hj h3 h4 => ?_, fun j hj h3 => ?_, fun v hv h3 => ?_⟩
  · by_cases e : v = b i
    · subst e; rw [upf_same]; right; omega
    · rw [upf_ne e]; exact h.rng v hv
  · have hne : a j ≠ b i := fun e => by rw [e, upf_same] at h4; omega
    rw [upf_ne hne] at h3 h4
    exact pos _ (h.old j hj h3 h4)
  · have hne : a j ≠ b i := fun e => by rw [e, upf_same] at h3; omega
    rw [upf_ne hne] at h3
    by_cases e : j = i
    · subst e; rw [upf_same]; omega
    · exact pos _ (h.now j (by omega) h3)
  · by_cases e : v = b i
    · subst e
      refine ⟨a i, ha, ?_⟩
      rw [upf_same, up _ (by omega)]; omega
    · rw [upf_ne e] at h3
      obtain ⟨u, hu, h4⟩ := h.gap v hv h3
      refine ⟨u, hu, ?_⟩
      rw [upf_ne e, up u (by omega)]; exact h4

theorem Lvl.round (h : Lvl M n a b s lv D n) (ha : ∀ j, j < n → a j < M) : Lvl M n a b s lv (D + 1) 0 :=
  ⟨h.src, fun v hv => by rcases h.rng v hv with h | h <;> omega, fun _ v hv => by rcases h.rng v hv with h | h <;> omega, fun j hj h1 h2 => by
    by_cases e : lv (a j) = (D : Int)
    · exact h.now j hj e
    · exact h.old j hj h1 (by omega), fun j hj => by omega, h.gap⟩

/-- all that can be reached has a level -/
theorem Lvl.done (h : Lvl M n a b s lv M 0) (ha : ∀ j, j < n → a j < M) : ∀ j, j < n → 0 ≤ lv (a j) → 0 ≤ lv (b j) := by
  intro j hj h1
  by_cases e : lv (a j) < (M : Int)
  · exact h.old j hj h1 e
  · exfalso
    have key : ∀ d, d ≤ M → ∃ u, u < M ∧ lv u = ((M - d : Nat) : Int) := by
      intro d
      induction d with
      | zero => intro _; exact ⟨a j, ha j hj, by have := h.rng0 rfl _ (ha j hj); omega⟩
      | succ d ih =>
        intro hd
        obtain ⟨u, hu, h2⟩ := ih (by omega)
        obtain ⟨w, hw, h3⟩ := h.gap u hu (by omega)
        exact ⟨w, hw, by omega⟩
    have key' : ∀ l, l ≤ M → ∃ u, u < M ∧ lv u = (l : Int) := fun l hl => by
      obtain ⟨u, h1, h2⟩ := key (M - l) (by omega)
      exact ⟨u, h1, by omega⟩
    have : ∃ f : Nat → Nat, ∀ l, l ≤ M → f l < M ∧ lv (f l) = (l : Int) := by
      refine ⟨fun l => if h : l ≤ M then Classical.choose (key' l h) else 0, fun l hl => ?_⟩
      simp only [hl, dif_pos]
      exact Classical.choose_spec (key' l hl)
    obtain ⟨f, hf⟩ := this
    obtain ⟨x, y, h2, h3, h4⟩ := pigeon (M := M) (f := f) fun i hi => (hf i hi).1
    have h5 := (hf x (by omega)).2
    have h6 := (hf y h3).2
    rw [h4] at h5
    omega
end

theorem rtree {N : Int} {s : Nat} {ep dp vp : Option Addr} {n ec dc vc : Nat} {e : Nat → Edg} {d via : Nat → Int} {H : Hp} {K : Bool → Hp → Prop} (he : Rdr H ep n e) (hr : Right N n e) (hs : s < N.toNat) (rD : Rdr H dp N.toNat d) (rV : Rdr H vp N.toNat via) (hS : SolG N n e (dz s) d via)
    (kk : ∀ H', Step (fun _ => False) H H' → K true H') : compassref08_Tree.call N ep n ec s dp N.toNat dc vp N.toNat vc E H K := by
  have hN0 := hr.N0; have hN1 := hr.N1; have hn1 := hr.n1
  have hG := hr.gr
  have hF : Far = 4611686018427387904 := rfl
  refine compassref08_Tree.of (compassref08_Tree.run_eq ?_)
  unfold compassref08_Tree.run_t
  refine nwk fun b1 H1 hb1 e1 s1 => ?_
  simp only [get_at e1, List.getElem?_cons_zero, List.getElem?_cons_succ, ldI_mk, ldS_mk]
  refine bcn (fun h => (h (by omega)).elim) fun _ => ?_
  try simp only [get_at e1, List.getElem?_cons_zero, List.getElem?_cons_succ, ldI_mk, ldS_mk]
  refine bcn (fun h => (h (by omega)).elim) fun _ => ?_
  refine compassref08_Tree.l1_rule (fun s' p1 n1 c1 p2 n2 c2 g4 v9 H' => s' = s ∧ p1 = dp ∧ n1 = N.toNat ∧ p2 = vp ∧ n2 = N.toNat ∧ g4 = b1 ∧ ∃ v : Nat, v9 = v ∧ v ≤ N.toNat ∧ Step (fun _ => False) H H' ∧ H' b1 = some ⟨[.int .i64 N, .slice ep n ec], 51⟩)
    (fun s' p1 n1 c1 p2 n2 c2 g4 v9 H' => N.toNat - v9.toNat) ?_ ⟨rfl, rfl, rfl, rfl, rfl, rfl, 0, rfl, by omega, s1, e1⟩
  clear e1 s1
  rintro s' p1 n1 c1 p2 n2 c2 g4 v9 H2 ⟨rfl, rfl, rfl, rfl, rfl, rfl, v, rfl, hv, s2, k1⟩ X hX
  refine compassref08_Tree.b1_eq ?_
  unfold compassref08_Tree.b1_t
  simp only [get_at k1, List.getElem?_cons_zero, List.getElem?_cons_succ, ldI_mk, ldS_mk]
  refine bc (fun hlt => ?_) fun hge => kk _ s2
  have hvn : v < N.toNat := by omega
  have next : ∀ H', Step (fun _ => False) H H' → H' g4 = some ⟨[.int .i64 N, .slice ep n ec], 51⟩ → compassref08_Tree.j2 (s : Int) p1 N.toNat c1 p2 N.toNat c2 g4 (v : Int) X E H' K := fun H' q1 q2 => by
    refine compassref08_Tree.j2_eq ?_
    unfold compassref08_Tree.j2_t
    rw [i64w (by omega) (by omega)]
    exact hX _ _ _ _ _ _ _ _ _ _ ⟨rfl, rfl, rfl, rfl, rfl, rfl, v + 1, by omega, by omega, q1, q2⟩ (by omega)
  have j1 : via v = -1 → compassref08_Tree.j1 (s : Int) p1 N.toNat c1 p2 N.toNat c2 g4 (v : Int) X E H2 K := fun h => by
    refine compassref08_Tree.j1_eq ?_
    unfold compassref08_Tree.j1_t
    refine (rV.keep s2 fun _ _ _ h => h).ixI (by omega) (by omega) ?_
    refine bcn (fun h' => (h' h).elim) fun _ => next _ s2 k1
  refine bc (fun h => j1 ?_) fun hvs => ?_
  · have : v = s := by omega
    subst this
    exact (hS.src hG hs).1
  · refine (rD.keep s2 fun _ _ _ h => h).ixI (by omega) (by omega) ?_
    refine bc (fun h => j1 ?_) fun hfar => ?_
    · simp only [Int.toNat_natCast] at h
      refine Classical.byContradiction fun hne => ?_
      obtain ⟨i, hi, _, _, _, _, h5⟩ := hS.edg v hvn hne
      omega
    · simp only [Int.toNat_natCast] at hfar
      have hlt' : d v < Far := by
        rcases hS.bnd v hvn with h | h
        · exact (hfar h).elim
        · omega
      obtain ⟨m, hmN, hms, hmt, hmin, _⟩ := hS.back hG hs hvn hlt'
      refine compassref08_Tree.l2_rule (fun s' p1' n1 c1' p2' n2 c2' g4' v9 u10 k11 H' => s' = s ∧ p1' = p1 ∧ n1 = N.toNat ∧ c1' = c1 ∧ p2' = p2 ∧ n2 = N.toNat ∧ c2' = c2 ∧ g4' = g4 ∧ v9 = v ∧ ∃ t : Nat, k11 = t ∧ t ≤ m ∧ u10 = (pit (ga e) via t v : Int) ∧ Step (fun _ => False) H H' ∧ H' g4 = some ⟨[.int .i64 N, .slice ep n ec], 51⟩)
        (fun s' p1' n1 c1' p2' n2 c2' g4' v9 u10 k11 H' => m - k11.toNat) ?_ ⟨rfl, rfl, rfl, rfl, rfl, rfl, rfl, rfl, rfl, 0, rfl, Nat.zero_le _, rfl, s2, k1⟩
      rintro s' p1' n1 c1' p2' n2 c2' g4' v9 u10 k11 H3 ⟨rfl, rfl, rfl, rfl, rfl, rfl, rfl, rfl, rfl, t, rfl, ht, rfl, s3, k13⟩ Y hY
      refine compassref08_Tree.b2_eq ?_
      unfold compassref08_Tree.b2_t
      refine bcn (fun hne => ?_) fun heq => next _ s3 k13
      have htm : t < m := by
        by_cases h : t = m
        · subst h; rw [hms] at hne; exact (hne rfl).elim
        · omega
      obtain ⟨hpn, hpf⟩ := hmin t ht
      obtain ⟨i, hi, g1, g2, g3, g4', g5⟩ := hS.edg _ hpn (hmt t htm).2
      obtain ⟨u, w, hu, hw, hun, hwn⟩ := (hr.ed i hi).nat
      have eu : ga e i = u := by unfold ga; omega
      have ew : gb e i = w := by unfold gb; omega
      have hco : (e i).co = gc e i := rfl
      have rV3 := rV.keep s3 fun _ _ _ h => h
      have rD3 := rD.keep s3 fun _ _ _ h => h
      simp only [get_at k13, List.getElem?_cons_zero, List.getElem?_cons_succ, ldI_mk, ldS_mk]
      refine bc (fun h => by omega) fun _ => ?_
      refine rV3.ixI (by omega) (by omega) ?_
      simp only [Int.toNat_natCast]
      refine bc (fun h => by omega) fun _ => ?_
      refine rV3.ixI (by omega) (by omega) ?_
      simp only [Int.toNat_natCast]
      try simp only [get_at k13, List.getElem?_cons_zero, List.getElem?_cons_succ, ldI_mk, ldS_mk]
      refine bc (fun h => by omega) fun _ => ?_
      try simp only [get_at k13, List.getElem?_cons_zero, List.getElem?_cons_succ, ldI_mk, ldS_mk]
      refine rV3.ixI (by omega) (by omega) ?_
      simp only [Int.toNat_natCast]
      rw [g1]
      refine (he.keep s3 fun _ _ _ h => h).edge (by omega) (by omega) ?_
      simp only [Int.toNat_natCast]
      rw [hu, hw, hco]
      refine nwst rfl rfl fun b4 H4 hb4 e4 s4 => ?_
      have k14 := s4.keep _ _ k13 fun h => h
      have rV4 := rV3.keep s4 fun _ _ _ h => h
      have rD4 := rD3.keep s4 fun _ _ _ h => h
      have hb1 := hS.bnd u hun
      simp only [get_at e4, List.getElem?_cons_zero, List.getElem?_cons_succ, ldI_mk, ldS_mk]
      refine bcn (fun h => (h (by rw [← g2, ew])).elim) fun _ => ?_
      try simp only [get_at e4, List.getElem?_cons_zero, List.getElem?_cons_succ, ldI_mk, ldS_mk]
      refine rD4.ixI (by omega) (by omega) ?_
      refine bc (fun h => by simp only [Int.toNat_natCast] at h; rw [eu] at g3; omega) fun _ => ?_
      try simp only [get_at e4, List.getElem?_cons_zero, List.getElem?_cons_succ, ldI_mk, ldS_mk]
      refine rD4.ixI (by omega) (by omega) ?_
      try simp only [get_at e4, List.getElem?_cons_zero, List.getElem?_cons_succ, ldI_mk, ldS_mk]
      refine rD4.ixI (by omega) (by omega) ?_
      have hk0 := (hr.ed i hi).k0
      have hk1 := (hr.ed i hi).k1
      rw [hco] at hk0 hk1
      refine bcn (fun h => (h ?_).elim) fun _ => ?_
      · simp only [Int.toNat_natCast]
        rw [eu] at g4' g3
        rw [i64w (by omega) (by omega)]
        exact g4'
      try simp only [get_at e4, List.getElem?_cons_zero, List.getElem?_cons_succ, ldI_mk, ldS_mk]
      rw [i64w (by omega) (by omega)]
      refine hY _ _ _ _ _ _ _ _ _ _ _ _ ⟨rfl, rfl, rfl, rfl, rfl, rfl, rfl, rfl, rfl, t + 1, by omega, by omega, ?_, s3.and s4, k14⟩ (by omega)
      rw [pit_succ, g1, Int.toNat_natCast, eu]
end
end Go.Mz
