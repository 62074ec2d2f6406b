/-
  Walks of layer 12, more: near, uneven; what a call that looks answers; Matching, Covered.
-/
import Derived.Test.YtjdhhepphbhjgaaVouB
set_option linter.unusedSimpArgs false
set_option linter.unusedVariables false
namespace Go.Mz
section
variable {E : Value → Hp → Prop}

/-- what a call that looks answers: 0, if the graph is right and P; what is wrong with the graph; or 221 -/
def Out (N : Int) (n : Nat) (e : Nat → Edg) (P : Prop) (c : Int) : Prop :=
  (c = 0 ∧ Right N n e ∧ P) ∨ (c = chk N n e ∧ c ≠ 0) ∨ (c = 221 ∧ Right N n e ∧ ¬ P)

theorem Out.det {N : Int} {n : Nat} {e : Nat → Edg} {P P' : Prop} {c c' : Int} (h : Out N n e P c) (h' : Out N n e P' c') (hp : Right N n e → (P ↔ P')) : c = c' := by
  have hz : chk N n e = 0 ↔ Right N n e := chk_zero
  rcases h with ⟨rfl, h1, h2⟩ | ⟨rfl, h1⟩ | ⟨rfl, h1, h2⟩ <;> rcases h' with ⟨rfl, h1', h2'⟩ | ⟨rfl, h1'⟩ | ⟨rfl, h1', h2'⟩
  · rfl
  · exact absurd (hz.2 h1) h1'
  · exact absurd ((hp h1).1 h2) h2'
  · exact absurd (hz.2 h1') h1
  · rfl
  · exact absurd (hz.2 h1') h1
  · exact absurd ((hp h1).2 h2') h2
  · exact absurd (hz.2 h1) h1'
  · rfl

theorem Out.ok {N : Int} {n : Nat} {e : Nat → Edg} {P : Prop} {c : Int} (h : Out N n e P c) (hc : c = 0) : Right N n e ∧ P := by
  rcases h with ⟨_, h1, h2⟩ | ⟨h1, h2⟩ | ⟨h1, _⟩
  · exact ⟨h1, h2⟩
  · exact absurd hc h2
  · omega

theorem Out.bad {N : Int} {n : Nat} {e : Nat → Edg} {P : Prop} {c : Int} (h : Out N n e P c) (hr : ¬ Right N n e) : c = chk N n e ∧ c ≠ 0 := by
  rcases h with ⟨_, h1, h2⟩ | h | ⟨_, h1, _⟩
  · exact absurd h1 hr
  · exact h
  · exact absurd h1 hr

/-- a row is never shorter between two nodes than an edge allows -/
structure Nr (N : Int) (n : Nat) (e : Nat → Edg) (row : Nat → Int) (q : Nat) (fr : Int) : Prop where
  len : (q : Int) = N
  bnd : ∀ v, v < q → -4398046511104 ≤ row v ∧ row v ≤ 4398046511104
  zero : row fr.toNat = 0
  ed : ∀ i, i < n → row (e i).fr.toNat - row (e i).to.toNat ≤ (e i).co ∧ row (e i).to.toNat - row (e i).fr.toNat ≤ (e i).co

theorem vnear {N : Int} {ep : Option Addr} {n ec : Nat} {e : Nat → Edg} {p : Option Addr} {q c : Nat} {row : Nat → Int} {fr : Int} {H : Hp} {K : Hp → Prop}
    (he : Rdr H ep n e) (hr : Right N n e) (hm : Rdr H p q row) (hq : q < 2 ^ 63) (f0 : 0 ≤ fr) (f1 : fr < N)
    (kk : ∀ H', Step (fun _ => False) H H' → Nr N n e row q fr → K H') (bad : ∀ H', Step (fun _ => False) H H' → ¬ Nr N n e row q fr → E (pv 221) H') : vouch_near.call N ep n ec p q c fr E H K := by
  have hn1 := hr.n1
  refine vouch_near.of (vouch_near.run_eq ?_)
  unfold vouch_near.run_t
  refine nwk fun b1 H1 hb1 e1 s1 => ?_
  simp only [get_at e1, List.getElem?_cons_zero, List.getElem?_cons_succ, ldI_mk]
  refine vneedD (fun hqN => ?_) fun h => bad _ s1 fun hh => h hh.len
  refine vouch_near.l1_rule (fun rp rn rc f2 g3 tp tn tc t18 t19 H' => p = rp ∧ q = rn ∧ f2 = fr ∧ b1 = g3 ∧ p = tp ∧ q = tn ∧ t18 = q ∧ H1 = H' ∧ ∃ i : Nat, t19 = i ∧ i ≤ q ∧ ∀ v, v < i → -4398046511104 ≤ row v ∧ row v ≤ 4398046511104)
    (fun rp rn rc f2 g3 tp tn tc t18 t19 H' => q - t19.toNat) ?_ ⟨rfl, rfl, rfl, rfl, rfl, rfl, rfl, rfl, 0, rfl, by omega, fun v hv => by omega⟩
  rintro rp rn rc f2 g3 tp tn tc t18 t19 H' ⟨rfl, rfl, rfl, rfl, rfl, rfl, rfl, rfl, i, rfl, hi, hb⟩ X hX
  refine vouch_near.b1_eq ?_
  unfold vouch_near.b1_t
  have hm1 := hm.keep s1 fun _ _ _ h => h
  refine bc (fun hlt => ?_) fun hge => ?_
  · refine hm1.ixI (by omega) (by omega) ?_
    simp only [Int.toNat_natCast]
    refine bc (fun h1 => ?_) fun h1 => vneed (fun h => by cases h) fun _ => bad _ s1 fun hh => h1 (hh.bnd i (by omega)).1
    refine vneedD (fun h2 => ?_) fun h2 => bad _ s1 fun hh => h2 (hh.bnd i (by omega)).2
    refine vouch_near.j1_eq ?_
    unfold vouch_near.j1_t
    rw [i64w (by omega) (by omega)]
    refine hX _ _ _ _ _ _ _ _ _ _ _ ⟨rfl, rfl, rfl, rfl, rfl, rfl, rfl, rfl, i + 1, by omega, by omega, fun v hv => ?_⟩ (by omega)
    by_cases ev : v = i
    · subst ev; exact ⟨h1, h2⟩
    · exact hb v (by omega)
  · have : i = q := by omega
    subst this
    clear hX
    refine vouch_near.j2_eq ?_
    unfold vouch_near.j2_t
    refine hm1.ixI (by omega) (by omega) ?_
    refine vneedD (fun hz => ?_) fun h => bad _ s1 fun hh => h hh.zero
    simp only [get_at e1, List.getElem?_cons_zero, List.getElem?_cons_succ, ldS_mk]
    refine vouch_near.l2_rule (fun rp rn rc tp tn tc t39 t40 H' => p = rp ∧ i = rn ∧ ep = tp ∧ n = tn ∧ t39 = n ∧ ∃ j : Nat, t40 = j ∧ j ≤ n ∧ Step (fun _ => False) H H' ∧ ∀ a, a < j → row (e a).fr.toNat - row (e a).to.toNat ≤ (e a).co ∧ row (e a).to.toNat - row (e a).fr.toNat ≤ (e a).co)
      (fun rp rn rc tp tn tc t39 t40 H' => n - t40.toNat) ?_ ⟨rfl, rfl, rfl, rfl, rfl, 0, rfl, by omega, s1, fun a ha => by omega⟩
    rintro rp rn rc tp tn tc t39 t40 H2 ⟨rfl, rfl, rfl, rfl, rfl, j, rfl, hj, s2, hed⟩ Y hY
    refine vouch_near.b2_eq ?_
    unfold vouch_near.b2_t
    refine bc (fun hlt => ?_) fun hge => ?_
    · refine (he.keep s2 fun _ _ _ h => h).edge (by omega) (by omega) ?_
      simp only [Int.toNat_natCast]
      refine nwst rfl rfl fun b4 H4 hb4 e4 s4 => ?_
      simp only [get_at e4, List.getElem?_cons_zero, List.getElem?_cons_succ, ldI_mk]
      have s04 := s2.and s4
      have hm4 := hm.keep s04 fun _ _ _ h => h
      have hx := hr.ed j (by omega)
      have hf0 := hx.f0; have hf1 := hx.f1; have ht0 := hx.t0; have ht1 := hx.t1
      refine hm4.ixI (by omega) (by omega) ?_
      refine hm4.ixI (by omega) (by omega) ?_
      have b5 := hb (e j).fr.toNat (by omega)
      have b6 := hb (e j).to.toNat (by omega)
      rw [i64w (n := row (e j).fr.toNat - row (e j).to.toNat) (by omega) (by omega)]
      refine bc (fun h1 => ?_) fun h1 => vneed (fun h => by cases h) fun _ => bad _ s04 fun hh => h1 (hh.ed j (by omega)).1
      rw [i64w (by omega) (by omega)]
      refine vneedD (fun h2 => ?_) fun h2 => bad _ s04 fun hh => h2 (by have := (hh.ed j (by omega)).2; omega)
      refine vouch_near.j3_eq ?_
      unfold vouch_near.j3_t
      rw [i64w (by omega) (by omega)]
      refine hY _ _ _ _ _ _ _ _ _ ⟨rfl, rfl, rfl, rfl, rfl, j + 1, by omega, by omega, s04, fun a ha => ?_⟩ (by omega)
      by_cases ea : a = j
      · subst ea; exact ⟨h1, by omega⟩
      · exact hed a (by omega)
    · have : j = n := by omega
      subst this
      exact kk _ s2 ⟨hqN, hb, hz, hed⟩

/-- one answer for all ends of a graph's edges -/
def deg (e : Nat → Edg) (n : Nat) (v : Int) : Nat := dg e (fun i => (i : Int)) n v

theorem and1 {x : Int} (h0 : 0 ≤ x) (h1 : x < 2 ^ 63) : IntKind.wrap .i64 (((BitVec.ofInt (IntKind.bits .i64) x &&& BitVec.ofInt (IntKind.bits .i64) 1).toNat : Int)) = x % 2 := by
  have hx : (BitVec.ofInt (IntKind.bits .i64) x).toNat = x.toNat := by
    show (BitVec.ofInt 64 x).toNat = x.toNat
    rw [BitVec.toNat_ofInt, Int.emod_eq_of_lt h0 (by omega)]
  have h2 : (BitVec.ofInt (IntKind.bits .i64) x &&& BitVec.ofInt (IntKind.bits .i64) 1).toNat = x.toNat % 2 := by
    rw [BitVec.toNat_and, hx]
    show x.toNat &&& 1 = x.toNat % 2
    exact Nat.and_one_is_mod _
  rw [h2, i64w (by omega) (by omega)]
  omega

/-- the nodes below v at which an odd number of edges end -/
def odds (e : Nat → Edg) (n : Nat) (v : Nat) : List Nat := (List.range v).filter fun u => deg e n u % 2 == 1

theorem odds_succ {e : Nat → Edg} {n v : Nat} : odds e n (v + 1) = if deg e n v % 2 = 1 then odds e n v ++ [v] else odds e n v := by
  unfold odds
  rw [List.range_succ, List.filter_append]
  split
  · rename_i h; simp [h]
  · rename_i h; simp [h]

theorem vuneven {N : Int} {ep : Option Addr} {n ec : Nat} {e : Nat → Edg} {H : Hp} {K : Option Addr → Nat → Nat → Hp → Prop} (he : Rdr H ep n e) (hr : Right N n e)
    (kk : ∀ p c H', Step (fun _ => False) H H' → Row H' p (odds e n N.toNat).length c (lsF (odds e n N.toNat)) → (∀ b, fpS p b → H b = none) → K p (odds e n N.toNat).length c H') : vouch_uneven.call N ep n ec E H K := by
  have hN0 := hr.N0
  have hN1 := hr.N1
  have hn1 := hr.n1
  refine vouch_uneven.of (vouch_uneven.run_eq ?_)
  unfold vouch_uneven.run_t
  refine nwk fun b1 H1 hb1 e1 s1 => ?_
  simp only [get_at e1, List.getElem?_cons_zero, List.getElem?_cons_succ, ldI_mk]
  refine Row.mkI hN0 (by omega) fun b2 H2 hb2 r2 s2 => ?_
  have e12 := s2.keep _ _ e1 fun h => h
  simp only [get_at e12, List.getElem?_cons_zero, List.getElem?_cons_succ, ldS_mk]
  have f2 : H b2 = none := s1.mono _ hb2
  have fp2 : ∀ b, fpS (some ⟨b2, 0, none⟩) b → H b = none := fun b hb => by rw [fpS_mk] at hb; exact hb ▸ f2
  refine vouch_uneven.l1_rule (fun cp cn cc tp tn tc t14 t15 H' => cp = some ⟨b2, 0, none⟩ ∧ cn = N.toNat ∧ cc = N.toNat ∧ ep = tp ∧ n = tn ∧ t14 = n ∧
      ∃ i : Nat, t15 = i ∧ i ≤ n ∧ Step (fun _ => False) H H' ∧ Row H' (some ⟨b2, 0, none⟩) N.toNat N.toNat (fun v => (deg e i v : Int)))
    (fun cp cn cc tp tn tc t14 t15 H' => n - t15.toNat) ?_ ⟨rfl, rfl, rfl, rfl, rfl, rfl, 0, rfl, by omega, s1.and s2, r2⟩
  clear r2 e12 s2 hb2 e1 s1
  rintro cp cn cc tp tn tc t14 t15 H3 ⟨rfl, rfl, rfl, rfl, rfl, rfl, i, rfl, hi, s3, r3⟩ X hX
  refine vouch_uneven.b1_eq ?_
  unfold vouch_uneven.b1_t
  refine bc (fun hlt => ?_) fun hge => ?_
  · refine (he.keep s3 fun _ _ _ h => h).edge (by omega) (by omega) ?_
    simp only [Int.toNat_natCast]
    refine nwst rfl rfl fun b4 H4 hb4 e4 s4 => ?_
    simp only [get_at e4, List.getElem?_cons_zero, List.getElem?_cons_succ, ldI_mk]
    have r4 := r3.keep s4 fun _ _ h => h
    have hx := hr.ed i (by omega)
    have hf0 := hx.f0; have hf1 := hx.f1; have ht0 := hx.t0; have ht1 := hx.t1
    refine r4.ixI (by omega) (by omega) ?_
    have hb1' := dg_le (e := e) (m := fun i => (i : Int)) (v := ((e i).fr.toNat : Int)) i
    have hdd : ∀ v : Int, deg e i v = dg e (fun i => (i : Int)) i v := fun _ => rfl
    simp only [hdd]
    rw [i64w (by omega) (by omega)]
    refine r4.stI (by omega) (by omega) _ fun H5 r5 s5 => ?_
    have e5 := s5.keep _ _ e4 (by rw [fpS_mk]; exact ne_of_live hb4 (r3.live (b := b2) ⟨_, rfl⟩) |>.symm)
    simp only [get_at e5, List.getElem?_cons_zero, List.getElem?_cons_succ, ldI_mk]
    refine r5.ixI (by omega) (by omega) ?_
    have hb2' := dg_le (e := e) (m := fun i => (i : Int)) (v := ((e i).to.toNat : Int)) i
    have hup : -1 ≤ (upf (fun v : Nat => (deg e i (v : Int) : Int)) (e i).fr.toNat ((dg e (fun i => (i : Int)) i ((e i).fr.toNat : Int) : Int) + 1)) (e i).to.toNat ∧ (upf (fun v : Nat => (deg e i (v : Int) : Int)) (e i).fr.toNat ((dg e (fun i => (i : Int)) i ((e i).fr.toNat : Int) : Int) + 1)) (e i).to.toNat ≤ 8193 := by
      unfold upf
      simp only [hdd]
      split <;> omega
    rw [i64w (by omega) (by omega)]
    refine r5.stI (by omega) (by omega) _ fun H6 r6 s6 => ?_
    rw [i64w (by omega) (by omega)]
    refine hX _ _ _ _ _ _ _ _ _ ⟨rfl, rfl, rfl, rfl, rfl, rfl, i + 1, by omega, by omega, ((s3.and s4).own s5 fp2).own s6 fp2, r6.congr fun v hv => ?_⟩ (by omega)
    have hs : (deg e (i + 1) v : Int) = (dg e (fun i => (i : Int)) i v : Int) + (if (e i).fr = (v : Int) then 1 else 0) + (if (e i).to = (v : Int) then 1 else 0) := by
      show ((dg e (fun i => (i : Int)) i v + (if (e ((i : Int)).toNat).fr = (v : Int) then 1 else 0) + (if (e ((i : Int)).toNat).to = (v : Int) then 1 else 0) : Nat) : Int) = _
      simp only [Int.toNat_natCast]
      split <;> split <;> simp
    rw [hs]
    unfold upf
    have q1 : (v = (e i).to.toNat) ↔ ((e i).to = (v : Int)) := by omega
    have q2 : (v = (e i).fr.toNat) ↔ ((e i).fr = (v : Int)) := by omega
    simp only [q1, q2]
    by_cases c1 : (e i).to = (v : Int) <;> by_cases c2 : (e i).fr = (v : Int)
    · have : (e i).to.toNat = (e i).fr.toNat := by omega
      simp only [c1, c2, this, if_true]
      rw [show (((v : Int)).toNat) = v by omega]
    · have : ¬ (e i).to.toNat = (e i).fr.toNat := by omega
      simp only [c1, c2, if_true, if_false]
      rw [show (((v : Int)).toNat) = v by omega, if_neg (by omega), hdd]
      omega
    · simp only [c1, c2, if_true, if_false]
      rw [show (((v : Int)).toNat) = v by omega]
      omega
    · simp only [c1, c2, if_false, hdd]; omega
  · have : i = n := by omega
    subst this
    clear hX
    refine vouch_uneven.j1_eq ?_
    unfold vouch_uneven.j1_t
    refine vouch_uneven.l2_rule (fun op on oc tp tn tc t35 t36 H' => tp = some ⟨b2, 0, none⟩ ∧ tn = N.toNat ∧ t35 = (N.toNat : Int) ∧ ∃ v : Nat, t36 = v ∧ v ≤ N.toNat ∧ on = (odds e i v).length ∧ Row H' op on oc (lsF (odds e i v)) ∧ Step (fun _ => False) H3 H' ∧ ∀ b, fpS op b → H3 b = none)
      (fun op on oc tp tn tc t35 t36 H' => N.toNat - t36.toNat) ?_ ⟨rfl, rfl, rfl, 0, rfl, by omega, rfl, .nil, .refl, fun b hb => by rw [fpS_none] at hb; exact hb.elim⟩
    rintro op on oc tp tn tc t35 t36 H4 ⟨rfl, rfl, rfl, v, rfl, hv, rfl, r4, s4, f4⟩ Y hY
    refine vouch_uneven.b2_eq ?_
    unfold vouch_uneven.b2_t
    refine bc (fun hlt => ?_) fun hge => ?_
    · refine (r3.keep s4 fun _ _ h => h).ixI (by omega) (by omega) ?_
      simp only [Int.toNat_natCast]
      have hle : deg e i v ≤ 2 * i := dg_le i
      have hlen : (odds e i v).length ≤ v := by unfold odds; exact Nat.le_trans (List.length_filter_le _ _) (by simp)
      refine bc (fun h1 => ?_) fun h1 => ?_
      · rw [and1 (by omega) (by omega)] at h1
        refine r4.appI _ (by omega) fun p' c' H5 r5 s5 f5 => ?_
        refine vouch_uneven.j2_eq ?_
        unfold vouch_uneven.j2_t
        rw [i64w (by omega) (by omega)]
        refine hY _ _ _ _ _ _ _ _ _ ⟨rfl, rfl, rfl, v + 1, by omega, by omega, ?_, ?_, s4.own s5 f4, fun b hb => ?_⟩ (by omega)
        · rw [odds_succ, if_pos (by omega)]; simp
        · rw [odds_succ, if_pos (by omega), ← lsF_app]; exact r5
        · rcases f5 b hb with h | h
          · exact f4 b h
          · exact s4.mono b h
      · rw [and1 (by omega) (by omega)] at h1
        refine vouch_uneven.j2_eq ?_
        unfold vouch_uneven.j2_t
        rw [i64w (by omega) (by omega)]
        refine hY _ _ _ _ _ _ _ _ _ ⟨rfl, rfl, rfl, v + 1, by omega, by omega, ?_, ?_, s4, f4⟩ (by omega)
        · rw [odds_succ, if_neg (by omega)]
        · rw [odds_succ, if_neg (by omega)]; exact r4
    · have : v = N.toNat := by omega
      subst this
      exact kk _ _ _ (s3.and s4) r4 fun b hb => s3.mono _ (f4 b hb)
end
end Go.Mz
