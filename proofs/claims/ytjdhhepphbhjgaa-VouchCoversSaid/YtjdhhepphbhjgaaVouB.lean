/-
  Walks of layer 12, more: matched.
-/
import Derived.Test.YtjdhhepphbhjgaaVouA
set_option linter.unusedSimpArgs false
set_option linter.unusedVariables false
namespace Go.Mz
section
variable {E : Value → Hp → Prop}

/-- a function of nodes, called as a value: it answers most and turns nothing -/
def Fun1 (E : Value → Hp → Prop) (H : Hp) (g : Nat) (gk : List Value) (N : Int) (most : Int → Int) : Prop :=
  T0.fok g = true ∧ ∀ (v : Int) (H1 : Hp) (K : Value → Hp → Prop), 0 ≤ v → v < N → Step (fun _ => False) H H1 → (∀ H2, Step (fun _ => False) H1 H2 → K (.int .i64 (most v)) H2) → callW P0 g (.int .i64 v :: gk) K E H1

theorem ldR_int {x : Int} {K : Value → Prop} (k : K (.int .i64 x)) : ldR (.one false [.i .i64]) (.int .i64 x) K := k

theorem asR_int {r : Value} {K : Int → Prop} (h : ldR (.one false [.i .i64]) r fun u => K (asI u)) : ∃ n, r = .int .i64 n ∧ K n := by
  have h' : ldI .i64 (some r) (fun n => K (asI (.int .i64 n))) := h
  obtain ⟨n, e, hk⟩ := ldI_spec h'
  cases e
  exact ⟨n, rfl, hk⟩

theorem fun1_one {H : Hp} {N : Int} : Fun1 E H 51 [] N (fun _ => 1) := by
  refine ⟨rfl, fun v H1 K _ _ _ k => ?_⟩
  have h : vouch_one.call v E H1 (fun x H' => x = 1 ∧ K (.int .i64 1) H') := vone ⟨rfl, k _ .refl⟩
  refine callW_mono (fun r H' hr => ?_) (fun _ _ h => h) h
  obtain ⟨n, rfl, h1, hk⟩ := asR_int (K := fun x => x = 1 ∧ K (.int .i64 1) H') hr
  rw [h1]
  exact hk

def dgs (e : Nat → Edg) (m : Nat → Int) (i : Nat) (t : Int) (v : Int) : Nat :=
  dg e m i v + (if 1 ≤ t ∧ (e (m i).toNat).fr = v then 1 else 0) + (if 2 ≤ t ∧ (e (m i).toNat).to = v then 1 else 0)

theorem dgs_le {e : Nat → Edg} {m : Nat → Int} {i : Nat} {t v : Int} : dgs e m i t v ≤ dg e m (i + 1) v := by
  show dgs e m i t v ≤ dg e m i v + _ + _
  unfold dgs
  split <;> split <;> split <;> split <;> simp_all <;> omega

theorem dgs_bound {e : Nat → Edg} {m : Nat → Int} {i : Nat} {t v : Int} : dgs e m i t v ≤ 2 * (i + 1) := Nat.le_trans dgs_le (dg_le (i + 1))

theorem vmatched {N : Int} {ep : Option Addr} {n ec : Nat} {e : Nat → Edg} {p : Option Addr} {k c : Nat} {m : Nat → Int} {mg : Nat} {mk : List Value} {most : Int → Int} {H : Hp} {K : Hp → Prop}
    (he : Rdr H ep n e) (hr : Right N n e) (hm : Rdr H p k m) (hk : k < 2 ^ 63) (hf : Fun1 E H mg mk N most)
    (kk : ∀ H', Step (fun _ => False) H H' → Tkn N n e m k most → K H') (bad : ∀ H', Step (fun _ => False) H H' → ¬ Tkn N n e m k most → E (pv 221) H') :
    vouch_matched.call N ep n ec p k c mg mk E H K := by
  have hN0 := hr.N0
  have hN1 := hr.N1
  have hn1 := hr.n1
  refine vouch_matched.of (vouch_matched.run_eq ?_)
  unfold vouch_matched.run_t
  refine nwk fun b1 H1 hb1 e1 s1 => ?_
  simp only [get_at e1, List.getElem?_cons_zero, List.getElem?_cons_succ, ldS_mk]
  refine vrising (hm.keep s1 fun _ _ _ h => h) hk (fun hs => ?_) fun hb => bad _ s1 fun h => hb h.ris
  have hl := hs.len
  simp only [get_at e1, List.getElem?_cons_zero, List.getElem?_cons_succ, ldI_mk]
  refine Row.mkI hN0 (by omega) fun b2 H2 hb2 r2 s2 => ?_
  have e12 := s2.keep _ _ e1 fun h => h
  have ne : b1 ≠ b2 := ne_of_live hb2 (by rw [e1]; exact fun h => by cases h)
  have f2 : H b2 = none := s1.mono _ hb2
  have fp2 : ∀ b, fpS (some ⟨b2, 0, none⟩) b → H b = none := fun b hb => by rw [fpS_mk] at hb; exact hb ▸ f2
  refine vouch_matched.l1_rule (fun g mk' g3 ap an ac tp tn tc t21 t22 H' => mg = g ∧ mk = mk' ∧ b1 = g3 ∧ ap = some ⟨b2, 0, none⟩ ∧ an = N.toNat ∧ ac = N.toNat ∧ p = tp ∧ k = tn ∧ t21 = k ∧
      ∃ i : Nat, t22 = i ∧ i ≤ k ∧ Step (fun _ => False) H H' ∧ H' b1 = some ⟨[.int .i64 N, .slice ep n ec], 24⟩ ∧ Row H' (some ⟨b2, 0, none⟩) N.toNat N.toNat (fun v => (dg e m i v : Int)) ∧ Tkn N n e m i most)
    (fun g mk' g3 ap an ac tp tn tc t21 t22 H' => k - t22.toNat) ?_ ⟨rfl, rfl, rfl, rfl, rfl, rfl, rfl, rfl, rfl, 0, rfl, by omega, s1.and s2, e12, r2, ⟨hs.cut (by omega), fun i hi => by omega, fun v _ _ h => by cases h⟩⟩
  clear r2 e12 s2 hb2 e1 s1
  rintro g mk' g3 ap an ac tp tn tc t21 t22 H3 ⟨rfl, rfl, rfl, rfl, rfl, rfl, rfl, rfl, rfl, i, rfl, hi, s3, e3, r3, tk⟩ X hX
  refine vouch_matched.b1_eq ?_
  unfold vouch_matched.b1_t
  refine bc (fun hlt => ?_) fun hge => ?_
  · refine (hm.keep s3 fun _ _ _ h => h).ixI (by omega) (by omega) ?_
    simp only [Int.toNat_natCast, get_at e3, List.getElem?_cons_zero, List.getElem?_cons_succ, ldI_mk, ldS_mk]
    have hmi := hs i (by omega)
    refine (he.keep s3 fun _ _ _ h => h).edge (by omega) (by omega) ?_
    refine nwst rfl rfl fun b4 H4 hb4 e4 s4 => ?_
    simp only [get_at e4, List.getElem?_cons_zero, List.getElem?_cons_succ, ldI_mk]
    refine vloop fun H5 s5 => ?_
    have s35 := s4.and s5
    refine vneed (fun hno => ?_) fun hyes => bad _ (s3.and s35) fun h => h.nl i (by omega) (by show (e (m i).toNat).fr = (e (m i).toNat).to; simpa using hyes)
    have hnl : ¬ lp (e (m i).toNat) := by show ¬ (e (m i).toNat).fr = (e (m i).toNat).to; simpa using hno
    have e45 := s5.keep _ _ e4 fun h => h
    simp only [get_at e45, List.getElem?_cons_zero, List.getElem?_cons_succ, ldI_mk]
    have hx := hr.ed (m i).toNat (by omega)
    have hf0 := hx.f0; have hf1 := hx.f1; have ht0 := hx.t0; have ht1 := hx.t1
    generalize hfr : (e (m i).toNat).fr = fr at *
    generalize hto : (e (m i).toNat).to = to at *
    refine vouch_matched.l2_rule (fun g mk' g3 ap an ac tp tn tc t21 t22 y0 y1 t40 H' => mg = g ∧ mk = mk' ∧ b1 = g3 ∧ ap = some ⟨b2, 0, none⟩ ∧ an = N.toNat ∧ ac = N.toNat ∧ p = tp ∧ k = tn ∧ t21 = k ∧ t22 = i ∧ fr = y0 ∧ to = y1 ∧
        ∃ t : Nat, t40 = t ∧ t ≤ 2 ∧ Step (fun _ => False) H H' ∧ H' b1 = some ⟨[.int .i64 N, .slice ep n ec], 24⟩ ∧ Row H' (some ⟨b2, 0, none⟩) N.toNat N.toNat (fun v => (dgs e m i t v : Int)) ∧ (1 ≤ t → (dgs e m i t fr : Int) ≤ most fr) ∧ (2 ≤ t → (dgs e m i t to : Int) ≤ most to))
      (fun g mk' g3 ap an ac tp tn tc t21 t22 y0 y1 t40 H' => 2 - t40.toNat) ?_ ⟨rfl, rfl, rfl, rfl, rfl, rfl, rfl, rfl, rfl, rfl, rfl, rfl, 0, rfl, by omega, s3.and s35, s35.keep _ _ e3 fun h => h, (r3.keep s35 fun _ _ h => h).congr fun v hv => by simp [dgs], fun h => by omega, fun h => by omega⟩
    clear r3 e3 e4 e45 s35 s4 s5 hb4
    rintro g mk' g3 ap an ac tp tn tc t21 t22 y0 y1 t40 H6 ⟨rfl, rfl, rfl, rfl, rfl, rfl, rfl, rfl, rfl, rfl, rfl, rfl, t, rfl, ht, s6, e6, r6, q1, q2⟩ Y hY
    refine vouch_matched.b2_eq ?_
    unfold vouch_matched.b2_t
    refine bc (fun hlt2 => ?_) fun hge2 => ?_
    · refine ⟨⟨by omega, by omega⟩, ?_⟩
      -- the end at hand
      obtain ⟨y, hy, y0', y1', hyd⟩ : ∃ y, [Value.int .i64 fr, Value.int .i64 to][(t : Int).toNat]? = some (.int .i64 y) ∧ 0 ≤ y ∧ y < N ∧ ((t = 0 ∧ y = fr) ∨ (t = 1 ∧ y = to)) := by
        have : t = 0 ∨ t = 1 := by omega
        rcases this with rfl | rfl
        · exact ⟨fr, rfl, hf0, hf1, .inl ⟨rfl, rfl⟩⟩
        · exact ⟨to, rfl, ht0, ht1, .inr ⟨rfl, rfl⟩⟩
      rw [hy]
      simp only [ldI_mk]
      refine r6.ixI (by omega) (by omega) ?_
      have hb := dgs_bound (e := e) (m := m) (i := i) (t := t) (v := (y.toNat : Int))
      rw [i64w (by omega) (by omega)]
      refine r6.stI (by omega) (by omega) _ fun H7 r7 s7 => ?_
      have hst : ∀ v : Nat, (upf (fun v : Nat => (dgs e m i t v : Int)) y.toNat ((dgs e m i t (y.toNat : Int) : Int) + 1)) v = (dgs e m i ((t + 1 : Nat) : Int) v : Int) := by
        intro v
        have hyv : (v = y.toNat) ↔ (y = (v : Int)) := by omega
        unfold upf
        rcases hyd with ⟨rfl, rfl⟩ | ⟨rfl, rfl⟩
        · by_cases h : v = y.toNat
          · subst h
            rw [if_pos rfl]
            unfold dgs
            rw [hfr, hto]
            simp [show (y.toNat : Int) = y by omega]
          · rw [if_neg h]
            unfold dgs
            rw [hfr, hto]
            have : ¬ y = (v : Int) := fun h' => h (hyv.2 h')
            simp [this]
        · by_cases h : v = y.toNat
          · subst h
            rw [if_pos rfl]
            unfold dgs
            rw [hfr, hto]
            simp [show (y.toNat : Int) = y by omega]
          · rw [if_neg h]
            unfold dgs
            rw [hfr, hto]
            have : ¬ y = (v : Int) := fun h' => h (hyv.2 h')
            simp [this]
      have r7 := r7.congr fun v _ => hst v
      have s07 := s6.own s7 fp2
      have e7 := s7.keep _ _ e6 (by rw [fpS_mk]; exact ne)
      have ey : ((y.toNat : Nat) : Int) = y := by omega
      refine r7.ix (α := Int) (by omega) (by omega) fun b o hbo hg => ?_
      have g0 := hg 0 (by decide)
      simp only [El.enc, Nat.add_zero] at g0
      simp only [List.getElem?_cons_zero] at g0
      rw [g0]
      simp only [ldI_mk]
      refine ⟨hf.1, hf.2 y H7 _ y0' y1' s07 fun H8 s8 => ldR_int ?_⟩
      show (ldI .i64 (H8.get b o) _) ∧ _
      rw [s8.get g0 fun h => h]
      refine ⟨rfl, ?_⟩
      refine vneedD (fun hle => ?_) fun hgt => bad _ (s07.and s8) fun h => hgt ?_
      · rw [i64w (by omega) (by omega)]
        rw [ey] at hle
        refine hY _ _ _ _ _ _ _ _ _ _ _ _ _ _ _ ⟨rfl, rfl, rfl, rfl, rfl, rfl, rfl, rfl, rfl, rfl, rfl, rfl, t + 1, by omega, by omega, s07.and s8, s8.keep _ _ e7 fun h => h, r7.keep s8 fun _ _ h => h, fun _ => ?_, fun h2 => ?_⟩ (by omega)
        · rcases hyd with ⟨rfl, rfl⟩ | ⟨rfl, rfl⟩
          · exact hle
          · have := q1 (by omega)
            have hne : ¬ y = fr := fun h => hnl (show (e (m i).toNat).fr = (e (m i).toNat).to by rw [hfr, hto, h])
            have : dgs e m i ((1 + 1 : Nat) : Int) fr = dgs e m i ((1 : Nat) : Int) fr := by unfold dgs; rw [hfr, hto]; simp [hne]
            rw [this]; assumption
        · rcases hyd with ⟨rfl, rfl⟩ | ⟨rfl, rfl⟩
          · omega
          · exact hle
      · -- so many are at most what is let in
        have h1 : dgs e m i ((t + 1 : Nat) : Int) (y.toNat : Int) ≤ dg e m k (y.toNat : Int) := Nat.le_trans dgs_le (dg_mono (by omega))
        rw [ey] at h1
        have hpos : 0 < dgs e m i ((t + 1 : Nat) : Int) y := by
          have := hst y.toNat
          rw [upf_same, ey] at this
          omega
        have := h.mst y y0' y1' (by omega)
        show (dgs e m i ((t + 1 : Nat) : Int) (y.toNat : Int) : Int) ≤ most y
        rw [ey]; omega
    · have : t = 2 := by omega
      subst this
      refine vouch_matched.j1_eq ?_
      unfold vouch_matched.j1_t
      rw [i64w (by omega) (by omega)]
      have hd : ∀ v : Int, dgs e m i ((2 : Nat) : Int) v = dg e m (i + 1) v := fun v => by
        unfold dgs
        simp only [show (1 : Int) ≤ ((2 : Nat) : Int) from by decide, show (2 : Int) ≤ ((2 : Nat) : Int) from by decide, true_and]
        rfl
      refine hX _ _ _ _ _ _ _ _ _ _ _ _ ⟨rfl, rfl, rfl, rfl, rfl, rfl, rfl, rfl, rfl, i + 1, by omega, by omega, s6, e6, r6.congr fun v _ => by rw [hd], hs.cut (by omega), fun j hj => ?_, fun v v0 v1 hv => ?_⟩ (by omega)
      · by_cases e' : j = i
        · subst e'; exact hnl
        · exact tk.nl j (by omega)
      · by_cases h1 : v = fr
        · have := q1 (by omega); rw [hd] at this; rw [h1]; exact this
        · by_cases h2 : v = to
          · have := q2 (by omega); rw [hd] at this; rw [h2]; exact this
          · have : dg e m (i + 1) v = dg e m i v := by
              show dg e m i v + _ + _ = _
              rw [hfr, hto, if_neg (fun h => h1 h.symm), if_neg (fun h => h2 h.symm)]; rfl
            rw [this] at hv ⊢
            exact tk.mst v v0 v1 hv
  · have : i = k := by omega
    subst this
    exact kk _ s3 tk
end
end Go.Mz
