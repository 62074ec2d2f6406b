/-
  UnionPlays, walked: whatever the number of nodes and the script, it answers true and leaves what was there as it was.
-/
import Derived.Test.YteobpjjocfbdgaaLawS06
import Derived.Test.YteobpjjocfbdgaaUniR
set_option linter.unusedSimpArgs false
set_option linter.unusedVariables false
namespace Go.Mz
section
variable {E : Value → Hp → Prop}

/-- the sets, their states so far, and the document's joins -/
structure PS (H0 H : Hp) (s bp bz bl : Nat) (lp : Option Addr) (lc : Nat) (t : BT) (siz : Nat → Int) (N : Nat) (hs : Nat → USt) (pr : Nat → Nat × Nat) (m : Nat) (jp : Option Addr) (jc : Nat) : Prop where
  us : USets H s bp bz bl lp lc t siz (hs m)
  fu : ∀ b, UFp s bp bz bl lp b → H0 b = none
  st : Step (fun _ => False) H0 H
  rep : ∀ i, i ≤ m → Rep (hs i) (Prs pr i) ∧ (hs i).k = i ∧ (hs i).n = N
  nxt : ∀ i, i < m → ∃ a b, hs (i + 1) = (hs i).join a b ∧ a < N ∧ b < N ∧ (hs i).par b = b
  row : Row H jp m jc (prI pr)
  fj : ∀ b, fpS jp b → H0 b = none ∧ ¬ UFp s bp bz bl lp b

theorem PS.keep {H0 H H' : Hp} {s bp bz bl : Nat} {lp : Option Addr} {lc : Nat} {t : BT} {siz : Nat → Int} {N : Nat} {hs : Nat → USt} {pr : Nat → Nat × Nat} {m : Nat} {jp : Option Addr} {jc : Nat}
    (h : PS H0 H s bp bz bl lp lc t siz N hs pr m jp jc) (k : Step (fun _ => False) H H') : PS H0 H' s bp bz bl lp lc t siz N hs pr m jp jc :=
  ⟨h.us.keep k fun _ _ h => h, h.fu, h.st.trans k fun _ h => .inl h, h.rep, h.nxt, h.row.keep k fun _ _ h => h, h.fj⟩


theorem tl3 {H : Hp} {b : Nat} {n : Int} {p : Option Addr} {m c : Nat} {z : List Value} {K : Int → Option Addr → Nat → Nat → Hp → Prop} (e : H b = some ⟨z, 45⟩) (hz : z.length = 2) (k : ∀ H', Step (· = b) H H' → K n p m c H') :
    stC H b 0 [.int .i64 n, .slice p m c] fun H' => ldI .i64 (H'.get b 0) fun x => ldS (H'.get b 1) fun xp xn xc => K x xp xn xc H' := by
  refine stk e hz rfl fun H' e' s' => ?_
  have j0 : H'.get b 0 = some (.int .i64 n) := by simp [Hp.get, e']
  have j1 : H'.get b 1 = some (.slice p m c) := by simp [Hp.get, e']
  simp only [j0, j1, ldI_mk, ldS_mk]
  exact k H' s'

theorem lstep {H0 H : Hp} {s bp bz bl : Nat} {lp : Option Addr} {lc : Nat} {t : BT} {siz : Nat → Int} {N : Nat} {hs : Nat → USt} {pr : Nat → Nat × Nat} {m : Nat} {jp : Option Addr} {jc : Nat} {kd u v : Int} {K : Int → Option Addr → Nat → Nat → Bool → Hp → Prop}
    (ps : PS H0 H s bp bz bl lp lc t siz N hs pr m jp jc)
    (k : ∀ H' lp' lc' siz' hs' pr' m' jp' jc', PS H0 H' s bp bz bl lp' lc' t siz' N hs' pr' m' jp' jc' → Step (UFp s bp bz bl lp) H H' → (∀ b, UFp s bp bz bl lp' b → UFp s bp bz bl lp b ∨ H b = none) → (∀ b, fpS jp' b → fpS jp b ∨ H b = none) → K N jp' m' jc' true H') :
    compasslaw06_step.call (some ⟨s, 0, none⟩) N jp m jc kd u v E H K := by
  obtain ⟨rp, rk, rn⟩ := ps.rep m (Nat.le_refl _)
  have rm := rp.hist.small
  refine compasslaw06_step.of (compasslaw06_step.run_eq ?_)
  unfold compasslaw06_step.run_t
  refine nwk fun b1 H1 hb1 e1 s1 => ?_
  refine nwk fun b2 H2 hb2 e2 s2 => ?_
  refine nwk fun b3 H3 hb3 e3 s3 => ?_
  have e2 := s3.keep _ _ e2 fun h => h
  have e1 := s3.keep _ _ (s2.keep _ _ e1 fun h => h) fun h => h
  have s03 := (s1.trans s2 fun _ h => .inl h).trans s3 fun _ h => .inl h
  have f1 : H b1 = none := hb1
  have f2 : H b2 = none := s1.mono _ hb2
  have f3 : H b3 = none := s1.mono _ (s2.mono _ hb3)
  have ps3 := ps.keep s03
  have g20 : H3.get b2 0 = some (.int .i64 kd) := by simp [Hp.get, e2]
  have g21 : H3.get b2 1 = some (.int .i64 u) := by simp [Hp.get, e2]
  have g22 : H3.get b2 2 = some (.int .i64 v) := by simp [Hp.get, e2]
  have g10 : H3.get b1 0 = some (.int .i64 (N : Int)) := by simp [Hp.get, e1]
  have g11 : H3.get b1 1 = some (.slice jp m jc) := by simp [Hp.get, e1]
  simp only [g20, g21, g22, g10, g11, ldI_mk, ldS_mk]
  -- nothing but blocks of the call's own has turned
  have fr : ∀ b, b = b1 ∨ b = b2 ∨ b = b3 → H b = none := fun b hb => by
    rcases hb with rfl | rfl | rfl
    · exact f1
    · exact f2
    · exact f3
  have done : ∀ H', Step (fun b => b = b1 ∨ b = b2 ∨ b = b3) H3 H' → K N jp m jc true H' := fun H' s' => by
    have sH : Step (fun _ => False) H H' := s03.trans s' fun b hb => .inr (fr b hb)
    exact k H' lp lc siz hs pr m jp jc (ps.keep sH) (sH.weak fun _ h => h.elim) (fun _ h => .inl h) fun _ h => .inl h
  refine bc (fun _ => ?_) fun _ => ?_
  · -- what is the same in all three ways out: the document's new record, then the sets' own answer
    have rec3 : ∀ {H4 : Hp}, Step (fun _ => False) H3 H4 → H4 b1 = some ⟨[.int .i64 (N : Int), .slice jp m jc], 45⟩ ∧ H4 b2 = some ⟨[.int .i64 kd, .int .i64 u, .int .i64 v], 32⟩ ∧ H4 b3 = some ⟨[.int .i64 0, .slice none 0 0], 45⟩ := fun s4 =>
      ⟨s4.keep _ _ e1 fun h => h, s4.keep _ _ e2 fun h => h, s4.keep _ _ e3 fun h => h⟩
    have nb : ∀ b, H b = none → ¬ UFp s bp bz bl lp b := fun b hb hu => ps.us.live hu hb
    refine rjoin rp rk (by rw [rn]) ps3.row (fun H4 s4 hbad => ?_) (fun H4 s4 hu hv hsame => ?_) fun H4 jp' jc' s4 hu hv hne r4 f4 => ?_
    · obtain ⟨a1, a2, a3⟩ := rec3 s4
      refine nwst rfl rfl fun b5 H5 hb5 e5 s5 => ?_
      have a2 := s5.keep _ _ a2 fun h => h
      have a3 := s5.keep _ _ a3 fun h => h
      have j0 : H5.get b5 0 = some (.int .i64 (N : Int)) := by simp [Hp.get, e5]
      have j1 : H5.get b5 1 = some (.slice jp m jc) := by simp [Hp.get, e5]
      have g21 : H5.get b2 1 = some (.int .i64 u) := by simp [Hp.get, a2]
      have g22 : H5.get b2 2 = some (.int .i64 v) := by simp [Hp.get, a2]
      simp only [g21, g22, ldI_mk]
      refine ujoin ((ps3.keep s4).keep s5).us rp.hist.ok rm (fun _ => ?_) (fun h0 h1 h2 h3 => (hbad ⟨⟨h0, by rw [← rn]; exact h1⟩, h2, by rw [← rn]; exact h3⟩).elim) fun h0 h1 h2 h3 => (hbad ⟨⟨h0, by rw [← rn]; exact h1⟩, h2, by rw [← rn]; exact h3⟩).elim
      simp only [j0, j1, ldI_mk, ldS_mk]
      refine bcb (fun _ => ?_) fun e => by cases e
      exact tl3 a3 rfl fun H6 s6 => done H6 (((s4.weak fun _ h => h.elim).trans s5 fun _ h => h.elim).trans s6 fun b hb => .inl (.inr (.inr hb)))
    · obtain ⟨a1, a2, a3⟩ := rec3 s4
      refine nwst rfl rfl fun b5 H5 hb5 e5 s5 => ?_
      have a2 := s5.keep _ _ a2 fun h => h
      have a3 := s5.keep _ _ a3 fun h => h
      have j0 : H5.get b5 0 = some (.int .i64 (N : Int)) := by simp [Hp.get, e5]
      have j1 : H5.get b5 1 = some (.slice jp m jc) := by simp [Hp.get, e5]
      have g21 : H5.get b2 1 = some (.int .i64 u) := by simp [Hp.get, a2]
      have g22 : H5.get b2 2 = some (.int .i64 v) := by simp [Hp.get, a2]
      simp only [g21, g22, ldI_mk]
      have hus : u.toNat < (hs m).n := by omega
      have hvs : v.toNat < (hs m).n := by omega
      have hrt := (nm_iff rp.hist hus hvs).1 hsame
      refine ujoin ((ps3.keep s4).keep s5).us rp.hist.ok rm (fun hb => (hb ⟨⟨hu.1, by omega⟩, hv.1, by omega⟩).elim) (fun h0 h1 h2 h3 r _ _ => ?_) fun h0 h1 h2 h3 a b hab ha hb hor => ?_
      · simp only [j0, j1, ldI_mk, ldS_mk]
        refine bcb (fun _ => ?_) fun e => by cases e
        exact tl3 a3 rfl fun H6 s6 => done H6 (((s4.weak fun _ h => h.elim).trans s5 fun _ h => h.elim).trans s6 fun b hb => .inl (.inr (.inr hb)))
      · exfalso
        rcases hor with ⟨x, y⟩ | ⟨x, y⟩
        · rw [x.of, y.of] at hrt; exact hab hrt
        · rw [x.of, y.of] at hrt; exact hab hrt.symm
    · obtain ⟨a1, a2, a3⟩ := rec3 s4
      refine nwst rfl rfl fun b5 H5 hb5 e5 s5 => ?_
      have a2 := s5.keep _ _ a2 fun h => h
      have a3 := s5.keep _ _ a3 fun h => h
      have g21 : H5.get b2 1 = some (.int .i64 u) := by simp [Hp.get, a2]
      have g22 : H5.get b2 2 = some (.int .i64 v) := by simp [Hp.get, a2]
      simp only [g21, g22, ldI_mk]
      have hus : u.toNat < (hs m).n := by omega
      have hvs : v.toNat < (hs m).n := by omega
      have hrt : rtOf (hs m).par u.toNat ≠ rtOf (hs m).par v.toNat := fun e => hne ((nm_iff rp.hist hus hvs).2 e)
      have ps5 := (ps3.keep s4).keep s5
      have s05 := (s03.trans s4 fun _ h => .inl h).trans s5 fun _ h => .inl h
      refine ujoin ps5.us rp.hist.ok rm (fun hb => (hb ⟨⟨hu.1, by omega⟩, hv.1, by omega⟩).elim) (fun h0 h1 h2 h3 r x y => (hrt (x.of.trans y.of.symm)).elim) fun h0 h1 h2 h3 a b hab ha hb hor H6 lp6 lc6 siz6 h6 s6 f6 => ?_
      have ra : (hs m).par a = a := by rcases hor with ⟨x, _⟩ | ⟨_, x⟩ <;> exact x.fix
      have rb : (hs m).par b = b := by rcases hor with ⟨_, x⟩ | ⟨x, _⟩ <;> exact x.fix
      have hor' : rtOf (hs m).par u.toNat = a ∧ rtOf (hs m).par v.toNat = b ∨ rtOf (hs m).par u.toNat = b ∧ rtOf (hs m).par v.toNat = a := by
        rcases hor with ⟨x, y⟩ | ⟨x, y⟩
        · exact .inl ⟨x.of, y.of⟩
        · exact .inr ⟨x.of, y.of⟩
      have nb5 : ¬ UFp s bp bz bl lp b5 := nb b5 (s03.mono _ (s4.mono _ hb5))
      have e6 := s6.keep _ _ e5 nb5
      have a3 := s6.keep _ _ a3 (nb b3 f3)
      have j0 : H6.get b5 0 = some (.int .i64 (N : Int)) := by simp [Hp.get, e6]
      have j1 : H6.get b5 1 = some (.slice jp' (m + 1) jc') := by simp [Hp.get, e6]
      simp only [j0, j1, ldI_mk, ldS_mk]
      refine bcb (fun _ => ?_) fun e => by cases e
      refine tl3 a3 rfl fun H7 s7 => ?_
      have s56 : Step (UFp s bp bz bl lp) H H6 := (s05.weak fun _ h => h.elim).trans s6 fun _ h => .inl h
      have s07 : Step (UFp s bp bz bl lp) H H7 := s56.trans s7 fun b hb => .inr (hb ▸ f3)
      have nj : ∀ b, fpS jp' b → H b = none := fun b hb => s03.mono _ (f4 b hb)
      have njb3 : ∀ b, fpS jp' b → b ≠ b3 := fun b hb e => by
        have := f4 b hb
        rw [e, e3] at this; cases this
      have f06 : ∀ x, fpS lp6 x → fpS lp x ∨ H x = none := fun x hx => (f6 x hx).imp id fun h => s05.mono _ h
      have fu6 : ∀ x, UFp s bp bz bl lp6 x → UFp s bp bz bl lp x ∨ H x = none := fun x hx => UFp.grow f06 hx
      have row7 : Row H7 jp' (m + 1) jc' (prI (upf pr m (u.toNat, v.toNat))) := (((r4.keep s5 fun _ _ h => h).keep s6 fun x hx => nb x (nj x hx))).keep s7 fun x hx e => njb3 x hx e
      have ub3 : ∀ x, UFp s bp bz bl lp6 x → x ≠ b3 := fun x hx e => by
        have live : H6 b3 ≠ none := by rw [a3]; exact fun h => by cases h
        rcases UFp.grow f6 hx with h | h
        · exact nb b3 f3 (e ▸ h)
        · have : H5 b3 ≠ none := by
            have := (s4.keep _ _ e3 fun h => h)
            rw [s5.keep _ _ this fun h => h]; exact fun h => by cases h
          exact this (e ▸ h)
      have hpr : ∀ i, i ≤ m → Prs (upf pr m (u.toNat, v.toNat)) i = Prs pr i := fun i hi => by
        funext x; funext y
        refine propext ⟨fun ⟨j, hj, h⟩ => ⟨j, hj, ?_⟩, fun ⟨j, hj, h⟩ => ⟨j, hj, ?_⟩⟩
        · rwa [upf_ne (by omega)] at h
        · rwa [upf_ne (by omega)]
      refine k H7 lp6 lc6 siz6 (upf hs (m + 1) ((hs m).join a b)) (upf pr m (u.toNat, v.toNat)) (m + 1) jp' jc' ⟨?_, ?_, ps.st.trans s07 fun x hx => .inr (ps.fu x hx), ?_, ?_, row7, ?_⟩ s07 fu6 fun x hx => .inr (nj x hx)
      · rw [upf_same]; exact h6.keep s7 fun x hx e => ub3 x hx e
      · exact fun x hx => (fu6 x hx).elim (ps.fu x) fun h => ps.st.mono _ h
      · intro i hi
        by_cases e : i = m + 1
        · subst e
          rw [upf_same]
          refine ⟨(rp.join hus hvs hab ha hb hor' ra rb).congr fun x y => ?_, by simp [USt.join, rk], rn⟩
          constructor
          · rintro ⟨j, hj, hx, hy⟩
            by_cases ej : j = m
            · subst ej
              rw [upf_same] at hx hy
              exact .inr ⟨hx, hy⟩
            · rw [upf_ne ej] at hx hy
              exact .inl ⟨j, by omega, hx, hy⟩
          · rintro (⟨j, hj, hx, hy⟩ | ⟨hx, hy⟩)
            · exact ⟨j, by omega, by rw [upf_ne (by omega)]; exact hx, by rw [upf_ne (by omega)]; exact hy⟩
            · exact ⟨m, by omega, by rw [upf_same]; exact hx, by rw [upf_same]; exact hy⟩
        · rw [upf_ne e, hpr i (by omega)]; exact ps.rep i (by omega)
      · intro i hi
        by_cases e : i = m
        · subst e; rw [upf_same, upf_ne (by omega)]; exact ⟨a, b, rfl, by omega, by omega, rb⟩
        · rw [upf_ne (by omega), upf_ne (by omega)]; exact ps.nxt i (by omega)
      · intro x hx
        refine ⟨ps.st.mono _ (nj x hx), fun hu => ?_⟩
        rcases UFp.grow f6 hu with h | h
        · exact nb x (nj x hx) h
        · exact (r4.keep s5 fun _ _ h => h).live hx h
  refine bc (fun _ => ?_) fun _ => ?_
  · refine rfind rp rk (by rw [rn]) ps3.row.rdr (fun H4 s4 hbad => ?_) fun H4 s4 h0 h1 => ?_
    · have a2 := s4.keep _ _ e2 fun h => h
      have a1 := s4.keep _ _ e1 fun h => h
      have a3 := s4.keep _ _ e3 fun h => h
      have g21 : H4.get b2 1 = some (.int .i64 u) := by simp [Hp.get, a2]
      have g10 : H4.get b1 0 = some (.int .i64 (N : Int)) := by simp [Hp.get, a1]
      have g11 : H4.get b1 1 = some (.slice jp m jc) := by simp [Hp.get, a1]
      simp only [g21, ldI_mk]
      refine ufind (ps3.keep s4).us rp.hist.ok (fun h0 h1 => (hbad ⟨h0, by rw [← rn]; exact h1⟩).elim) fun _ => ?_
      simp only [g10, g11, ldI_mk, ldS_mk]
      refine bc (fun _ => ?_) fun e => (e trivial).elim
      exact tl3 a3 rfl fun H5 s5 => done H5 ((s4.weak fun _ h => h.elim).trans s5 fun b hb => .inl (.inr (.inr hb)))
    · have a2 := s4.keep _ _ e2 fun h => h
      have a1 := s4.keep _ _ e1 fun h => h
      have a3 := s4.keep _ _ e3 fun h => h
      have g21 : H4.get b2 1 = some (.int .i64 u) := by simp [Hp.get, a2]
      have g10 : H4.get b1 0 = some (.int .i64 (N : Int)) := by simp [Hp.get, a1]
      have g11 : H4.get b1 1 = some (.slice jp m jc) := by simp [Hp.get, a1]
      simp only [g21, ldI_mk]
      refine ufind (ps3.keep s4).us rp.hist.ok (fun _ _ r hr _ => ?_) fun hb => (hb ⟨h0, by rw [rn]; exact h1⟩).elim
      simp only [g10, g11, ldI_mk, ldS_mk]
      refine bc (fun _ => ?_) fun e => (e (by show ((hs m).lst r : Int) = ((hs m).lst (rtOf (hs m).par u.toNat) : Int); rw [hr.of])).elim
      exact tl3 a3 rfl fun H5 s5 => done H5 ((s4.weak fun _ h => h.elim).trans s5 fun b hb => .inl (.inr (.inr hb)))
  refine bc (fun _ => ?_) fun _ => ?_
  · refine rundo ps3.row.rdr ps3.row.le (by omega) (fun H4 s4 h0 => ?_) fun H4 s4 h0 => ?_
    · have a3 := s4.keep _ _ e3 fun h => h
      refine nwst rfl rfl fun b5 H5 hb5 e5 s5 => ?_
      have j0 : H5.get b5 0 = some (.int .i64 (N : Int)) := by simp [Hp.get, e5]
      have j1 : H5.get b5 1 = some (.slice jp m jc) := by simp [Hp.get, e5]
      simp only [j0, j1, ldI_mk, ldS_mk]
      refine uundo ((ps3.keep s4).keep s5).us rm (fun h => by omega) (fun _ => ?_) fun h => by omega
      simp only [j0, j1, ldI_mk, ldS_mk]
      refine ⟨trivial, ?_⟩
      have a3 := s5.keep _ _ a3 fun h => h
      exact tl3 a3 rfl fun H6 s6 => done H6 (((s4.weak fun _ h => h.elim).trans s5 fun _ h => h.elim).trans s6 fun b hb => .inl (.inr (.inr hb)))
    · have a3 := s4.keep _ _ e3 fun h => h
      refine nwst rfl rfl fun b5 H5 hb5 e5 s5 => ?_
      have j0 : H5.get b5 0 = some (.int .i64 (N : Int)) := by simp [Hp.get, e5]
      have j1 : H5.get b5 1 = some (.slice jp (m - 1) jc) := by simp [Hp.get, e5]
      simp only [j0, j1, ldI_mk, ldS_mk]
      have ps5 := (ps3.keep s4).keep s5
      have a3 := s5.keep _ _ a3 fun h => h
      obtain ⟨a, b', e, ha, hb', rb⟩ := ps.nxt (m - 1) (by omega)
      obtain ⟨rp1, rk1, rn1⟩ := ps.rep (m - 1) (by omega)
      rw [show m - 1 + 1 = m by omega] at e
      have s05 := (s03.trans s4 fun _ h => .inl h).trans s5 fun _ h => .inl h
      refine uundo ps5.us rm (fun _ => by rw [e, join_log]; exact ⟨by show b' < (hs (m - 1)).n; omega, by show a < (hs (m - 1)).n; omega⟩) (fun h => by omega) fun _ H6 siz6 h6 s6 => ?_
      have nb : ∀ b, H b = none → ¬ UFp s bp bz bl lp b := fun b hb hu => ps.us.live hu hb
      have nb5 : ¬ UFp s bp bz bl lp b5 := nb b5 (s03.mono _ (s4.mono _ hb5))
      have e6 := s6.keep _ _ e5 nb5
      have j0 : H6.get b5 0 = some (.int .i64 (N : Int)) := by simp [Hp.get, e6]
      have j1 : H6.get b5 1 = some (.slice jp (m - 1) jc) := by simp [Hp.get, e6]
      simp only [j0, j1, ldI_mk, ldS_mk]
      refine ⟨trivial, ?_⟩
      have a3 := s6.keep _ _ a3 (nb b3 f3)
      refine tl3 a3 rfl fun H7 s7 => ?_
      rw [e, join_log] at h6
      have h6 := h6.back rb
      have s56 : Step (UFp s bp bz bl lp) H H6 := (s05.weak fun _ h => h.elim).trans s6 fun _ h => .inl h
      have s07 : Step (UFp s bp bz bl lp) H H7 := s56.trans s7 fun b hb => .inr (hb ▸ f3)
      have row7 : Row H7 jp (m - 1) jc (prI pr) := (((ps5.row.cut (m := m - 1) (by omega)).keep s6 fun b hb => (ps.fj b hb).2)).keep s7 fun b hb e => ps.row.live hb (e ▸ f3)
      refine k H7 lp lc siz6 hs pr (m - 1) jp jc ⟨h6.keep s7 fun b hb e => nb b3 f3 (e ▸ hb), ps.fu, ps.st.trans s07 fun b hb => .inr (ps.fu b hb), fun i hi => ps.rep i (by omega), fun i hi => ps.nxt i (by omega), row7, ps.fj⟩ s07 (fun _ h => .inl h) fun _ h => .inl h
  refine bc (fun _ => ?_) fun _ => ?_
  · refine rmembers rp rk (by rw [rn]) ps3.row.rdr (fun H4 s4 hbad => ?_) fun H4 qp qc s4 h0 h1 qr => ?_
    · have a2 := s4.keep _ _ e2 fun h => h
      have a1 := s4.keep _ _ e1 fun h => h
      have a3 := s4.keep _ _ e3 fun h => h
      have g21 : H4.get b2 1 = some (.int .i64 u) := by simp [Hp.get, a2]
      have g10 : H4.get b1 0 = some (.int .i64 (N : Int)) := by simp [Hp.get, a1]
      have g11 : H4.get b1 1 = some (.slice jp m jc) := by simp [Hp.get, a1]
      simp only [g21, ldI_mk]
      refine umembers (ps3.keep s4).us rp.hist.ok (fun _ => ?_) fun h0 h1 => (hbad ⟨h0, by rw [← rn]; exact h1⟩).elim
      simp only [g10, g11, ldI_mk, ldS_mk]
      refine lints (f := fun _ => 0) (g := fun _ => 0) (fun i hi => (Nat.not_lt_zero i hi).elim) (fun i hi => (Nat.not_lt_zero i hi).elim) rfl (by decide) (fun _ _ => rfl) ?_
      simp only [g10, g11, ldI_mk, ldS_mk]
      refine ⟨trivial, ?_⟩
      refine bcb (fun _ => ?_) fun e => by cases e
      exact tl3 a3 rfl fun H5 s5 => done H5 ((s4.weak fun _ h => h.elim).trans s5 fun b hb => .inl (.inr (.inr hb)))
    · have a2 := s4.keep _ _ e2 fun h => h
      have g21 : H4.get b2 1 = some (.int .i64 u) := by simp [Hp.get, a2]
      simp only [g21, ldI_mk]
      refine umembers (ps3.keep s4).us rp.hist.ok (fun hb => (hb ⟨h0, by rw [rn]; exact h1⟩).elim) fun _ _ H5 op oc or' s5 f5 => ?_
      have s45 := s4.trans s5 fun _ h => .inl h
      have a1 := s45.keep _ _ e1 fun h => h
      have a3 := s45.keep _ _ e3 fun h => h
      have g10 : H5.get b1 0 = some (.int .i64 (N : Int)) := by simp [Hp.get, a1]
      have g11 : H5.get b1 1 = some (.slice jp m jc) := by simp [Hp.get, a1]
      simp only [g10, g11, ldI_mk, ldS_mk]
      have hlen : ((hs m).mem u.toNat (hs m).n).length ≤ 1024 := Nat.le_trans (List.length_filter_le _ _) (by simpa using rp.hist.ok.1)
      refine lints or'.rdr (qr.keep s5 fun _ _ h => h).rdr rfl (by omega) (fun _ _ => rfl) ?_
      simp only [g10, g11, ldI_mk, ldS_mk]
      refine ⟨trivial, ?_⟩
      refine bcb (fun _ => ?_) fun e => by cases e
      exact tl3 a3 rfl fun H6 s6 => done H6 ((s45.weak fun _ h => h.elim).trans s6 fun b hb => .inl (.inr (.inr hb)))
  exact tl3 e3 rfl fun H4 s4 => done H4 (s4.weak fun b hb => .inl (.inr (.inr hb)))

theorem lplays {p : Option Addr} {n0 : Int} {n c : Nat} {H : Hp} {f : Nat → Int × Int × Int} {K : Bool → Hp → Prop} (hp : Rdr H p n f) (hn : n < 2 ^ 63)
    (k : ∀ H', Step (fun _ => False) H H' → K true H') : compasslaw06_UnionPlays.call n0 p n c E H K := by
  refine compasslaw06_UnionPlays.of (compasslaw06_UnionPlays.run_eq ?_)
  unfold compasslaw06_UnionPlays.run_t
  refine lawake fun H1 s1 => ?_
  refine bcb (fun e => by cases e) fun _ => ?_
  refine unew (fun hb => ?_) fun h0 h1 H2 s bp bz bl t siz h2 s2 f2 => ?_
  · refine rwrong (fun _ => ?_) fun h0 h1 => (hb ⟨h0, h1⟩).elim
    refine bcn (fun e => (e rfl).elim) fun _ => ?_
    refine bcb (fun e => by cases e) fun _ => ?_
    exact bcb (fun _ => k _ s1) fun e => by cases e
  refine rwrong (fun h => (h ⟨h0, h1⟩).elim) fun _ _ => ?_
  refine bcn (fun e => (e rfl).elim) fun _ => ?_
  refine bcb (fun e => by cases e) fun _ => ?_
  refine bcb (fun e => by cases e) fun _ => ?_
  obtain ⟨N, rfl⟩ : ∃ N : Nat, n0 = N := ⟨n0.toNat, by omega⟩
  simp only [Int.toNat_natCast] at h2
  refine nwst rfl rfl fun w8 H3 hb3 e3 s3 => ?_
  have s12 := s1.trans s2 fun b hb => .inl hb
  have s13 := s12.trans s3 fun b hb => .inl hb
  have hh : Rep (USt.init N) (fun _ _ => False) := Rep.init (by omega)
  have start : PS H H3 s bp bz bl none 0 t siz N (fun _ => USt.init N) (fun _ => (0, 0)) 0 none 0 := by
    refine ⟨h2.keep s3 fun _ _ h => h, fun b hb => s1.mono b (f2 b hb), s13, fun i hi => ⟨hh.congr fun x y => ⟨fun ⟨j, hj, _⟩ => by omega, fun h => h.elim⟩, ?_, rfl⟩, fun i hi => by omega, .nil, fun b hb => by rw [fpS_none] at hb; exact hb.elim⟩
    have : i = 0 := by omega
    subst this; rfl
  have nw8 : ¬ UFp s bp bz bl none w8 := fun h => h2.live h hb3
  refine compasslaw06_UnionPlays.l1_rule (fun m0 s5 w tp tn tc t36 t37 H' => m0 = N ∧ s5 = some ⟨s, 0, none⟩ ∧ w = w8 ∧ tp = p ∧ tn = n ∧ t36 = n ∧ ∃ i : Nat, t37 = i ∧ ∃ lp lc siz hs pr m jp jc, H' w8 = some ⟨[.int .i64 (N : Int), .slice jp m jc], 45⟩ ∧ ¬ UFp s bp bz bl lp w8 ∧ ¬ fpS jp w8 ∧ PS H H' s bp bz bl lp lc t siz N hs pr m jp jc)
    (fun m0 s5 w tp tn tc t36 t37 H' => n - t37.toNat) ?_ ⟨rfl, rfl, rfl, rfl, rfl, rfl, 0, rfl, _, _, _, _, _, 0, _, _, e3, nw8, (fun hb => by rw [fpS_none] at hb; exact hb.elim), start⟩
  have w0 : H w8 = none := s12.mono _ hb3
  clear start nw8 e3 s3 hb3 h2 s13
  rintro m0 s5 w tp tn tc t36 t37 H4 ⟨rfl, rfl, rfl, rfl, rfl, rfl, i, rfl, lp, lc, siz, hs, pr, m, jp, jc, e4, nu, nj, ps⟩ X hX
  refine compasslaw06_UnionPlays.b1_eq ?_
  unfold compasslaw06_UnionPlays.b1_t
  refine bc (fun hlt => ?_) fun hge => k _ ps.st
  have hp4 := hp.keep ps.st fun _ _ _ h => h
  refine hp4.ix (α := Int × Int × Int) (by omega) (by omega) fun b o _ hg => ?_
  have g0 := hg 0 (by decide)
  have g1 := hg 1 (by decide)
  have g2 := hg 2 (by decide)
  simp only [El.enc, Nat.add_zero] at g0 g1 g2
  simp at g0 g1 g2
  rw [g0, g1, g2]
  simp only [ldI_mk]
  refine nwst rfl rfl fun b5 H5 hb5 e5 s5 => ?_
  have e45 := s5.keep _ _ e4 fun h => h
  have i0 : H5.get b5 0 = some (.int .i64 (f i).1) := by simp [Hp.get, e5]
  have i1 : H5.get b5 1 = some (.int .i64 (f i).2.1) := by simp [Hp.get, e5]
  have i2 : H5.get b5 2 = some (.int .i64 (f i).2.2) := by simp [Hp.get, e5]
  have j0 : H5.get w 0 = some (.int .i64 (N : Int)) := by simp [Hp.get, e45]
  have j1 : H5.get w 1 = some (.slice jp m jc) := by simp [Hp.get, e45]
  simp only [i0, i1, i2, j0, j1, ldI_mk, ldS_mk]
  refine lstep (ps.keep s5) fun H6 lp' lc' siz' hs' pr' m' jp' jc' ps6 s6 fl fj => ?_
  have e46 := s6.keep _ _ e45 nu
  have live5 : H5 w ≠ none := by rw [e45]; exact fun h => by cases h
  have nu' : ¬ UFp s bp bz bl lp' w := fun h => (fl _ h).elim nu live5
  have nj' : ¬ fpS jp' w := fun h => (fj _ h).elim nj live5
  refine stk e46 rfl rfl fun H7 e7 s7 => ?_
  have ps7 : PS H H7 s bp bz bl lp' lc' t siz' N hs' pr' m' jp' jc' := ⟨ps6.us.keep s7 fun b hb e => nu' (e ▸ hb), ps6.fu, ps6.st.trans s7 fun b hb => .inr (hb ▸ w0), ps6.rep, ps6.nxt, ps6.row.keep s7 fun b hb e => nj' (e ▸ hb), ps6.fj⟩
  obtain ⟨rp, rk, rn⟩ := ps7.rep m' (Nat.le_refl _)
  have h1024 := rp.hist.ok.1
  have hle := rp.hist.le
  refine bcb (fun e => by cases e) fun _ => ?_
  have j1 : H7.get w 1 = some (.slice jp' m' jc') := by simp [Hp.get, e7]
  simp only [j1, ldS_mk]
  refine ujoins ps7.us ?_
  try simp only [j1, ldS_mk]
  refine ⟨trivial, ?_⟩
  refine bcn (fun e => (e (by rw [rk])).elim) fun _ => ?_
  try simp only [j1, ldS_mk]
  refine ucount ps7.us rp.hist.ok hle ?_
  try simp only [j1, ldS_mk]
  refine ⟨trivial, ?_⟩
  refine bcn (fun e => (e (by rw [rk, rn, i64w (by omega) (by omega)])).elim) fun _ => ?_
  rw [i64w (by omega) (by omega)]
  exact hX _ _ _ _ _ _ _ _ _ ⟨rfl, rfl, rfl, rfl, rfl, rfl, i + 1, by omega, lp', lc', siz', hs', pr', m', jp', jc', e7, nu', nj', ps7⟩ (by omega)
end
end Go.Mz
