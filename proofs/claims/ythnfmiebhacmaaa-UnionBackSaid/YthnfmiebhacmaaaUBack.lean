/-
  UnionBack, walked: whatever the pairs and the number, it answers true and leaves what was there as it was.
-/
import Derived.Test.YthnfmiebhacmaaaLawS06
set_option linter.unusedSimpArgs false
set_option linter.unusedVariables false
namespace Go.Mz
section
variable {E : Value → Hp → Prop}

/-- sets, their states so far, and the names told of each -/
structure UShots (H0 H : Hp) (s bp bz bl : Nat) (lp : Option Addr) (lc : Nat) (t : BT) (siz : Nat → Int) (sp : Option Addr) (sc : Nat) (hs : Nat → USt) (rows : Nat → Sl) (m top : Nat) : Prop where
  us : USets H s bp bz bl lp lc t siz (hs m)
  fu : ∀ b, UFp s bp bz bl lp b → H0 b = none
  st : Step (fun _ => False) H0 H
  hist : ∀ i, i ≤ m → UHist (hs i) ∧ (hs i).k = i ∧ (hs i).n = 12
  nxt : ∀ i, i < m → ∃ a b, hs (i + 1) = (hs i).join a b ∧ a < 12 ∧ b < 12 ∧ (hs i).par b = b
  row : Row H sp (top + 1) sc rows
  mt : m ≤ top
  fs : ∀ b, fpS sp b → H0 b = none ∧ ¬ UFp s bp bz bl lp b
  each : ∀ i, i ≤ m → (rows i).n = 12 ∧ Rdr H (rows i).p 12 (nmI (hs i)) ∧ ∀ b, fpS (rows i).p b → ¬ UFp s bp bz bl lp b ∧ ¬ fpS sp b

theorem lback {p : Option Addr} {n c : Nat} {back : Int} {H : Hp} {f : Nat → Int × Int × Int} {K : Bool → Hp → Prop} (hp : Rdr H p n f) (hn : n < 2 ^ 63)
    (k : ∀ H', Step (fun _ => False) H H' → K true H') : compasslaw06_UnionBack.call p n c back E H K := by
  refine compasslaw06_UnionBack.of (compasslaw06_UnionBack.run_eq ?_)
  unfold compasslaw06_UnionBack.run_t
  refine lawake fun H1 s1 => ?_
  refine bcb (fun e => by cases e) fun _ => ?_
  refine unew (fun h => (h (by omega)).elim) fun _ _ H2 s bp bz bl t siz h2 s2 f2 => ?_
  have hh : UHist (USt.init 12) := .base (by omega)
  refine bcb (fun e => by cases e) fun _ => ?_
  refine bcn (fun e => (e rfl).elim) fun _ => ?_
  refine lnames (n := 12) h2 hh.ok rfl fun rp rc H3 r3 s3 f3 => ?_
  intro b1 hb1
  have s12 := s1.trans s2 fun b hb => .inl hb
  have s13 := s12.trans s3 fun b hb => .inl hb
  have sn : Step (fun _ => False) H3 (H3.upd b1 ⟨[.slice rp 12 rc], 28⟩) := Step.new hb1
  have h3 := h2.keep s3 fun _ _ h => h
  have start : UShots H (H3.upd b1 ⟨[.slice rp 12 rc], 28⟩) s bp bz bl none 0 t siz (some ⟨b1, 0, none⟩) 1 (fun _ => USt.init 12) (fun _ => ⟨rp, 12, rc⟩) 0 0 := by
    refine ⟨h3.keep sn fun _ _ h => h, fun b hb => s1.mono b (f2 b hb), s13.trans sn fun b hb => .inl hb, fun i hi => ⟨hh, ?_, rfl⟩, fun i hi => by omega, ?_, Nat.le_refl _, fun b hb => ?_, fun i hi => ⟨rfl, (r3.keep sn fun _ _ h => h).rdr, fun b hb => ?_⟩⟩
    · have : i = 0 := by omega
      subst this; rfl
    · refine ⟨Nat.le_refl _, by decide, .inr ⟨b1, 0, _, rfl, upd_same, ⟨Nat.le_refl _, rfl⟩, fun i hi j hj => ?_⟩⟩
      have : i = 0 := by omega
      subst this
      have : j = 0 := by have : El.w Sl = 1 := rfl; omega
      subst this; rfl
    · rw [fpS_mk] at hb; subst hb
      exact ⟨s13.mono _ hb1, fun hu => h3.live hu hb1⟩
    · refine ⟨fun hu => h2.live hu (f3 b hb), fun hb' => ?_⟩
      rw [fpS_mk] at hb'; subst hb'
      exact r3.live hb hb1
  clear sn
  generalize (H3.upd b1 ⟨[.slice rp 12 rc], 28⟩) = H4 at start
  refine compasslaw06_UnionBack.l1_rule (fun bk s5 sp sn sc tp tn tc t29 t30 H' => s5 = some ⟨s, 0, none⟩ ∧ tp = p ∧ tn = n ∧ t29 = n ∧ ∃ i : Nat, t30 = i ∧ ∃ lp lc siz hs rows m, sn = m + 1 ∧ UShots H H' s bp bz bl lp lc t siz sp sc hs rows m m)
    (fun bk s5 sp sn sc tp tn tc t29 t30 H' => n - t30.toNat) ?_ ⟨rfl, rfl, rfl, rfl, 0, rfl, _, _, _, _, _, 0, rfl, start⟩
  rintro bk s5 sp sn sc tp tn tc t29 t30 H5 ⟨rfl, rfl, rfl, rfl, i, rfl, lp, lc, siz, hs, rows, m, rfl, us⟩ X hX
  obtain ⟨hm, hmk, hmn⟩ := us.hist m (Nat.le_refl _)
  have hm12 : m ≤ 12 := by have := hm.le; omega
  refine compasslaw06_UnionBack.b1_eq ?_
  unfold compasslaw06_UnionBack.b1_t
  refine bc (fun hlt => ?_) fun hge => ?_
  · have hp5 := hp.keep us.st fun _ _ _ h => h
    refine hp5.ix (α := Int × Int × Int) (by omega) (by omega) fun b o _ hg => ?_
    have g0 := hg 0 (by decide)
    have g1 := hg 1 (by decide)
    have g2 := hg 2 (by decide)
    simp only [El.enc, Nat.add_zero] at g0 g1 g2
    simp at g0 g1 g2
    rw [g0, g1, g2]
    simp only [ldI_mk]
    intro b2 hb2
    refine ⟨_, upd_same, ⟨by simp, rfl⟩, ?_⟩
    have e6 : ((H5.upd b2 ⟨[.int .i64 0, .int .i64 0, .int .i64 0], 32⟩).upd b2 ⟨putL [.int .i64 0, .int .i64 0, .int .i64 0] 0 [.int .i64 (f i).1, .int .i64 (f i).2.1, .int .i64 (f i).2.2], 32⟩) b2 = some ⟨[.int .i64 (f i).1, .int .i64 (f i).2.1, .int .i64 (f i).2.2], 32⟩ := upd_same
    have s6 : Step (fun _ => False) H5 ((H5.upd b2 ⟨[.int .i64 0, .int .i64 0, .int .i64 0], 32⟩).upd b2 ⟨putL [.int .i64 0, .int .i64 0, .int .i64 0] 0 [.int .i64 (f i).1, .int .i64 (f i).2.1, .int .i64 (f i).2.2], 32⟩) :=
      (Step.new (F := fun _ => False) hb2).trans (Step.wr (F := (· = b2)) upd_same rfl) fun b hb => .inr (hb ▸ hb2)
    generalize ((H5.upd b2 ⟨[.int .i64 0, .int .i64 0, .int .i64 0], 32⟩).upd b2 ⟨putL [.int .i64 0, .int .i64 0, .int .i64 0] 0 [.int .i64 (f i).1, .int .i64 (f i).2.1, .int .i64 (f i).2.2], 32⟩) = H6 at e6 s6
    have i1 : H6.get b2 1 = some (.int .i64 (f i).2.1) := by simp [Hp.get, e6]
    have i2 : H6.get b2 2 = some (.int .i64 (f i).2.2) := by simp [Hp.get, e6]
    simp only [i1, i2, ldI_mk]
    have us6 := us.us.keep s6 fun _ _ h => h
    have st6 := us.st.trans s6 fun b hb => .inl hb
    have row6 := us.row.keep s6 fun _ _ h => h
    -- what is kept by a step that leaves the shots alone
    have skip : ∀ H', Step (fun _ => False) H5 H' → X (compasslaw06_UnionBack.f1 bk (some ⟨s, 0, none⟩) sp (m + 1) sc tp tn tc (tn : Int) (IntKind.wrap .i64 ((i : Int) + 1))) H' := fun H' s' => by
      rw [i64w (by omega) (by omega)]
      refine hX _ _ _ _ _ _ _ _ _ _ _ ⟨rfl, rfl, rfl, rfl, i + 1, by omega, lp, lc, siz, hs, rows, m, rfl, ⟨us.us.keep s' fun _ _ h => h, us.fu, us.st.trans s' fun _ h => .inl h, us.hist, us.nxt, us.row.keep s' fun _ _ h => h, us.mt, us.fs, fun j hj => ⟨(us.each j hj).1, (us.each j hj).2.1.keep s' fun _ _ _ h => h, (us.each j hj).2.2⟩⟩⟩ (by omega)
    refine ujoin us6 hm.ok hm.small (fun _ => ?_) (fun _ _ _ _ _ _ _ => ?_) fun _ _ _ _ a b hab ha hb hor H7 lp' lc' siz' h7 s7 f7 => ?_
    · refine bcb (fun e => by cases e) fun _ => ?_
      refine compasslaw06_UnionBack.j1_eq ?_
      exact skip _ s6
    · refine bcb (fun e => by cases e) fun _ => ?_
      refine compasslaw06_UnionBack.j1_eq ?_
      exact skip _ s6
    · refine bcb (fun _ => ?_) fun e => by cases e
      have ra : (hs m).par a = a := by rcases hor with ⟨x, _⟩ | ⟨_, x⟩ <;> exact x.fix
      have rb : (hs m).par b = b := by rcases hor with ⟨_, x⟩ | ⟨x, _⟩ <;> exact x.fix
      have hj : UHist ((hs m).join a b) := .join hm hab ha hb ra rb
      have fu7 := UFr.grow us.fu st6 f7
      have st7 := st6.trans s7 fun b hb => .inr (us.fu b hb)
      have row7 := row6.keep s7 fun b hb => (us.fs b hb).2
      have ok7 : ∀ b, (∀ h : UFp s bp bz bl lp b, False) → H6 b ≠ none → ¬ UFp s bp bz bl lp' b := fun b h1 h2 h3 => by
        rcases UFp.grow f7 h3 with h | h
        · exact h1 h
        · exact h2 h
      refine lnames (n := 12) h7 hj.ok hmn.symm fun rp rc H8 r8 s8 f8 => ?_
      have row8 := row7.keep s8 fun _ _ h => h
      refine row8.app (α := Sl) ⟨rp, 12, rc⟩ rfl (by omega) (by decide) fun sp' sc' H9 r9 s9 f9 => ?_
      refine compasslaw06_UnionBack.j1_eq ?_
      unfold compasslaw06_UnionBack.j1_t
      rw [i64w (by omega) (by omega)]
      have h8 := h7.keep s8 fun _ _ h => h
      have st8 := st7.trans s8 fun _ h => .inl h
      have spU : ∀ b, fpS sp b → ¬ UFp s bp bz bl lp' b := fun b hb => ok7 b (us.fs b hb).2 (row6.live hb)
      have sp'U : ∀ b, fpS sp' b → H b = none ∧ ¬ UFp s bp bz bl lp' b := fun b hb => by
        rcases f9 b hb with h | h
        · exact ⟨(us.fs b h).1, spU b h⟩
        · exact ⟨st8.mono b h, fun hu => h8.live hu h⟩
      have sp'ne : ∀ b, ¬ fpS sp b → H8 b ≠ none → ¬ fpS sp' b := fun b h1 h2 h3 => by
        rcases f9 b h3 with h | h
        · exact h1 h
        · exact h2 h
      refine hX _ _ _ _ _ _ _ _ _ _ _ ⟨rfl, rfl, rfl, rfl, i + 1, by omega, lp', lc', siz', upf hs (m + 1) ((hs m).join a b), upf rows (m + 1) ⟨rp, 12, rc⟩, m + 1, rfl, ?_⟩ (by omega)
      refine ⟨?_, fu7, st8.trans s9 fun b hb => .inr (us.fs b hb).1, fun j hj' => ?_, fun j hj' => ?_, r9, Nat.le_refl _, sp'U, fun j hj' => ?_⟩
      · rw [upf_same]; exact h8.keep s9 fun b hb hs => spU b hs hb
      · by_cases e : j = m + 1
        · subst e; rw [upf_same]; exact ⟨hj, by simp [USt.join, hmk], hmn⟩
        · rw [upf_ne e]; exact us.hist j (by omega)
      · by_cases e : j = m
        · subst e; rw [upf_same, upf_ne (by omega)]; exact ⟨a, b, rfl, by omega, by omega, rb⟩
        · rw [upf_ne (by omega), upf_ne (by omega)]; exact us.nxt j (by omega)
      · by_cases e : j = m + 1
        · subst e
          simp only [upf_same]
          have no : ∀ b, fpS rp b → ¬ fpS sp b := fun b hb hs => row7.live hs (f8 b hb)
          refine ⟨trivial, (r8.keep s9 no).rdr, fun b hb => ⟨fun hu => h7.live hu (f8 b hb), sp'ne b (no b hb) (r8.live hb)⟩⟩
        · obtain ⟨q1, q2, q3⟩ := us.each j (by omega)
          simp only [upf_ne e]
          have q26 := q2.keep s6 fun _ _ _ h => h
          have q27 := q26.keep s7 fun b hb _ => (q3 b hb).1
          have q28 := q27.keep s8 fun _ _ _ h => h
          exact ⟨q1, q28.keep s9 fun b hb _ => (q3 b hb).2, fun b hb => ⟨ok7 b (q3 b hb).1 (q26.live hb (by omega)), sp'ne b (q3 b hb).2 (q28.live hb (by omega))⟩⟩
  · refine compasslaw06_UnionBack.j2_eq ?_
    unfold compasslaw06_UnionBack.j2_t
    rw [i64w (by omega) (by omega)]
    clear hX
    refine compasslaw06_UnionBack.l2_rule (fun bk s5 sp' sn sc' i12 H' => s5 = some ⟨s, 0, none⟩ ∧ sp' = sp ∧ sc' = sc ∧ sn = m + 1 ∧ ∃ j : Nat, i12 = j ∧ ∃ siz, UShots H H' s bp bz bl lp lc t siz sp sc hs rows j m)
      (fun bk s5 sp' sn sc' i12 H' => i12.toNat) ?_ ⟨rfl, rfl, rfl, rfl, m, by omega, siz, us⟩
    rintro bk s5 sp' sn sc' i12 H5 ⟨rfl, rfl, rfl, rfl, j, rfl, siz, us⟩ X hX
    obtain ⟨hj, hjk, hjn⟩ := us.hist j (Nat.le_refl _)
    have hjm := us.mt
    refine compasslaw06_UnionBack.b2_eq ?_
    unfold compasslaw06_UnionBack.b2_t
    refine bc (fun hlt => ?_) fun hge => ?_
    · refine us.row.ix (α := Sl) (by omega) (by omega) fun b o hb hg => ?_
      have g0 := hg 0 (by decide)
      simp only [El.enc, Nat.add_zero, Int.toNat_natCast] at g0
      simp at g0
      rw [g0]
      simp only [ldS_mk]
      refine lnames (n := 12) us.us hj.ok hjn.symm fun rp rc H6 r6 s6 f6 => ?_
      rw [s6.get g0 fun h => h]
      refine ⟨rfl, ?_⟩
      obtain ⟨q1, q2, q3⟩ := us.each j (Nat.le_refl _)
      refine lints (g := nmI (hs j)) r6.rdr (by rw [q1]; exact q2.keep s6 fun _ _ _ h => h) q1.symm (by decide) (fun _ _ => rfl) ?_
      have us6 := us.us.keep s6 fun _ _ h => h
      have st6 := us.st.trans s6 fun _ h => .inl h
      refine bcb (fun e => by cases e) fun _ => ?_
      refine ujoins us6 ?_
      refine bcn (fun e => (e (by rw [hjk])).elim) fun _ => ?_
      refine ucount us6 hj.ok hj.le ?_
      refine bcn (fun e => (e (by rw [hjk, hjn, i64w (by omega) (by omega)]; rfl)).elim) fun _ => ?_
      refine bc (fun _ => k _ st6) fun _ => ?_
      obtain ⟨a, b', e, ha, hb', rb⟩ := us.nxt (j - 1) (by omega)
      obtain ⟨hj1, hj1k, hj1n⟩ := us.hist (j - 1) (by omega)
      rw [show j - 1 + 1 = j by omega] at e
      refine uundo us6 hj.small (fun _ => by rw [e, join_log]; exact ⟨by show b' < (hs (j - 1)).n; omega, by show a < (hs (j - 1)).n; omega⟩) (fun h => by omega) fun _ H7 siz7 h7 s7 => ?_
      refine bcn (fun e => (e rfl).elim) fun _ => ?_
      rw [i64w (by omega) (by omega)]
      refine hX _ _ _ _ _ _ _ ⟨rfl, rfl, rfl, rfl, j - 1, by omega, siz7, ?_⟩ (by omega)
      rw [e, join_log] at h7
      have h7 := h7.back rb
      refine ⟨h7, us.fu, st6.trans s7 fun b hb => .inr (us.fu b hb), fun i hi => us.hist i (by omega), fun i hi => us.nxt i (by omega), (us.row.keep s6 fun _ _ h => h).keep s7 fun b hb => (us.fs b hb).2, by omega, us.fs, fun i hi => ?_⟩
      obtain ⟨q1, q2, q3⟩ := us.each i (by omega)
      exact ⟨q1, (q2.keep s6 fun _ _ _ h => h).keep s7 fun b hb _ => (q3 b hb).1, q3⟩
    · have : j = 0 := by omega
      subst this
      refine compasslaw06_UnionBack.j3_eq ?_
      unfold compasslaw06_UnionBack.j3_t
      refine uundo us.us hj.small (fun h => by omega) (fun _ => ?_) fun h => by omega
      refine bc (fun _ => ?_) fun e => (e rfl).elim
      refine us.row.ix (α := Sl) (by omega) (by omega) fun b o hb hg => ?_
      have g0 := hg 0 (by decide)
      simp only [El.enc, Nat.add_zero] at g0
      simp at g0
      rw [g0]
      simp only [ldS_mk]
      refine lnames (n := 12) us.us hj.ok hjn.symm fun rp rc H6 r6 s6 f6 => ?_
      rw [s6.get g0 fun h => h]
      refine ⟨rfl, ?_⟩
      obtain ⟨q1, q2, q3⟩ := us.each 0 (Nat.le_refl _)
      refine lints (g := nmI (hs 0)) r6.rdr (by rw [q1]; exact q2.keep s6 fun _ _ _ h => h) q1.symm (by decide) (fun _ _ => rfl) ?_
      exact k _ (us.st.trans s6 fun _ h => .inl h)
end
end Go.Mz
