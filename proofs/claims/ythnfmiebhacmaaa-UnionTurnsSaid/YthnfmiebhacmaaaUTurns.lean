/-
  UnionTurns, walked: whatever the pairs, it answers true and leaves what was there as it was.
-/
import Derived.Test.YthnfmiebhacmaaaLawS06
import Derived.Test.YthnfmiebhacmaaaUniQ
set_option linter.unusedSimpArgs false
set_option linter.unusedVariables false
namespace Go.Mz
section
variable {E : Value → Hp → Prop}

/-- a pair of nodes that are told as numbers -/
def Ed (n : Nat) (u v : Int) (x y : Nat) : Prop := (0 ≤ u ∧ u < (n : Int)) ∧ (0 ≤ v ∧ v < (n : Int)) ∧ x = u.toNat ∧ y = v.toNat

theorem ujoinR {H : Hp} {s bp bz bl : Nat} {lp : Option Addr} {lc : Nat} {t : BT} {siz : Nat → Int} {σ : USt} {R : Nat → Nat → Prop} {u v : Int} {K : Bool → Int → Hp → Prop} (h : USets H s bp bz bl lp lc t siz σ) (rep : Rep σ R)
    (k : ∀ fresh e H' lp' lc' siz' σ', USets H' s bp bz bl lp' lc' t siz' σ' → Rep σ' (fun x y => R x y ∨ Ed σ.n u v x y) → σ'.n = σ.n → Step (UFp s bp bz bl lp) H H' → (∀ x, fpS lp' x → fpS lp x ∨ H x = none) → K fresh e H') :
    unions_Sets_Join.call (some ⟨s, 0, none⟩) u v E H K := by
  refine ujoin h rep.hist.ok rep.hist.small (fun hbad => ?_) (fun hu hu' hv hv' r h1 h2 => ?_) fun hu hu' hv hv' a b hab ha hb hor H' lp' lc' siz' h' s' f' => ?_
  · refine k _ _ H lp lc siz σ h (rep.congr fun x y => ?_) rfl .refl fun x hx => .inl hx
    exact ⟨fun h => h.elim id fun h => (hbad ⟨h.1, h.2.1⟩).elim, .inl⟩
  · refine k _ _ H lp lc siz σ h ((rep.same (u := u.toNat) (v := v.toNat) (by omega) (by omega) (h1.of.trans h2.of.symm)).congr fun x y => ?_) rfl .refl fun x hx => .inl hx
    exact ⟨fun h => h.imp id fun h => h.2.2, fun h => h.imp id fun h => ⟨⟨hu, hu'⟩, ⟨hv, hv'⟩, h⟩⟩
  · have ra : σ.par a = a := by rcases hor with ⟨x, _⟩ | ⟨_, x⟩ <;> exact x.fix
    have rb : σ.par b = b := by rcases hor with ⟨_, x⟩ | ⟨x, _⟩ <;> exact x.fix
    refine k _ _ H' lp' lc' siz' _ h' ((rep.join (u := u.toNat) (v := v.toNat) (by omega) (by omega) hab ha hb ?_ ra rb).congr fun x y => ?_) rfl s' f'
    · exact hor.imp (fun h => ⟨h.1.of, h.2.of⟩) fun h => ⟨h.1.of, h.2.of⟩
    · exact ⟨fun h => h.imp id fun h => h.2.2, fun h => h.imp id fun h => ⟨⟨hu, hu'⟩, ⟨hv, hv'⟩, h⟩⟩

theorem cnt_le {p : Nat → Bool} {n : Nat} : cnt p n ≤ n := by
  induction n with
  | zero => exact Nat.le_refl _
  | succ n ih => simp only [cnt]; split <;> omega

def Rs (f : Nat → Int × Int × Int) (i : Nat) (x y : Nat) : Prop := ∃ j, j < i ∧ Ed 12 (f j).2.1 (f j).2.2 x y
def Rz (f : Nat → Int × Int × Int) (n i : Nat) (x y : Nat) : Prop := ∃ j, j < i ∧ Ed 12 (f (n - 1 - j)).2.2 (f (n - 1 - j)).2.1 x y

theorem Rs_succ {f : Nat → Int × Int × Int} {i x y : Nat} : Rs f (i + 1) x y ↔ Rs f i x y ∨ Ed 12 (f i).2.1 (f i).2.2 x y := by
  constructor
  · rintro ⟨j, hj, h⟩
    by_cases e : j = i
    · subst e; exact .inr h
    · exact .inl ⟨j, by omega, h⟩
  · rintro (⟨j, hj, h⟩ | h)
    · exact ⟨j, by omega, h⟩
    · exact ⟨i, by omega, h⟩

theorem Rz_succ {f : Nat → Int × Int × Int} {n i x y : Nat} : Rz f n (i + 1) x y ↔ Rz f n i x y ∨ Ed 12 (f (n - 1 - i)).2.2 (f (n - 1 - i)).2.1 x y := by
  constructor
  · rintro ⟨j, hj, h⟩
    by_cases e : j = i
    · subst e; exact .inr h
    · exact .inl ⟨j, by omega, h⟩
  · rintro (⟨j, hj, h⟩ | h)
    · exact ⟨j, by omega, h⟩
    · exact ⟨i, by omega, h⟩

theorem Rz_turn {f : Nat → Int × Int × Int} {n x y : Nat} : Rz f n n x y ↔ Rs f n y x := by
  constructor
  · rintro ⟨j, hj, h⟩
    exact ⟨n - 1 - j, by omega, h.2.1, h.1, h.2.2.2, h.2.2.1⟩
  · rintro ⟨j, hj, h⟩
    refine ⟨n - 1 - j, by omega, ?_⟩
    rw [show n - 1 - (n - 1 - j) = j by omega]
    exact ⟨h.2.1, h.1, h.2.2.2, h.2.2.1⟩

theorem lturns2 {H6 : Hp} {s bp bz bl : Nat} {lp : Option Addr} {lc : Nat} {t : BT} {siz : Nat → Int} {σ : USt} {R : Nat → Nat → Prop} {rp : Option Addr} {rc : Nat} {K : Bool → Hp → Prop}
    (us6 : USets H6 s bp bz bl lp lc t siz σ) (rs : Rep σ R) (ns : σ.n = 12) (r56 : Row H6 rp 12 rc (nmI σ)) (cs : σ.k + cnt (fun v => σ.nm v == v) 12 = 12) (k : ∀ H', Step (fun _ => False) H6 H' → K true H') :
    compasslaw06_UnionTurns.l2 (some ⟨s, 0, none⟩) rp 12 rc 0 rp 12 rc 12 0 E H6 K := by
  refine compasslaw06_UnionTurns.l2_rule (fun s3 ap an ac cn tp tn' tc t78 t79 H' => s3 = some ⟨s, 0, none⟩ ∧ rp = ap ∧ an = 12 ∧ rp = tp ∧ tn' = 12 ∧ t78 = 12 ∧ ∃ j : Nat, t79 = j ∧ j ≤ 12 ∧ cn = cnt (fun v => σ.nm v == v) j ∧ Step (fun _ => False) H6 H')
    (fun s3 ap an ac cn tp tn' tc t78 t79 H' => 12 - t79.toNat) ?_ ⟨rfl, rfl, rfl, rfl, rfl, rfl, 0, rfl, by omega, rfl, .refl⟩
  rintro s3 ap an ac cn tp tn' tc t78 t79 H7 ⟨rfl, rfl, rfl, rfl, rfl, rfl, j, rfl, hj, rfl, s7⟩ X hX
  refine compasslaw06_UnionTurns.b2_eq ?_
  unfold compasslaw06_UnionTurns.b2_t
  have r7 := r56.keep s7 fun _ _ h => h
  have us7 := us6.keep s7 fun _ _ h => h
  refine bc (fun hlt => ?_) fun hge => ?_
  · have lj := rs.hist.least.1 j (by omega)
    refine r7.ixI (by omega) (by omega) ?_
    simp only [Int.toNat_natCast]
    have e0 : nmI σ j = (σ.nm j : Int) := rfl
    have le : σ.nm j ≤ j := lj.1
    refine bc (fun h => by omega) fun _ => ?_
    refine bc (fun h => by omega) fun _ => ?_
    refine r7.ixI (by omega) (by omega) ?_
    have e1 : nmI σ (nmI σ j).toNat = nmI σ j := by
      rw [e0, Int.toNat_natCast]
      show ((σ.nm (σ.nm j) : Nat) : Int) = (σ.nm j : Int)
      have : σ.nm (σ.nm j) = σ.nm j := by
        show σ.lst (rtOf σ.par (σ.lst (rtOf σ.par j))) = σ.lst (rtOf σ.par j)
        rw [lj.2]
      rw [this]
    refine bcn (fun h => (h e1).elim) fun _ => ?_
    have cj : cnt (fun v => σ.nm v == v) j ≤ j := cnt_le
    have step : ∀ c' : Int, c' = cnt (fun v => σ.nm v == v) (j + 1) → compasslaw06_UnionTurns.j2 (some ⟨s, 0, none⟩) rp 12 ac c' j (nmI σ j) rp 12 tc 12 j X E H7 K := by
      intro c' hc'
      refine compasslaw06_UnionTurns.j2_eq ?_
      unfold compasslaw06_UnionTurns.j2_t
      refine umembers us7 rs.hist.ok (fun h => (h ⟨by omega, by omega⟩).elim) fun _ _ H8 mp mc mr ms mf => ?_
      simp only [Int.toNat_natCast] at mr ⊢
      have hd := mem_head rs.hist (v := j) (by omega)
      have hpos : 0 < (σ.mem j σ.n).length := (List.getElem?_eq_some_iff.1 hd).1
      refine bcn (fun e => (e trivial).elim) fun _ => ?_
      refine bc (fun e => by omega) fun _ => ?_
      refine mr.ixI (by omega) (by omega) ?_
      have e2 : lsI (σ.mem j σ.n) (0 : Int).toNat = nmI σ j := by
        show (((σ.mem j σ.n).getD 0 0 : Nat) : Int) = (σ.nm j : Int)
        rw [List.getD_eq_getElem?_getD, hd]; rfl
      refine bcn (fun e => (e e2).elim) fun _ => ?_
      rw [i64w (by omega) (by omega)]
      exact hX _ _ _ _ _ _ _ _ _ _ _ ⟨rfl, rfl, rfl, rfl, rfl, rfl, j + 1, by omega, by omega, hc', s7.trans ms fun _ h => .inl h⟩ (by omega)
    refine bc (fun h => ?_) fun h => ?_
    · refine step _ ?_
      rw [i64w (by omega) (by omega)]
      have : σ.nm j = j := by omega
      simp [cnt, this]
    · refine step _ ?_
      have : σ.nm j ≠ j := by omega
      simp [cnt, this]
  · have e : j = 12 := by omega
    subst e
    refine compasslaw06_UnionTurns.j3_eq ?_
    unfold compasslaw06_UnionTurns.j3_t
    refine ucount us7 rs.hist.ok rs.hist.le ?_
    have : decide ((cnt (fun v => σ.nm v == v) 12 : Int) = (σ.n : Int) - σ.k) = true := decide_eq_true (by omega)
    rw [this]
    exact k _ s7

theorem lturns {p : Option Addr} {n c : Nat} {H : Hp} {f : Nat → Int × Int × Int} {K : Bool → Hp → Prop} (hp : Rdr H p n f) (hn : n < 2 ^ 63)
    (k : ∀ H', Step (fun _ => False) H H' → K true H') : compasslaw06_UnionTurns.call p n c E H K := by
  refine compasslaw06_UnionTurns.of (compasslaw06_UnionTurns.run_eq ?_)
  unfold compasslaw06_UnionTurns.run_t
  refine lawake fun H1 s1 => ?_
  refine bcb (fun e => by cases e) fun _ => ?_
  refine unew (fun h => (h (by omega)).elim) fun _ _ H2 s bp bz bl t siz h2 s2 f2 => ?_
  refine unew (fun h => (h (by omega)).elim) fun _ _ H3 s' bp' bz' bl' t' siz' h3 s3 f3 => ?_
  have hh : Rep (USt.init 12) (fun _ _ => False) := .init (by omega)
  refine bcb (fun e => by cases e) fun _ => ?_
  refine bcb (fun e => by cases e) fun _ => ?_
  have s12 := s1.trans s2 fun b hb => .inl hb
  refine compasslaw06_UnionTurns.l1_rule (fun tp tn tc s3 t5 t32 t33 H' => tp = p ∧ tn = n ∧ s3 = some ⟨s, 0, none⟩ ∧ t5 = some ⟨s', 0, none⟩ ∧ t32 = n ∧ ∃ i : Nat, t33 = i ∧ i ≤ n ∧ Step (fun _ => False) H H' ∧
      ∃ lp lc siz σ lp' lc' siz' τ, USets H' s bp bz bl lp lc t siz σ ∧ USets H' s' bp' bz' bl' lp' lc' t' siz' τ ∧ (∀ b, UFp s bp bz bl lp b → H b = none ∧ ¬ UFp s' bp' bz' bl' lp' b) ∧ (∀ b, UFp s' bp' bz' bl' lp' b → H b = none) ∧
        Rep σ (Rs f i) ∧ Rep τ (Rz f n i) ∧ σ.n = 12 ∧ τ.n = 12)
    (fun tp tn tc s3 t5 t32 t33 H' => n - t33.toNat) ?_ ⟨rfl, rfl, rfl, rfl, rfl, 0, rfl, by omega, s12.trans s3 fun _ h => .inl h, none, 0, siz, USt.init 12, none, 0, siz', USt.init 12, h2.keep s3 fun _ _ h => h, h3,
      fun b hb => ⟨s1.mono b (f2 b hb), fun hb' => h2.live hb (f3 b hb')⟩, fun b hb => s12.mono b (f3 b hb),
      hh.congr fun x y => ⟨fun ⟨j, hj, _⟩ => by omega, fun h => h.elim⟩, hh.congr fun x y => ⟨fun ⟨j, hj, _⟩ => by omega, fun h => h.elim⟩, rfl, rfl⟩
  rintro tp tn tc s3' t5 t32 t33 H4 ⟨rfl, rfl, rfl, rfl, rfl, i, rfl, hi, st, lp, lc, siz, σ, lp', lc', siz', τ, us, ut, fu, ft, rs, rt, ns, nt⟩ X hX
  refine compasslaw06_UnionTurns.b1_eq ?_
  unfold compasslaw06_UnionTurns.b1_t
  refine bc (fun hlt => ?_) fun hge => ?_
  · have hp4 := hp.keep st fun _ _ _ h => h
    refine hp4.ix (α := Int × Int × Int) (by omega) (by omega) fun b o _ hg => ?_
    have g1 := hg 1 (by decide)
    simp only [El.enc] at g1
    simp at g1
    rw [g1]
    simp only [ldI_mk]
    refine hp4.ix (α := Int × Int × Int) (by omega) (by omega) fun b o _ hg => ?_
    have g2 := hg 2 (by decide)
    simp only [El.enc] at g2
    simp at g2
    rw [g2]
    simp only [ldI_mk]
    refine ujoinR us rs fun fr e H5 lp5 lc5 siz5 σ5 us5 rs5 ns5 s5 f5 => ?_
    rw [i64w (n := (tn : Int) - 1) (by omega) (by omega), i64w (by omega) (by omega)]
    have st5 := st.trans s5 fun b hb => .inr (fu b hb).1
    have hp5 := hp.keep st5 fun _ _ _ h => h
    have ut5 := ut.keep s5 fun b hb hb' => (fu b hb').2 hb
    have fu5 : ∀ b, UFp s bp bz bl lp5 b → H b = none ∧ ¬ UFp s' bp' bz' bl' lp' b := fun b hb => by
      rcases UFp.grow f5 hb with h | h
      · exact fu b h
      · exact ⟨st.mono b h, fun hu => ut.live hu h⟩
    refine hp5.ix (α := Int × Int × Int) (by omega) (by omega) fun b o _ hg => ?_
    have ei : ((tn : Int) - 1 - (i : Int)).toNat = tn - 1 - i := by omega
    rw [ei] at hg
    have g0 := hg 0 (by decide)
    have g1 := hg 1 (by decide)
    have g2 := hg 2 (by decide)
    simp only [El.enc, Nat.add_zero] at g0 g1 g2
    simp at g0 g1 g2
    rw [g0, g1, g2]
    simp only [ldI_mk]
    intro b2 hb2
    refine ⟨_, upd_same, ⟨by simp, rfl⟩, ?_⟩
    have e6 : ((H5.upd b2 ⟨[.int .i64 0, .int .i64 0, .int .i64 0], 32⟩).upd b2 ⟨putL [.int .i64 0, .int .i64 0, .int .i64 0] 0 [.int .i64 (f (tn - 1 - i)).1, .int .i64 (f (tn - 1 - i)).2.1, .int .i64 (f (tn - 1 - i)).2.2], 32⟩) b2 = some ⟨[.int .i64 (f (tn - 1 - i)).1, .int .i64 (f (tn - 1 - i)).2.1, .int .i64 (f (tn - 1 - i)).2.2], 32⟩ := upd_same
    have s6 : Step (fun _ => False) H5 ((H5.upd b2 ⟨[.int .i64 0, .int .i64 0, .int .i64 0], 32⟩).upd b2 ⟨putL [.int .i64 0, .int .i64 0, .int .i64 0] 0 [.int .i64 (f (tn - 1 - i)).1, .int .i64 (f (tn - 1 - i)).2.1, .int .i64 (f (tn - 1 - i)).2.2], 32⟩) :=
      (Step.new (F := fun _ => False) hb2).trans (Step.wr (F := (· = b2)) upd_same rfl) fun b hb => .inr (hb ▸ hb2)
    generalize ((H5.upd b2 ⟨[.int .i64 0, .int .i64 0, .int .i64 0], 32⟩).upd b2 ⟨putL [.int .i64 0, .int .i64 0, .int .i64 0] 0 [.int .i64 (f (tn - 1 - i)).1, .int .i64 (f (tn - 1 - i)).2.1, .int .i64 (f (tn - 1 - i)).2.2], 32⟩) = H6 at e6 s6
    have i1 : H6.get b2 1 = some (.int .i64 (f (tn - 1 - i)).2.1) := by simp [Hp.get, e6]
    have i2 : H6.get b2 2 = some (.int .i64 (f (tn - 1 - i)).2.2) := by simp [Hp.get, e6]
    simp only [i1, i2, ldI_mk]
    have us6 := us5.keep s6 fun _ _ h => h
    have ut6 := ut5.keep s6 fun _ _ h => h
    have st6 := st5.trans s6 fun _ h => .inl h
    refine ujoinR ut6 rt fun fr e H7 lp7 lc7 siz7 τ7 ut7 rt7 nt7 s7 f7 => ?_
    rw [i64w (by omega) (by omega)]
    refine hX _ _ _ _ _ _ _ _ ⟨rfl, rfl, rfl, rfl, rfl, i + 1, by omega, by omega, st6.trans s7 fun b hb => .inr (ft b hb), lp5, lc5, siz5, σ5, lp7, lc7, siz7, τ7, us6.keep s7 fun b hb hb' => (fu5 b hb).2 hb', ut7, fun b hb => ⟨(fu5 b hb).1, fun hb' => ?_⟩, UFr.grow ft st6 f7, ?_, ?_, by omega, by omega⟩ (by omega)
    · rcases UFp.grow f7 hb' with h | h
      · exact (fu5 b hb).2 h
      · exact us6.live hb h
    · refine rs5.congr fun x y => ?_
      rw [Rs_succ, ns]
    · refine rt7.congr fun x y => ?_
      rw [Rz_succ, nt]
  · have e : i = tn := by omega
    subst e
    clear hX
    refine compasslaw06_UnionTurns.j1_eq ?_
    unfold compasslaw06_UnionTurns.j1_t
    have hnm : ∀ v, v < 12 → σ.nm v = τ.nm v := fun v hv => rs.nm_eq rt (by omega) (fun u v => by
      constructor
      · exact Cn.mono fun _ _ h => .symm (.edge (Rz_turn.1 h))
      · exact Cn.mono fun _ _ h => .symm (.edge (Rz_turn.2 h))) (by omega)
    refine lnames (n := 12) us rs.hist.ok ns.symm fun rp rc H5 r5 s5 f5 => ?_
    refine lnames (n := 12) (ut.keep s5 fun _ _ h => h) rt.hist.ok nt.symm fun rp' rc' H6 r6 s6 f6 => ?_
    have r56 := r5.keep s6 fun _ _ h => h
    have us6 := (us.keep s5 fun _ _ h => h).keep s6 fun _ _ h => h
    have ut6 := (ut.keep s5 fun _ _ h => h).keep s6 fun _ _ h => h
    have st6 := (st.trans s5 fun _ h => .inl h).trans s6 fun _ h => .inl h
    refine lints r56.rdr r6.rdr rfl (by decide) (fun i hi => by unfold nmI; rw [hnm i hi]) ?_
    refine bcb (fun e => by cases e) fun _ => ?_
    refine ucount us6 rs.hist.ok rs.hist.le ?_
    refine ucount ut6 rt.hist.ok rt.hist.le ?_
    have cs := rs.hist.least.2
    have ct := rt.hist.least.2
    rw [ns] at cs
    rw [nt] at ct
    have ec : cnt (fun v => σ.nm v == v) 12 = cnt (fun v => τ.nm v == v) 12 := cnt_congr fun i hi => by rw [hnm i hi]
    refine bcn (fun e => (e (by omega)).elim) fun _ => ?_
    exact lturns2 us6 rs ns r56 cs fun H' hs => k H' (st6.trans hs fun _ h => .inl h)
end
end Go.Mz
