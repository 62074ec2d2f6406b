/-
  BlossomTurns, walked: whatever the graph and the node, it answers true and leaves what was there as it was.
-/
import Derived.Test.YtmaeboaopebaiaaLBlA
import Derived.Test.YtmaeboaopebaiaaBlK
import Derived.Test.YtmaeboaopebaiaaRefA
import Derived.Test.YtmaeboaopebaiaaRfK
import Derived.Test.YtmaeboaopebaiaaGLBT
set_option linter.unusedSimpArgs false
set_option linter.unusedVariables false
namespace Go.Mz

/-- no larger, if its edges are among the other's -/
theorem BlA.le {M n n' k k' q q' : Nat} {e e' : Nat → Edg} {m m' set set' : Nat → Int} (hr : Right (M : Int) n e) (h : BlA M n e m k set q) (h' : BlA M n' e' m' k' set' q') (π : Nat → Nat) (hπ : ∀ i, i < n → π i < n' ∧ ((ef e' (π i) = ef e i ∧ et e' (π i) = et e i) ∨ (ef e' (π i) = et e i ∧ et e' (π i) = ef e i))) : k ≤ k' := by
  obtain ⟨b', hb', hc⟩ := h.ex
  obtain ⟨h1, h2⟩ := hb'.ren π (fun v i hv hi => by
    obtain ⟨j, ej, hj, _⟩ := hb'.en hv (by omega) (by omega)
    have : i = j := by omega
    subst this
    exact hπ i hj.1) hr.nds
  have h3 := h'.mx _ h1
  have h4 : cnt (fun u => decide ((if b' u < 0 then -1 else (π (b' u).toNat : Int)) = -1)) M = cnt (fun u => decide (b' u = -1)) M := cnt_congr fun u hu => by rw [decide_eq_decide]; exact h2 u hu
  omega

/-- no more than one fewer, if all edges but those at one node are there -/
theorem BlA.less {M n n' k k' q q' v : Nat} {e e' : Nat → Edg} {m m' set set' : Nat → Int} (hr : Right (M : Int) n e) (h : BlA M n e m k set q) (h' : BlA M n' e' m' k' set' q') (hv : ∀ i, i < n → (M ≤ v ∨ (ef e i ≠ v ∧ et e i ≠ v)) → ∃ j, j < n' ∧ e' j = e i) : k ≤ k' + 1 := by
  classical
  obtain ⟨b', hb', hc⟩ := h.ex
  obtain ⟨b2, h1, h2, h3, h4⟩ := hb'.drop hr.nds v
  have hch : ∀ i, ∃ j, (i < n → (M ≤ v ∨ (ef e i ≠ v ∧ et e i ≠ v)) → j < n' ∧ e' j = e i) := fun i => by
    by_cases hi : i < n ∧ (M ≤ v ∨ (ef e i ≠ v ∧ et e i ≠ v))
    · obtain ⟨j, hj⟩ := hv i hi.1 hi.2
      exact ⟨j, fun _ _ => hj⟩
    · exact ⟨0, fun a b => (hi ⟨a, b⟩).elim⟩
  obtain ⟨π, hπ⟩ := Classical.axiomOfChoice hch
  obtain ⟨h5, h6⟩ := h1.ren (n' := n') (fr' := ef e') (to' := et e') π (fun u i hu hi => by
    obtain ⟨j, ej, hj, em, _, hbm, _⟩ := h1.en hu (by omega) (by omega)
    have : i = j := by omega
    subst this
    have hok : M ≤ v ∨ (ef e i ≠ v ∧ et e i ≠ v) := by
      by_cases hvM : v < M
      · right
        have hb2 := h2 hvM
        rw [em] at hbm
        have h7 := hj.2.2
        constructor
        · intro hh
          by_cases huv : u = v
          · rw [huv, hb2] at ej; omega
          · have : ot (ef e) (et e) i u = v := by unfold ot; omega
            rw [this, hb2] at hbm; omega
        · intro hh
          by_cases huv : u = v
          · rw [huv, hb2] at ej; omega
          · have : ot (ef e) (et e) i u = v := by unfold ot; omega
            rw [this, hb2] at hbm; omega
      · exact .inl (by omega)
    obtain ⟨a, b⟩ := hπ i hj.1 hok
    exact ⟨a, .inl ⟨by unfold ef; rw [b], by unfold et; rw [b]⟩⟩) hr.nds
  have h7 := h'.mx _ h5
  have h8 : cnt (fun u => decide ((if b2 u < 0 then -1 else (π (b2 u).toNat : Int)) = -1)) M = cnt (fun u => decide (b2 u = -1)) M := cnt_congr fun u hu => by rw [decide_eq_decide]; exact h6 u hu
  omega

/-- the same nodes may be left out -/
theorem Dv.ren {M n n' k : Nat} {fr to fr' to' : Nat → Nat} (hN : Nds M n fr to) (π : Nat → Nat) (hπ : ∀ i, i < n → π i < n' ∧ ((fr' (π i) = fr i ∧ to' (π i) = to i) ∨ (fr' (π i) = to i ∧ to' (π i) = fr i))) {v : Nat} (hv : v < M) (h : Dv M n fr to k v) : Dv M n' fr' to' k v := by
  obtain ⟨b', hb', hbv, hc⟩ := h
  obtain ⟨h1, h2⟩ := hb'.ren (n' := n') (fr' := fr') (to' := to') π (fun v i hv hi => by
    obtain ⟨j, ej, hj, _⟩ := hb'.en hv (by omega) (by omega)
    have : i = j := by omega
    subst this
    exact hπ i hj.1) hN
  refine ⟨_, h1, (h2 v hv).2 hbv, ?_⟩
  have h4 : cnt (fun u => decide ((if b' u < 0 then -1 else (π (b' u).toNat : Int)) = -1)) M = cnt (fun u => decide (b' u = -1)) M := cnt_congr fun u hu => by rw [decide_eq_decide]; exact h2 u hu
  omega

/-- the set is the same when edges are turned about and stand in another order -/
theorem BlA.turned {M n k k' q q' : Nat} {e e' : Nat → Edg} {m m' set set' : Nat → Int} (hr : Right (M : Int) n e) (hr' : Right (M : Int) n e') (h : BlA M n e m k set q) (h' : BlA M n e' m' k' set' q') (he : ∀ i, i < n → e' i = trn (e (n - 1 - i))) : k = k' ∧ q = q' ∧ ∀ i, i < q → set i = set' i := by
  have f1 : ∀ i, i < n → ef e' i = et e (n - 1 - i) ∧ et e' i = ef e (n - 1 - i) := fun i hi => by
    unfold ef et; rw [he i hi]; exact ⟨rfl, rfl⟩
  have p1 : ∀ i, i < n → n - 1 - i < n ∧ ((ef e' (n - 1 - i) = ef e i ∧ et e' (n - 1 - i) = et e i) ∨ (ef e' (n - 1 - i) = et e i ∧ et e' (n - 1 - i) = ef e i)) := fun i hi => by
    have := f1 (n - 1 - i) (by omega)
    rw [show n - 1 - (n - 1 - i) = i by omega] at this
    exact ⟨by omega, .inr this⟩
  have p2 : ∀ i, i < n → n - 1 - i < n ∧ ((ef e (n - 1 - i) = ef e' i ∧ et e (n - 1 - i) = et e' i) ∨ (ef e (n - 1 - i) = et e' i ∧ et e (n - 1 - i) = ef e' i)) := fun i hi => by
    have := f1 i hi
    exact ⟨by omega, .inr ⟨this.2.symm, this.1.symm⟩⟩
  have k1 := h.le hr h' (fun i => n - 1 - i) p1
  have k2 := h'.le hr' h (fun i => n - 1 - i) p2
  have ek : k = k' := by omega
  subst ek
  have dv : ∀ v, v < M → (Dv M n (ef e) (et e) k v ↔ Dv M n (ef e') (et e') k v) := fun v hv => ⟨Dv.ren hr.nds _ p1 hv, Dv.ren hr'.nds _ p2 hv⟩
  have en : ∀ i v, En n (ef e) (et e) i v → En n (ef e') (et e') (n - 1 - i) v ∧ ot (ef e') (et e') (n - 1 - i) v = ot (ef e) (et e) i v := fun i v hi => by
    obtain ⟨a, b⟩ := p1 i hi.1
    have h2 := hi.2.1
    have h3 := hi.2.2
    exact ⟨⟨a, by omega, by omega⟩, by unfold ot; omega⟩
  have en' : ∀ i v, En n (ef e') (et e') i v → En n (ef e) (et e) (n - 1 - i) v ∧ ot (ef e) (et e) (n - 1 - i) v = ot (ef e') (et e') i v := fun i v hi => by
    obtain ⟨a, b⟩ := p2 i hi.1
    have h2 := hi.2.1
    have h3 := hi.2.2
    exact ⟨⟨a, by omega, by omega⟩, by unfold ot; omega⟩
  have hset : ∀ v, SetP M n (ef e) (et e) k v ↔ SetP M n (ef e') (et e') k v := fun v => by
    constructor
    · rintro ⟨hv, h1, i, hi, h2⟩
      obtain ⟨a, b⟩ := en i v hi
      exact ⟨hv, fun hd => h1 ((dv v hv).2 hd), _, a, by rw [b]; exact (dv _ (hi.ot.nd hr.nds)).1 h2⟩
    · rintro ⟨hv, h1, i, hi, h2⟩
      obtain ⟨a, b⟩ := en' i v hi
      exact ⟨hv, fun hd => h1 ((dv v hv).1 hd), _, a, by rw [b]; exact (dv _ (hi.ot.nd hr'.nds)).2 h2⟩
  refine ⟨rfl, ris_same h.lrg.ris h'.lrg.ris fun x => ?_⟩
  constructor
  · rintro ⟨i, hi, ei⟩
    have hri := h.lrg.ris i hi
    obtain ⟨y, hy⟩ : ∃ y : Nat, x = y := ⟨x.toNat, by omega⟩
    rw [hy]
    exact (h'.set y).2 ((hset y).1 ((h.set y).1 ⟨i, hi, by omega⟩))
  · rintro ⟨i, hi, ei⟩
    have hri := h'.lrg.ris i hi
    obtain ⟨y, hy⟩ : ∃ y : Nat, x = y := ⟨x.toNat, by omega⟩
    rw [hy]
    exact (h.set y).2 ((hset y).2 ((h'.set y).1 ⟨i, hi, by omega⟩))

theorem RightE.trn {N : Int} {x : Edg} (h : RightE N x) : RightE N (trn x) := ⟨h.t0, h.t1, h.f0, h.f1, h.c0, h.c1, h.k0, h.k1⟩

section
variable {E : Value → Hp → Prop}

theorem lints17 {p q : Option Addr} {n m c1 c2 : Nat} {f g : Nat → Int} {H : Hp} {K : Bool → Hp → Prop} (hp : Rdr H p n f) (hq : Rdr H q m g) (hn : n < 2 ^ 62) (hnm : n = m) (hfg : ∀ i, i < n → f i = g i) (kk : K true H) : compasslaw17_ints.call p n c1 q m c2 E H K := by
  subst hnm
  refine compasslaw17_ints.of (compasslaw17_ints.run_eq ?_)
  unfold compasslaw17_ints.run_t
  refine bcn (fun h => (h rfl).elim) fun _ => ?_
  refine compasslaw17_ints.l1_rule (fun ap an ac bp bn bc t12 t13 H' => ap = p ∧ an = n ∧ bp = q ∧ bn = n ∧ t12 = n ∧ H' = H ∧ ∃ i : Nat, t13 = i ∧ i ≤ n) (fun ap an ac bp bn bc t12 t13 H' => n - t13.toNat) ?_ ⟨rfl, rfl, rfl, rfl, rfl, rfl, 0, rfl, Nat.zero_le _⟩
  rintro ap an ac bp bn bc' t12 t13 H' ⟨rfl, rfl, rfl, rfl, rfl, rfl, i, rfl, hi⟩ X hX
  refine compasslaw17_ints.b1_eq ?_
  unfold compasslaw17_ints.b1_t
  refine bc (fun hlt => ?_) fun hge => kk
  refine hp.ixI (by omega) (by omega) ?_
  refine hq.ixI (by omega) (by omega) ?_
  refine bcn (fun h => (h (hfg _ (by omega))).elim) fun _ => ?_
  rw [i64w (by omega) (by omega)]
  exact hX _ _ _ _ _ _ _ _ _ ⟨rfl, rfl, rfl, rfl, rfl, rfl, i + 1, by omega, by omega⟩ (by omega)

theorem lbturns {N v : Int} {ep : Option Addr} {n ec : Nat} {e : Nat → Edg} {H : Hp} {K : Bool → Hp → Prop} (he : Rdr H ep n e) (hn : n ≤ 4398046511103)
    (kk : ∀ H', Step (fun _ => False) H H' → K true H') : compasslaw17_BlossomTurns.call N ep n ec v E H K := by
  refine compasslaw17_BlossomTurns.of (compasslaw17_BlossomTurns.run_eq ?_)
  unfold compasslaw17_BlossomTurns.run_t
  refine nwk fun b1 H1 hb1 e1 s1 => ?_
  refine lawake17 fun H2 s2 => ?_
  have e1 := s2.keep _ _ e1 fun h => h
  have s02 := s1.and s2
  refine bcb (fun h => by cases h) fun _ => ?_
  simp only [get_at e1, List.getElem?_cons_zero, List.getElem?_cons_succ, ldI_mk, ldS_mk]
  refine sBlo (he.keep s02 fun _ _ _ h => h) (by omega) fun H3 mp mn mc g cp cn cc cv s3 r1 r2 f1 f2 f12 lm1 lm2 hF => ?_
  have e1 := s3.keep _ _ e1 fun h => h
  have s03 := s02.and s3
  simp only [get_at e1, List.getElem?_cons_zero, List.getElem?_cons_succ, ldI_mk, ldS_mk]
  refine nwk fun b2 H4 hb2 e2 s4 => ?_
  refine nwk fun b3 H5 hb3 e3 s5 => ?_
  have e2 := s5.keep _ _ e2 fun h => h
  have s35 := s4.and s5
  have e15 := s35.keep _ _ e1 fun h => h
  have d23 : b2 ≠ b3 := fun h => by rw [← h] at hb3; have := s5.mono b2; rename_i e2'; rw [e2'] at hb3; cases hb3
  have d12 : b1 ≠ b2 := fun h => by rw [← h, e1] at hb2; cases hb2
  have d13 : b1 ≠ b3 := fun h => by rw [← h, s4.keep _ _ e1 fun h => h] at hb3; cases hb3
  have fb2 : H b2 = none := s03.mono _ hb2
  have fb3 : H b3 = none := (s03.and s4).mono _ hb3
  refine stk e2 rfl rfl fun H6 e26 s6 => ?_
  have e16 := s6.keep _ _ e15 fun h => d12 h
  have e36 := s6.keep _ _ e3 fun h => d23 h.symm
  simp only [get_at e16, List.getElem?_cons_zero, List.getElem?_cons_succ, ldI_mk, ldS_mk]
  refine ⟨trivial, ?_⟩
  refine stk e36 rfl rfl fun H7 e37 s7 => ?_
  have e17 := s7.keep _ _ e16 fun h => d13 h
  have e27 := s7.keep _ _ e26 fun h => d23 h
  have s07 : Step (fun _ => False) H H7 := ((s03.and s35).own s6 fun y hy => hy ▸ fb2).own s7 fun y hy => hy ▸ fb3
  have rs7 : Row H7 cp cn cc cv := ((r2.keep s35 fun _ _ h => h).keep s6 fun y hy h => by rw [h] at hy; exact r2.live hy hb2).keep s7 fun y hy h => by rw [h] at hy; exact (r2.keep s4 fun _ _ h => h).live hy hb3
  simp only [get_at e17, List.getElem?_cons_zero, List.getElem?_cons_succ, ldI_mk, ldS_mk]
  rw [i64w (by omega) (by omega)]
  -- the two graphs
  refine compasslaw17_BlossomTurns.l1_rule (fun v1 g2 ap an ac sp sn sc e7 t8 l9 i10 H' => v1 = v ∧ g2 = b1 ∧ an = mn ∧ sp = cp ∧ sn = cn ∧ e7 = chk N n e ∧ t8 = b2 ∧ l9 = b3 ∧ ∃ (t : Nat) (tp : Option Addr) (tc : Nat) (ft : Nat → Edg) (lp' : Option Addr) (ln lc : Nat) (fl : Nat → Edg), i10 = (n : Int) - 1 - t ∧ t ≤ n ∧ ln ≤ t ∧ Step (fun y => y = b2 ∨ y = b3) H7 H' ∧ H' b2 = some ⟨[.int .i64 N, .slice tp t tc], 24⟩ ∧ H' b3 = some ⟨[.int .i64 N, .slice lp' ln lc], 24⟩ ∧ Row H' tp t tc ft ∧ Row H' lp' ln lc fl ∧ (∀ y, fpS tp y → H7 y = none) ∧ (∀ y, fpS lp' y → H7 y = none) ∧ (∀ y, fpS tp y → ¬ fpS lp' y) ∧
      (∀ j, j < t → ft j = trn (e (n - 1 - j))) ∧ (∀ x, x < ln → ∃ j, j < n ∧ fl x = e j) ∧ ∀ j, j < n → n ≤ j + t → (e j).fr ≠ v → (e j).to ≠ v → ∃ x, x < ln ∧ fl x = e j)
    (fun v1 g2 ap an ac sp sn sc e7 t8 l9 i10 H' => (i10 + 1).toNat) ?_ ⟨rfl, rfl, rfl, rfl, rfl, rfl, rfl, rfl, 0, none, 0, fun _ => (0, 0, 0, 0), none, 0, 0, fun _ => (0, 0, 0, 0), by omega, Nat.zero_le _, Nat.zero_le _, .refl, e27, e37, Row.nil, Row.nil, fun y h => by rw [fpS_none] at h; exact h.elim, fun y h => by rw [fpS_none] at h; exact h.elim, fun y h => by rw [fpS_none] at h; exact h.elim, fun j hj => by omega, fun x hx => by omega, fun j h1 h2 => by omega⟩
  rintro v1 g2 ap an ac sp sn sc e7 t8 l9 i10 H8 ⟨rfl, rfl, rfl, rfl, rfl, rfl, rfl, rfl, t, tp, tc, ft, lp', ln, lc, fl, rfl, ht, hlt', s8, e28, e38, rt, rl, ftp, flp, dtl, hft, hall, hhas⟩ X hX
  have s08 : Step (fun _ => False) H H8 := s07.own s8 fun y hy => hy.elim (fun h => h ▸ fb2) fun h => h ▸ fb3
  have e18 := s8.keep _ _ e17 fun h => h.elim d12 d13
  have g8 := he.keep s08 fun _ _ _ h => h
  refine compasslaw17_BlossomTurns.b1_eq ?_
  unfold compasslaw17_BlossomTurns.b1_t
  refine bc (fun hge0 => ?_) fun hneg => ?_
  · have htn : t < n := by omega
    simp only [get_at e18, List.getElem?_cons_zero, List.getElem?_cons_succ, ldI_mk, ldS_mk]
    refine g8.edge (by omega) (by omega) ?_
    have ei : ((n : Int) - 1 - t).toNat = n - 1 - t := by omega
    rw [ei]
    refine nwst rfl rfl fun b4 H10 hb4 e4 s10 => ?_
    have e2a := s10.keep _ _ e28 fun h => h
    have e3a := s10.keep _ _ e38 fun h => h
    have rta := rt.keep s10 fun _ _ h => h
    have rla := rl.keep s10 fun _ _ h => h
    have live10 : ∀ {b : Nat} {x : Blk}, H10 b = some x → H10 b ≠ none := fun h h' => by rw [h] at h'; cases h'
    have n2 : ¬ fpS tp t8 := fun h => by have := ftp _ h; rw [e27] at this; cases this
    have n3 : ¬ fpS tp l9 := fun h => by have := ftp _ h; rw [e37] at this; cases this
    have k2 : ¬ fpS lp' t8 := fun h => by have := flp _ h; rw [e27] at this; cases this
    have k3 : ¬ fpS lp' l9 := fun h => by have := flp _ h; rw [e37] at this; cases this
    have n4 : ¬ fpS tp b4 := fun h => rt.live h hb4
    have k4 : ¬ fpS lp' b4 := fun h => rl.live h hb4
    have d42 : b4 ≠ t8 := fun h => by rw [h, e28] at hb4; cases hb4
    have d43 : b4 ≠ l9 := fun h => by rw [h, e38] at hb4; cases hb4
    simp only [get_at e2a, get_at e4, List.getElem?_cons_zero, List.getElem?_cons_succ, ldI_mk, ldS_mk]
    refine Row.appW (α := Edg) rta (trn (e (n - 1 - t))) rfl (by omega) (by omega) fun p6 c6 H11 r6 s11 f6 => ?_
    have e2b := s11.keep _ _ e2a n2
    have e3b := s11.keep _ _ e3a n3
    have e4b := s11.keep _ _ e4 n4
    have rlb := rla.keep s11 fun y hy h => dtl y h hy
    have m2 : ¬ fpS p6 t8 := fun h => (f6 _ h).elim n2 (live10 e2a)
    have m3 : ¬ fpS p6 l9 := fun h => (f6 _ h).elim n3 (live10 e3a)
    have m4 : ¬ fpS p6 b4 := fun h => (f6 _ h).elim n4 (live10 e4)
    have dpl : ∀ y, fpS p6 y → ¬ fpS lp' y := fun y hy h => (f6 y hy).elim (fun h' => dtl y h' h) fun h' => rla.live h h'
    have fp6 : ∀ y, fpS p6 y → H7 y = none := fun y hy => (f6 y hy).elim (ftp y) fun h => s8.mono y (s10.mono y h)
    refine stp e2b (by simp) rfl fun H12 e2c s12 => ?_
    replace e2c : H12 t8 = some ⟨[.int .i64 N, .slice p6 (t + 1) c6], 24⟩ := e2c
    have e3c := s12.keep _ _ e3b fun h => d23 h.symm
    have e4c := s12.keep _ _ e4b d42
    have r6c := r6.keep s12 fun y hy h => m2 (h ▸ hy)
    have rlc := rlb.keep s12 fun y hy h => k2 (h ▸ hy)
    have s812 : Step (fun y => y = t8 ∨ y = l9) H7 H12 := (((s8.and s10).trans s11 fun y hy => .inr (ftp y hy)).trans s12 fun y hy => .inl (.inl hy))
    have hft' : ∀ j, j < t + 1 → upf ft t (trn (e (n - 1 - t))) j = trn (e (n - 1 - j)) := fun j hj => by
      by_cases ej : j = t
      · rw [ej, upf_same]
      · rw [upf_ne ej]; exact hft j (by omega)
    have next : ∀ (H18 : Hp) (lp2 : Option Addr) (ln2 lc2 : Nat) (f2 : Nat → Edg), ln2 ≤ t + 1 → Step (fun y => y = t8 ∨ y = l9) H7 H18 → H18 t8 = some ⟨[.int .i64 N, .slice p6 (t + 1) c6], 24⟩ → H18 l9 = some ⟨[.int .i64 N, .slice lp2 ln2 lc2], 24⟩ → Row H18 p6 (t + 1) c6 (upf ft t (trn (e (n - 1 - t)))) → Row H18 lp2 ln2 lc2 f2 → (∀ y, fpS lp2 y → H7 y = none) → (∀ y, fpS p6 y → ¬ fpS lp2 y) → (∀ x, x < ln2 → ∃ j, j < n ∧ f2 x = e j) → (∀ j, j < n → n ≤ j + (t + 1) → (e j).fr ≠ v1 → (e j).to ≠ v1 → ∃ x, x < ln2 ∧ f2 x = e j) →
        compasslaw17_BlossomTurns.j1 v1 g2 ap an ac sp sn sc (chk N n e) t8 l9 ((n : Int) - 1 - t) X E H18 K := fun H18 lp2 ln2 lc2 f2 h1 h2 h3 h4 h5 h6 h7 h8 h9 h10 => by
      refine compasslaw17_BlossomTurns.j1_eq ?_
      unfold compasslaw17_BlossomTurns.j1_t
      rw [i64w (by omega) (by omega)]
      exact hX _ _ _ _ _ _ _ _ _ _ _ _ _ ⟨rfl, rfl, rfl, rfl, rfl, rfl, rfl, rfl, t + 1, p6, c6, _, lp2, ln2, lc2, f2, by omega, by omega, h1, h2, h3, h4, h5, h6, fp6, h7, h8, hft', h9, h10⟩ (by omega)
    have skip : ((e (n - 1 - t)).fr = v1 ∨ (e (n - 1 - t)).to = v1) → compasslaw17_BlossomTurns.j1 v1 g2 ap an ac sp sn sc (chk N n e) t8 l9 ((n : Int) - 1 - t) X E H12 K := fun hs => next H12 lp' ln lc fl (by omega) s812 e2c e3c r6c rlc flp dpl hall fun j hj hjt h1 h2 => by
      by_cases ej : j = n - 1 - t
      · rw [ej] at h1 h2; exact (hs.elim h1 h2).elim
      · exact hhas j hj (by omega) h1 h2
    simp only [get_at e4c, List.getElem?_cons_zero, List.getElem?_cons_succ, ldI_mk, ldS_mk]
    refine bcn (fun c1 => ?_) fun c1 => skip (.inl c1)
    try simp only [get_at e4c, List.getElem?_cons_zero, List.getElem?_cons_succ, ldI_mk, ldS_mk]
    refine bcn (fun c2 => ?_) fun c2 => skip (.inr c2)
    simp only [get_at e3c, get_at e4c, List.getElem?_cons_zero, List.getElem?_cons_succ, ldI_mk, ldS_mk]
    refine Row.appW (α := Edg) rlc (e (n - 1 - t)) rfl (by omega) (by omega) fun p9 c9 H14 r9 s14 f9 => ?_
    have live12 : ∀ {b : Nat} {x : Blk}, H12 b = some x → H12 b ≠ none := fun h h' => by rw [h] at h'; cases h'
    have e3d := s14.keep _ _ e3c k3
    have e2d := s14.keep _ _ e2c k2
    have r6d := r6c.keep s14 fun y hy h => dpl y hy h
    have q2 : ¬ fpS p9 t8 := fun h => (f9 _ h).elim k2 (live12 e2c)
    have q3 : ¬ fpS p9 l9 := fun h => (f9 _ h).elim k3 (live12 e3c)
    refine stp e3d (by simp) rfl fun H15 e3e s15 => ?_
    replace e3e : H15 l9 = some ⟨[.int .i64 N, .slice p9 (ln + 1) c9], 24⟩ := e3e
    refine next H15 p9 (ln + 1) c9 (upf fl ln (e (n - 1 - t))) (by omega) ((s812.trans s14 fun y hy => .inr (flp y hy)).trans s15 fun y hy => .inl (.inr hy)) (s15.keep _ _ e2d fun h => d23 h) e3e (r6d.keep s15 fun y hy h => m3 (h ▸ hy)) (r9.keep s15 fun y hy h => q3 (h ▸ hy)) (fun y hy => (f9 y hy).elim (flp y) (s812.mono y)) (fun y hy h => (f9 y h).elim (dpl y hy) fun h' => r6c.live hy h') (fun x hx => ?_) fun j hj hjt h1 h2 => ?_
    · by_cases ex : x = ln
      · rw [ex, upf_same]; exact ⟨_, by omega, rfl⟩
      · rw [upf_ne ex]; exact hall x (by omega)
    · by_cases ej : j = n - 1 - t
      · exact ⟨ln, by omega, by rw [ej, upf_same]⟩
      · obtain ⟨x, hx, ex⟩ := hhas j hj (by omega) h1 h2
        exact ⟨x, by omega, by rw [upf_ne (by omega)]; exact ex⟩
  · clear hX
    have htn : t = n := by omega
    subst htn
    have rs8 := rs7.keep s8 fun y hy h => by
      rcases h with h | h
      · rw [h] at hy; exact r2.live hy hb2
      · rw [h] at hy; exact (r2.keep s4 fun _ _ h => h).live hy hb3
    refine compasslaw17_BlossomTurns.j2_eq ?_
    unfold compasslaw17_BlossomTurns.j2_t
    simp only [get_at e28, List.getElem?_cons_zero, List.getElem?_cons_succ, ldI_mk, ldS_mk]
    refine sBlo rt.rdr (by omega) fun H9 mp1 mn1 mc1 g1 cp1 cn1 cc1 cv1 s9 _ r21 _ _ _ l1a l1b hF1 => ?_
    have e39 := s9.keep _ _ e38 fun h => h
    have e19 := s9.keep _ _ e18 fun h => h
    have s09 := s08.and s9
    simp only [get_at e39, List.getElem?_cons_zero, List.getElem?_cons_succ, ldI_mk, ldS_mk]
    refine sBlo (rl.keep s9 fun _ _ h => h).rdr (by omega) fun H10 mp2 mn2 mc2 g2' cp2 cn2 cc2 cv2 s10 _ _ _ _ _ l2a _ hF2 => ?_
    have e110 := s10.keep _ _ e19 fun h => h
    have s010 := s09.and s10
    simp only [get_at e110, List.getElem?_cons_zero, List.getElem?_cons_succ, ldI_mk, ldS_mk]
    refine rcheck (he.keep s010 fun _ _ _ h => h) fun H11 a s11 => ?_
    have s011 := s010.and s11
    have rtr : Right N t ft ↔ Right N t e := by
      constructor
      · intro h
        refine ⟨h.N0, h.N1, h.n1, fun i hi => ?_⟩
        have := (h.ed (t - 1 - i) (by omega)).trn
        rw [hft _ (by omega), show t - 1 - (t - 1 - i) = i by omega] at this
        exact this
      · intro h
        refine ⟨h.N0, h.N1, h.n1, fun i hi => ?_⟩
        rw [hft i hi]
        exact (h.ed _ (by omega)).trn
    rcases hF with ⟨h0, rfl, rfl⟩ | ⟨h0, hr, hA⟩
    · refine bcn (fun _ => ?_) fun h => (h0 h).elim
      refine bct rfl ?_
      have h1 : chk N t ft ≠ 0 := fun h => h0 (chk_zero.2 (rtr.1 (chk_zero.1 h)))
      refine bcn (fun _ => ?_) fun h => (h1 h).elim
      refine bct rfl ?_
      rcases hF1 with ⟨_, rfl, _⟩ | ⟨h, _⟩
      · exact kk H11 s011
      · exact (h1 h).elim
    · refine bcn (fun h => (h h0).elim) fun _ => ?_
      have hr1 := rtr.2 hr
      have hr2 : Right N ln fl := ⟨hr.N0, hr.N1, by have := hr.n1; omega, fun x hx => by obtain ⟨j, hj, ej⟩ := hall x hx; rw [ej]; exact hr.ed j hj⟩
      have z1 := chk_zero.2 hr1
      have z2 := chk_zero.2 hr2
      have hN0 := hr.N0; have hN1 := hr.N1
      obtain ⟨M, rfl⟩ : ∃ M : Nat, N = M := ⟨N.toNat, by omega⟩
      rw [Int.toNat_natCast] at hA
      rcases hF1 with ⟨h, _⟩ | ⟨_, _, hA1⟩
      · exact (h z1).elim
      rcases hF2 with ⟨h, _⟩ | ⟨_, _, hA2⟩
      · exact (h z2).elim
      rw [Int.toNat_natCast] at hA1 hA2
      obtain ⟨ek, eq, es⟩ := hA.turned hr hr1 hA1 hft
      refine bct h0 ?_
      refine bct z1 ?_
      refine bct z2 ?_
      refine bct (by rw [ek]) ?_
      refine lints17 (rs8.keep ((s9.and s10).and s11) fun _ _ h => h).rdr (r21.keep (s10.and s11) fun _ _ h => h).rdr (by omega) eq es ?_
      refine bcb (fun _ => ?_) fun h => by cases h
      have hle : mn2 ≤ an := by
        obtain ⟨π, hπ⟩ := Classical.axiomOfChoice (r := fun x j => x < ln → j < t ∧ fl x = e j) fun x => by
          by_cases hx : x < ln
          · obtain ⟨j, hj⟩ := hall x hx; exact ⟨j, fun _ => hj⟩
          · exact ⟨0, fun h => (hx h).elim⟩
        exact hA2.le hr2 hA π fun i hi => by
          obtain ⟨a, b⟩ := hπ i hi
          exact ⟨a, .inl ⟨by unfold ef; rw [b], by unfold et; rw [b]⟩⟩
      have hge : an ≤ mn2 + 1 := by
        by_cases hv0 : 0 ≤ v1
        · refine hA.less (v := v1.toNat) hr hA2 fun i hi hor => ?_
          obtain ⟨a1, a2⟩ := hr.ends hi
          obtain ⟨b1', b2'⟩ := hr.nds i hi
          exact (hhas i hi (by omega) (by omega) (by omega)).imp fun x hx => hx
        · refine hA.less (v := M) hr hA2 fun i hi hor => ?_
          obtain ⟨a1, a2⟩ := hr.ends hi
          exact (hhas i hi (by omega) (by omega) (by omega)).imp fun x hx => hx
      refine bct (by omega) ?_
      rw [i64w (by omega) (by omega), decide_eq_true (by omega)]
      exact kk H11 s011
end
end Go.Mz
