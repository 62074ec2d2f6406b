/-
  Joined: BlI, BlJ, BmF, BmG, BmH, BmI.
-/
import Derived.Test.YtbocpfdlfnodfaaPkE
import Derived.Test.YtbocpfdlfnodfaaPkS
import Derived.Test.YtbocpfdlfnodfaaPkM
import Derived.Test.YtbocpfdlfnodfaaPkT
import Derived.Test.YtbocpfdlfnodfaaSoI
import Derived.Test.YtbocpfdlfnodfaaPkV
import Derived.Test.YtbocpfdlfnodfaaMzZ
import Derived.Test.YtbocpfdlfnodfaaGSli
set_option linter.unusedSimpArgs false
set_option linter.unusedVariables false
/-
  Matchings in any graph, in plain words: looks from all nodes that are left out, none of which found a way, prove that no matching is larger; which nodes can be left out. No program in sight.
-/
namespace Go.Mz

/-- a look from each node that is left out, none of which found a way -/
structure Fam (M n : Nat) (fr to : Nat → Nat) (mb : Nat → Int) (ba : Nat → Nat → Nat) (vi : Nat → Nat → Int) (ee : Nat → Nat → Bool) (rh : Nat → Nat → Nat) : Prop where
  clo : ∀ r, r < M → mb r = -1 → Clo M n fr to mb r (ba r) (vi r) (ee r) (rh r)

/-- at an even place in one of them -/
def ReP (M : Nat) (mb : Nat → Int) (ee : Nat → Nat → Bool) (v : Nat) : Prop := ∃ r, r < M ∧ mb r = -1 ∧ ee r v = true

/-- at none, but beside one that is -/
def AnP (M n : Nat) (fr to : Nat → Nat) (R : Nat → Prop) (v : Nat) : Prop := v < M ∧ ¬ R v ∧ ∃ i, En n fr to i v ∧ R (ot fr to i v)

section
variable {M n : Nat} {fr to : Nat → Nat} {mb b' : Nat → Int} {ba : Nat → Nat → Nat} {vi : Nat → Nat → Int} {ee : Nat → Nat → Bool} {rh : Nat → Nat → Nat}

open Classical in
theorem cnt_only {r M : Nat} {P : Nat → Prop} (h : ∀ x, P x → x = r) : cnt (fun x => decide (P x)) M ≤ 1 := by
  by_cases hp : r < M ∧ P r
  · rw [cnt_less (q := fun _ => false) hp.1 (decide_eq_true hp.2) rfl (fun i _ hne => decide_eq_false fun hh => hne (h i hh)), cnt_none fun _ _ => rfl]
    exact Nat.le_refl _
  · rw [cnt_none fun i hi => decide_eq_false fun hh => hp ⟨h i hh ▸ hi, h i hh ▸ hh⟩]
    exact Nat.zero_le _

theorem Fam.even0 (h : Fam M n fr to mb ba vi ee rh) {r s : Nat} (hr : r < M) (hb : mb r = -1) (hs : s < M) (hsb : mb s < 0) (he : ee r s = true) : s = r :=
  Classical.byContradiction fun hne => by have := ((h.clo r hr hb).T.st s hs he hne).1; omega

/-- a node at an even place in the one look is at no odd one in another -/
theorem Fam.cross (hN : Nds M n fr to) (hMM : MM M n fr to M mb) (h : Fam M n fr to mb ba vi ee rh) {r s u : Nat} (hr : r < M) (hrb : mb r = -1) (hs : s < M) (hsb : mb s = -1) (hu : u < M) (he : ee s u = true) : ¬ OdP M (ee r) (vi r) u := by
  classical
  intro ho
  by_cases ers : s = r
  · rw [ers, ho.2.1] at he; cases he
  · obtain ⟨b', hb', hbu, hbo⟩ := (h.clo s hs hsb).T.flip hN hMM hu he
    have h1 := (h.clo r hr hrb).hung hN hMM hb'
    have h2 : 0 < cnt (fun a => decide (OdP M (ee r) (vi r) a ∧ b' a < 0)) M := cnt_pos hu (decide_eq_true ⟨ho, by omega⟩)
    have h3 : cnt (fun x => decide (ee r x = true ∧ b' x < 0)) M ≤ cnt (fun x => decide (x < M ∧ ee r x = true ∧ b' x < 0)) M := cnt_mono fun x hx hh => by
      have := of_decide_eq_true hh
      exact decide_eq_true ⟨hx, this⟩
    have h4 := cnt_only (M := M) (r := r) (P := fun x => x < M ∧ ee r x = true ∧ b' x < 0) fun x ⟨hx, hxe, hxb⟩ => by
      have hxu : x ≠ u := fun e => by rw [e, ho.2.1] at hxe; cases hxe
      exact h.even0 hr hrb hx ((hbo x hx hxu).1 hxb).1 hxe
    have h5 : cnt (fun x => decide (ee r x = true ∧ b' x < 0)) M ≤ 1 := Nat.le_trans h3 (by
      refine Nat.le_trans (Nat.le_of_eq (cnt_congr fun x _ => ?_)) h4
      rw [decide_eq_decide])
    have h6 : cnt (fun x => @decide (ee r x = true ∧ b' x < 0) instDecidableAnd) M = cnt (fun x => decide (ee r x = true ∧ b' x < 0)) M := cnt_congr fun x _ => by rw [decide_eq_decide]
    omega

theorem Fam.an (hN : Nds M n fr to) (hMM : MM M n fr to M mb) (h : Fam M n fr to mb ba vi ee rh) {v : Nat} : AnP M n fr to (ReP M mb ee) v ↔ ∃ r, r < M ∧ mb r = -1 ∧ OdP M (ee r) (vi r) v := by
  constructor
  · rintro ⟨hv, hno, i, hi, r, hr, hrb, he⟩
    obtain ⟨h1, _⟩ := (h.clo r hr hrb).cl _ (hi.ot.nd hN) he i hi.ot
    rw [hi.oo] at h1
    have hev : ee r v = false := Bool.eq_false_iff.2 fun hh => hno ⟨r, hr, hrb, hh⟩
    exact ⟨r, hr, hrb, hv, hev, h1.resolve_left (by rw [hev]; decide)⟩
  · rintro ⟨r, hr, hrb, ho⟩
    refine ⟨ho.1, fun ⟨s, hs, hsb, he⟩ => h.cross hN hMM hr hrb hs hsb ho.1 he ho, ?_⟩
    have C := h.clo r hr hrb
    obtain ⟨hb, hme, hmb⟩ := C.T.od v ho.1 ho.2.1 ho.2.2
    obtain ⟨_, _, _, _, _, hbm, hmm⟩ := hMM.en ho.1 (by have := ho.1; omega) hb
    have hmM := hMM.ltN hN ho.1 hb
    have hmr : mt fr to mb v ≠ r := fun e => by rw [e] at hbm; omega
    obtain ⟨_, k, hk, hen, hex, _⟩ := C.T.st _ hmM hme hmr
    rw [hmm] at hk hen hex
    exact ⟨k, hen, r, hr, hrb, hex⟩

/-- within its circle a node hangs together with the base -/
theorem Clo.conn {r : Nat} {base ρ : Nat → Nat} {via : Nat → Int} {ev : Nat → Bool} (hN : Nds M n fr to) (hMM : MM M n fr to M mb) (C : Clo M n fr to mb r base via ev ρ) {Z : Nat → Prop} (hZ : ∀ x i, x < M → ev x = true → ev (ot fr to i x) = true → base x = base (ot fr to i x) → En n fr to i x → (Z x ↔ Z (ot fr to i x))) {v : Nat} (hv : v < M) (he : ev v = true) : Z v ↔ Z (base v) := by
  obtain ⟨l, hl, hnd⟩ := C.T.pa v hv he
  clear hnd
  induction hl with
  | root h0 =>
    rename_i u
    have : u = r := Classical.byContradiction fun hne => by have := (C.T.st u hv he hne).1; omega
    rw [this, C.T.rr]
  | step h1 hk hen hl ih =>
    rename_i u k l'
    by_cases hb : base u = u
    · rw [hb]
    · have hur : u ≠ r := fun e => by rw [e, C.T.rb] at h1; omega
      obtain ⟨_, k2, hk2, _, hex, _, h2⟩ := C.T.st u hv he hur
      have := Int.ofNat.inj (hk.symm.trans hk2)
      subst this
      obtain ⟨a1, a2, a3⟩ := h2 hb
      obtain ⟨j, ej, hj, em, _⟩ := hMM.en hv (by omega) h1
      have hmM := hMM.ltN hN hv h1
      have s1 : Z u ↔ Z (mt fr to mb u) := by
        rw [em]
        exact hZ u j hv he (by rw [← em]; exact a1) (by rw [← em]; exact a2.symm) hj
      have s2 : Z (mt fr to mb u) ↔ Z (ot fr to k (mt fr to mb u)) := hZ _ k hmM a1 hex (by rw [a2, a3]) hen
      rw [s1, s2, ih (hen.ot.nd hN) hex, a3]

/-- bases, circles, over all the looks -/
def GBs (M n : Nat) (fr to : Nat → Nat) (mb : Nat → Int) (A : Nat → Prop) (c : Nat) : Prop := c < M ∧ (mb c = -1 ∨ (0 ≤ mb c ∧ A (mt fr to mb c)))
def GCl (M : Nat) (mb : Nat → Int) (ba : Nat → Nat → Nat) (ee : Nat → Nat → Bool) (c x : Nat) : Prop := x < M ∧ ∃ r, r < M ∧ mb r = -1 ∧ ee r c = true ∧ ee r x = true ∧ ba r x = c

theorem Fam.base_of (hN : Nds M n fr to) (hMM : MM M n fr to M mb) (h : Fam M n fr to mb ba vi ee rh) {c r : Nat} (hc : GBs M n fr to mb (AnP M n fr to (ReP M mb ee)) c) (hr : r < M) (hrb : mb r = -1) (he : ee r c = true) : ba r c = c := by
  refine Classical.byContradiction fun hne => ?_
  obtain ⟨h1, h2, h3, _⟩ := (h.clo r hr hrb).T.mate_out hN hMM hc.1 he rfl (fun e => hne e.symm)
  rcases hc.2 with h4 | ⟨_, h4⟩
  · omega
  · exact h4.2.1 ⟨r, hr, hrb, h3⟩

theorem Fam.cls (hN : Nds M n fr to) (hMM : MM M n fr to M mb) (h : Fam M n fr to mb ba vi ee rh) : Cls M n fr to mb (GBs M n fr to mb (AnP M n fr to (ReP M mb ee))) (GCl M mb ba ee) (AnP M n fr to (ReP M mb ee)) where
  lt := fun c x _ hx => hx.1
  self := fun c hc => by
    rcases hc.2 with h1 | ⟨h1, h2⟩
    · have := (h.clo c hc.1 h1).T
      exact ⟨hc.1, c, hc.1, h1, this.re, this.re, this.rr⟩
    · obtain ⟨r, hr, hrb, ho⟩ := (h.an hN hMM).1 h2
      obtain ⟨_, h3, _⟩ := (h.clo r hr hrb).T.od _ ho.1 ho.2.1 ho.2.2
      obtain ⟨_, _, _, _, _, _, hmm⟩ := hMM.en hc.1 (by have := hc.1; omega) h1
      rw [hmm] at h3
      exact ⟨hc.1, r, hr, hrb, h3, h3, h.base_of hN hMM hc hr hrb h3⟩
  dis := fun c c' x hc hc' ⟨hx, r, hr, hrb, hec, hex, hbx⟩ ⟨_, s, hs, hsb, hec', hex', hbx'⟩ => by
    have C := h.clo s hs hsb
    have D := h.clo r hr hrb
    have key := C.conn hN hMM (Z := fun y => ee r y = true ∧ ba r y = c) (fun y i hy hey heo hbb hi => by
      have hoM := hi.ot.nd hN
      constructor
      · rintro ⟨a1, a2⟩
        obtain ⟨c1, c2⟩ := D.cl y hy a1 i hi
        have a3 : ee r (ot fr to i y) = true := Classical.byContradiction fun hn => by
          have hn' : ee r (ot fr to i y) = false := Bool.eq_false_iff.2 hn
          exact h.cross hN hMM hr hrb hs hsb hoM heo ⟨hoM, hn', c1.resolve_left hn⟩
        exact ⟨a3, by rw [← c2 a3]; exact a2⟩
      · rintro ⟨a1, a2⟩
        obtain ⟨c1, c2⟩ := D.cl _ hoM a1 i hi.ot
        rw [hi.oo] at c1 c2
        have a3 : ee r y = true := Classical.byContradiction fun hn => by
          have hn' : ee r y = false := Bool.eq_false_iff.2 hn
          exact h.cross hN hMM hr hrb hs hsb hy hey ⟨hy, hn', c1.resolve_left hn⟩
        exact ⟨a3, by rw [← c2 a3]; exact a2⟩) hx hex'
    have h1 := key.1 ⟨hex, hbx⟩
    rw [hbx'] at h1
    rw [← h1.2, h.base_of hN hMM hc' hr hrb h1.1]
  mate := fun c x hc ⟨hx, r, hr, hrb, hec, hex, hbx⟩ hne => by
    obtain ⟨h1, h2, h3, h4, h5⟩ := (h.clo r hr hrb).T.mate_out hN hMM hx hex hbx hne
    exact ⟨h1, ⟨h2, r, hr, hrb, hec, h3, h4⟩, h5⟩
  cl := fun c x i hc ⟨hx, r, hr, hrb, hec, hex, hbx⟩ hi => by
    have hoM := hi.ot.nd hN
    obtain ⟨h1, h2⟩ := (h.clo r hr hrb).cl x hx hex i hi
    rcases Bool.eq_false_or_eq_true (ee r (ot fr to i x)) with he | he
    · exact .inl ⟨hoM, r, hr, hrb, hec, he, by rw [← h2 he]; exact hbx⟩
    · exact .inr ((h.an hN hMM).2 ⟨r, hr, hrb, hoM, he, h1.resolve_left (by rw [he]; decide)⟩)
  na := fun c x hc ⟨hx, r, hr, hrb, hec, hex, hbx⟩ ha => ha.2.1 ⟨r, hr, hrb, hex⟩
  aM := fun a ha => ha.1

open Classical in
/-- as many bases as nodes that are left out, and nodes beside -/
theorem Fam.many (hN : Nds M n fr to) (hMM : MM M n fr to M mb) (h : Fam M n fr to mb ba vi ee rh) : cnt (fun v => decide (mb v = -1)) M + cnt (fun a => decide (AnP M n fr to (ReP M mb ee) a)) M ≤ cnt (fun c => decide (GBs M n fr to mb (AnP M n fr to (ReP M mb ee)) c)) M := by
  have h1 := cnt_two (N := M) (r := fun c => decide (GBs M n fr to mb (AnP M n fr to (ReP M mb ee)) c)) (p := fun v => decide (mb v = -1)) (q := fun c => decide (0 ≤ mb c ∧ AnP M n fr to (ReP M mb ee) (mt fr to mb c))) (fun v hv => by
    have e1 : decide (GBs M n fr to mb (AnP M n fr to (ReP M mb ee)) v) = decide (mb v = -1 ∨ (0 ≤ mb v ∧ AnP M n fr to (ReP M mb ee) (mt fr to mb v))) := by
      rw [decide_eq_decide]; unfold GBs; exact ⟨fun hh => hh.2, fun hh => ⟨hv, hh⟩⟩
    rw [e1, Bool.decide_or]) fun v _ hh => by
      have := of_decide_eq_true hh.1
      have := (of_decide_eq_true hh.2).1
      omega
  have h2 : cnt (fun a => decide (AnP M n fr to (ReP M mb ee) a)) M ≤ cnt (fun c => decide (0 ≤ mb c ∧ AnP M n fr to (ReP M mb ee) (mt fr to mb c))) M := by
    have pos : ∀ a, AnP M n fr to (ReP M mb ee) a → 0 ≤ mb a := fun a ha => by
      obtain ⟨r, hr, hrb, ho⟩ := (h.an hN hMM).1 ha
      exact ((h.clo r hr hrb).T.od a ho.1 ho.2.1 ho.2.2).1
    refine cnt_inj (mt fr to mb) (fun a ha hh => ?_) fun a d ha hd h1 h2 e => hMM.inj ha hd (pos a (of_decide_eq_true h1)) (pos d (of_decide_eq_true h2)) e
    have hA := of_decide_eq_true hh
    have hp := pos a hA
    obtain ⟨_, _, _, _, _, hbm, hmm⟩ := hMM.en ha (by omega) hp
    exact ⟨hMM.ltN hN ha hp, decide_eq_true ⟨by rw [hbm]; omega, by rw [hmm]; exact hA⟩⟩
  omega

open Classical in
/-- any matching leaves out so many -/
theorem Fam.hung (hN : Nds M n fr to) (hMM : MM M n fr to M mb) (hb : MM M n fr to M b') (h : Fam M n fr to mb ba vi ee rh) :
    cnt (fun v => decide (mb v = -1)) M + cnt (fun a => decide (AnP M n fr to (ReP M mb ee) a ∧ b' a < 0)) M ≤ cnt (fun x => decide (ReP M mb ee x ∧ b' x < 0)) M := by
  have h1 := (h.cls hN hMM).hung hN hMM hb
  have h2 := h.many hN hMM
  have h3 : cnt (fun x => decide ((∃ c, GBs M n fr to mb (AnP M n fr to (ReP M mb ee)) c ∧ GCl M mb ba ee c x) ∧ b' x < 0)) M ≤ cnt (fun x => decide (ReP M mb ee x ∧ b' x < 0)) M := cnt_mono fun x hx hh => by
    obtain ⟨⟨c, _, _, r, hr, hrb, _, he, _⟩, hb⟩ := of_decide_eq_true hh
    exact decide_eq_true ⟨⟨r, hr, hrb, he⟩, hb⟩
  omega
end

/-! ### Parts with an odd number of nodes -/

section
variable {M n : Nat} {e : Nat → Edg} {mb : Nat → Int} {ba : Nat → Nat → Nat} {vi : Nat → Nat → Int} {ee : Nat → Nat → Bool} {rh : Nat → Nat → Nat} {W : Nat → Bool}

open Classical in
theorem oddB_cnt {R : Nat → Nat → Prop} {W : Nat → Bool} {N : Nat} : ∀ s, oddB R W N s = cnt (fun t => decide (Fst R W t ∧ csz R N t % 2 = 1)) s
  | 0 => rfl
  | s + 1 => by
    show oddB R W N s + (if Fst R W s then csz R N s % 2 else 0) = cnt _ s + _
    rw [oddB_cnt s]
    congr 1
    by_cases hF : Fst R W s
    · rw [if_pos hF]
      have : csz R N s % 2 = 0 ∨ csz R N s % 2 = 1 := by omega
      rcases this with hh | hh
      · rw [hh, if_neg (by simp [hh])]
      · rw [hh, if_pos (by simp [hh, hF])]
    · rw [if_neg hF, if_neg (by simp [hF])]

open Classical in
theorem Fam.odd (hr : Right (M : Int) n e) (hMM : MM M n (ef e) (et e) M mb) (h : Fam M n (ef e) (et e) mb ba vi ee rh) (hW : ∀ v, v < M → (W v = true ↔ AnP M n (ef e) (et e) (ReP M mb ee) v)) :
    cnt (fun v => decide (mb v = -1)) M + cnt (fun a => decide (AnP M n (ef e) (et e) (ReP M mb ee) a)) M ≤ oddN (M : Int) n e W := by
  have hN := hr.nds
  have C := h.cls hN hMM
  refine Nat.le_trans (h.many hN hMM) ?_
  unfold oddN
  rw [Int.toNat_natCast, oddB_cnt]
  have hok : ∀ j, okE W (e j) = true ↔ W (ef e j) = false ∧ W (et e j) = false := fun j => by
    unfold okE ef et; simp
  -- hanging together is being in one circle
  have same : ∀ c, GBs M n (ef e) (et e) mb (AnP M n (ef e) (et e) (ReP M mb ee)) c → ∀ x, x < M → (Cn (Adj e n W) c x ↔ GCl M mb ba ee c x) := fun c hc x hx => by
    constructor
    · intro hcn
      have := hcn.iff (P := GCl M mb ba ee c) fun u v ⟨j, hj, hk, hor⟩ => by
        obtain ⟨w1, w2⟩ := (hok j).1 hk
        obtain ⟨n1, n2⟩ := hN j hj
        by_cases hl : ef e j = et e j
        · have : u = v := by
            unfold ef et at hl
            rcases hor with ⟨a, b⟩ | ⟨a, b⟩ <;> omega
          rw [this]
        · have step : ∀ u v, En n (ef e) (et e) j u → v = ot (ef e) (et e) j u → W v = false → GCl M mb ba ee c u → GCl M mb ba ee c v := fun u v hu hv hw hcl => by
            rcases C.cl c u j hc hcl hu with hh | hh
            · rw [hv]; exact hh
            · rw [← hv] at hh
              have := (hW v hh.1).2 hh
              rw [hw] at this; cases this
          rcases hor with ⟨a, b⟩ | ⟨a, b⟩
          · have hu : En n (ef e) (et e) j u := ⟨hj, hl, .inl a.symm⟩
            have hv : En n (ef e) (et e) j v := ⟨hj, hl, .inr b.symm⟩
            have ev' : v = ot (ef e) (et e) j u := by unfold ot ef et; omega
            have eu' : u = ot (ef e) (et e) j v := by unfold ot ef et; omega
            exact ⟨step u v hu ev' (by rw [← b]; exact w2), step v u hv eu' (by rw [← a]; exact w1)⟩
          · have hu : En n (ef e) (et e) j u := ⟨hj, hl, .inr a.symm⟩
            have hv : En n (ef e) (et e) j v := ⟨hj, hl, .inl b.symm⟩
            have ev' : v = ot (ef e) (et e) j u := by unfold ot ef et; omega
            have eu' : u = ot (ef e) (et e) j v := by unfold ot ef et; omega
            exact ⟨step u v hu ev' (by rw [← b]; exact w1), step v u hv eu' (by rw [← a]; exact w2)⟩
      exact this.1 (C.self c hc)
    · rintro ⟨_, r, hr', hrb, hec, hex, hbx⟩
      have := (h.clo r hr' hrb).conn hN hMM (Z := fun y => Cn (Adj e n W) c y) (fun y i hy hey heo hbb hi => by
        have hoM := hi.ot.nd hN
        have w1 : W y = false := Bool.eq_false_iff.2 fun hw => ((hW y hy).1 hw).2.1 ⟨r, hr', hrb, hey⟩
        have w2 : W (ot (ef e) (et e) i y) = false := Bool.eq_false_iff.2 fun hw => ((hW _ hoM).1 hw).2.1 ⟨r, hr', hrb, heo⟩
        have hadj : Adj e n W y (ot (ef e) (et e) i y) := by
          refine ⟨i, hi.1, (hok i).2 ?_, ?_⟩
          · rcases hi.2.2 with hy' | hy'
            · have : ot (ef e) (et e) i y = et e i := by unfold ot; omega
              rw [this] at w2; rw [hy'] at w1; exact ⟨w1, w2⟩
            · have : ot (ef e) (et e) i y = ef e i := by unfold ot; omega
              rw [this] at w2; rw [hy'] at w1; exact ⟨w2, w1⟩
          · rcases hi.2.2 with hy' | hy'
            · left; unfold ot ef et at *; omega
            · right; unfold ot ef et at *; omega
        exact ⟨fun hh => hh.trans (.edge hadj), fun hh => hh.trans (.symm (.edge hadj))⟩) hx hex
      rw [hbx] at this
      exact this.2 (.refl c)
  -- the first node of each part
  have least : ∀ c, Cn (Adj e n W) (gm fun u => Cn (Adj e n W) u c) c ∧ (gm fun u => Cn (Adj e n W) u c) ≤ c := fun c => gm_of (p := fun u => Cn (Adj e n W) u c) (.refl c)
  refine cnt_inj (fun c => gm fun u => Cn (Adj e n W) u c) (fun c hcM hc => ?_) fun c d hcM hdM hc hd heq => ?_
  · have hc := of_decide_eq_true hc
    obtain ⟨l1, l2⟩ := least c
    have hfM : (gm fun u => Cn (Adj e n W) u c) < M := by omega
    refine ⟨hfM, decide_eq_true ⟨⟨?_, fun u hu hcn => ?_⟩, ?_⟩⟩
    · have hcl := (same c hc _ hfM).1 (.symm l1)
      exact Bool.eq_false_iff.2 fun hw => C.na c _ hc hcl ((hW _ hfM).1 hw)
    · have := (gm_of (p := fun u => Cn (Adj e n W) u c) (k := u) (hcn.trans l1)).2
      omega
    · have h1 := C.odd hMM hc
      unfold csz
      rw [cnt_congr (q := fun x => decide (GCl M mb ba ee c x)) fun x hx => ?_]
      · exact h1
      · rw [decide_eq_decide, ← same c hc x hx]
        exact ⟨fun hh => (Cn.symm l1).trans hh, fun hh => l1.trans hh⟩
  · have hc := of_decide_eq_true hc
    have hd := of_decide_eq_true hd
    have l1 := (least c).1
    have l2 := (least d).1
    have heq' : (gm fun u => Cn (Adj e n W) u c) = gm fun u => Cn (Adj e n W) u d := heq
    rw [heq'] at l1
    have hcd : Cn (Adj e n W) c d := (Cn.symm l1).trans l2
    exact C.dis c d d hc hd ((same c hc d hdM).1 hcd) (C.self d hd)
end
end Go.Mz

/-
  Matchings in any graph, in plain words: what the answer of a solver is, once no look finds a way. No program in sight.
-/
namespace Go.Mz

/-- a node that some matching with so many edges leaves out -/
def Dv (M n : Nat) (fr to : Nat → Nat) (k v : Nat) : Prop := ∃ b', MM M n fr to M b' ∧ b' v = -1 ∧ cnt (fun u => decide (b' u = -1)) M + 2 * k = M

/-- the set that goes with a largest matching -/
def SetP (M n : Nat) (fr to : Nat → Nat) (k v : Nat) : Prop := v < M ∧ ¬ Dv M n fr to k v ∧ ∃ i, En n fr to i v ∧ Dv M n fr to k (ot fr to i v)

/-- what is told of an answer: a largest matching, and the set -/
structure BlA (M n : Nat) (e : Nat → Edg) (m : Nat → Int) (k : Nat) (set : Nat → Int) (q : Nat) : Prop where
  lrg : LrgP (M : Int) n e m k set q
  set : ∀ v : Nat, In set q (v : Int) ↔ SetP M n (ef e) (et e) k v
  mx : ∀ b', MM M n (ef e) (et e) M b' → M ≤ cnt (fun u => decide (b' u = -1)) M + 2 * k
  ex : ∃ b', MM M n (ef e) (et e) M b' ∧ cnt (fun u => decide (b' u = -1)) M + 2 * k = M

section
variable {M n : Nat} {fr to : Nat → Nat} {mb b' : Nat → Int} {ba : Nat → Nat → Nat} {vi : Nat → Nat → Int} {ee : Nat → Nat → Bool} {rh : Nat → Nat → Nat}

theorem odt {p : Prop} {d : Decidable p} (h : @decide p d = true) : p := of_decide_eq_true h

theorem cnt_full (p : Nat → Bool) : ∀ N, cnt p N + cnt (fun v => !p v) N = N
  | 0 => rfl
  | N + 1 => by
    have := cnt_full p N
    simp only [cnt]
    by_cases hp : p N = true
    · rw [if_pos hp, if_neg (by simp [hp])]; omega
    · rw [if_neg hp, if_pos (by simpa using hp)]; omega

/-- the nodes that are left out, and two for each edge -/
theorem MM.count (hN : Nds M n fr to) (h : MM M n fr to M mb) : cnt (fun v => decide (mb v = -1)) M + 2 * cnt (fun v => decide (0 ≤ mb v ∧ v < mt fr to mb v)) M = M := by
  have h1 := cnt_full (fun v => decide (mb v = -1)) M
  have h2 := cnt_two (N := M) (r := fun v => !decide (mb v = -1)) (p := fun v => decide (0 ≤ mb v ∧ v < mt fr to mb v)) (q := fun v => decide (0 ≤ mb v ∧ mt fr to mb v < v)) (fun v hv => by
    by_cases h0 : 0 ≤ mb v
    · obtain ⟨j, ej, hj, em, _⟩ := h.en hv (by omega) h0
      have hne : mt fr to mb v ≠ v := by rw [em]; exact hj.ne
      have hm1 : ¬ mb v = -1 := by omega
      have h5 : (decide (0 ≤ mb v ∧ v < mt fr to mb v) || decide (0 ≤ mb v ∧ mt fr to mb v < v)) = true := by
        rw [← Bool.decide_or]; exact decide_eq_true (by omega)
      rw [h5]; simp [hm1]
    · have : mb v = -1 := h.neg hv (by omega) (by omega)
      simp [this]) fun v _ hh => by
      have := (of_decide_eq_true hh.1).2
      have := (of_decide_eq_true hh.2).2
      omega
  have h3 : cnt (fun v => decide (0 ≤ mb v ∧ v < mt fr to mb v)) M ≤ cnt (fun v => decide (0 ≤ mb v ∧ mt fr to mb v < v)) M := by
    refine cnt_inj (mt fr to mb) (fun v hv hh => ?_) fun v w hv hw h1 h2 e => h.inj hv hw (of_decide_eq_true h1).1 (of_decide_eq_true h2).1 e
    obtain ⟨h0, hl⟩ := of_decide_eq_true hh
    obtain ⟨_, _, _, _, _, hbm, hmm⟩ := h.en hv (by omega) h0
    exact ⟨h.ltN hN hv h0, decide_eq_true ⟨by rw [hbm]; omega, by rw [hmm]; exact hl⟩⟩
  have h4 : cnt (fun v => decide (0 ≤ mb v ∧ mt fr to mb v < v)) M ≤ cnt (fun v => decide (0 ≤ mb v ∧ v < mt fr to mb v)) M := by
    refine cnt_inj (mt fr to mb) (fun v hv hh => ?_) fun v w hv hw h1 h2 e => h.inj hv hw (of_decide_eq_true h1).1 (of_decide_eq_true h2).1 e
    obtain ⟨h0, hl⟩ := of_decide_eq_true hh
    obtain ⟨_, _, _, _, _, hbm, hmm⟩ := h.en hv (by omega) h0
    exact ⟨h.ltN hN hv h0, decide_eq_true ⟨by rw [hbm]; omega, by rw [hmm]; exact hl⟩⟩
  omega

theorem MM.lt_iff (h : MM M n fr to M mb) {v : Nat} (hv : v < M) : mb v < 0 ↔ mb v = -1 := ⟨fun hh => h.neg hv (by omega) hh, fun hh => by omega⟩

/-- no matching leaves out fewer; one that leaves out no more leaves out none but nodes at even places -/
theorem Fam.least (hN : Nds M n fr to) (hMM : MM M n fr to M mb) (hb : MM M n fr to M b') (h : Fam M n fr to mb ba vi ee rh) : cnt (fun v => decide (mb v = -1)) M ≤ cnt (fun v => decide (b' v = -1)) M ∧ (cnt (fun v => decide (b' v = -1)) M ≤ cnt (fun v => decide (mb v = -1)) M → ∀ v, v < M → b' v = -1 → ReP M mb ee v) := by
  classical
  have h1 := h.hung hN hMM hb
  have e1 : cnt (fun v => @decide (mb v = -1) (Classical.propDecidable _)) M = cnt (fun v => decide (mb v = -1)) M := cnt_congr fun x _ => by rw [decide_eq_decide]
  have e2 : cnt (fun v => @decide (b' v = -1) (Classical.propDecidable _)) M = cnt (fun v => decide (b' v = -1)) M := cnt_congr fun x _ => by rw [decide_eq_decide]
  have h1' : cnt (fun v => decide (mb v = -1)) M ≤ cnt (fun x => @decide (ReP M mb ee x ∧ b' x < 0) (Classical.propDecidable _)) M := by
    have : cnt (fun v => decide (mb v = -1)) M = cnt (fun v => @decide (mb v = -1) (Classical.propDecidable _)) M := e1.symm
    have e3 : cnt (fun x => decide (ReP M mb ee x ∧ b' x < 0)) M = cnt (fun x => @decide (ReP M mb ee x ∧ b' x < 0) (Classical.propDecidable _)) M := cnt_congr fun x _ => by rw [decide_eq_decide]
    omega
  have h2 : cnt (fun x => @decide (ReP M mb ee x ∧ b' x < 0) (Classical.propDecidable _)) M ≤ cnt (fun v => decide (b' v = -1)) M := cnt_mono fun x hx hh => decide_eq_true ((hb.lt_iff hx).1 (odt hh).2)
  refine ⟨by omega, fun hle v hv hbv => Classical.byContradiction fun hno => ?_⟩
  -- then one more would be left out
  have h3 := cnt_less (p := fun v => decide (b' v = -1)) (q := fun x => decide (b' x = -1) && !decide (x = v)) hv (decide_eq_true hbv) (by simp) (fun i _ hne => by simp [hne])
  have h4 : cnt (fun x => @decide (ReP M mb ee x ∧ b' x < 0) (Classical.propDecidable _)) M ≤ cnt (fun x => decide (b' x = -1) && !decide (x = v)) M := cnt_mono fun x hx hh => by
    obtain ⟨a1, a2⟩ := odt hh
    have : x ≠ v := fun e => hno (e ▸ a1)
    simp [(hb.lt_iff hx).1 a2, this]
  omega

/-- which nodes may be left out -/
theorem Fam.dv (hN : Nds M n fr to) (hMM : MM M n fr to M mb) (h : Fam M n fr to mb ba vi ee rh) {k v : Nat} (hk : cnt (fun v => decide (mb v = -1)) M + 2 * k = M) (hv : v < M) : Dv M n fr to k v ↔ ReP M mb ee v := by
  constructor
  · rintro ⟨b', hb', hbv, hc⟩
    exact (h.least hN hMM hb').2 (by omega) v hv hbv
  · rintro ⟨r, hr, hrb, he⟩
    obtain ⟨b', hb', hbu, hbo⟩ := (h.clo r hr hrb).T.flip hN hMM hv he
    refine ⟨b', hb', hbu, ?_⟩
    by_cases hvr : v = r
    · subst hvr
      have : cnt (fun u => decide (b' u = -1)) M = cnt (fun u => decide (mb u = -1)) M := cnt_congr fun u hu => by
        rw [decide_eq_decide]
        by_cases e : u = v
        · rw [e, hbu, hrb]
        · rw [← hb'.lt_iff hu, ← hMM.lt_iff hu, hbo u hu e]
          exact ⟨fun hh => hh.1, fun hh => ⟨hh, e⟩⟩
      omega
    · have h0 := ((h.clo r hr hrb).T.st v hv he hvr).1
      have c1 := cnt_less (p := fun u => decide (mb u = -1)) (q := fun u => decide (mb u = -1 ∧ u ≠ r)) hr (decide_eq_true hrb) (decide_eq_false fun hh => hh.2 rfl) (fun u _ hne => by rw [decide_eq_decide]; exact ⟨fun hh => ⟨hh, hne⟩, fun hh => hh.1⟩)
      have c2 := cnt_less (p := fun u => decide (b' u = -1)) (q := fun u => decide (mb u = -1 ∧ u ≠ r)) hv (decide_eq_true hbu) (decide_eq_false fun hh => by have := hh.1; omega) (fun u hu hne => by
        rw [decide_eq_decide, ← hb'.lt_iff hu, hbo u hu hne, hMM.lt_iff hu])
      omega
end

section
variable {M n : Nat} {e : Nat → Edg} {mb : Nat → Int} {ba : Nat → Nat → Nat} {vi : Nat → Nat → Int} {ee : Nat → Nat → Bool} {rh : Nat → Nat → Nat}

/-- the edges that match, each once, sorted: they are taken -/
theorem MM.tkn (hr : Right (M : Int) n e) (hMM : MM M n (ef e) (et e) M mb) {g : Nat → Int} {k : Nat} (hk : k = (pk (fun v => decide (0 ≤ mb v ∧ v < mt (ef e) (et e) mb v)) M).length)
    (hs : ∀ i j, i < j → j < k → g i ≤ g j) (hp : ((List.range k).map g).Perm ((pk (fun v => decide (0 ≤ mb v ∧ v < mt (ef e) (et e) mb v)) M).map mb)) : Tkn (M : Int) n e g k fun _ => 1 := by
  have hN := hr.nds
  have hel : ∀ v, v ∈ pk (fun v => decide (0 ≤ mb v ∧ v < mt (ef e) (et e) mb v)) M → v < M ∧ v < mt (ef e) (et e) mb v ∧ ∃ i : Nat, mb v = i ∧ En n (ef e) (et e) i v ∧ mt (ef e) (et e) mb v = ot (ef e) (et e) i v ∧ mb (mt (ef e) (et e) mb v) = i := fun v hv => by
    obtain ⟨h1, h2⟩ := pk_mem.1 hv
    obtain ⟨h3, h4⟩ := of_decide_eq_true h2
    obtain ⟨i, ei, hi, em, _, hbm, _⟩ := hMM.en h1 (by omega) h3
    exact ⟨h1, h4, i, ei, hi, em, hbm⟩
  have hgi : ∀ i, i < k → ∃ x : Nat, x < n ∧ g i = x ∧ ef e x ≠ et e x ∧ mb (ef e x) = x ∧ mb (et e x) = x := fun i hi => by
    have : g i ∈ (pk (fun v => decide (0 ≤ mb v ∧ v < mt (ef e) (et e) mb v)) M).map mb := hp.mem_iff.1 (List.mem_map.2 ⟨i, List.mem_range.2 hi, rfl⟩)
    obtain ⟨v, hv, ev⟩ := List.mem_map.1 this
    obtain ⟨_, _, x, ex, hx, em, hbm⟩ := hel v hv
    refine ⟨x, hx.1, by omega, hx.2.1, ?_⟩
    rw [em] at hbm
    rcases hx.2.2 with hh | hh
    · have : ot (ef e) (et e) x v = et e x := by unfold ot; omega
      rw [this] at hbm; rw [hh] at ex; exact ⟨ex, hbm⟩
    · have : ot (ef e) (et e) x v = ef e x := by unfold ot; omega
      rw [this] at hbm; rw [hh] at ex; exact ⟨hbm, ex⟩
  have hnd : ((List.range k).map g).Nodup := by
    rw [hp.nodup_iff]
    refine map_nodup pk_nodup fun x hx y hy e' => ?_
    obtain ⟨a1, a2, i, ei, hi, em, hbm⟩ := hel x hx
    obtain ⟨b1, b2, j, ej, hj, en', hbn⟩ := hel y hy
    have : i = j := by omega
    subst this
    -- the same edge from its lower end
    refine Classical.byContradiction fun hne => ?_
    have h1 : y = ot (ef e) (et e) i x := hi.two hj (fun hh => hne hh.symm)
    have h2 : x = ot (ef e) (et e) i y := hj.two hi hne
    omega
  have hlt : ∀ i j, i < j → j < k → g i < g j := fun i j hij hj => by
    have h1 := hs i j hij hj
    have h2 : g i ≠ g j := fun e' => by
      have := (List.pairwise_iff_getElem.1 (List.nodup_iff_pairwise_ne.1 hnd)) i j (by simp; omega) (by simp; omega) hij
      simp at this
      exact this e'
    omega
  have hends : ∀ {x : Nat} {v : Int}, x < n → ((e x).fr = v ∨ (e x).to = v) → v = (ef e x : Int) ∨ v = (et e x : Int) := fun {x v} hx h => by
    obtain ⟨h1, h2⟩ := hr.ends hx
    omega
  have hnl : ∀ i, i < k → ¬ lp (e (g i).toNat) := fun i hi => by
    obtain ⟨x, hx, ex, hne, _⟩ := hgi i hi
    rw [ex, Int.toNat_natCast]
    obtain ⟨h1, h2⟩ := hr.ends hx
    unfold lp
    omega
  refine ⟨fun i hi => ?_, hnl, fun v hv0 hv1 _ => ?_⟩
  · obtain ⟨x, hx, ex, _⟩ := hgi i hi
    exact ⟨by omega, by omega, fun h0 => hlt (i - 1) i (by omega) hi⟩
  · have := dg_one (e := e) (m := g) (v := v) (x := mb v.toNat) (k := k) hnl hlt (fun i hi ht => by
      obtain ⟨x, hx, ex, _, e1, e2⟩ := hgi i hi
      rw [ex, Int.toNat_natCast] at ht
      rcases hends hx ht with hv | hv
      · rw [hv, Int.toNat_natCast, e1]; exact ex
      · rw [hv, Int.toNat_natCast, e2]; exact ex)
    omega

theorem bl_answer (hr : Right (M : Int) n e) (hMM : MM M n (ef e) (et e) M mb) (h : Fam M n (ef e) (et e) mb ba vi ee rh) {g : Nat → Int} {k : Nat} {SP : Nat → Bool} (hk : k = (pk (fun v => decide (0 ≤ mb v ∧ v < mt (ef e) (et e) mb v)) M).length)
    (hs : ∀ i j, i < j → j < k → g i ≤ g j) (hp : ((List.range k).map g).Perm ((pk (fun v => decide (0 ≤ mb v ∧ v < mt (ef e) (et e) mb v)) M).map mb)) (hSP : ∀ v, v < M → (SP v = true ↔ AnP M n (ef e) (et e) (ReP M mb ee) v)) :
    BlA M n e g k (lsF (pk SP M)) (pk SP M).length := by
  classical
  have hN := hr.nds
  have htk := hMM.tkn hr hk hs hp
  have hcount : cnt (fun v => decide (mb v = -1)) M + 2 * k = M := by
    have := hMM.count hN
    rw [hk, pk_len]; exact this
  have hin : ∀ v : Nat, In (lsF (pk SP M)) (pk SP M).length (v : Int) ↔ v < M ∧ SP v = true := fun v => by
    constructor
    · rintro ⟨i, hi, ei⟩
      rw [lsF_get hi] at ei
      have := pk_mem.1 (List.getElem_mem hi)
      have e' : (pk SP M)[i] = v := by omega
      rwa [e'] at this
    · intro hv
      obtain ⟨i, hi, e'⟩ := List.mem_iff_getElem.1 (pk_mem.2 hv)
      exact ⟨i, hi, by rw [lsF_get hi, e']⟩
  refine ⟨⟨htk, pk_ris, ?_⟩, fun v => ?_, fun b' hb' => ?_, ⟨mb, hMM, hcount⟩⟩
  · have h1 := h.odd hr hMM (W := fun v => decide (In (lsF (pk SP M)) (pk SP M).length (v : Int))) fun v hv => by
      rw [decide_eq_true_iff, hin v, ← hSP v hv]; exact ⟨fun hh => hh.2, fun hh => ⟨hv, hh⟩⟩
    have h2 := barrier_bound (set := lsF (pk SP M)) (q := (pk SP M).length) hr htk
    have h3 : cnt (fun a => @decide (AnP M n (ef e) (et e) (ReP M mb ee) a) (Classical.propDecidable _)) M = (pk SP M).length := by
      rw [pk_len]
      refine cnt_congr fun v hv => ?_
      by_cases hh : SP v = true
      · rw [hh]; exact decide_eq_true ((hSP v hv).1 hh)
      · rw [Bool.eq_false_iff.2 hh]; exact decide_eq_false fun hA => hh ((hSP v hv).2 hA)
    have h4 : cnt (fun v => @decide (mb v = -1) (Classical.propDecidable _)) M = cnt (fun v => decide (mb v = -1)) M := cnt_congr fun x _ => by rw [decide_eq_decide]
    have e5 : oddS (M : Int) n e (lsF (pk SP M)) (pk SP M).length = oddN (M : Int) n e (fun v => @decide (In (lsF (pk SP M)) (pk SP M).length (v : Int)) (Classical.propDecidable _)) := by
      unfold oddS; congr 1
    have e6 : oddN (M : Int) n e (fun v => decide (In (lsF (pk SP M)) (pk SP M).length (v : Int))) = oddS (M : Int) n e (lsF (pk SP M)) (pk SP M).length := by
      rw [e5]
    have e7 : cnt (fun v => decide (mb v = -1)) M = cnt (fun v => @decide (mb v = -1) (Classical.propDecidable _)) M := h4.symm
    omega
  · rw [hin v]
    constructor
    · rintro ⟨hv, hh⟩
      obtain ⟨_, h1, i, hi, h2⟩ := (hSP v hv).1 hh
      exact ⟨hv, fun hd => h1 ((h.dv hN hMM hcount hv).1 hd), i, hi, (h.dv hN hMM hcount (hi.ot.nd hN)).2 h2⟩
    · rintro ⟨hv, h1, i, hi, h2⟩
      exact ⟨hv, (hSP v hv).2 ⟨hv, fun hd => h1 ((h.dv hN hMM hcount hv).2 hd), i, hi, (h.dv hN hMM hcount (hi.ot.nd hN)).1 h2⟩⟩
  · have := (h.least hN hMM hb').1
    omega
end
end Go.Mz

/-
  Walks of layer 17: the two rounds of Solve. First what a look leaves alone, told from any heap on.
-/
namespace Go.Mz

/-- the search's own blocks -/
def Own (Y : LY) (M y : Nat) : Prop := y = Y.sb ∨ y = Y.nb ∨ y = Y.bb ∨ ∃ v, v < M ∧ fpS (Y.sl v).p y

open Classical in
/-- a heap without them -/
noncomputable def gh (H : Hp) (Y : LY) (M : Nat) : Hp := fun b => if Own Y M b then none else H b

section
variable {E : Value → Hp → Prop}
variable {H0 H H' : Hp} {Y : LY} {M n : Nat} {e : Nat → Edg} {nx : Nat → List Nat} {mb : Nat → Int} {v4 v5 v6 v7 : Value} {base ρ : Nat → Nat} {via : Nat → Int} {ev : Nat → Bool} {qp : Option Addr} {qc r : Nat} {Q : List Nat}

theorem gh_own {b : Nat} (h : Own Y M b) : gh H Y M b = none := if_pos h
theorem gh_out {b : Nat} (h : ¬ Own Y M b) : gh H Y M b = H b := if_neg h

theorem BsC.live (h : BsC H0 H Y M n e nx mb v4 v5 v6 v7) {b : Nat} (hb : Own Y M b) : H b ≠ none := by
  rcases hb with rfl | rfl | rfl | ⟨v, hv, hb⟩
  · rw [h.cell]; simp
  · exact h.out.row.live ⟨0, rfl⟩
  · exact h.rb.live ⟨0, rfl⟩
  · exact (h.out.each v hv).live hb

theorem BsC.new (h : BsC H0 H Y M n e nx mb v4 v5 v6 v7) {b : Nat} (hb : Own Y M b) : H0 b = none := by
  rcases hb with rfl | rfl | rfl | ⟨v, hv, hb⟩
  · exact h.fs
  · exact h.out.b0
  · exact h.fb
  · exact h.out.new v hv b hb

theorem Aw.not {y : Nat} (h : Aw Y M y) : ¬ Own Y M y := by
  rintro (hh | hh | hh | ⟨v, hv, hh⟩)
  · exact h.s hh
  · exact h.n hh
  · exact h.b hh
  · exact h.l v hv hh

theorem Aw.of {y : Nat} (h : ¬ Own Y M y) : Aw Y M y := ⟨fun hh => h (.inl hh), fun hh => h (.inr (.inl hh)), fun hh => h (.inr (.inr (.inl hh))), fun v hv hh => h (.inr (.inr (.inr ⟨v, hv, hh⟩)))⟩

/-- told from here on -/
theorem BsC.rebase (h : BsC H0 H Y M n e nx mb v4 v5 v6 v7) : BsC (gh H Y M) H Y M n e nx mb v4 v5 v6 v7 := by
  refine ⟨⟨fun b x hb _ => ?_, fun b hb => ?_⟩, ?_, h.cell, ⟨h.out.row, gh_own (.inr (.inl rfl)), h.out.len, h.out.each, h.out.sep, h.out.out, fun v hv x hx => gh_own (.inr (.inr (.inr ⟨v, hv, hx⟩)))⟩, h.rb, gh_own (.inl rfl), gh_own (.inr (.inr (.inl rfl))), h.d1, h.d2, h.d3, h.d4⟩
  · by_cases ho : Own Y M b
    · rw [gh_own ho] at hb; cases hb
    · rw [gh_out ho] at hb; exact hb
  · by_cases ho : Own Y M b
    · exact gh_own ho
    · rw [gh_out ho]; exact hb
  · intro i hi
    obtain ⟨b, o, e1, hg⟩ := h.ed i hi
    refine ⟨b, o, e1, fun j hj => ?_⟩
    have hno : ¬ Own Y M b := fun ho => h.he.live (b := b) ⟨o, e1⟩ (by omega) (h.new ho)
    rw [← hg j hj]
    simp [Hp.get, gh_out hno]

/-- what is not its own is left alone -/
theorem BsC.step (h : BsC (gh H Y M) H' Y M n e nx mb v4 v5 v6 v7) : Step (Own Y M) H H' :=
  ⟨fun b x hb hn => h.st.keep b x (by rw [gh_out hn]; exact hb) fun hh => hh, fun b hb => by
    by_cases ho : Own Y M b
    · exact (h.live ho hb).elim
    · have := h.st.mono b hb
      rwa [gh_out ho] at this⟩

theorem BsC.coe {xb xv xe : Nat} (h : BsC H0 H { Y with xb := xb, xv := xv, xe := xe } M n e nx mb v4 v5 v6 v7) : BsC H0 H Y M n e nx mb v4 v5 v6 v7 := ⟨h.st, h.he, h.cell, h.out, h.rb, h.fs, h.fb, h.d1, h.d2, h.d3, h.d4⟩

/-- other blocks turned -/
theorem BsC.other {F : Nat → Prop} (h : BsC (gh H Y M) H Y M n e nx mb v4 v5 v6 v7) (s : Step F H H') (hF : ∀ y, F y → ¬ Own Y M y ∧ (0 < n → ¬ fpS Y.ep y)) : BsC (gh H' Y M) H' Y M n e nx mb v4 v5 v6 v7 := by
  refine ⟨⟨fun b x hb _ => ?_, fun b hb => ?_⟩, ?_, s.keep _ _ h.cell fun hh => (hF _ hh).1 (.inl rfl), ⟨h.out.row.keep s fun y hy hh => by rw [fpS_mk] at hy; exact (hF _ hh).1 (.inr (.inl hy)), gh_own (.inr (.inl rfl)), h.out.len, fun v hv => (h.out.each v hv).keep s fun y hy hh => (hF _ hh).1 (.inr (.inr (.inr ⟨v, hv, hy⟩))), h.out.sep, h.out.out, fun v hv x hx => gh_own (.inr (.inr (.inr ⟨v, hv, hx⟩)))⟩,
    h.rb.keep s fun y hy hh => by rw [fpS_mk] at hy; exact (hF _ hh).1 (.inr (.inr (.inl hy))), gh_own (.inl rfl), gh_own (.inr (.inr (.inl rfl))), h.d1, h.d2, h.d3, h.d4⟩
  · by_cases ho : Own Y M b
    · rw [gh_own ho] at hb; cases hb
    · rw [gh_out ho] at hb; exact hb
  · by_cases ho : Own Y M b
    · exact gh_own ho
    · rw [gh_out ho]; exact hb
  · intro i hi
    have hed := h.ed.keep s fun y hy _ hh => (hF _ hh).2 (by omega) hy
    obtain ⟨b, o, e1, hg⟩ := hed i hi
    refine ⟨b, o, e1, fun j hj => ?_⟩
    have hno : ¬ Own Y M b := fun ho => h.he.live (b := b) ⟨o, e1⟩ (by omega) (h.new ho)
    rw [← hg j hj]
    simp [Hp.get, gh_out hno]

/-! ### Certificates -/

/-- a node that no matching can take in as well -/
def Cert (M n : Nat) (fr to : Nat → Nat) (mb : Nat → Int) (u : Nat) : Prop := ∃ T : Nat → Prop, (∀ x, x < M → T x → x ≠ u → 0 ≤ mb x) ∧ ∀ b', MM M n fr to M b' → ∃ x, x < M ∧ T x ∧ b' x < 0

theorem Cert.mono {fr to : Nat → Nat} {mb mb' : Nat → Int} {u : Nat} (h : Cert M n fr to mb u) (hm : ∀ x, x < M → 0 ≤ mb x → 0 ≤ mb' x) : Cert M n fr to mb' u := by
  obtain ⟨T, h1, h2⟩ := h
  exact ⟨T, fun x hx ht hne => hm x hx (h1 x hx ht hne), h2⟩

theorem Clo.cert {fr to : Nat → Nat} {mb via : Nat → Int} (hN : Nds M n fr to) (hMM : MM M n fr to M mb) (C : Clo M n fr to mb r base via ev ρ) : Cert M n fr to mb r := by
  classical
  refine ⟨fun x => ev x = true, fun x hx he hne => (C.T.st x hx he hne).1, fun b' hb' => ?_⟩
  have h1 := C.hung hN hMM hb'
  obtain ⟨x, hx, hh⟩ := cnt_some (p := fun x => @decide (ev x = true ∧ b' x < 0) (Classical.propDecidable _)) (N := M) (by
    have : cnt (fun x => decide (ev x = true ∧ b' x < 0)) M = cnt (fun x => @decide (ev x = true ∧ b' x < 0) (Classical.propDecidable _)) M := cnt_congr fun x _ => by rw [decide_eq_decide]
    omega)
  have := odt hh
  exact ⟨x, hx, this.1, this.2⟩

theorem Tre.root_mem {fr to : Nat → Nat} {mb via : Nat → Int} (hN : Nds M n fr to) (hT : Tre M n fr to mb r base via ev ρ) {y : Nat} {l : List Nat} (hA : AP n fr to mb via y l) : y < M → ev y = true → r ∈ l := by
  induction hA with
  | root h0 =>
    rename_i y
    intro hy hey
    have : y = r := Classical.byContradiction fun hne => by have := (hT.st y hy hey hne).1; omega
    rw [this]; simp
  | step h1 hk he' hl ih =>
    rename_i y k' l2
    intro hy hey
    have hne : y ≠ r := fun e => by rw [e, hT.rb] at h1; omega
    obtain ⟨_, k2, hk2, _, hev, _⟩ := hT.st y hy hey hne
    have := Int.ofNat.inj (hk.symm.trans hk2)
    subst this
    exact List.mem_cons_of_mem _ (ih (he'.ot.nd hN) hev)

/-- a way that was found, turned about -/
theorem Tre.found {fr to : Nat → Nat} {mb via : Nat → Int} (hN : Nds M n fr to) (hMM : MM M n fr to M mb) (hT : Tre M n fr to mb r base via ev ρ) {v i w : Nat} (hv : v < M) (hev : ev v = true) (hi : En n fr to i v) (hw : w = ot fr to i v) (hew : ev w = false) (hbw : mb w = -1) :
    ∃ l, AP n fr to mb (upf via w (i : Int)) v l ∧ ND fr to mb l ∧ (∀ x ∈ l, x < M ∧ x ≠ w) ∧ MM M n fr to M (turnF fr to (upf via w (i : Int)) l mb w) ∧ (∀ x, x < M → 0 ≤ mb x → 0 ≤ turnF fr to (upf via w (i : Int)) l mb w x) ∧ 0 ≤ turnF fr to (upf via w (i : Int)) l mb w r := by
  obtain ⟨l, hl, hD⟩ := hT.pa v hv hev
  have hall := hT.pev hN hl hv hev
  have eiw : En n fr to i w := by rw [hw]; exact hi.ot
  have eo : ot fr to i w = v := by rw [hw, hi.oo]
  have hxw : ∀ x ∈ l, x ≠ w := fun x hx e => by have := (hall x hx).2; rw [e, hew] at this; cases this
  have hmw : ∀ x ∈ l, 0 ≤ mb x → mt fr to mb x ≠ w := fun x hx hb e => by
    obtain ⟨_, _, _, _, _, hbm, _⟩ := hMM.en (hall x hx).1 (by have := (hall x hx).1; omega) hb
    rw [e] at hbm; omega
  have hl' : AP n fr to mb (upf via w (i : Int)) v l := hl.congr fun y hy hb => upf_ne (hmw y hy hb)
  have hMX : MM M n fr to w mb := fun x hx hne => by
    rcases hMM x hx (by omega) with e1 | ⟨j, e1, hj, _, e2⟩
    · exact .inl e1
    · exact .inr ⟨j, e1, hj, fun e => by rw [e] at e2; omega, e2⟩
  obtain ⟨r1, r2, r3, r4⟩ := turn_ok hN hMM hl' hD (fun x hx => (hall x hx).1) (b := mb) (w := w) (fun x hx => ⟨rfl, fun _ => rfl⟩) hMX (fun x hx => ⟨hxw x hx, hmw x hx⟩) upf_same eiw eo.symm
  refine ⟨l, hl', hD, fun x hx => ⟨(hall x hx).1, hxw x hx⟩, r1, fun x hx hb => ?_, (r3 r (hT.root_mem hN hl hv hev)).1⟩
  by_cases hxl : ∃ y ∈ l, x = y ∨ (0 ≤ mb y ∧ x = mt fr to mb y)
  · obtain ⟨y, hy, hh⟩ := hxl
    rcases hh with rfl | ⟨hby, rfl⟩
    · exact (r3 x hy).1
    · exact (r3 y hy).2 hby
  · rw [r4 x (fun e => by rw [e] at hb; omega) fun y hy => ⟨fun e => hxl ⟨y, hy, .inl e⟩, fun hby e => hxl ⟨y, hy, .inr ⟨hby, e⟩⟩⟩]
    exact hb

/-- with a certificate no way is found -/
theorem Cert.none {fr to : Nat → Nat} {mb via : Nat → Int} (hN : Nds M n fr to) (hMM : MM M n fr to M mb) (hc : Cert M n fr to mb r) (hT : Tre M n fr to mb r base via ev ρ) {v i w : Nat} (hv : v < M) (hev : ev v = true) (hi : En n fr to i v) (hw : w = ot fr to i v) (hew : ev w = false) (hbw : mb w = -1) : False := by
  obtain ⟨l, _, _, _, h1, h2, h3⟩ := hT.found hN hMM hv hev hi hw hew hbw
  obtain ⟨T, t1, t2⟩ := hc
  obtain ⟨x, hx, ht, hb⟩ := t2 _ h1
  by_cases hxr : x = r
  · rw [hxr] at hb; omega
  · have := h2 x hx (t1 x hx ht hxr)
    omega
end
end Go.Mz

/-
  Walks of layer 17: Solve.
-/
namespace Go.Mz

section
variable {E : Value → Hp → Prop}
variable {H0 H H' Hq : Hp} {Y : LY} {M n : Nat} {e : Nat → Edg} {mb : Nat → Int} {v4 v5 v6 v7 : Value}

/-- in the second round -/
structure S2 (Hq H' : Hp) (Y : LY) (M n : Nat) (e : Nat → Edg) (mb : Nat → Int) (rb : Nat) (f : Nat → Bool) (mp : Option Addr) (mn mc : Nat) (g : Nat → Int) : Prop where
  c : ∃ v4 v5 v6 v7, BsC (gh H' Y M) H' Y M n e (incs (ef e) (et e) n) mb v4 v5 v6 v7
  rr : Row H' (some ⟨rb, 0, none⟩) M M f
  rm : Row H' mp mn mc g
  fm : ∀ y, fpS mp y → Hq y = none ∧ ¬ Own Y M y ∧ y ≠ rb
  st : Step (fun y => Own Y M y ∨ y = rb) Hq H'
  ro : ¬ Own Y M rb
  re : 0 < n → ¬ fpS Y.ep rb
  le : 0 < n → ∀ y, fpS Y.ep y → Hq y ≠ none

section
variable {rb mn mc : Nat} {f : Nat → Bool} {mp : Option Addr} {g : Nat → Int}

theorem S2.row {H1 : Hp} {f' : Nat → Bool} (h : S2 Hq H' Y M n e mb rb f mp mn mc g) (s : Step (fpS (some ⟨rb, 0, none⟩)) H' H1) (r : Row H1 (some ⟨rb, 0, none⟩) M M f') : S2 Hq H1 Y M n e mb rb f' mp mn mc g := by
  have hF : ∀ y, fpS (some ⟨rb, 0, none⟩) y → y = rb := fun y hy => by rwa [fpS_mk] at hy
  obtain ⟨a, b, c, d, hc⟩ := h.c
  exact ⟨⟨a, b, c, d, hc.other s fun y hy => hF y hy ▸ ⟨h.ro, h.re⟩⟩, r, h.rm.keep s fun y hy hh => (h.fm y hy).2.2 (hF y hh), h.fm, h.st.trans s fun y hy => .inl (.inr (hF y hy)), h.ro, h.re, h.le⟩

theorem S2.mat {H1 : Hp} {mp' : Option Addr} {mn' mc' : Nat} {g' : Nat → Int} (h : S2 Hq H' Y M n e mb rb f mp mn mc g) (s : Step (fpS mp) H' H1) (r : Row H1 mp' mn' mc' g') (hf : ∀ y, fpS mp' y → fpS mp y ∨ H' y = none) : S2 Hq H1 Y M n e mb rb f mp' mn' mc' g' := by
  obtain ⟨a, b, c, d, hc⟩ := h.c
  have hF : ∀ y, fpS mp y → ¬ Own Y M y ∧ (0 < n → ¬ fpS Y.ep y) := fun y hy => ⟨(h.fm y hy).2.1, fun hn he => h.le hn y he (h.fm y hy).1⟩
  exact ⟨⟨a, b, c, d, hc.other s hF⟩, h.rr.keep s fun y hy hh => by rw [fpS_mk] at hy; exact (h.fm y hh).2.2 hy, r, fun y hy => (hf y hy).elim (h.fm y) fun hn => ⟨h.st.mono y hn, fun ho => hc.live ho hn, fun e => h.rr.live ⟨0, rfl⟩ (e ▸ hn)⟩, h.st.trans s fun y hy => .inr (h.fm y hy).1, h.ro, h.re, h.le⟩

theorem S2.keep0 {H1 : Hp} (h : S2 Hq H' Y M n e mb rb f mp mn mc g) (s : Step (fun _ => False) H' H1) : S2 Hq H1 Y M n e mb rb f mp mn mc g := by
  obtain ⟨a, b, c, d, hc⟩ := h.c
  exact ⟨⟨a, b, c, d, hc.other s fun y hy => hy.elim⟩, h.rr.keep s fun _ _ h => h, h.rm.keep s fun _ _ h => h, h.fm, h.st.and s, h.ro, h.re, h.le⟩

/-- after a look -/
theorem S2.look {H1 : Hp} {xb xv xe : Nat} {a b c d : Value} (h : S2 Hq H' Y M n e mb rb f mp mn mc g) (k : BsC (gh H' Y M) H1 { Y with xb := xb, xv := xv, xe := xe } M n e (incs (ef e) (et e) n) mb a b c d) : S2 Hq H1 Y M n e mb rb f mp mn mc g := by
  have k' := k.coe
  have s := k'.step
  exact ⟨⟨a, b, c, d, k'.rebase⟩, h.rr.keep s fun y hy hh => by rw [fpS_mk] at hy; exact h.ro (hy ▸ hh), h.rm.keep s fun y hy hh => (h.fm y hy).2.1 hh, h.fm, h.st.trans s fun y hy => .inl (.inl hy), h.ro, h.re, h.le⟩
end

/-- the closure of Solve: is the far end of an edge reached? -/
theorem blnear {rb s6 c3 r8 v : Nat} {f : Nat → Bool} {i : Nat} {K : Bool → Hp → Prop} {nx : Nat → List Nat} (hB : BsC H0 H Y M n e nx mb v4 v5 v6 v7) (hr : Right (M : Int) n e) (h8 : H r8 = some ⟨[.slice (some ⟨rb, 0, none⟩) M M], 62⟩) (h6 : H s6 = some ⟨[.pointer (some ⟨Y.sb, 0, none⟩)], 67⟩) (h3 : H c3 = some ⟨[.int .i64 (v : Int)], 3⟩)
    (rr : Row H (some ⟨rb, 0, none⟩) M M f) (hi : En n (ef e) (et e) i v) (k : K (f (ot (ef e) (et e) i v)) H) : blossom_Solve_1.call (i : Int) r8 0 s6 0 c3 0 E H K := by
  have hoM := hi.ot.nd hr.nds
  refine blossom_Solve_1.of (blossom_Solve_1.run_eq ?_)
  unfold blossom_Solve_1.run_t
  simp only [get_at h8, get_at h6, get_at h3, List.getElem?_cons_zero, ldS_mk, ldP_mk, ldI_mk]
  refine blother hB hr hi ?_
  simp only [get_at h8, List.getElem?_cons_zero, ldS_mk]
  refine ⟨trivial, ?_⟩
  refine rr.ixB (by omega) (by omega) ?_
  rw [Int.toNat_natCast]; exact k

theorem any_take {p : Nat → Bool} {l : List Nat} {t : Nat} (h : (l.take t).any p = false) (ht : t < l.length) : (l.take (t + 1)).any p = p (l[t]) := by
  rw [List.take_succ_eq_append_getElem ht, List.any_append, h]; simp

/-- does an edge at a node lead to one that is reached? -/
theorem blcontains {rb s6 c3 r8 v : Nat} {f : Nat → Bool} {K : Bool → Hp → Prop} (hB : BsC H0 H Y M n e (incs (ef e) (et e) n) mb v4 v5 v6 v7) (hr : Right (M : Int) n e) (h8 : H r8 = some ⟨[.slice (some ⟨rb, 0, none⟩) M M], 62⟩) (h6 : H s6 = some ⟨[.pointer (some ⟨Y.sb, 0, none⟩)], 67⟩) (h3 : H c3 = some ⟨[.int .i64 (v : Int)], 3⟩)
    (rr : Row H (some ⟨rb, 0, none⟩) M M f) (hv : v < M) (k : K ((incs (ef e) (et e) n v).any fun i => f (ot (ef e) (et e) i v)) H) :
    slices_ContainsFunc.call (Y.sl v).p (incs (ef e) (et e) n v).length (Y.sl v).c 43 [Value.pointer (some ⟨r8, 0, none⟩), Value.pointer (some ⟨s6, 0, none⟩), Value.pointer (some ⟨c3, 0, none⟩)] E H K := by
  have hn1 := hr.n1
  have hol := incs_len (fr := ef e) (to := et e) (i := n) (v := v)
  refine slices_ContainsFunc.of (slices_ContainsFunc.run_eq ?_)
  unfold slices_ContainsFunc.run_t
  refine slices_IndexFunc.of (slices_IndexFunc.run_eq ?_)
  unfold slices_IndexFunc.run_t
  generalize hl : incs (ef e) (et e) n v = l at *
  refine slices_IndexFunc.l1_rule (fun sp sn sc g gk t7 t8 H' => sp = (Y.sl v).p ∧ sn = l.length ∧ g = 43 ∧ gk = [Value.pointer (some ⟨r8, 0, none⟩), Value.pointer (some ⟨s6, 0, none⟩), Value.pointer (some ⟨c3, 0, none⟩)] ∧ t7 = (l.length : Int) ∧ H' = H ∧ ∃ t : Nat, t8 = t ∧ t ≤ l.length ∧ (l.take t).any (fun i => f (ot (ef e) (et e) i v)) = false)
    (fun sp sn sc g gk t7 t8 H' => l.length - t8.toNat) ?_ ⟨rfl, rfl, rfl, rfl, rfl, rfl, 0, rfl, Nat.zero_le _, rfl⟩
  rintro sp sn sc g gk t7 t8 H1 ⟨rfl, rfl, rfl, rfl, rfl, rfl, t, rfl, ht, hno⟩ X hX
  refine slices_IndexFunc.b1_eq ?_
  unfold slices_IndexFunc.b1_t
  refine bc (fun hlt => ?_) fun hge => ?_
  · have htl : t < l.length := by omega
    have he := hB.out.each v hv
    rw [hl] at he
    refine he.rdr.ixI (by omega) (by omega) ?_
    rw [Int.toNat_natCast, lsF_get htl]
    have hi : En n (ef e) (et e) l[t] v := mem_incs.1 (by rw [hl]; exact List.getElem_mem htl)
    refine ⟨rfl, ?_⟩
    show blossom_Solve_1.call ((l[t] : Nat) : Int) r8 0 s6 0 c3 0 E H1 (fun b H_1 => bcase b (K (decide ((0 : Int) ≤ (t : Int))) H_1) (X (slices_IndexFunc.f1 (Y.sl v).p l.length sc 43 [Value.pointer (some ⟨r8, 0, none⟩), Value.pointer (some ⟨s6, 0, none⟩), Value.pointer (some ⟨c3, 0, none⟩)] (l.length : Int) (IntKind.wrap .i64 ((t : Int) + 1))) H_1))
    refine blnear hB hr h8 h6 h3 rr hi ?_
    have hat := any_take hno htl
    refine bcb (fun hh => ?_) fun hh => ?_
    · have : l.any (fun i => f (ot (ef e) (et e) i v)) = true := by
        rw [List.any_eq_true]
        exact ⟨l[t], List.getElem_mem htl, hh⟩
      rw [this] at k
      rw [decide_eq_true (by omega)]
      exact k
    · rw [i64w (by omega) (by omega)]
      exact hX _ _ _ _ _ _ _ _ ⟨rfl, rfl, rfl, rfl, rfl, rfl, t + 1, by omega, by omega, by rw [hat]; exact hh⟩ (by omega)
  · have htl : t = l.length := by omega
    rw [htl, List.take_length] at hno
    rw [hno] at k
    exact k
end
end Go.Mz

/-
  Walks of layer 17: Solve, from its second round on; whole.
-/
namespace Go.Mz

section
variable {E : Value → Hp → Prop}
variable {H0 H H' Hq : Hp} {Y : LY} {M n : Nat} {e : Nat → Edg} {mb : Nat → Int} {v4 v5 v6 v7 : Value}

/-- the pairs of a matching, at their lower ends -/
abbrev LoP (e : Nat → Edg) (mb : Nat → Int) (v : Nat) : Bool := decide (0 ≤ mb v ∧ v < mt (ef e) (et e) mb v)

/-- the set, from what was reached -/
abbrev SeP (e : Nat → Edg) (n : Nat) (f : Nat → Bool) (v : Nat) : Bool := !f v && (incs (ef e) (et e) n v).any fun i => f (ot (ef e) (et e) i v)

/-- the last round: the set -/
theorem blset {rb s6 r8 : Nat} {f : Nat → Bool} {mp : Option Addr} {mc k : Nat} {g : Nat → Int} {K : Option Addr → Nat → Nat → Option Addr → Nat → Nat → Int → Hp → Prop} (hr : Right (M : Int) n e)
    (hS : S2 Hq H Y M n e mb rb f mp k mc g) (h8 : Hq r8 = some ⟨[.slice (some ⟨rb, 0, none⟩) M M], 62⟩) (h6 : Hq s6 = some ⟨[.pointer (some ⟨Y.sb, 0, none⟩)], 67⟩) (n8 : ¬ Own Y M r8 ∧ r8 ≠ rb) (n6 : ¬ Own Y M s6 ∧ s6 ≠ rb)
    (kk : ∀ H' sp sc, Step (fun y => Own Y M y ∨ y = rb) Hq H' → Row H' mp k mc g → Row H' sp (pk (SeP e n f) M).length sc (lsF (pk (SeP e n f) M)) → (∀ y, fpS sp y → H y = none) → K mp k mc sp (pk (SeP e n f) M).length sc 0 H') :
    blossom_Solve.l4 mp k mc none 0 0 s6 r8 (M : Int) 0 E H K := by
  have hM1 := hr.N1
  refine blossom_Solve.l4_rule (fun mp' mn' mc' sp sn sc s6' r8' t111 t112 H' => mp' = mp ∧ mn' = k ∧ mc' = mc ∧ s6' = s6 ∧ r8' = r8 ∧ t111 = (M : Int) ∧ ∃ v : Nat, t112 = v ∧ v ≤ M ∧ sn = (pk (SeP e n f) v).length ∧ S2 Hq H' Y M n e mb rb f mp k mc g ∧ Row H' sp (pk (SeP e n f) v).length sc (lsF (pk (SeP e n f) v)) ∧ (∀ y, fpS sp y → H y = none) ∧ Step (fun _ => False) H H')
    (fun mp' mn' mc' sp sn sc s6' r8' t111 t112 H' => M - t112.toNat) ?_ ⟨rfl, rfl, rfl, rfl, rfl, rfl, 0, rfl, Nat.zero_le _, rfl, hS, Row.nil, fun y h => by rw [fpS_none] at h; exact h.elim, .refl⟩
  rintro mp' mn' mc' sp sn sc s6' r8' t111 t112 H1 ⟨rfl, rfl, rfl, rfl, rfl, rfl, v, rfl, hv, rfl, hS1, rs, fs, s1⟩ X hX
  have hpl : (pk (SeP e n f) v).length ≤ v := by rw [pk_len]; exact cnt_le _ _
  refine blossom_Solve.b4_eq ?_
  unfold blossom_Solve.b4_t
  refine bc (fun hlt => ?_) fun hge => ?_
  · have hvM : v < M := by omega
    refine nwst rfl rfl fun c3 H3 hc3 e3 s3 => ?_
    have hS3 := hS1.keep0 s3
    have h83 := hS3.st.keep _ _ h8 fun hh => hh.elim n8.1 n8.2
    have h63 := hS3.st.keep _ _ h6 fun hh => hh.elim n6.1 n6.2
    have s13 := s1.and s3
    have rs3 := rs.keep s3 fun _ _ h => h
    obtain ⟨a, b, c, d, hB3⟩ := hS3.c
    have next : ∀ {H4 : Hp} {sp' : Option Addr} {sc' : Nat}, S2 Hq H4 Y M n e mb rb f mp' mn' mc' g → Row H4 sp' (pk (SeP e n f) (v + 1)).length sc' (lsF (pk (SeP e n f) (v + 1))) → (∀ y, fpS sp' y → H y = none) → Step (fun _ => False) H H4 → blossom_Solve.j7 mp' mn' mc' sp' (pk (SeP e n f) (v + 1)).length sc' s6' r8' (M : Int) (v : Int) X E H4 K := by
      intro H4 sp' sc' hS4 rs4 fs4 s4
      refine blossom_Solve.j7_eq ?_
      unfold blossom_Solve.j7_t
      rw [i64w (by omega) (by omega)]
      exact hX _ _ _ _ _ _ _ _ _ _ _ ⟨rfl, rfl, rfl, rfl, rfl, rfl, v + 1, by omega, by omega, rfl, hS4, rs4, fs4, s4⟩ (by omega)
    simp only [get_at h83, get_at e3, List.getElem?_cons_zero, ldS_mk, ldI_mk]
    refine hS3.rr.ixB (by omega) (by omega) ?_
    rw [Int.toNat_natCast]
    have skip : SeP e n f v = false → ∀ H4, S2 Hq H4 Y M n e mb rb f mp' mn' mc' g → Row H4 sp (pk (SeP e n f) v).length sc (lsF (pk (SeP e n f) v)) → Step (fun _ => False) H H4 → blossom_Solve.j7 mp' mn' mc' sp (pk (SeP e n f) v).length sc s6' r8' (M : Int) (v : Int) X E H4 K := fun hf H4 hS4 rs4 s4 => by
      have e1 : pk (SeP e n f) (v + 1) = pk (SeP e n f) v := by rw [pk_succ, if_neg (by rw [hf]; decide)]
      have := next (sp' := sp) (sc' := sc) hS4 (by rw [e1]; exact rs4) fs s4
      rwa [e1] at this
    refine bcb (fun hnf => ?_) fun hnf => ?_
    · simp only [get_at h63, get_at e3, List.getElem?_cons_zero, ldP_mk, nn_mk, Nat.zero_add, get_at hB3.cell, List.getElem?_cons_succ, ldS_mk, ldI_mk]
      refine hB3.out.row.rdr.ixS (by omega) (by omega) ?_
      rw [Int.toNat_natCast, hB3.out.len v hvM]
      refine blcontains hB3 hr h83 h63 e3 hS3.rr hvM ?_
      have hfv : f v = false := by simpa using hnf
      refine bcb (fun hany => ?_) fun hany => ?_
      · simp only [get_at e3, List.getElem?_cons_zero, ldI_mk]
        have hse : SeP e n f v = true := by simp only [SeP, hfv, hany]; rfl
        have e1 : pk (SeP e n f) (v + 1) = pk (SeP e n f) v ++ [v] := by rw [pk_succ, if_pos hse]
        have hl1 : (pk (SeP e n f) v).length + 1 = (pk (SeP e n f) (v + 1)).length := by rw [e1]; simp
        refine rs3.appI _ (by omega) fun p6 c6 H6 r6 s6' f6 => ?_
        rw [lsF_app, ← e1] at r6
        rw [hl1] at r6 ⊢
        have hn : ∀ y, fpS sp y → ¬ (Own Y M y ∨ y = rb) ∧ (0 < n → ¬ fpS Y.ep y) ∧ ¬ fpS mp' y := fun y hy => by
          have h0 := fs y hy
          have hq := hS.st.mono y h0
          obtain ⟨a, b, c, d, hB⟩ := hS.c
          exact ⟨fun hh => hh.elim (fun ho => hB.live ho h0) fun e => hS.rr.live ⟨0, rfl⟩ (e ▸ h0), fun hn he => hS.le hn y he hq, fun hm => hS.rm.live hm h0⟩
        have hS6 : S2 Hq H6 Y M n e mb rb f mp' mn' mc' g := by
          refine ⟨⟨a, b, c, d, hB3.other s6' fun y hy => ⟨fun ho => (hn y hy).1 (.inl ho), (hn y hy).2.1⟩⟩, hS3.rr.keep s6' fun y hy hh => by rw [fpS_mk] at hy; exact (hn y hh).1 (.inr hy), hS3.rm.keep s6' fun y hy hh => (hn y hh).2.2 hy, hS3.fm, hS3.st.trans s6' fun y hy => .inr (hS.st.mono y (fs y hy)), hS3.ro, hS3.re, hS3.le⟩
        exact next hS6 r6 (fun y hy => (f6 y hy).elim (fs y) (s13.mono y)) (s13.own s6' fs)
      · have hse : SeP e n f v = false := by simp only [SeP, hany]; simp
        exact skip hse H3 hS3 rs3 s13
    · have hse : SeP e n f v = false := by
        have : f v = true := by simpa using hnf
        simp only [SeP, this]; simp
      exact skip hse H3 hS3 rs3 s13
  · clear hX
    have hvM : v = M := by omega
    subst hvM
    refine blossom_Solve.j8_eq ?_
    unfold blossom_Solve.j8_t
    exact kk H1 sp sc hS1.st hS1.rm rs fs
end
end Go.Mz

/-
  Walks of layer 17: Solve, whole.
-/
namespace Go.Mz

section
variable {E : Value → Hp → Prop}
variable {H0 H H' Hq : Hp} {Y : LY} {M n : Nat} {e : Nat → Edg} {mb : Nat → Int} {v4 v5 v6 v7 : Value}

/-- what the second round knows before a node -/
structure R2 (M n : Nat) (e : Nat → Edg) (mb : Nat → Int) (f : Nat → Bool) (v : Nat) (ba : Nat → Nat → Nat) (vi : Nat → Nat → Int) (ee : Nat → Nat → Bool) (rh : Nat → Nat → Nat) : Prop where
  clo : ∀ r, r < v → mb r = -1 → Clo M n (ef e) (et e) mb r (ba r) (vi r) (ee r) (rh r)
  rf : ∀ u, u < M → (f u = true ↔ ∃ r, r < v ∧ mb r = -1 ∧ ee r u = true)

theorem blround2 {b1 rb s6 r8 : Nat} {ep : Option Addr} {ec : Nat} {K : Option Addr → Nat → Nat → Option Addr → Nat → Nat → Int → Hp → Prop} (hr : Right (M : Int) n e) (hMM : MM M n (ef e) (et e) M mb) (hcert : ∀ u, u < M → mb u = -1 → Cert M n (ef e) (et e) mb u)
    (hS : S2 H H Y M n e mb rb (fun _ => false) none 0 0 fun i => mb (([] : List Nat).getD i 0)) (h1 : H b1 = some ⟨[.int .i64 (M : Int), .slice ep n ec], 24⟩) (h8 : H r8 = some ⟨[.slice (some ⟨rb, 0, none⟩) M M], 62⟩) (h6 : H s6 = some ⟨[.pointer (some ⟨Y.sb, 0, none⟩)], 67⟩) (n1 : ¬ Own Y M b1 ∧ b1 ≠ rb) (n8 : ¬ Own Y M r8 ∧ r8 ≠ rb) (n6 : ¬ Own Y M s6 ∧ s6 ≠ rb)
    (kk : ∀ H' mp mn mc g sp sn sc cv, Step (fun y => Own Y M y ∨ y = rb) H H' → Row H' mp mn mc g → Row H' sp sn sc cv → (∀ y, fpS mp y → H y = none) → (∀ y, fpS sp y → H y = none) → (∀ y, fpS sp y → ¬ fpS mp y) → BlA M n e g mn cv sn → K mp mn mc sp sn sc 0 H') :
    blossom_Solve.l2 b1 none 0 0 none 0 0 s6 r8 (M : Int) 0 E H K := by
  have hM1 := hr.N1
  have hN := hr.nds
  refine blossom_Solve.l2_rule (fun g1 mp mn mc sp sn sc s6' r8' t46 t47 H' => g1 = b1 ∧ sp = none ∧ sn = 0 ∧ sc = 0 ∧ s6' = s6 ∧ r8' = r8 ∧ t46 = (M : Int) ∧ ∃ (v : Nat) (f : Nat → Bool) (ba : Nat → Nat → Nat) (vi : Nat → Nat → Int) (ee : Nat → Nat → Bool) (rh : Nat → Nat → Nat), t47 = v ∧ v ≤ M ∧ mn = (pk (LoP e mb) v).length ∧ S2 H H' Y M n e mb rb f mp (pk (LoP e mb) v).length mc (fun i => mb ((pk (LoP e mb) v).getD i 0)) ∧ R2 M n e mb f v ba vi ee rh)
    (fun g1 mp mn mc sp sn sc s6' r8' t46 t47 H' => M - t47.toNat) ?_ ⟨rfl, rfl, rfl, rfl, rfl, rfl, rfl, 0, _, fun _ v => v, fun _ _ => 0, fun _ _ => false, fun _ _ => 0, rfl, Nat.zero_le _, rfl, hS, ⟨fun r hr => by omega, fun u hu => ⟨fun h => (by cases h), fun ⟨r, hr, _⟩ => by omega⟩⟩⟩
  rintro g1 mp mn mc sp sn sc s6' r8' t46 t47 H1 ⟨rfl, rfl, rfl, rfl, rfl, rfl, rfl, v, f, ba, vi, ee, rh, rfl, hv, rfl, hS1, hR⟩ X hX
  have h81 := hS1.st.keep _ _ h8 fun hh => hh.elim n8.1 n8.2
  have h61 := hS1.st.keep _ _ h6 fun hh => hh.elim n6.1 n6.2
  have h11 := hS1.st.keep _ _ h1 fun hh => hh.elim n1.1 n1.2
  have hpl : (pk (LoP e mb) v).length ≤ v := by rw [pk_len]; exact cnt_le _ _
  refine blossom_Solve.b2_eq ?_
  unfold blossom_Solve.b2_t
  refine bc (fun hlt => ?_) fun hge => ?_
  · have hvM : v < M := by omega
    -- then the pair at this node, if it is the lower end
    have pair : ∀ {H2 : Hp} {f' : Nat → Bool} {ba' : Nat → Nat → Nat} {vi' : Nat → Nat → Int} {ee' : Nat → Nat → Bool} {rh' : Nat → Nat → Nat}, S2 H H2 Y M n e mb rb f' mp (pk (LoP e mb) v).length mc (fun i => mb ((pk (LoP e mb) v).getD i 0)) → R2 M n e mb f' (v + 1) ba' vi' ee' rh' → blossom_Solve.j4 g1 mp (pk (LoP e mb) v).length mc none 0 0 s6' r8' (v : Int) (M : Int) (v : Int) X E H2 K := by
      intro H2 f' ba' vi' ee' rh' hS2 hR2
      have h62 := hS2.st.keep _ _ h6 fun hh => hh.elim n6.1 n6.2
      obtain ⟨a, b, c, d, hB2⟩ := hS2.c
      have next : ∀ {H3 : Hp} {mp' : Option Addr} {mc' : Nat}, S2 H H3 Y M n e mb rb f' mp' (pk (LoP e mb) (v + 1)).length mc' (fun i => mb ((pk (LoP e mb) (v + 1)).getD i 0)) → blossom_Solve.j5 g1 mp' (pk (LoP e mb) (v + 1)).length mc' none 0 0 s6' r8' (M : Int) (v : Int) X E H3 K := by
        intro H3 mp' mc' hS3
        refine blossom_Solve.j5_eq ?_
        unfold blossom_Solve.j5_t
        rw [i64w (by omega) (by omega)]
        exact hX _ _ _ _ _ _ _ _ _ _ _ _ ⟨rfl, rfl, rfl, rfl, rfl, rfl, rfl, v + 1, f', ba', vi', ee', rh', by omega, by omega, rfl, hS3, hR2⟩ (by omega)
      have skip : LoP e mb v = false → blossom_Solve.j5 g1 mp (pk (LoP e mb) v).length mc none 0 0 s6' r8' (M : Int) (v : Int) X E H2 K := fun hf => by
        have e1 : pk (LoP e mb) (v + 1) = pk (LoP e mb) v := by rw [pk_succ, if_neg (by rw [hf]; decide)]
        have := next (mp' := mp) (mc' := mc) (by rw [e1]; exact hS2)
        rwa [e1] at this
      refine blossom_Solve.j4_eq ?_
      unfold blossom_Solve.j4_t
      simp only [get_at h62, List.getElem?_cons_zero, ldP_mk, nn_mk, Nat.zero_add, get_at hB2.cell, List.getElem?_cons_succ, ldS_mk]
      refine hB2.rb.ixI (by omega) (by omega) ?_
      rw [Int.toNat_natCast]
      refine bc (fun hpos => ?_) fun hneg => skip (decide_eq_false fun hh => hneg hh.1)
      obtain ⟨j, ej, hj, em, _, hbm, hmm⟩ := hMM.en hvM (by omega) hpos
      try simp only [get_at h62, List.getElem?_cons_zero, ldP_mk, nn_mk, Nat.zero_add, get_at hB2.cell, List.getElem?_cons_succ, ldS_mk]
      refine blmate hB2 hr hj ej ?_
      refine bc (fun hlow => ?_) fun hlow => skip (decide_eq_false fun hh => hlow (by have := hh.2; omega))
      simp only [get_at h62, List.getElem?_cons_zero, ldP_mk, nn_mk, Nat.zero_add, get_at hB2.cell, List.getElem?_cons_succ, ldS_mk]
      refine hB2.rb.ixI (by omega) (by omega) ?_
      rw [Int.toNat_natCast]
      have hlo : LoP e mb v = true := decide_eq_true ⟨hpos, by omega⟩
      have e1 : pk (LoP e mb) (v + 1) = pk (LoP e mb) v ++ [v] := by rw [pk_succ, if_pos hlo]
      have hl1 : (pk (LoP e mb) v).length + 1 = (pk (LoP e mb) (v + 1)).length := by rw [e1]; simp
      refine hS2.rm.appI _ (by omega) fun p3 c3 H3 r3 s3 f3 => ?_
      rw [hl1] at r3 ⊢
      refine next (hS2.mat s3 (r3.congr fun i hi => ?_) f3)
      rw [e1]
      by_cases ei : i = (pk (LoP e mb) v).length
      · subst ei; rw [upf_same]; simp
      · rw [upf_ne ei]
        have : i < (pk (LoP e mb) v).length := by omega
        simp [List.getElem?_append_left this]
    obtain ⟨a, b, c, d, hB1⟩ := hS1.c
    simp only [get_at h61, List.getElem?_cons_zero, ldP_mk, nn_mk, Nat.zero_add, get_at hB1.cell, List.getElem?_cons_succ, ldS_mk]
    refine hB1.rb.ixI (by omega) (by omega) ?_
    rw [Int.toNat_natCast]
    refine bc (fun hneg => ?_) fun hpos => ?_
    · have hm1 : mb v = -1 := hMM.neg hvM (by omega) hneg
      try simp only [get_at h61, List.getElem?_cons_zero, ldP_mk]
      refine blgrow hB1 hr hMM hvM hm1 (fun H2 xb xv xe base via ev ρ qp qc Q hB2 hC => ?_) fun H2 xb xv xe base via ev ρ qp qc Q v' i w hB2 hT hv' hev hi hw hew hvw hbw => ((hcert v hvM hm1).none hN hMM hT hv' hev hi hw hew hbw).elim
      have hS2 := hS1.look hB2.c
      have h62 := hS2.st.keep _ _ h6 fun hh => hh.elim n6.1 n6.2
      have h82 := hS2.st.keep _ _ h8 fun hh => hh.elim n8.1 n8.2
      have cell2 := hB2.c.cell
      simp only at cell2
      simp only [get_at h62, List.getElem?_cons_zero, ldP_mk, nn_mk, Nat.zero_add, get_at cell2, List.getElem?_cons_succ, ldS_mk]
      have hxr : xe ≠ rb := fun hh => by
        have h1 := hB2.fe
        simp only at h1
        rw [hh, gh_out hS1.ro] at h1
        exact hS1.rr.live ⟨0, rfl⟩ h1
      have re2 : Row H2 (some ⟨xe, 0, none⟩) M M ev := hB2.rev
      -- the look's nodes are reached
      refine blossom_Solve.l3_rule (fun g1' mp' mn' mc' sp sn sc s6'' r8'' v9 t46 t47 tp tn tc t65 t66 H' => g1' = g1 ∧ mp' = mp ∧ mn' = (pk (LoP e mb) v).length ∧ mc' = mc ∧ sp = none ∧ sn = 0 ∧ sc = 0 ∧ s6'' = s6' ∧ r8'' = r8' ∧ v9 = (v : Int) ∧ t46 = (M : Int) ∧ t47 = (v : Int) ∧ tp = some ⟨xe, 0, none⟩ ∧ tn = M ∧ t65 = (M : Int) ∧
          ∃ (i : Nat) (f1 : Nat → Bool), t66 = i ∧ i ≤ M ∧ S2 H H' Y M n e mb rb f1 mp (pk (LoP e mb) v).length mc (fun i => mb ((pk (LoP e mb) v).getD i 0)) ∧ Row H' (some ⟨xe, 0, none⟩) M M ev ∧ ∀ u, u < M → f1 u = (f u || (decide (u < i) && ev u)))
        (fun g1' mp' mn' mc' sp sn sc s6'' r8'' v9 t46 t47 tp tn tc t65 t66 H' => M - t66.toNat) ?_ ⟨rfl, rfl, rfl, rfl, rfl, rfl, rfl, rfl, rfl, rfl, rfl, rfl, rfl, rfl, rfl, 0, f, rfl, Nat.zero_le _, hS2, re2, fun u hu => by simp⟩
      rintro g1' mp' mn' mc' sp sn sc s6'' r8'' v9 t46 t47 tp tn tc t65 t66 H3 ⟨rfl, rfl, rfl, rfl, rfl, rfl, rfl, rfl, rfl, rfl, rfl, rfl, rfl, e14, rfl, i, f1, rfl, hi, hS3, re3, hf1⟩ X3 hX3
      have h83 := hS3.st.keep _ _ h8 fun hh => hh.elim n8.1 n8.2
      refine blossom_Solve.b3_eq ?_
      unfold blossom_Solve.b3_t
      rw [e14] at *
      refine bc (fun hlt3 => ?_) fun hge3 => ?_
      · have hiM : i < M := by omega
        refine re3.ixB (by omega) (by omega) ?_
        rw [Int.toNat_natCast]
        simp only [get_at h83, List.getElem?_cons_zero, ldS_mk]
        refine hS3.rr.ixB (by omega) (by omega) ?_
        rw [Int.toNat_natCast]
        have fin : ∀ (x : Bool) (H4 : Hp), x = (f i || ev i) → Row H4 (some ⟨rb, 0, none⟩) M M (upf f1 i x) → Step (fpS (some ⟨rb, 0, none⟩)) H3 H4 → blossom_Solve.j3 g1' mp' (pk (LoP e mb) v).length mc' none 0 0 s6'' r8'' (v : Int) (M : Int) (v : Int) (some ⟨xe, 0, none⟩) M tc (M : Int) (i : Int) X X3 E H4 K := fun x H4 hx r4 s4 => by
          refine blossom_Solve.j3_eq ?_
          unfold blossom_Solve.j3_t
          rw [i64w (by omega) (by omega)]
          refine hX3 _ _ _ _ _ _ _ _ _ _ _ _ _ _ _ _ _ _ ⟨rfl, rfl, rfl, rfl, rfl, rfl, rfl, rfl, rfl, rfl, rfl, rfl, rfl, rfl, rfl, i + 1, _, by omega, by omega, hS3.row s4 r4, re3.keep s4 fun y hy hh => by rw [fpS_mk] at hy hh; exact hxr (hy.symm.trans hh), fun u hu => ?_⟩ (by omega)
          by_cases eu : u = i
          · rw [eu, upf_same, hx]; simp
          · rw [upf_ne eu, hf1 u hu]
            have : decide (u < i) = decide (u < i + 1) := by rw [decide_eq_decide]; omega
            rw [this]
        have hfi : f1 i = f i := by rw [hf1 i hiM]; simp
        refine bcb (fun hh => ?_) fun hh => ?_
        · refine hS3.rr.stB (by omega) (by omega) _ fun H4 r4 s4 => ?_
          rw [Int.toNat_natCast] at r4
          exact fin true H4 (by rw [← hfi, hh]; rfl) r4 s4
        · refine hS3.rr.stB (by omega) (by omega) _ fun H4 r4 s4 => ?_
          rw [Int.toNat_natCast] at r4
          exact fin (ev i) H4 (by rw [← hfi, hh]; rfl) r4 s4
      · clear hX3
        have hiM : i = M := by omega
        refine pair (ba' := upf ba v base) (vi' := upf vi v via) (ee' := upf ee v ev) (rh' := upf rh v ρ) hS3 ⟨fun r hr hrb => ?_, fun u hu => ?_⟩
        · by_cases e' : r = v
          · subst e'; simp only [upf_same]; exact hC
          · simp only [upf_ne e']; exact hR.clo r (by omega) hrb
        · rw [hf1 u hu, Bool.or_eq_true, hR.rf u hu]
          constructor
          · rintro (⟨r, h1, h2, h3⟩ | h3)
            · exact ⟨r, by omega, h2, by rw [upf_ne (by omega)]; exact h3⟩
            · exact ⟨v, by omega, hm1, by rw [upf_same]; simpa [hu, hiM] using h3⟩
          · rintro ⟨r, h1, h2, h3⟩
            by_cases e' : r = v
            · subst e'; rw [upf_same] at h3
              right; simp [hiM, hu, h3]
            · rw [upf_ne e'] at h3; exact .inl ⟨r, by omega, h2, h3⟩
    · refine pair hS1 ⟨fun r hr hrb => hR.clo r (by
        have : r ≠ v := fun e' => by rw [e'] at hrb; omega
        omega) hrb, fun u hu => ?_⟩
      rw [hR.rf u hu]
      constructor
      · rintro ⟨r, h1, h2, h3⟩; exact ⟨r, by omega, h2, h3⟩
      · rintro ⟨r, h1, h2, h3⟩
        have : r ≠ v := fun e' => by rw [e'] at h2; omega
        exact ⟨r, by omega, h2, h3⟩
  · clear hX
    have hvM : v = M := by omega
    subst hvM
    refine blossom_Solve.j6_eq ?_
    unfold blossom_Solve.j6_t
    have hmap : (List.range (pk (LoP e mb) v).length).map (fun i => mb ((pk (LoP e mb) v).getD i 0)) = (pk (LoP e mb) v).map mb := by
      refine List.ext_getElem (by simp) fun i a b => ?_
      have h3 : i < (pk (LoP e mb) v).length := by simpa using b
      simp [List.getElem?_eq_getElem h3]
    refine sortI hS1.rm (by omega) fun H2 g r2 s2 hs hp => ?_
    rw [hmap] at hp
    have hS2 := hS1.mat s2 r2 fun y hy => .inl hy
    have h12 := hS2.st.keep _ _ h1 fun hh => hh.elim n1.1 n1.2
    simp only [get_at h12, List.getElem?_cons_zero, ldI_mk]
    refine blset hr hS2 h8 h6 n8 n6 fun H3 sp sc s3 rm3 rs3 fs3 => ?_
    have hfam : Fam v n (ef e) (et e) mb ba vi ee rh := ⟨hR.clo⟩
    have hans := bl_answer hr hMM hfam (g := g) (k := (pk (LoP e mb) v).length) (SP := SeP e n f) rfl hs hp fun u hu => by
      simp only [SeP, Bool.and_eq_true, Bool.not_eq_true', List.any_eq_true]
      have hre : ∀ x, x < v → (f x = true ↔ ReP v mb ee x) := fun x hx => hR.rf x hx
      constructor
      · rintro ⟨h1, i, h2, h3⟩
        have hi := mem_incs.1 h2
        exact ⟨hu, fun hh => (by rw [(hre u hu).2 hh] at h1; cases h1), i, hi, (hre _ (hi.ot.nd hN)).1 h3⟩
      · rintro ⟨_, h1, i, hi, h2⟩
        exact ⟨Bool.eq_false_iff.2 fun hh => h1 ((hre u hu).1 hh), i, mem_incs.2 hi, (hre _ (hi.ot.nd hN)).2 h2⟩
    exact kk H3 mp _ mc g sp _ sc _ s3 rm3 rs3 (fun y hy => (hS2.fm y hy).1) (fun y hy => hS2.st.mono y (fs3 y hy)) (fun y hy hm => hS2.rm.live hm (fs3 y hy)) hans

/-- Solve of a right graph -/
theorem blsolve {ep : Option Addr} {ec : Nat} {K : Option Addr → Nat → Nat → Option Addr → Nat → Nat → Int → Hp → Prop} (he : Rdr H ep n e) (hr : Right (M : Int) n e)
    (kk : ∀ H' mp mn mc g sp sn sc cv, Step (fun _ => False) H H' → Row H' mp mn mc g → Row H' sp sn sc cv → (∀ y, fpS mp y → H y = none) → (∀ y, fpS sp y → H y = none) → (∀ y, fpS sp y → ¬ fpS mp y) → BlA M n e g mn cv sn → K mp mn mc sp sn sc 0 H') :
    blossom_Solve.call (M : Int) ep n ec E H K := by
  have hM1 := hr.N1
  have hn1 := hr.n1
  have hN := hr.nds
  refine blossom_Solve.of (blossom_Solve.run_eq ?_)
  unfold blossom_Solve.run_t
  refine nwk fun b1 H1 hb1 e1 s1 => ?_
  simp only [get_at e1, List.getElem?_cons_zero, List.getElem?_cons_succ, ldI_mk, ldS_mk]
  refine gcheck (he.keep s1 fun _ _ _ h => h) (by omega) fun H2 a s2 => ?_
  have e12 := s2.keep _ _ e1 fun h => h
  have s02 := s1.and s2
  rw [chk_zero.2 hr]
  refine nwst rfl rfl fun b2 H4 hb2 e2 s4 => ?_
  have e14 := s4.keep _ _ e12 fun h => h
  have s04 := s02.and s4
  simp only [get_at e2, get_at e14, List.getElem?_cons_zero, List.getElem?_cons_succ, ldI_mk, ldS_mk]
  refine bcn (fun h => (h trivial).elim) fun _ => ?_
  try simp only [get_at e2, get_at e14, List.getElem?_cons_zero, List.getElem?_cons_succ, ldI_mk, ldS_mk]
  have he4 := he.keep s04 fun _ _ _ h => h
  refine blnew he4 hr fun H5 Y hB5 => ?_
  have s05 := s04.and hB5.st
  refine nwst rfl rfl fun b3 H7 hb3 e3 s7 => ?_
  have hB7 := (hB5.rebase).other s7 fun y hy => hy.elim
  have s07 := s05.and s7
  have e17 := s7.keep _ _ (hB5.st.keep _ _ e14 fun h => h) fun h => h
  have ownN : ∀ y, Own Y M y → H y = none := fun y hy => s04.mono y (hB5.new hy)
  have no1 : ¬ Own Y M b1 := fun hh => by have := hB5.new hh; rw [e14] at this; cases this
  have no3 : ¬ Own Y M b3 := fun hh => hB5.live hh hb3
  simp only [get_at e17, List.getElem?_cons_zero, List.getElem?_cons_succ, ldI_mk, ldS_mk]
  -- the first round
  refine blossom_Solve.l1_rule (fun g1 mp mn mc sp sn sc s6 t24 t25 H' => g1 = b1 ∧ mp = none ∧ mn = 0 ∧ mc = 0 ∧ sp = none ∧ sn = 0 ∧ sc = 0 ∧ s6 = b3 ∧ t24 = (M : Int) ∧ ∃ (v : Nat) (mb : Nat → Int) (a b c d : Value), t25 = v ∧ v ≤ M ∧ BsC (gh H' Y M) H' Y M n e (incs (ef e) (et e) n) mb a b c d ∧ MM M n (ef e) (et e) M mb ∧ (∀ u, u < v → mb u = -1 → Cert M n (ef e) (et e) mb u) ∧ Step (Own Y M) H7 H')
    (fun g1 mp mn mc sp sn sc s6 t24 t25 H' => M - t25.toNat) ?_ ⟨rfl, rfl, rfl, rfl, rfl, rfl, rfl, rfl, rfl, 0, _, _, _, _, _, rfl, Nat.zero_le _, hB7, MM.none, fun u hu => by omega, .refl⟩
  rintro g1 mp mn mc sp sn sc s6 t24 t25 H8 ⟨rfl, rfl, rfl, rfl, rfl, rfl, rfl, rfl, rfl, v, mb, a1, a2, a3, a4, rfl, hv, hB8, hMM, hcert, s8⟩ X hX
  have e38 := s8.keep _ _ e3 no3
  have e18 := s8.keep _ _ e17 no1
  refine blossom_Solve.b1_eq ?_
  unfold blossom_Solve.b1_t
  refine bc (fun hlt => ?_) fun hge => ?_
  · have hvM : v < M := by omega
    have next : ∀ {H9 : Hp} {mb' : Nat → Int} {c1 c2 c3 c4 : Value}, BsC (gh H9 Y M) H9 Y M n e (incs (ef e) (et e) n) mb' c1 c2 c3 c4 → MM M n (ef e) (et e) M mb' → (∀ u, u < v + 1 → mb' u = -1 → Cert M n (ef e) (et e) mb' u) → Step (Own Y M) H8 H9 → blossom_Solve.j1 g1 none 0 0 none 0 0 s6 (M : Int) (v : Int) X E H9 K := by
      intro H9 mb' c1 c2 c3 c4 hB9 hMM9 hc9 s9
      refine blossom_Solve.j1_eq ?_
      unfold blossom_Solve.j1_t
      rw [i64w (by omega) (by omega)]
      exact hX _ _ _ _ _ _ _ _ _ _ _ ⟨rfl, rfl, rfl, rfl, rfl, rfl, rfl, rfl, rfl, v + 1, mb', c1, c2, c3, c4, by omega, by omega, hB9, hMM9, hc9, s8.trans s9 fun _ h => .inl h⟩ (by omega)
    simp only [get_at e38, List.getElem?_cons_zero, ldP_mk, nn_mk, Nat.zero_add, get_at hB8.cell, List.getElem?_cons_succ, ldS_mk]
    refine hB8.rb.ixI (by omega) (by omega) ?_
    rw [Int.toNat_natCast]
    refine bc (fun hneg => ?_) fun hpos => ?_
    · have hm1 : mb v = -1 := hMM.neg hvM (by omega) hneg
      try simp only [get_at e38, List.getElem?_cons_zero, ldP_mk]
      refine blgrow hB8 hr hMM hvM hm1 (fun H9 xb xv xe base via ev ρ qp qc Q hB9 hC => ?_) fun H9 xb xv xe base via ev ρ qp qc Q v' i w hB9 hT hv' hev hi hw hew hvw hbw => ?_
      · have k9 := hB9.c.coe
        have s9 := k9.step
        have e39 := s9.keep _ _ e38 no3
        simp only [get_at e39, List.getElem?_cons_zero, ldP_mk]
        refine ⟨trivial, blturn0 ?_⟩
        refine next k9.rebase hMM (fun u hu hub => ?_) s9
        by_cases euv : u = v
        · rw [euv]; exact hC.cert hN hMM
        · exact hcert u (by omega) hub
      · have k9 := hB9.c.coe
        have s9 := k9.step
        have e39 := s9.keep _ _ e38 no3
        simp only [get_at e39, List.getElem?_cons_zero, ldP_mk]
        obtain ⟨l, hl, hD, hll, hM', hkeep, hroot⟩ := hT.found hN hMM hv' hev hi hw hew hbw
        have eiw : En n (ef e) (et e) i w := by rw [hw]; exact hi.ot
        have eo : v' = ot (ef e) (et e) i w := by rw [hw, hi.oo]
        refine ⟨trivial, ?_⟩
        refine blturn (Y := { Y with xb := xb, xv := xv, xe := xe }) hB9 hr hMM hl hD hll upf_same eiw eo fun H10 hB10 => ?_
        have k10 := hB10.c.coe
        have s10 := k10.step
        refine next k10.rebase hM' (fun u hu hub => ?_) s10
        have hu' : mb u = -1 := by
          refine Classical.byContradiction fun hn => ?_
          have h0 : 0 ≤ mb u := Classical.byContradiction fun h' => hn (hMM.neg (by omega) (by omega) (by omega))
          have := hkeep u (by omega) h0
          omega
        by_cases euv : u = v
        · rw [euv] at hub; omega
        · exact (hcert u (by omega) hu').mono hkeep
    · refine next hB8 hMM (fun u hu hub => hcert u ?_ hub) .refl
      have : u ≠ v := fun e' => by rw [e'] at hub; omega
      omega
  · clear hX
    have hvM : v = M := by omega
    subst hvM
    refine blossom_Solve.j2_eq ?_
    unfold blossom_Solve.j2_t
    simp only [get_at e18, List.getElem?_cons_zero, ldI_mk]
    refine Row.mkB (by omega) (by omega) fun rb H9 hrb rr s9 => ?_
    rw [Int.toNat_natCast] at rr ⊢
    refine nwst rfl rfl fun b5 H11 hb5 e5 s11 => ?_
    have s811 := s9.and s11
    have hB11 := hB8.other s811 fun y hy => hy.elim
    have e111 := s811.keep _ _ e18 fun h => h
    have e311 := s811.keep _ _ e38 fun h => h
    simp only [get_at e111, List.getElem?_cons_zero, ldI_mk]
    have rr11 := rr.keep s11 fun _ _ h => h
    have nrb : ¬ Own Y v rb := fun hh => hB8.live hh hrb
    have nb5 : ¬ Own Y v b5 := fun hh => (hB8.other s9 fun y hy => hy.elim).live hh hb5
    have live8 : ∀ {b : Nat} {x : Blk}, H8 b = some x → b ≠ rb := fun h h' => by rw [h', hrb] at h; cases h
    have d5 : b5 ≠ rb := fun h => rr.live ⟨0, rfl⟩ (h ▸ hb5)
    have hep : 0 < n → ∀ y, fpS Y.ep y → H8 y ≠ none := fun hn y hy => hB8.ed.live hy hn
    refine blround2 (rb := rb) (ep := ep) (ec := ec) hr hMM (fun u hu hub => hcert u hu hub) ⟨⟨_, _, _, _, hB11⟩, rr11, Row.nil, fun y h => by rw [fpS_none] at h; exact h.elim, .refl, nrb, fun hn hh => hep hn rb hh hrb, fun hn y hy => s811.live (hep hn y hy)⟩ e111 e5 e311 ⟨no1, live8 e18⟩ ⟨nb5, d5⟩ ⟨no3, live8 e38⟩ fun H12 mp mn mc g sp sn sc cv s12 r1 r2 f1 f2 f12 hA => ?_
    have s011 : Step (fun _ => False) H H11 := ((s07.own s8 ownN).and s811)
    exact kk H12 mp mn mc g sp sn sc cv (s011.own s12 fun y hy => hy.elim (ownN y) fun e' => e' ▸ (s07.own s8 ownN).mono _ hrb) r1 r2 (fun y hy => s011.mono y (f1 y hy)) (fun y hy => s011.mono y (f2 y hy)) f12 hA

/-- Solve of what is refused -/
theorem blrefuse {N : Int} {ep : Option Addr} {ec : Nat} {K : Option Addr → Nat → Nat → Option Addr → Nat → Nat → Int → Hp → Prop} (he : Rdr H ep n e) (hn : n < 2 ^ 63) (hz : chk N n e ≠ 0)
    (kk : ∀ H', Step (fun _ => False) H H' → K none 0 0 none 0 0 (chk N n e) H') : blossom_Solve.call N ep n ec E H K := by
  refine blossom_Solve.of (blossom_Solve.run_eq ?_)
  unfold blossom_Solve.run_t
  refine nwk fun b1 H1 hb1 e1 s1 => ?_
  simp only [get_at e1, List.getElem?_cons_zero, List.getElem?_cons_succ, ldI_mk, ldS_mk]
  refine gcheck (he.keep s1 fun _ _ _ h => h) hn fun H2 a s2 => ?_
  refine nwst rfl rfl fun b2 H4 hb2 e2 s4 => ?_
  simp only [get_at e2, List.getElem?_cons_zero, List.getElem?_cons_succ, ldI_mk, ldS_mk]
  refine bcn (fun _ => ?_) fun h => (hz h).elim
  try simp only [get_at e2, List.getElem?_cons_zero, List.getElem?_cons_succ, ldI_mk, ldS_mk]
  exact kk H4 ((s1.and s2).and s4)

/-- what is told of an answer of Solve's -/
def BlF (N : Int) (n : Nat) (e : Nat → Edg) (mn : Nat) (g : Nat → Int) (cn : Nat) (cv : Nat → Int) : Prop :=
  (chk N n e ≠ 0 ∧ mn = 0 ∧ cn = 0) ∨ (chk N n e = 0 ∧ Right N n e ∧ BlA N.toNat n e g mn cv cn)

/-- Solve, whatever it is given -/
theorem sBlo {N : Int} {ep : Option Addr} {ec : Nat} {K : Option Addr → Nat → Nat → Option Addr → Nat → Nat → Int → Hp → Prop} (he : Rdr H ep n e) (hn : n < 2 ^ 63)
    (kk : ∀ H' mp mn mc g sp sn sc cv, Step (fun _ => False) H H' → Row H' mp mn mc g → Row H' sp sn sc cv → (∀ y, fpS mp y → H y = none) → (∀ y, fpS sp y → H y = none) → (∀ y, fpS sp y → ¬ fpS mp y) → mn < 2 ^ 62 → sn < 2 ^ 62 → BlF N n e mn g sn cv → K mp mn mc sp sn sc (chk N n e) H') :
    blossom_Solve.call N ep n ec E H K := by
  by_cases hz : chk N n e = 0
  · have hr := chk_zero.1 hz
    have hN0 := hr.N0; have hN1 := hr.N1; have hn1 := hr.n1
    obtain ⟨M, rfl⟩ : ∃ M : Nat, N = M := ⟨N.toNat, by omega⟩
    refine blsolve he hr fun H' mp mn mc g sp sn sc cv s r1 r2 f1 f2 f12 hA => ?_
    have l1 := hA.lrg.tk.ris.len
    have l2 := hA.lrg.ris.len
    have := kk H' mp mn mc g sp sn sc cv s r1 r2 f1 f2 f12 (by omega) (by omega) (.inr ⟨hz, hr, by rw [Int.toNat_natCast]; exact hA⟩)
    rwa [hz] at this
  · exact blrefuse he hn hz fun H' s => kk H' none 0 0 (fun _ => 0) none 0 0 (fun _ => 0) s Row.nil Row.nil (fun y h => by rw [fpS_none] at h; exact h.elim) (fun y h => by rw [fpS_none] at h; exact h.elim) (fun y h => by rw [fpS_none] at h; exact h.elim) (by decide) (by decide) (.inl ⟨hz, rfl, rfl⟩)
end
end Go.Mz
