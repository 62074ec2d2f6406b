/-
  Joined: KuZ, KwA, KwB, KwC, KwD.
-/
import Derived.Test.YtmaeboaopebaiaaPkI
import Derived.Test.YtmaeboaopebaiaaPkV
import Derived.Test.YtmaeboaopebaiaaSoI
set_option linter.unusedSimpArgs false
set_option linter.unusedVariables false
/-
  Walks of layer 15: Sides.
-/
namespace Go.Mz

/-- does each edge join a node of the one side with one of the other? -/
def Crs (N : Int) (n : Nat) (e : Nat → Edg) (left : Int) : Prop := 0 ≤ left ∧ left ≤ N ∧ ∀ i, i < n → ¬ ((e i).fr < left ↔ (e i).to < left)

/-- what Sides answers -/
noncomputable def sdC (N : Int) (n : Nat) (e : Nat → Edg) (left : Int) : Int := by
  classical
  exact if chk N n e = 0 then (if Crs N n e left then 0 else 140) else chk N n e

theorem sdC_bad {N left : Int} {n : Nat} {e : Nat → Edg} (h : chk N n e ≠ 0) : sdC N n e left = chk N n e := by unfold sdC; rw [if_neg h]
theorem sdC_off {N left : Int} {n : Nat} {e : Nat → Edg} (h : chk N n e = 0) (hc : ¬ Crs N n e left) : sdC N n e left = 140 := by unfold sdC; rw [if_pos h, if_neg hc]
theorem sdC_ok {N left : Int} {n : Nat} {e : Nat → Edg} (h : chk N n e = 0) (hc : Crs N n e left) : sdC N n e left = 0 := by unfold sdC; rw [if_pos h, if_pos hc]

/-- a graph between two sides, in numbers from nought -/
theorem Crs.bip {M L n : Nat} {e : Nat → Edg} (hr : Right (M : Int) n e) (h : Crs (M : Int) n e (L : Int)) : Bip M L n (elo e) (ehi e) := by
  have key : ∀ i, i < n → elo e i < L ∧ L ≤ ehi e i ∧ ehi e i < M := fun i hi => by
    have h1 := h.2.2 i hi
    obtain ⟨_, h2, h3, hor⟩ := both_ends hr hi
    have hle : elo e i ≤ ehi e i := by
      have hx := hr.ed i hi
      have a := hx.f0; have b := hx.t0
      unfold elo ehi; omega
    rcases hor with ⟨a, b⟩ | ⟨a, b⟩ <;> rw [a, b] at h1 <;> omega
  exact ⟨fun i hi => (key i hi).1, fun i hi => (key i hi).2.1, fun i hi => (key i hi).2.2, by have := h.2.1; omega⟩

/-- where Sides says that it found something wrong -/
structure SdAt (N : Int) (n : Nat) (e : Nat → Edg) (left a : Int) : Prop where
  bad : chk N n e ≠ 0 → ChkAt N n e a
  off : chk N n e = 0 → ¬ (0 ≤ left ∧ left ≤ N) → a = 0
  ok : chk N n e = 0 → Crs N n e left → a = 0
  at' : chk N n e = 0 → 0 ≤ left → left ≤ N → ∀ i : Nat, i < n → (∀ j, j < i → ¬ ((e j).fr < left ↔ (e j).to < left)) → ((e i).fr < left ↔ (e i).to < left) → a = i

theorem cross_first {e : Nat → Edg} {left : Int} : ∀ {n : Nat}, ¬ (∀ i, i < n → ¬ ((e i).fr < left ↔ (e i).to < left)) → ∃ i, i < n ∧ (∀ j, j < i → ¬ ((e j).fr < left ↔ (e j).to < left)) ∧ ((e i).fr < left ↔ (e i).to < left)
  | 0, h => (h fun i hi => by omega).elim
  | n + 1, h => by
    by_cases hz : ∀ i, i < n → ¬ ((e i).fr < left ↔ (e i).to < left)
    · by_cases hn : (e n).fr < left ↔ (e n).to < left
      · exact ⟨n, by omega, hz, hn⟩
      · exact (h fun i hi => by
          by_cases ei : i = n
          · rw [ei]; exact hn
          · exact hz i (by omega)).elim
    · obtain ⟨i, hi, h1, h2⟩ := cross_first hz
      exact ⟨i, by omega, h1, h2⟩

theorem SdAt.uniq {N left a a' : Int} {n : Nat} {e : Nat → Edg} (h : SdAt N n e left a) (h' : SdAt N n e left a') : a = a' := by
  by_cases hz : chk N n e = 0
  · by_cases hl : 0 ≤ left ∧ left ≤ N
    · by_cases hc : ∀ i, i < n → ¬ ((e i).fr < left ↔ (e i).to < left)
      · rw [h.ok hz ⟨hl.1, hl.2, hc⟩, h'.ok hz ⟨hl.1, hl.2, hc⟩]
      · obtain ⟨i, hi, h1, h2⟩ := cross_first hc
        rw [h.at' hz hl.1 hl.2 i hi h1 h2, h'.at' hz hl.1 hl.2 i hi h1 h2]
    · rw [h.off hz hl, h'.off hz hl]
  · exact (h.bad hz).uniq (h'.bad hz)

section
variable {E : Value → Hp → Prop}

theorem bsides {N left : Int} {p : Option Addr} {n c : Nat} {e : Nat → Edg} {H : Hp} {K : Int → Int → Hp → Prop} (he : Rdr H p n e) (hn : n < 2 ^ 63)
    (k : ∀ H' a, Step (fun _ => False) H H' → SdAt N n e left a → K (sdC N n e left) a H') : bimatch_Sides.call N p n c left E H K := by
  refine bimatch_Sides.of (bimatch_Sides.run_eq ?_)
  unfold bimatch_Sides.run_t
  refine nwk fun b1 H1 hb1 e1 s1 => ?_
  refine nwk fun b2 H2 hb2 e2 s2 => ?_
  have e1 := s2.keep _ _ e1 fun h => h
  have s02 := s1.trans s2 fun _ h => .inl h
  have f2 : H b2 = none := s1.mono _ hb2
  simp only [get_at e1, List.getElem?_cons_zero, List.getElem?_cons_succ, ldI_mk, ldS_mk]
  refine gcheckA (he.keep s02 fun _ _ _ h => h) hn fun H3 a s3 hat => ?_
  have e1 := s3.keep _ _ e1 fun h => h
  have e2 := s3.keep _ _ e2 fun h => h
  have s03 := s02.trans s3 fun _ h => .inl h
  refine nwst rfl rfl fun b3 H4 hb3 e3 s4 => ?_
  have e1 := s4.keep _ _ e1 fun h => h
  have e2 := s4.keep _ _ e2 fun h => h
  have s04 := s03.trans s4 fun _ h => .inl h
  simp only [get_at e3, get_at e1, List.getElem?_cons_zero, List.getElem?_cons_succ, ldI_mk, ldS_mk]
  refine bcn (fun hne => ?_) fun hz => ?_
  · refine stk e2 rfl rfl fun H5 e5 s5 => ?_
    simp only [get_at e5, List.getElem?_cons_zero, List.getElem?_cons_succ, ldI_mk]
    have := k H5 a (s04.own s5 fun b hb => hb ▸ f2) ⟨fun _ => hat, fun h => (hne h).elim, fun h => (hne h).elim, fun h => (hne h).elim⟩
    rwa [sdC_bad hne] at this
  · have bad : ¬ (0 ≤ left ∧ left ≤ N) → bimatch_Sides.j1 b2 E H4 K := fun hc => by
      refine bimatch_Sides.j1_eq ?_
      unfold bimatch_Sides.j1_t
      refine stk e2 rfl rfl fun H5 e5 s5 => ?_
      simp only [get_at e5, List.getElem?_cons_zero, List.getElem?_cons_succ, ldI_mk]
      have := k H5 0 (s04.own s5 fun b hb => hb ▸ f2) ⟨fun h => (h hz).elim, fun _ _ => rfl, fun _ _ => rfl, fun _ h1 h2 => (hc ⟨h1, h2⟩).elim⟩
      rwa [sdC_off hz fun h => hc ⟨h.1, h.2.1⟩] at this
    refine bc (fun h => bad fun hc => by omega) fun h1 => ?_
    refine bc (fun h => bad fun hc => by omega) fun h2 => ?_
    refine bimatch_Sides.l1_rule (fun l1 t4 tp tn tc t25 t26 H' => l1 = left ∧ t4 = b2 ∧ tp = p ∧ tn = n ∧ t25 = (n : Int) ∧ ∃ i : Nat, t26 = i ∧ i ≤ n ∧ Step (fun _ => False) H H' ∧ H' b2 = some ⟨[.int .i64 0, .int .i64 0], 42⟩ ∧ ∀ j, j < i → ¬ ((e j).fr < left ↔ (e j).to < left))
      (fun l1 t4 tp tn tc t25 t26 H' => n - t26.toNat) ?_ ⟨rfl, rfl, rfl, rfl, rfl, 0, rfl, Nat.zero_le _, s04, e2, fun j hj => by omega⟩
    clear e1 e2 e3
    rintro l1 t4 tp tn tc t25 t26 H5 ⟨rfl, rfl, rfl, rfl, rfl, i, rfl, hi, s5, e2, hd⟩ X hX
    refine bimatch_Sides.b1_eq ?_
    unfold bimatch_Sides.b1_t
    refine bc (fun hlt => ?_) fun hge => ?_
    · refine (he.keep s5 fun _ _ _ h => h).edge (by omega) (by omega) ?_
      simp only [Int.toNat_natCast]
      refine nwst rfl rfl fun b4 H6 hb4 e4 s6 => ?_
      have e2 := s6.keep _ _ e2 fun h => h
      have s06 := s5.trans s6 fun _ h => .inl h
      simp only [get_at e4, List.getElem?_cons_zero, List.getElem?_cons_succ, ldI_mk, ldS_mk]
      have hin : i < tn := by omega
      refine bcb (fun h => ?_) fun h => ?_
      · refine stk e2 rfl rfl fun H7 e7 s7 => ?_
        simp only [get_at e7, List.getElem?_cons_zero, List.getElem?_cons_succ, ldI_mk]
        have hcr : (e i).fr < l1 ↔ (e i).to < l1 := by simpa using h
        have := k H7 i (s06.own s7 fun b hb => hb ▸ f2) ⟨fun h => (h hz).elim, fun _ h => (h ⟨by omega, by omega⟩).elim, fun _ hc => (hc.2.2 i hin hcr).elim, fun _ _ _ i' _ hj hi' => by
          rcases Nat.lt_trichotomy i' i with h' | h' | h'
          · exact (hd i' h' hi').elim
          · rw [h']
          · exact (hj i h' hcr).elim⟩
        rwa [sdC_off hz fun hc => hc.2.2 i hin (by simpa using h)] at this
      · rw [i64w (by omega) (by omega)]
        refine hX _ _ _ _ _ _ _ _ ⟨rfl, rfl, rfl, rfl, rfl, i + 1, by omega, by omega, s06, e2, fun j hj => ?_⟩ (by omega)
        by_cases ej : j = i
        · rw [ej]; intro hh; simp [hh] at h
        · exact hd j (by omega)
    · refine bimatch_Sides.j2_eq ?_
      unfold bimatch_Sides.j2_t
      have : i = tn := by omega
      subst this
      refine stk e2 rfl rfl fun H7 e7 s7 => ?_
      simp only [get_at e7, List.getElem?_cons_zero, List.getElem?_cons_succ, ldI_mk]
      have := k H7 0 (s5.own s7 fun b hb => hb ▸ f2) ⟨fun h => (h hz).elim, fun _ _ => rfl, fun _ _ => rfl, fun _ _ _ i' hi' _ hh => (hd i' hi' hh).elim⟩
      rwa [sdC_ok hz ⟨by omega, by omega, hd⟩] at this
end
end Go.Mz

/-
  Walks of layer 15: Solve.
-/
namespace Go.Mz

theorem map_at {l : List Nat} {f : Nat → Int} : (List.range l.length).map (fun i => f (l.getD i 0)) = l.map f := by
  refine List.ext_getElem (by simp) fun i h1 h2 => ?_
  have h3 : i < l.length := by simpa using h2
  simp [List.getElem?_eq_getElem h3]

section
variable {E : Value → Hp → Prop}
variable {H0 H : Hp} {pb M L n ec bo bb : Nat} {ep : Option Addr} {e : Nat → Edg} {sl : Nat → Sl} {b : Nat → Int} {out : Nat → List Nat}

theorem PrM.congB {b' : Nat → Int} (h : PrM H0 H pb M L ep n ec e bo bb sl out b) (hc : ∀ t, t < M → b t = b' t) : PrM H0 H pb M L ep n ec e bo bb sl out b' :=
  ⟨h.st, h.he, h.cell, h.out, h.rb.congr fun t ht => hc t ht, h.fp, h.fb, h.d1, h.d2, h.d3, h.d4⟩

/-- once all are matched as far as can be -/
theorem btail {K : Option Addr → Nat → Nat → Option Addr → Nat → Nat → Int → Hp → Prop} (hr : Right (M : Int) n e) (hB : Bip M L n (elo e) (ehi e)) (hP : PrM H0 H pb M L ep n ec e bo bb sl (outs (elo e) n) b) (hMB : MB M n (elo e) (ehi e) b) (hsh : ∀ v, v < L → 0 ≤ b v ∨ Shut M L n (elo e) (ehi e) b v)
    (k : ∀ H' mp mn mc g cp cn cc cv, Step (fun _ => False) H0 H' → Row H' mp mn mc g → Row H' cp cn cc cv → CovP (M : Int) n e g mn cv cn → (∀ y, fpS mp y → H0 y = none) → (∀ y, fpS cp y → H0 y = none) → (∀ y, fpS cp y → ¬ fpS mp y) → K mp mn mc cp cn cc 0 H') :
    bimatch_Solve.l3 none 0 0 (some ⟨pb, 0, none⟩) (some ⟨bb, 0, none⟩) L M (L : Int) 0 E H K := by
  have hN0 := hr.N0; have hN1 := hr.N1; have hn1 := hr.n1
  have hLM := hB.lm
  refine bimatch_Solve.l3_rule (fun mp mn mc p0 tp tn tc t101 t102 H' => p0 = some ⟨pb, 0, none⟩ ∧ tp = some ⟨bb, 0, none⟩ ∧ tn = L ∧ t101 = (L : Int) ∧ ∃ v : Nat, t102 = v ∧ v ≤ L ∧ mn = (pk (fun v => decide (0 ≤ b v)) v).length ∧ PrM H0 H' pb M L ep n ec e bo bb sl (outs (elo e) n) b ∧ Row H' mp (pk (fun v => decide (0 ≤ b v)) v).length mc (fun i => b ((pk (fun v => decide (0 ≤ b v)) v).getD i 0)) ∧ (∀ y, fpS mp y → H0 y = none ∧ PrAway pb bo bb L sl y))
    (fun mp mn mc p0 tp tn tc t101 t102 H' => L - t102.toNat) ?_ ⟨rfl, rfl, rfl, rfl, 0, rfl, Nat.zero_le _, rfl, hP, Row.nil, fun y h => by rw [fpS_none] at h; exact h.elim⟩
  rintro mp mn mc p0 tp tn tc t101 t102 H1 ⟨rfl, rfl, rfl, rfl, v, rfl, hv, rfl, hP1, rq, fq⟩ X hX
  have hpl : (pk (fun v => decide (0 ≤ b v)) v).length ≤ v := by rw [pk_len]; exact cnt_le _ _
  refine bimatch_Solve.b3_eq ?_
  unfold bimatch_Solve.b3_t
  refine bc (fun hlt => ?_) fun hge => ?_
  · refine (hP1.rb.cut (m := tn) (by omega)).rdr.ixI (by omega) (by omega) ?_
    rw [Int.toNat_natCast]
    refine bc (fun hnn => ?_) fun hneg => ?_
    · refine rq.appI _ (by omega) fun p2 c2 H2 r2 s2 f2 => ?_
      have e1 : pk (fun v => decide (0 ≤ b v)) (v + 1) = pk (fun v => decide (0 ≤ b v)) v ++ [v] := by rw [pk_succ, if_pos (by simpa using hnn)]
      have hl1 : (pk (fun v => decide (0 ≤ b v)) v).length + 1 = (pk (fun v => decide (0 ≤ b v)) (v + 1)).length := by rw [e1]; simp
      rw [hl1] at r2 ⊢
      refine bimatch_Solve.j4_eq ?_
      unfold bimatch_Solve.j4_t
      rw [i64w (by omega) (by omega)]
      refine hX _ _ _ _ _ _ _ _ _ _ ⟨rfl, rfl, rfl, rfl, v + 1, by omega, by omega, rfl, hP1.keep s2 fq, r2.congr fun i hi => ?_, fun y hy => (f2 y hy).elim (fq y) fun h => ⟨hP1.st.mono _ h, hP1.fresh h⟩⟩ (by omega)
      rw [e1]
      by_cases ei : i = (pk (fun v => decide (0 ≤ b v)) v).length
      · subst ei; rw [upf_same]; simp
      · rw [upf_ne ei]
        have : i < (pk (fun v => decide (0 ≤ b v)) v).length := by omega
        simp [List.getElem?_append_left this]
    · refine bimatch_Solve.j4_eq ?_
      unfold bimatch_Solve.j4_t
      rw [i64w (by omega) (by omega)]
      have e1 : pk (fun v => decide (0 ≤ b v)) (v + 1) = pk (fun v => decide (0 ≤ b v)) v := by rw [pk_succ, if_neg (by simpa using hneg)]
      exact hX _ _ _ _ _ _ _ _ _ _ ⟨rfl, rfl, rfl, rfl, v + 1, by omega, by omega, by rw [e1], hP1, by rw [e1]; exact rq, fq⟩ (by omega)
  · clear hX
    have hvL : v = tn := by omega
    subst hvL
    refine bimatch_Solve.j5_eq ?_
    unfold bimatch_Solve.j5_t
    refine sortI rq (by omega) fun H2 g r2 s2 hs hp => ?_
    rw [map_at] at hp
    have hP2 := hP1.keep s2 fq
    refine rcover hr hB hP2 hMB hsh fun H3 rc p c s3 hR rc3 fc3 => ?_
    exact k H3 mp _ mc g p _ c _ (hP2.st.and s3) (r2.keep s3 fun y _ h => h) rc3 (kon hr hB hMB hR rfl hs hp) (fun y hy => (fq y hy).1) (fun y hy => hP2.st.mono _ (fc3 y hy)) fun y hy h => r2.live h (fc3 y hy)
end
end Go.Mz

/-
  Walks of layer 15: Solve, from its start.
-/
namespace Go.Mz

section
variable {E : Value → Hp → Prop}
variable {H0 H : Hp} {pb M L n ec bo bb : Nat} {ep : Option Addr} {e : Nat → Edg} {sl : Nat → Sl} {b : Nat → Int} {out : Nat → List Nat}

/-- the kinds, with all that is known before them -/
theorem bkinds {kind : Int} {K : Option Addr → Nat → Nat → Option Addr → Nat → Nat → Int → Hp → Prop} (hr : Right (M : Int) n e) (hB : Bip M L n (elo e) (ehi e)) (hP : PrM H0 H pb M L ep n ec e bo bb sl (outs (elo e) n) fun _ => -1)
    (kw : ¬ (kind = 1 ∨ kind = 2) → ∀ H', Step (fun _ => False) H0 H' → K none 0 0 none 0 0 50 H') (k : kind = 1 ∨ kind = 2 → ∀ H' mp mn mc g cp cn cc cv, Step (fun _ => False) H0 H' → Row H' mp mn mc g → Row H' cp cn cc cv → CovP (M : Int) n e g mn cv cn → (∀ y, fpS mp y → H0 y = none) → (∀ y, fpS cp y → H0 y = none) → (∀ y, fpS cp y → ¬ fpS mp y) → K mp mn mc cp cn cc 0 H') :
    bimatch_Solve.j2 (L : Int) kind none 0 0 (some ⟨pb, 0, none⟩) E H K := by
  have hN0 := hr.N0; have hN1 := hr.N1; have hn1 := hr.n1
  have hLM := hB.lm
  refine bimatch_Solve.j2_eq ?_
  unfold bimatch_Solve.j2_t
  refine bc (fun h1 => ?_) fun h1 => bc (fun h2 => ?_) fun h2 => kw (by omega) H hP.st
  · refine nwk fun sb H1 hsb es ss => ?_
    refine bimatch_Solve.j3_eq ?_
    unfold bimatch_Solve.j3_t
    refine ⟨125, by kernel_rfl, smatch hr hB (hP.keep0 ss) es (hP.st.mono _ hsb) (hP.fresh hsb) fun H' b1 hP' hMB hsh => ?_⟩
    show nn (some ⟨pb, 0, none⟩) fun b_1 o_1 => ldS (H'.get b_1 (o_1 + 4)) fun x_1p x_1n x_1c => ((0 : Int) ≤ (L : Int) ∧ (L : Int) ≤ (x_1c : Int)) ∧ bimatch_Solve.l3 none 0 0 (some ⟨pb, 0, none⟩) (slp x_1p 0 x_1c 1) (L : Int).toNat x_1c ((L : Int).toNat : Int) 0 E H' K
    simp only [nn_mk, get_at hP'.cell, List.getElem?_cons_zero, List.getElem?_cons_succ, ldS_mk, Nat.zero_add]
    refine ⟨⟨by omega, by omega⟩, ?_⟩
    rw [Int.toNat_natCast, hP'.rb.slp0]
    exact btail hr hB hP' hMB hsh (k (.inl h1))
  · refine nwk fun sb H1 hsb es ss => ?_
    refine bimatch_Solve.j3_eq ?_
    unfold bimatch_Solve.j3_t
    refine ⟨127, by kernel_rfl, pmatch hr hB (hP.keep0 ss) es (hP.st.mono _ hsb) (hP.fresh hsb) fun H' b1 hP' hMB hsh => ?_⟩
    show nn (some ⟨pb, 0, none⟩) fun b_1 o_1 => ldS (H'.get b_1 (o_1 + 4)) fun x_1p x_1n x_1c => ((0 : Int) ≤ (L : Int) ∧ (L : Int) ≤ (x_1c : Int)) ∧ bimatch_Solve.l3 none 0 0 (some ⟨pb, 0, none⟩) (slp x_1p 0 x_1c 1) (L : Int).toNat x_1c ((L : Int).toNat : Int) 0 E H' K
    simp only [nn_mk, get_at hP'.cell, List.getElem?_cons_zero, List.getElem?_cons_succ, ldS_mk, Nat.zero_add]
    refine ⟨⟨by omega, by omega⟩, ?_⟩
    rw [Int.toNat_natCast, hP'.rb.slp0]
    exact btail hr hB hP' hMB hsh (k (.inr h2))

theorem min_lo (hr : Right (M : Int) n e) {i : Nat} (hi : i < n) : (if (e i).to < (e i).fr then (e i).to else (e i).fr) = (elo e i : Int) := by
  have hx := hr.ed i hi
  have a := hx.f0; have c := hx.t0
  unfold elo
  split <;> omega

/-- the edges at each node of the left side, and none matched -/
theorem bstart {kind : Int} {ec' : Nat} {K : Option Addr → Nat → Nat → Option Addr → Nat → Nat → Int → Hp → Prop} (hr : Right (M : Int) n e) (hB : Bip M L n (elo e) (ehi e)) (hP : PrM H0 H pb M L ep n ec e bo bb sl (outs (elo e) 0) fun _ => 0)
    (kw : ¬ (kind = 1 ∨ kind = 2) → ∀ H', Step (fun _ => False) H0 H' → K none 0 0 none 0 0 50 H') (k : kind = 1 ∨ kind = 2 → ∀ H' mp mn mc g cp cn cc cv, Step (fun _ => False) H0 H' → Row H' mp mn mc g → Row H' cp cn cc cv → CovP (M : Int) n e g mn cv cn → (∀ y, fpS mp y → H0 y = none) → (∀ y, fpS cp y → H0 y = none) → (∀ y, fpS cp y → ¬ fpS mp y) → K mp mn mc cp cn cc 0 H') :
    bimatch_Solve.l1 (L : Int) kind none 0 0 (some ⟨pb, 0, none⟩) ep n ec' (n : Int) 0 E H K := by
  have hN0 := hr.N0; have hN1 := hr.N1; have hn1 := hr.n1
  have hLM := hB.lm
  refine bimatch_Solve.l1_rule (fun l1 k2 mp mn mc p0 tp tn tc t37 t38 H' => l1 = (L : Int) ∧ k2 = kind ∧ mp = none ∧ mn = 0 ∧ mc = 0 ∧ p0 = some ⟨pb, 0, none⟩ ∧ tp = ep ∧ tn = n ∧ t37 = (n : Int) ∧ ∃ (i : Nat) (sl : Nat → Sl), t38 = i ∧ i ≤ n ∧ PrM H0 H' pb M L ep n ec e bo bb sl (outs (elo e) i) fun _ => 0)
    (fun l1 k2 mp mn mc p0 tp tn tc t37 t38 H' => n - t38.toNat) ?_ ⟨rfl, rfl, rfl, rfl, rfl, rfl, rfl, rfl, rfl, 0, sl, rfl, Nat.zero_le _, hP⟩
  rintro l1 k2 mp mn mc p0 tp tn tc t37 t38 H1 ⟨rfl, rfl, rfl, rfl, rfl, rfl, rfl, rfl, rfl, i, sl1, rfl, hi, hP1⟩ X hX
  refine bimatch_Solve.b1_eq ?_
  unfold bimatch_Solve.b1_t
  refine bc (fun hlt => ?_) fun hge => ?_
  · have hin : i < tn := by omega
    have hu := hB.lt i hin
    refine hP1.ed.edge (by omega) (by omega) ?_
    simp only [Int.toNat_natCast]
    refine nwst rfl rfl fun b4 H2 hb4 e4 s2 => ?_
    have hP2 := hP1.keep0 s2
    simp only [get_at e4, nn_mk, get_at hP2.cell, List.getElem?_cons_zero, List.getElem?_cons_succ, ldI_mk, ldS_mk, Nat.zero_add]
    rw [min_lo hr hin]
    refine hP2.out.row.rdr.ixS (by omega) (by omega) ?_
    rw [Int.toNat_natCast, hP2.out.len _ hu]
    have hol := outs_len (a := elo e) (i := i) (v := elo e i)
    refine (hP2.out.each _ hu).appI _ (by omega) fun p8 c8 H8 r8 s8 f8 => ?_
    have cell8 := s8.keep _ _ hP2.cell fun h => (hP2.d4 _ hu pb h).1 rfl
    simp only [get_at cell8, List.getElem?_cons_zero, List.getElem?_cons_succ, ldS_mk]
    refine ⟨trivial, ?_⟩
    have row8 := hP2.out.row.keep s8 fun y hy hy' => by rw [fpS_mk] at hy; exact hP2.out.out _ hu y hy' hy
    refine row8.st (α := Sl) (by omega) (by omega) ⟨p8, (outs (elo e) i (elo e i)).length + 1, c8⟩ fun H9 r9 s9 => ?_
    simp only [Int.toNat_natCast] at r9
    have rows9 := hP2.out.push hu hP2.st r8 s8 f8 r9 s9
    rw [i64w (by omega) (by omega)]
    refine hX _ _ _ _ _ _ _ _ _ _ _ _ ⟨rfl, rfl, rfl, rfl, rfl, rfl, rfl, rfl, rfl, i + 1, _, by omega, by omega, ⟨(hP2.st.own s8 (hP2.out.new _ hu)).own s9 fun y hy => (by rw [fpS_mk] at hy; exact hy ▸ hP2.out.b0), hP2.he, s9.keep _ _ cell8 fun h => (by rw [fpS_mk] at h; exact hP2.d2 h), rows9, ?_, hP2.fp, hP2.fb, hP2.d1, hP2.d2, hP2.d3, fun v hv x hx => ?_⟩⟩ (by omega)
    · exact (hP2.rb.keep s8 fun y hy h => by rw [fpS_mk] at hy; exact (hP2.d4 _ hu y h).2 hy).keep s9 fun y hy h => by rw [fpS_mk] at hy h; exact hP2.d3 (h.symm.trans hy)
    · by_cases ev : v = elo e i
      · rw [ev, upf_same] at hx
        rcases f8 x hx with h | h
        · exact hP2.d4 _ hu x h
        · exact ⟨(hP2.fresh h).a, (hP2.fresh h).c⟩
      · rw [upf_ne ev] at hx; exact hP2.d4 v hv x hx
  · clear hX
    have : i = tn := by omega
    subst this
    refine bimatch_Solve.j1_eq ?_
    unfold bimatch_Solve.j1_t
    simp only [nn_mk, get_at hP1.cell, List.getElem?_cons_zero, List.getElem?_cons_succ, ldS_mk, Nat.zero_add]
    refine bimatch_Solve.l2_rule (fun l1 k2' mp mn mc p0 t69 t70 H' => l1 = (L : Int) ∧ k2' = k2 ∧ mp = none ∧ mn = 0 ∧ mc = 0 ∧ p0 = some ⟨pb, 0, none⟩ ∧ t69 = (M : Int) ∧ ∃ (v : Nat) (b1 : Nat → Int), t70 = v ∧ v ≤ M ∧ PrM H0 H' pb M L tp i ec e bo bb sl1 (outs (elo e) i) b1 ∧ ∀ t, t < v → b1 t = -1)
      (fun l1 k2' mp mn mc p0 t69 t70 H' => M - t70.toNat) ?_ ⟨rfl, rfl, rfl, rfl, rfl, rfl, rfl, 0, _, rfl, Nat.zero_le _, hP1, fun t ht => by omega⟩
    rintro l1 k2' mp mn mc p0 t69 t70 H2 ⟨rfl, rfl, rfl, rfl, rfl, rfl, rfl, v, b1, rfl, hv, hP2, hb⟩ X hX
    refine bimatch_Solve.b2_eq ?_
    unfold bimatch_Solve.b2_t
    refine bc (fun hlt => ?_) fun hge => ?_
    · simp only [nn_mk, get_at hP2.cell, List.getElem?_cons_zero, List.getElem?_cons_succ, ldS_mk, Nat.zero_add]
      refine hP2.rb.stI (by omega) (by omega) _ fun H3 r3 s3 => ?_
      rw [Int.toNat_natCast] at r3
      rw [i64w (by omega) (by omega)]
      refine hX _ _ _ _ _ _ _ _ _ ⟨rfl, rfl, rfl, rfl, rfl, rfl, rfl, v + 1, _, by omega, by omega, hP2.setB s3 r3, fun t ht => ?_⟩ (by omega)
      by_cases et : t = v
      · rw [et, upf_same]
      · rw [upf_ne et]; exact hb t (by omega)
    · exact bkinds hr hB (hP2.congB fun t ht => hb t (by omega)) kw k
end
end Go.Mz

/-
  Walks of layer 15: Solve, whole.
-/
namespace Go.Mz

section
variable {E : Value → Hp → Prop}
variable {H : Hp} {M L n ec : Nat} {ep : Option Addr} {e : Nat → Edg}

theorem bsolve {kind : Int} {K : Option Addr → Nat → Nat → Option Addr → Nat → Nat → Int → Hp → Prop} (he : Rdr H ep n e) (hr : Right (M : Int) n e) (hc : Crs (M : Int) n e (L : Int)) (kw : ¬ (kind = 1 ∨ kind = 2) → ∀ H', Step (fun _ => False) H H' → K none 0 0 none 0 0 50 H')
    (k : kind = 1 ∨ kind = 2 → ∀ H' mp mn mc g cp cn cc cv, Step (fun _ => False) H H' → Row H' mp mn mc g → Row H' cp cn cc cv → CovP (M : Int) n e g mn cv cn → (∀ y, fpS mp y → H y = none) → (∀ y, fpS cp y → H y = none) → (∀ y, fpS cp y → ¬ fpS mp y) → K mp mn mc cp cn cc 0 H') :
    bimatch_Solve.call (M : Int) ep n ec (L : Int) kind E H K := by
  have hN0 := hr.N0; have hN1 := hr.N1; have hn1 := hr.n1
  have hB := hc.bip hr
  have hLM := hB.lm
  refine bimatch_Solve.of (bimatch_Solve.run_eq ?_)
  unfold bimatch_Solve.run_t
  refine nwk fun b1 H1 hb1 e1 s1 => ?_
  simp only [get_at e1, List.getElem?_cons_zero, List.getElem?_cons_succ, ldI_mk, ldS_mk]
  refine bsides (he.keep s1 fun _ _ _ h => h) (by omega) fun H2 a s2 _ => ?_
  have e1 := s2.keep _ _ e1 fun h => h
  have s02 := s1.trans s2 fun _ h => .inl h
  rw [sdC_ok (chk_zero.2 hr) hc]
  refine nwst rfl rfl fun b2 H4 hb2 e2 s4 => ?_
  have e1 := s4.keep _ _ e1 fun h => h
  have s04 := s02.trans s4 fun _ h => .inl h
  simp only [get_at e2, get_at e1, List.getElem?_cons_zero, List.getElem?_cons_succ, ldI_mk, ldS_mk]
  refine bcn (fun h => (h trivial).elim) fun _ => ?_
  try simp only [get_at e1, List.getElem?_cons_zero, List.getElem?_cons_succ, ldI_mk, ldS_mk]
  refine Row.mkSl (by omega) (by omega) fun bo H5 hbo ro s5 => ?_
  rw [Int.toNat_natCast] at ro ⊢
  have e15 := s5.keep _ _ e1 fun h => h
  simp only [get_at e15, List.getElem?_cons_zero, List.getElem?_cons_succ, ldI_mk, ldS_mk]
  refine Row.mkI (by omega) (by omega) fun bb H6 hbb rb s6 => ?_
  rw [Int.toNat_natCast] at rb ⊢
  have e16 := s6.keep _ _ e15 fun h => h
  refine nwk fun pb H7 hpb ep7 s7 => ?_
  have e17 := s7.keep _ _ e16 fun h => h
  simp only [get_at e17, List.getElem?_cons_zero, List.getElem?_cons_succ, ldI_mk, ldS_mk]
  have s46 := s5.and s6
  have s47 := s46.and s7
  have dob : bo ≠ bb := fun h => ro.live ⟨0, rfl⟩ (h ▸ hbb)
  have dpb : pb ≠ bb := fun h => rb.live ⟨0, rfl⟩ (h ▸ hpb)
  have ro6 := ro.keep s6 fun y _ h => h
  have dpo : pb ≠ bo := fun h => ro6.live ⟨0, rfl⟩ (h ▸ hpb)
  have start : Rows2 H4 H7 bo L (fun _ => ⟨none, 0, 0⟩) (outs (elo e) 0) := ⟨ro6.keep s7 fun y _ h => h, hbo, fun _ _ => rfl, fun _ _ => .nil, fun _ _ _ _ _ _ h => (by rw [fpS_none] at h; exact h.elim), fun _ _ _ h => (by rw [fpS_none] at h; exact h.elim), fun _ _ _ h => by rw [fpS_none] at h; exact h.elim⟩
  have hP : PrM H4 H7 pb M L ep n ec e bo bb (fun _ => ⟨none, 0, 0⟩) (outs (elo e) 0) (fun _ => 0) := ⟨s47, he.keep s04 fun _ _ _ h => h, ep7, start, rb.keep s7 fun y _ h => h, s46.mono _ hpb, s5.mono _ hbb, dpb, dpo, dob, fun v hv x hx => by rw [fpS_none] at hx; exact hx.elim⟩
  refine bstart hr hB hP (fun hk H' s => kw hk H' (s04.and s)) fun hk H' mp mn mc g cp cn cc cv s r1 r2 hC f1 f2 f12 => ?_
  exact k hk H' mp mn mc g cp cn cc cv (s04.and s) r1 r2 hC (fun y hy => s04.mono _ (f1 y hy)) (fun y hy => s04.mono _ (f2 y hy)) f12
end
end Go.Mz

/-
  Walks of layer 15: Solve of what is refused.
-/
namespace Go.Mz

section
variable {E : Value → Hp → Prop}
variable {H : Hp} {n ec : Nat} {ep : Option Addr} {e : Nat → Edg}

theorem brefuse {N left kind : Int} {K : Option Addr → Nat → Nat → Option Addr → Nat → Nat → Int → Hp → Prop} (he : Rdr H ep n e) (hn : n < 2 ^ 63) (hz : sdC N n e left ≠ 0)
    (k : ∀ H', Step (fun _ => False) H H' → K none 0 0 none 0 0 (sdC N n e left) H') :
    bimatch_Solve.call N ep n ec left kind E H K := by
  refine bimatch_Solve.of (bimatch_Solve.run_eq ?_)
  unfold bimatch_Solve.run_t
  refine nwk fun b1 H1 hb1 e1 s1 => ?_
  simp only [get_at e1, List.getElem?_cons_zero, List.getElem?_cons_succ, ldI_mk, ldS_mk]
  refine bsides (he.keep s1 fun _ _ _ h => h) hn fun H2 a s2 _ => ?_
  have e1 := s2.keep _ _ e1 fun h => h
  have s02 := s1.trans s2 fun _ h => .inl h
  refine nwst rfl rfl fun b2 H4 hb2 e2 s4 => ?_
  have s04 := s02.trans s4 fun _ h => .inl h
  simp only [get_at e2, List.getElem?_cons_zero, List.getElem?_cons_succ, ldI_mk, ldS_mk]
  refine bcn (fun _ => ?_) fun h => (hz h).elim
  try simp only [get_at e2, List.getElem?_cons_zero, List.getElem?_cons_succ, ldI_mk, ldS_mk]
  exact k H4 s04

/-- what Solve says -/
noncomputable def prC (N : Int) (n : Nat) (e : Nat → Edg) (left kind : Int) : Int := if sdC N n e left ≠ 0 then sdC N n e left else if kind = 1 ∨ kind = 2 then 0 else 50

/-- Sides says yes only of a right graph that lies between the two sides -/
theorem sdC_zero {N left : Int} : sdC N n e left = 0 ↔ Right N n e ∧ Crs N n e left := by
  constructor
  · intro h
    by_cases hz : chk N n e = 0
    · by_cases hc : Crs N n e left
      · exact ⟨chk_zero.1 hz, hc⟩
      · rw [sdC_off hz hc] at h; exact absurd h (by decide)
    · rw [sdC_bad hz] at h; exact (hz h).elim
  · exact fun ⟨h1, h2⟩ => sdC_ok (chk_zero.2 h1) h2
theorem prC_zero {N left kind : Int} : prC N n e left kind = 0 ↔ Right N n e ∧ Crs N n e left ∧ (kind = 1 ∨ kind = 2) := by
  unfold prC
  by_cases hz : sdC N n e left = 0
  · rw [if_neg (fun h => h hz)]
    have := sdC_zero.1 hz
    by_cases hk : kind = 1 ∨ kind = 2
    · rw [if_pos hk]; exact ⟨fun _ => ⟨this.1, this.2, hk⟩, fun _ => rfl⟩
    · rw [if_neg hk]; exact ⟨fun h => (by cases h), fun h => (hk h.2.2).elim⟩
  · rw [if_pos hz]
    exact ⟨fun h => (hz h).elim, fun h => (hz (sdC_zero.2 ⟨h.1, h.2.1⟩)).elim⟩

/-- what is told of an answer of Solve's -/
def PrF (N : Int) (n : Nat) (e : Nat → Edg) (left kind : Int) (mn : Nat) (g : Nat → Int) (cn : Nat) (cv : Nat → Int) : Prop :=
  (prC N n e left kind ≠ 0 ∧ mn = 0 ∧ cn = 0) ∨ (prC N n e left kind = 0 ∧ Right N n e ∧ Crs N n e left ∧ CovP N n e g mn cv cn)

/-- Solve, whatever it is given -/
theorem sPair {N left kind : Int} {K : Option Addr → Nat → Nat → Option Addr → Nat → Nat → Int → Hp → Prop} (he : Rdr H ep n e) (hn : n < 2 ^ 63)
    (k : ∀ H' mp mn mc g cp cn cc cv, Step (fun _ => False) H H' → Row H' mp mn mc g → Row H' cp cn cc cv → (∀ y, fpS mp y → H y = none) → (∀ y, fpS cp y → H y = none) → (∀ y, fpS cp y → ¬ fpS mp y) → mn < 2 ^ 62 → cn < 2 ^ 62 → PrF N n e left kind mn g cn cv → K mp mn mc cp cn cc (prC N n e left kind) H') :
    bimatch_Solve.call N ep n ec left kind E H K := by
  have nul : ∀ H', prC N n e left kind ≠ 0 → Step (fun _ => False) H H' → K none 0 0 none 0 0 (prC N n e left kind) H' := fun H' h0 s =>
    k H' none 0 0 (fun _ => 0) none 0 0 (fun _ => 0) s Row.nil Row.nil (fun y h => by rw [fpS_none] at h; exact h.elim) (fun y h => by rw [fpS_none] at h; exact h.elim) (fun y h => by rw [fpS_none] at h; exact h.elim) (by decide) (by decide) (.inl ⟨h0, rfl, rfl⟩)
  by_cases hz : sdC N n e left = 0
  · obtain ⟨hr, hc⟩ := sdC_zero.1 hz
    have hN0 := hr.N0; have hN1 := hr.N1; have hn1 := hr.n1
    obtain ⟨M, rfl⟩ : ∃ M : Nat, N = M := ⟨N.toNat, by omega⟩
    obtain ⟨L, rfl⟩ : ∃ L : Nat, left = L := ⟨left.toNat, by have := hc.1; omega⟩
    refine bsolve he hr hc (fun hk H' s => ?_) fun hk H' mp mn mc g cp cn cc cv s r1 r2 hC f1 f2 f12 => ?_
    · have e50 : prC M n e L kind = 50 := by unfold prC; rw [if_neg (fun h => h hz), if_neg hk]
      have := nul H' (by rw [e50]; decide) s
      rwa [e50] at this
    · have hl := hC.tk.ris.len
      have hq := hC.eq
      have e0 : prC M n e L kind = 0 := prC_zero.2 ⟨hr, hc, hk⟩
      have := k H' mp mn mc g cp cn cc cv s r1 r2 f1 f2 f12 (by omega) (by omega) (.inr ⟨e0, hr, hc, hC⟩)
      rwa [e0] at this
  · have ez : prC N n e left kind = sdC N n e left := if_pos hz
    refine brefuse he hn hz fun H' s => ?_
    have := nul H' (by rw [ez]; exact hz) s
    rwa [ez] at this
end
end Go.Mz
