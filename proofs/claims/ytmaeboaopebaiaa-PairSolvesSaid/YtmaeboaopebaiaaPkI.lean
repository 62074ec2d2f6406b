/-
  Joined: KuQ, KuV, KuR, KuW, KuY.
-/
import Derived.Test.YtmaeboaopebaiaaPkJ
import Derived.Test.YtmaeboaopebaiaaGBiq
set_option linter.unusedSimpArgs false
set_option linter.unusedVariables false
/-
  Matchings between two sides in plain words: ways by levels.
-/
namespace Go.Mz
variable {M L n : Nat} {lo hi : Nat → Nat} {b : Nat → Int} {lv lv' : Nat → Int} {nx nx' : Nat → Nat}

/-- matched nodes of the right side whose mates are at a level so low -/
def sP (lo : Nat → Nat) (b : Nat → Int) (lv : Nat → Int) (l : Int) (w : Nat) : Bool := decide (0 ≤ b w) && decide (lv (lo (b w).toNat) ≤ l)

theorem sP_iff {l : Int} {w : Nat} : sP lo b lv l w = true ↔ 0 ≤ b w ∧ lv (lo (b w).toNat) ≤ l := by unfold sP; simp

/-- levels, as a look over all that can be come to leaves them -/
structure Lay (M L n : Nat) (lo hi : Nat → Nat) (b : Nat → Int) (lv : Nat → Int) : Prop where
  l0 : ∀ v, v < L → b v < 0 → lv v = 0
  l1 : ∀ v, v < L → lv v = 0 → b v < 0
  up : ∀ v, lv v ≤ M
  dn : ∀ v, -1 ≤ lv v
  nb : ∀ j, j < n → 0 ≤ lv (lo j) → b (hi j) < 0 ∨ (0 ≤ lv (lo (b (hi j)).toNat) ∧ lv (lo (b (hi j)).toNat) ≤ lv (lo j) + 1)
  pr : ∀ v, v < L → 0 < lv v → ∃ j, j < n ∧ lv (lo j) + 1 = lv v ∧ 0 ≤ b (hi j) ∧ lo (b (hi j)).toNat = v

/-- a node at its end: one that isn't matched can be come to -/
def Fnd (n : Nat) (lo hi : Nat → Nat) (b : Nat → Int) (lv : Nat → Int) : Prop := ∃ j, j < n ∧ 0 ≤ lv (lo j) ∧ b (hi j) < 0

theorem Lay.shut (hB : Bip M L n lo hi) (h : Lay M L n lo hi b lv) (hf : ¬ Fnd n lo hi b lv) : ∀ v, v < L → 0 ≤ b v ∨ Shut M L n lo hi b v := by
  intro v hv
  by_cases hb : 0 ≤ b v
  · exact .inl hb
  · right
    refine ⟨fun w => ∃ j, j < n ∧ 0 ≤ lv (lo j) ∧ w = hi j, ?_, fun j hj hjv => ⟨j, hj, by rw [hjv, h.l0 v hv (by omega)]; decide, rfl⟩⟩
    rintro w ⟨j, hj, hl, rfl⟩
    have hb : 0 ≤ b (hi j) := Int.not_lt.1 fun hlt => hf ⟨j, hj, hl, hlt⟩
    refine ⟨hB.ge j hj, hB.hm j hj, hb, fun i hi' e => ⟨i, hi', ?_, rfl⟩⟩
    rcases h.nb j hj hl with h1 | ⟨h1, _⟩
    · omega
    · rw [e]; exact h1

/-- what a search by levels leaves of the levels above its own -/
structure Fel (l : Int) (v : Nat) (lv : Nat → Int) (nx : Nat → Nat) (lv' : Nat → Int) (nx' : Nat → Nat) : Prop where
  a : ∀ t, t ≠ v → lv' t = lv t ∨ (lv' t = -1 ∧ l < lv t)
  b : ∀ t, t ≠ v → lv t ≤ l → nx' t = nx t

/-- a node that a search has given up -/
def Dead (lv0 lv : Nat → Int) (t : Nat) : Prop := 0 ≤ lv0 t ∧ lv t = -1

/-- what is known while no way was found: from a node that was given up all leads to such -/
structure FI (n : Nat) (lo hi : Nat → Nat) (b : Nat → Int) (lv0 lv : Nat → Int) (nx : Nat → Nat) (l : Int) : Prop where
  a1 : ∀ t, lv t = lv0 t ∨ lv t = -1
  a2 : ∀ j, j < n → Dead lv0 lv (lo j) → 0 ≤ b (hi j) ∧ (lv0 (lo (b (hi j)).toNat) = lv0 (lo j) + 1 → Dead lv0 lv (lo (b (hi j)).toNat))
  a3 : ∀ t, l ≤ lv t → nx t = 0

theorem Fel.refl {l : Int} {v : Nat} : Fel l v lv nx lv nx := ⟨fun t _ => .inl rfl, fun t _ _ => rfl⟩

/-- if all that aren't matched were given up, and none was found, there was none -/
theorem FI.none {lv0 : Nat → Int} (hB : Bip M L n lo hi) (h0 : Lay M L n lo hi b lv0) (h : FI n lo hi b lv0 lv nx 0) (hd : ∀ v, v < L → b v < 0 → lv v = -1) : ¬ Fnd n lo hi b lv0 := by
  have all : ∀ (d : Nat) (v : Nat), v < L → lv0 v = d → Dead lv0 lv v := by
    intro d
    induction d with
    | zero => intro v hv e; exact ⟨by omega, hd v hv (h0.l1 v hv (by omega))⟩
    | succ d ih =>
      intro v hv e
      obtain ⟨j, hj, e1, e2, e3⟩ := h0.pr v hv (by omega)
      have hp := ih (lo j) (hB.lt j hj) (by omega)
      have := (h.a2 j hj hp).2
      rw [e3] at this
      exact this (by omega)
  rintro ⟨j, hj, h1, h2⟩
  have hD := all (lv0 (lo j)).toNat (lo j) (hB.lt j hj) (by omega)
  have := (h.a2 j hj hD).1
  omega
end Go.Mz

/-
  Walks of layer 15: along, by levels.
-/
namespace Go.Mz

section
variable {E : Value → Hp → Prop}
variable {H0 H : Hp} {fb lb xb pb M L n ec bo bb : Nat} {ep : Option Addr} {e : Nat → Edg} {sl : Nat → Sl} {b : Nat → Int} {lv : Nat → Int} {nx : Nat → Nat}

/-- what a search by levels holds -/
structure PhM (H0 H : Hp) (fb lb xb pb M L : Nat) (ep : Option Addr) (n ec : Nat) (e : Nat → Edg) (bo bb : Nat) (sl : Nat → Sl) (b : Nat → Int) (lv : Nat → Int) (nx : Nat → Nat) : Prop where
  pr : PrM H0 H pb M L ep n ec e bo bb sl (outs (elo e) n) b
  cell : H fb = some ⟨[.pointer (some ⟨pb, 0, none⟩), .slice (some ⟨lb, 0, none⟩) M M, .slice (some ⟨xb, 0, none⟩) M M], 88⟩
  rl : Row H (some ⟨lb, 0, none⟩) M M lv
  rx : Row H (some ⟨xb, 0, none⟩) M M fun t => (nx t : Int)
  ff : H0 fb = none
  fl : H0 lb = none
  fx : H0 xb = none
  aF : PrAway pb bo bb L sl fb
  aL : PrAway pb bo bb L sl lb
  aX : PrAway pb bo bb L sl xb
  d1 : fb ≠ lb
  d2 : fb ≠ xb
  d3 : lb ≠ xb

theorem PhM.setL {H' : Hp} {lv' : Nat → Int} (h : PhM H0 H fb lb xb pb M L ep n ec e bo bb sl b lv nx) (s : Step (fpS (some ⟨lb, 0, none⟩)) H H') (r : Row H' (some ⟨lb, 0, none⟩) M M lv') : PhM H0 H' fb lb xb pb M L ep n ec e bo bb sl b lv' nx := by
  have hF : ∀ y, fpS (some ⟨lb, 0, none⟩) y → y = lb := fun y hy => by rwa [fpS_mk] at hy
  exact ⟨h.pr.keep s fun y hy => hF y hy ▸ ⟨h.fl, h.aL⟩, s.keep _ _ h.cell fun hh => h.d1 (hF _ hh), r, h.rx.keep s fun y hy hh => by rw [fpS_mk] at hy; exact h.d3 ((hF _ hh).symm.trans hy), h.ff, h.fl, h.fx, h.aF, h.aL, h.aX, h.d1, h.d2, h.d3⟩

theorem PhM.setX {H' : Hp} {nx' : Nat → Nat} (h : PhM H0 H fb lb xb pb M L ep n ec e bo bb sl b lv nx) (s : Step (fpS (some ⟨xb, 0, none⟩)) H H') (r : Row H' (some ⟨xb, 0, none⟩) M M fun t => (nx' t : Int)) : PhM H0 H' fb lb xb pb M L ep n ec e bo bb sl b lv nx' := by
  have hF : ∀ y, fpS (some ⟨xb, 0, none⟩) y → y = xb := fun y hy => by rwa [fpS_mk] at hy
  exact ⟨h.pr.keep s fun y hy => hF y hy ▸ ⟨h.fx, h.aX⟩, s.keep _ _ h.cell fun hh => h.d2 (hF _ hh), h.rl.keep s fun y hy hh => (by rw [fpS_mk] at hy; exact h.d3 (hy.symm.trans (hF _ hh))), r, h.ff, h.fl, h.fx, h.aF, h.aL, h.aX, h.d1, h.d2, h.d3⟩

theorem PhM.setB {H' : Hp} {b' : Nat → Int} (h : PhM H0 H fb lb xb pb M L ep n ec e bo bb sl b lv nx) (s : Step (fpS (some ⟨bb, 0, none⟩)) H H') (r : PrM H0 H' pb M L ep n ec e bo bb sl (outs (elo e) n) b') : PhM H0 H' fb lb xb pb M L ep n ec e bo bb sl b' lv nx := by
  have hF : ∀ y, fpS (some ⟨bb, 0, none⟩) y → y = bb := fun y hy => by rwa [fpS_mk] at hy
  exact ⟨r, s.keep _ _ h.cell fun hh => h.aF.c (hF _ hh), h.rl.keep s fun y hy hh => (by rw [fpS_mk] at hy; exact h.aL.c (hy.symm.trans (hF _ hh))), h.rx.keep s fun y hy hh => (by rw [fpS_mk] at hy; exact h.aX.c (hy.symm.trans (hF _ hh))), h.ff, h.fl, h.fx, h.aF, h.aL, h.aX, h.d1, h.d2, h.d3⟩

/-- what is known in the midst of a search from `v` -/
structure FIv (n : Nat) (lo hi : Nat → Nat) (b : Nat → Int) (lv0 lv : Nat → Int) (nx : Nat → Nat) (v : Nat) (l : Int) : Prop where
  a1 : ∀ t, lv t = lv0 t ∨ lv t = -1
  a2 : ∀ j, j < n → Dead lv0 lv (lo j) → 0 ≤ b (hi j) ∧ (lv0 (lo (b (hi j)).toNat) = lv0 (lo j) + 1 → Dead lv0 lv (lo (b (hi j)).toNat))
  a3 : ∀ t, t ≠ v → l ≤ lv t → nx t = 0
  pd : ∀ j ∈ (outs lo n v).take (nx v), 0 ≤ b (hi j) ∧ (lv0 (lo (b (hi j)).toNat) = lv0 v + 1 → Dead lv0 lv (lo (b (hi j)).toNat))

theorem balong (hr : Right (M : Int) n e) (hB : Bip M L n (elo e) (ehi e)) : ∀ (k : Nat) {H : Hp} {b : Nat → Int} {lv : Nat → Int} {nx : Nat → Nat} {v : Nat} {K : Bool → Hp → Prop}, ((M : Int) + 1 - lv v).toNat ≤ k → PhM H0 H fb lb xb pb M L ep n ec e bo bb sl b lv nx → v < L → 0 ≤ lv v → (∀ t, -1 ≤ lv t ∧ lv t ≤ M) → MB M n (elo e) (ehi e) b → (∀ t, t < L → nx t ≤ (outs (elo e) n t).length) →
    (∀ H' b1 lv1 nx1, PhM H0 H' fb lb xb pb M L ep n ec e bo bb sl b1 lv1 nx1 → Won M L n (elo e) (ehi e) (sP (elo e) b lv (lv v)) v b b1 → Fel (lv v) v lv nx lv1 nx1 → lv1 v = lv v → (∀ t, t < L → nx1 t ≤ (outs (elo e) n t).length) → K true H') →
    (∀ H' lv1 nx1, PhM H0 H' fb lb xb pb M L ep n ec e bo bb sl b lv1 nx1 → Fel (lv v) v lv nx lv1 nx1 → lv1 v = -1 → (∀ t, t < L → nx1 t ≤ (outs (elo e) n t).length) → (∀ lv0, FI n (elo e) (ehi e) b lv0 lv nx (lv v) → FI n (elo e) (ehi e) b lv0 lv1 nx1 (lv v)) → K false H') → bimatch_phases_along.call (some ⟨fb, 0, none⟩) v E H K := by
  intro k
  induction k using Nat.strongRecOn with
  | _ k ih =>
  intro H b lv nx v K hk hM hv hl0 hlb hMB hnx won lost
  have hN0 := hr.N0; have hN1 := hr.N1; have hn1 := hr.n1
  have hLM := hB.lm
  have hse : 0 ≤ b v → sP (elo e) b lv (lv v) (ehi e (b v).toNat) = true := fun hb => by
    rcases hMB.all (v := v) (by omega) with h | ⟨k0, hk0, h, _⟩
    · omega
    · have h1 := (hMB.both (v := v) (by omega) hk0 h).2
      have h2 := MX.left hB hMB hv hk0 h
      rw [h, Int.toNat_natCast, sP_iff, h1, Int.toNat_natCast, h2]
      exact ⟨by omega, Int.le_refl _⟩
  refine bimatch_phases_along.of (bimatch_phases_along.run_eq ?_)
  unfold bimatch_phases_along.run_t
  refine bimatch_phases_along.l1_rule (fun p0 v1 H' => p0 = some ⟨fb, 0, none⟩ ∧ v1 = v ∧ ∃ m, ∃ (lvc : Nat → Int) (nxc : Nat → Nat), PhM H0 H' fb lb xb pb M L ep n ec e bo bb sl b lvc nxc ∧ lvc v = lv v ∧ Fel (lv v) v lv nx lvc nxc ∧ (∀ t, -1 ≤ lvc t ∧ lvc t ≤ M) ∧ (∀ t, t < L → nxc t ≤ (outs (elo e) n t).length) ∧ (∀ lv0, FI n (elo e) (ehi e) b lv0 lv nx (lv v) → FIv n (elo e) (ehi e) b lv0 lvc nxc v (lv v)) ∧ (outs (elo e) n v).length - nxc v = m)
    (fun p0 v1 H' => gm fun m => ∃ (lvc : Nat → Int) (nxc : Nat → Nat), PhM H0 H' fb lb xb pb M L ep n ec e bo bb sl b lvc nxc ∧ lvc v = lv v ∧ Fel (lv v) v lv nx lvc nxc ∧ (∀ t, -1 ≤ lvc t ∧ lvc t ≤ M) ∧ (∀ t, t < L → nxc t ≤ (outs (elo e) n t).length) ∧ (∀ lv0, FI n (elo e) (ehi e) b lv0 lv nx (lv v) → FIv n (elo e) (ehi e) b lv0 lvc nxc v (lv v)) ∧ (outs (elo e) n v).length - nxc v = m) ?_
    ⟨rfl, rfl, _, lv, nx, hM, rfl, Fel.refl, hlb, hnx, fun lv0 hF => ⟨hF.a1, hF.a2, fun t _ ht => hF.a3 t ht, fun j hj => by rw [hF.a3 v (Int.le_refl _)] at hj; simp at hj⟩, rfl⟩
  rintro p0 v1 H1 ⟨rfl, rfl, m0, hm0⟩ X hX
  have hgm := gm_of (p := fun m => ∃ (lvc : Nat → Int) (nxc : Nat → Nat), PhM H0 H1 fb lb xb pb M L ep n ec e bo bb sl b lvc nxc ∧ lvc v = lv v ∧ Fel (lv v) v lv nx lvc nxc ∧ (∀ t, -1 ≤ lvc t ∧ lvc t ≤ M) ∧ (∀ t, t < L → nxc t ≤ (outs (elo e) n t).length) ∧ (∀ lv0, FI n (elo e) (ehi e) b lv0 lv nx (lv v) → FIv n (elo e) (ehi e) b lv0 lvc nxc v (lv v)) ∧ (outs (elo e) n v).length - nxc v = m) hm0
  obtain ⟨⟨lvc, nxc, hM1, hlv, hFe, hlb1, hnx1, hFI, hmm⟩, _⟩ := hgm
  have hol : (outs (elo e) n v).length ≤ n := outs_len
  refine bimatch_phases_along.b1_eq ?_
  unfold bimatch_phases_along.b1_t
  simp only [nn_mk, get_at hM1.cell, get_at hM1.pr.cell, List.getElem?_cons_zero, List.getElem?_cons_succ, ldI_mk, ldP_mk, ldS_mk, Nat.zero_add]
  refine hM1.rx.rdr.ixI (by omega) (by omega) ?_
  refine hM1.pr.out.row.rdr.ixS (by omega) (by omega) ?_
  rw [Int.toNat_natCast, hM1.pr.out.len v hv]
  refine bc (fun hlt => ?_) fun hge => ?_
  · have hlt' : nxc v < (outs (elo e) n v).length := by omega
    try simp only [nn_mk, get_at hM1.cell, get_at hM1.pr.cell, List.getElem?_cons_zero, List.getElem?_cons_succ, ldI_mk, ldP_mk, ldS_mk, Nat.zero_add]
    refine hM1.pr.out.row.rdr.ixS (by omega) (by omega) ?_
    rw [Int.toNat_natCast, hM1.pr.out.len v hv]
    refine hM1.rx.rdr.ixI (by omega) (by omega) ?_
    rw [Int.toNat_natCast]
    refine (hM1.pr.out.each v hv).rdr.ixI (by omega) (by omega) ?_
    obtain ⟨i, hi⟩ : ∃ i, (outs (elo e) n v)[nxc v] = i := ⟨_, rfl⟩
    have ei : lsF (outs (elo e) n v) ((nxc v : Int)).toNat = (i : Int) := by rw [Int.toNat_natCast]; unfold lsF; rw [List.getElem?_eq_getElem hlt', Option.getD_some, hi]
    rw [ei]
    obtain ⟨hin, hiv⟩ := mem_outs.1 (show i ∈ outs (elo e) n v from hi ▸ List.getElem_mem hlt')
    have hwL := hB.ge i hin
    have hwM := hB.hm i hin
    have htake : (outs (elo e) n v).take (nxc v + 1) = (outs (elo e) n v).take (nxc v) ++ [i] := by rw [List.take_succ_eq_append_getElem hlt', hi]
    -- on with the next edge
    have next : ∀ {H2 : Hp} {lvd : Nat → Int} {nxd : Nat → Nat}, PhM H0 H2 fb lb xb pb M L ep n ec e bo bb sl b lvd nxd → lvd v = lv v → Fel (lv v) v lv nx lvd nxd → (∀ t, -1 ≤ lvd t ∧ lvd t ≤ M) → (∀ t, t < L → nxd t ≤ (outs (elo e) n t).length) → nxd v = nxc v →
        (∀ lv0, FI n (elo e) (ehi e) b lv0 lv nx (lv v) → FIv n (elo e) (ehi e) b lv0 lvd nxd v (lv v) ∧ 0 ≤ b (ehi e i) ∧ (lv0 (elo e (b (ehi e i)).toNat) = lv0 v + 1 → Dead lv0 lvd (elo e (b (ehi e i)).toNat))) → bimatch_phases_along.j2 (some ⟨fb, 0, none⟩) (v : Int) X E H2 K := by
      intro H2 lvd nxd hM2 hl2 hF2 hb2 hx2 hxv hI2
      refine bimatch_phases_along.j2_eq ?_
      unfold bimatch_phases_along.j2_t
      simp only [nn_mk, get_at hM2.cell, List.getElem?_cons_zero, List.getElem?_cons_succ, ldI_mk, ldP_mk, ldS_mk, Nat.zero_add]
      refine hM2.rx.rdr.ixI (by omega) (by omega) ?_
      rw [Int.toNat_natCast, i64w (by omega) (by omega)]
      refine hM2.rx.stI (by omega) (by omega) _ fun H3 r3 s3 => ?_
      have r3' : Row H3 (some ⟨xb, 0, none⟩) M M fun t => ((upf nxd v (nxd v + 1) t : Nat) : Int) := r3.congr fun t _ => by
        rw [Int.toNat_natCast]
        unfold upf
        split <;> simp
      have hM3 := hM2.setX s3 r3'
      have hP : ∃ (lvc : Nat → Int) (nxc : Nat → Nat), PhM H0 H3 fb lb xb pb M L ep n ec e bo bb sl b lvc nxc ∧ lvc v = lv v ∧ Fel (lv v) v lv nx lvc nxc ∧ (∀ t, -1 ≤ lvc t ∧ lvc t ≤ M) ∧ (∀ t, t < L → nxc t ≤ (outs (elo e) n t).length) ∧ (∀ lv0, FI n (elo e) (ehi e) b lv0 lv nx (lv v) → FIv n (elo e) (ehi e) b lv0 lvc nxc v (lv v)) ∧ (outs (elo e) n v).length - nxc v = (outs (elo e) n v).length - (nxd v + 1) := by
        refine ⟨lvd, upf nxd v (nxd v + 1), hM3, hl2, ⟨hF2.a, fun t ht hl => by rw [upf_ne ht]; exact hF2.b t ht hl⟩, hb2, fun t ht => ?_, fun lv0 hF => ?_, ?_⟩
        · by_cases et : t = v
          · rw [et, upf_same]; omega
          · rw [upf_ne et]; exact hx2 t ht
        · obtain ⟨g, g1, g2⟩ := hI2 lv0 hF
          refine ⟨g.a1, g.a2, fun t ht hl => by rw [upf_ne ht]; exact g.a3 t ht hl, fun j hj => ?_⟩
          rw [upf_same] at hj
          rw [hxv, htake, List.mem_append, List.mem_singleton] at hj
          rcases hj with hj | rfl
          · exact g.pd j (by rw [hxv]; exact hj)
          · exact ⟨g1, g2⟩
        · rw [upf_same]
      have h1 := (gm_of (p := fun m => ∃ (lvc : Nat → Int) (nxc : Nat → Nat), PhM H0 H3 fb lb xb pb M L ep n ec e bo bb sl b lvc nxc ∧ lvc v = lv v ∧ Fel (lv v) v lv nx lvc nxc ∧ (∀ t, -1 ≤ lvc t ∧ lvc t ≤ M) ∧ (∀ t, t < L → nxc t ≤ (outs (elo e) n t).length) ∧ (∀ lv0, FI n (elo e) (ehi e) b lv0 lv nx (lv v) → FIv n (elo e) (ehi e) b lv0 lvc nxc v (lv v)) ∧ (outs (elo e) n v).length - nxc v = m) hP).2
      exact hX _ _ _ ⟨rfl, rfl, _, hP⟩ (by omega)
    -- the edge is taken
    have took : ∀ {H2 : Hp} {b3 : Nat → Int} {lvd : Nat → Int} {nxd : Nat → Nat}, PhM H0 H2 fb lb xb pb M L ep n ec e bo bb sl b3 lvd nxd → lvd v = lv v → Fel (lv v) v lv nx lvd nxd → (∀ t, t < L → nxd t ≤ (outs (elo e) n t).length) → Won M L n (elo e) (ehi e) (sP (elo e) b lv (lv v)) v b (upf (upf b3 v (i : Int)) (ehi e i) (i : Int)) → bimatch_phases_along.j1 (some ⟨fb, 0, none⟩) (i : Int) X E H2 K := by
      intro H2 b3 lvd nxd hM2 hl2 hF2 hx2 hw
      refine bimatch_phases_along.j1_eq ?_
      unfold bimatch_phases_along.j1_t
      simp only [nn_mk, get_at hM2.cell, List.getElem?_cons_zero, List.getElem?_cons_succ, ldS_mk, ldP_mk, Nat.zero_add]
      refine btake hM2.pr hr hin (by omega) fun H4 p4 s4 => ?_
      rw [hiv] at p4
      exact won H4 _ lvd nxd (hM2.setB s4 p4) hw hF2 hl2 hx2
    try simp only [nn_mk, get_at hM1.cell, get_at hM1.pr.cell, List.getElem?_cons_zero, List.getElem?_cons_succ, ldI_mk, ldP_mk, ldS_mk, Nat.zero_add]
    rw [← hiv]
    refine bother_lo hM1.pr hr hin ?_
    simp only [nn_mk, get_at hM1.cell, get_at hM1.pr.cell, List.getElem?_cons_zero, List.getElem?_cons_succ, ldI_mk, ldP_mk, ldS_mk, Nat.zero_add]
    refine ⟨trivial, trivial, ?_⟩
    refine hM1.pr.rb.rdr.ixI (by omega) (by omega) ?_
    rw [Int.toNat_natCast]
    refine bc (fun hm => ?_) fun hf => ?_
    · rcases hMB.all hwM with hbk | ⟨kk, hkn, hbk, _⟩
      · omega
      · have hki : ehi e kk = ehi e i := MX.right hB hMB hwL hwM hkn hbk
        have huL := hB.lt kk hkn
        try simp only [nn_mk, get_at hM1.cell, List.getElem?_cons_zero, List.getElem?_cons_succ, ldP_mk, Nat.zero_add]
        refine bother_lo hM1.pr hr hin ?_
        simp only [nn_mk, get_at hM1.cell, List.getElem?_cons_zero, List.getElem?_cons_succ, ldP_mk, Nat.zero_add]
        refine ⟨trivial, ?_⟩
        rw [hbk, ← hki]
        refine bother_hi hM1.pr hr hkn ?_
        simp only [nn_mk, get_at hM1.cell, List.getElem?_cons_zero, List.getElem?_cons_succ, ldS_mk, Nat.zero_add]
        refine hM1.rl.rdr.ixI (by omega) (by omega) ?_
        rw [Int.toNat_natCast]
        refine hM1.rl.rdr.ixI (by omega) (by omega) ?_
        rw [Int.toNat_natCast, hiv]
        have hbv := hlb1 v
        have hbu := hlb1 (elo e kk)
        rw [i64w (by omega) (by omega)]
        have hun : ∀ lv0, FI n (elo e) (ehi e) b lv0 lv nx (lv v) → lv0 v = lv v := fun lv0 hF => by rcases hF.a1 v with h | h <;> omega
        refine bcn (fun hne => ?_) fun heq => ?_
        · refine next hM1 hlv hFe hlb1 hnx1 rfl fun lv0 hF => ⟨hFI lv0 hF, by omega, fun h => ?_⟩
          rw [hbk, Int.toNat_natCast] at h ⊢
          have h1 := hun lv0 hF
          rcases (hFI lv0 hF).a1 (elo e kk) with h2 | h2
          · omega
          · exact ⟨by omega, h2⟩
        · have huv : elo e kk ≠ v := fun h => by rw [h] at heq; omega
          have hlu : lv (elo e kk) = lv v + 1 := by rcases hFe.a (elo e kk) huv with h | h <;> omega
          refine ih (((M : Int) + 1 - lvc (elo e kk)).toNat) (by omega) (Nat.le_refl _) hM1 huL (by omega) hlb1 hMB hnx1 (fun H3 b3 lvd nxd hM3 hw3 hF3 hl3 hx3 => ?_) fun H3 lvd nxd hM3 hF3 hl3 hx3 hI3 => ?_
          · refine bcb (fun h => by cases h) fun _ => ?_
            have hvd : lvd v = lv v := by rcases hF3.a v (Ne.symm huv) with h | h <;> omega
            refine took hM3 hvd ⟨fun t ht => ?_, fun t ht hl => ?_⟩ hx3 (Won.step hB hMB hin hiv hkn hbk rfl ?_ hse (fun w hw => ?_) ?_ hw3)
            · by_cases et : t = elo e kk
              · rw [et, hl3, heq, hlu, hlv]; exact .inl rfl
              · rcases hF3.a t et with h | h
                · rw [h]; exact hFe.a t ht
                · right; rcases hFe.a t ht with h' | h' <;> omega
            · have et : t ≠ elo e kk := fun h => by rw [h] at hl; omega
              rw [hF3.b t et (by rcases hFe.a t ht with h | h <;> omega), hFe.b t ht hl]
            · cases hh : sP (elo e) b lv (lv v) (ehi e i) with
              | false => rfl
              | true => rw [sP_iff, hbk, Int.toNat_natCast] at hh; omega
            · rw [sP_iff] at hw ⊢
              refine ⟨hw.1, ?_⟩
              by_cases et : elo e (b w).toNat = v
              · rw [et]; omega
              · rcases hFe.a _ et with h | h <;> omega
            · rw [sP_iff, hbk, Int.toNat_natCast]; exact ⟨by omega, Int.le_refl _⟩
          · refine bcb (fun _ => ?_) fun h => by cases h
            have hvd : lvd v = lv v := by rcases hF3.a v (Ne.symm huv) with h | h <;> omega
            have hxd : nxd v = nxc v := hF3.b v (Ne.symm huv) (by omega)
            have hcd : ∀ t, lvd t = lvc t ∨ lvd t = -1 := fun t => by
              by_cases et : t = elo e kk
              · rw [et]; exact .inr hl3
              · rcases hF3.a t et with h | h
                · exact .inl h
                · exact .inr h.1
            refine next hM3 hvd ⟨fun t ht => ?_, fun t ht hl => ?_⟩ (fun t => by rcases hcd t with h | h <;> have := hlb1 t <;> omega) hx3 hxd fun lv0 hF => ?_
            · by_cases et : t = elo e kk
              · rw [et]; right; omega
              · rcases hF3.a t et with h | h
                · rw [h]; exact hFe.a t ht
                · right; rcases hFe.a t ht with h' | h' <;> omega
            · have et : t ≠ elo e kk := fun h => by rw [h] at hl; omega
              rw [hF3.b t et (by rcases hFe.a t ht with h | h <;> omega), hFe.b t ht hl]
            · have g := hFI lv0 hF
              have gd := hI3 lv0 ⟨g.a1, g.a2, fun t ht => g.a3 t (fun h => by rw [h] at ht; omega) (by omega)⟩
              have mono : ∀ t, Dead lv0 lvc t → Dead lv0 lvd t := fun t h => ⟨h.1, by rcases hcd t with h' | h' <;> have := h.2 <;> omega⟩
              refine ⟨⟨gd.a1, gd.a2, fun t ht hl => ?_, fun j hj => ?_⟩, by omega, fun h => ?_⟩
              · by_cases hlt2 : lvc (elo e kk) ≤ lvd t
                · exact gd.a3 t hlt2
                · have et : t ≠ elo e kk := fun h => by rw [h] at hl; omega
                  have hct : lvd t = lvc t := by rcases hcd t with h | h <;> omega
                  rw [hF3.b t et (by omega)]
                  exact g.a3 t ht (by omega)
              · rw [hxd] at hj
                obtain ⟨q1, q2⟩ := g.pd j hj
                exact ⟨q1, fun h => mono _ (q2 h)⟩
              · rw [hbk, Int.toNat_natCast] at h ⊢
                have h1 := hun lv0 hF
                exact ⟨by omega, hl3⟩
    · refine took hM1 hlv hFe hnx1 (Won.end hB hMB hin hiv (by omega) ?_ hse)
      cases hh : sP (elo e) b lv (lv v) (ehi e i) with
      | false => rfl
      | true => rw [sP_iff] at hh; omega
  · refine bimatch_phases_along.j3_eq ?_
    unfold bimatch_phases_along.j3_t
    simp only [nn_mk, get_at hM1.cell, List.getElem?_cons_zero, List.getElem?_cons_succ, ldS_mk, Nat.zero_add]
    refine hM1.rl.stI (by omega) (by omega) _ fun H2 r2 s2 => ?_
    rw [Int.toNat_natCast] at r2
    refine lost H2 _ nxc (hM1.setL s2 r2) ⟨fun t ht => by rw [upf_ne ht]; exact hFe.a t ht, hFe.b⟩ upf_same hnx1 fun lv0 hF => ?_
    have g := hFI lv0 hF
    have h1 : lv0 v = lv v := by rcases hF.a1 v with h | h <;> omega
    have mono : ∀ t, Dead lv0 lvc t → Dead lv0 (upf lvc v (-1)) t := fun t h => ⟨h.1, by
      by_cases et : t = v
      · rw [et, upf_same]
      · rw [upf_ne et]; exact h.2⟩
    refine ⟨fun t => ?_, fun j hj hd => ?_, fun t ht => ?_⟩
    · by_cases et : t = v
      · rw [et, upf_same]; exact .inr rfl
      · rw [upf_ne et]; exact g.a1 t
    · by_cases ej : elo e j = v
      · have hjm : j ∈ (outs (elo e) n v).take (nxc v) := by
          rw [List.take_of_length_le (by omega)]
          exact mem_outs.2 ⟨hj, ej⟩
        obtain ⟨q1, q2⟩ := g.pd j hjm
        exact ⟨q1, fun h => mono _ (q2 (by rw [ej] at h; exact h))⟩
      · obtain ⟨q1, q2⟩ := g.a2 j hj ⟨hd.1, by have := hd.2; rwa [upf_ne ej] at this⟩
        exact ⟨q1, fun h => mono _ (q2 h)⟩
    · by_cases et : t = v
      · rw [et, upf_same] at ht; omega
      · rw [upf_ne et] at ht; exact g.a3 t et ht
end
end Go.Mz

/-
  Matchings between two sides in plain words: the look over all that can be come to, by levels.
-/
namespace Go.Mz
variable {M L n : Nat} {lo hi : Nat → Nat} {b : Nat → Int} {lv : Nat → Int}

/-- in the midst of the look: q is the line, at p stands the node whose edges are gone over, D tells the edges gone over -/
structure BF (M L n : Nat) (lo hi : Nat → Nat) (b : Nat → Int) (lv : Nat → Int) (q : List Nat) (p : Nat) (D : Nat → Prop) (f : Bool) : Prop where
  ql : ∀ u ∈ q, u < L ∧ 0 ≤ lv u
  qa : ∀ u, u < L → 0 ≤ lv u → u ∈ q
  hL : ∀ u, L ≤ u → lv u = -1
  nd : q.Nodup
  lq : ∀ (i : Nat) u, q[i]? = some u → lv u ≤ i
  top : ∀ u ∈ q, ∀ w, q[p]? = some w → lv u ≤ lv w + 1
  srt : ∀ (i i' : Nat) u u', i ≤ i' → q[i]? = some u → q[i']? = some u' → lv u ≤ lv u'
  l0 : ∀ v, v < L → b v < 0 → lv v = 0
  l1 : ∀ v, v < L → lv v = 0 → b v < 0
  dn : ∀ v, -1 ≤ lv v
  pr : ∀ v, v < L → 0 < lv v → ∃ j, j < n ∧ lv (lo j) + 1 = lv v ∧ 0 ≤ b (hi j) ∧ lo (b (hi j)).toNat = v
  dl : ∀ j, j < n → D j → 0 ≤ lv (lo j)
  nb : ∀ j, j < n → D j → b (hi j) < 0 ∨ (0 ≤ lv (lo (b (hi j)).toNat) ∧ lv (lo (b (hi j)).toNat) ≤ lv (lo j) + 1)
  fd : f = true ↔ ∃ j, j < n ∧ D j ∧ b (hi j) < 0

variable {q : List Nat} {p : Nat} {D D' : Nat → Prop} {f : Bool}

theorem BF.len (h : BF M L n lo hi b lv q p D f) : q.length ≤ L := by
  have := List.Nodup.length_le_of_subset (l₁ := q) (l₂ := List.range L) h.nd fun w hw => List.mem_range.2 (h.ql w hw).1
  simpa using this

theorem BF.of (h : BF M L n lo hi b lv q p D f) (hd : ∀ j, j < n → (D' j ↔ D j)) : BF M L n lo hi b lv q p D' f :=
  ⟨h.ql, h.qa, h.hL, h.nd, h.lq, h.top, h.srt, h.l0, h.l1, h.dn, h.pr, fun j hj hD => h.dl j hj ((hd j hj).1 hD), fun j hj hD => h.nb j hj ((hd j hj).1 hD), h.fd.trans ⟨fun ⟨j, a, c, d⟩ => ⟨j, a, (hd j a).2 c, d⟩, fun ⟨j, a, c, d⟩ => ⟨j, a, (hd j a).1 c, d⟩⟩⟩

/-- the next in the line -/
theorem BF.step (h : BF M L n lo hi b lv q p D f) (hp : p < q.length) : BF M L n lo hi b lv q (p + 1) D f :=
  ⟨h.ql, h.qa, h.hL, h.nd, h.lq, fun u hu w hw => by
    have h1 := h.top u hu q[p] (List.getElem?_eq_getElem hp)
    have h2 := h.srt p (p + 1) q[p] w (by omega) (List.getElem?_eq_getElem hp) hw
    omega, h.srt, h.l0, h.l1, h.dn, h.pr, h.dl, h.nb, h.fd⟩

/-- an edge to a node that isn't matched -/
theorem BF.free (h : BF M L n lo hi b lv q p D f) {j : Nat} (hj : j < n) (hp : q[p]? = some (lo j)) (hb : b (hi j) < 0) : BF M L n lo hi b lv q p (fun t => D t ∨ t = j) true :=
  ⟨h.ql, h.qa, h.hL, h.nd, h.lq, h.top, h.srt, h.l0, h.l1, h.dn, h.pr, fun t ht hD => (by
    rcases hD with hD | rfl
    · exact h.dl t ht hD
    · exact (h.ql _ (List.mem_of_getElem? hp)).2), fun t ht hD => by
    rcases hD with hD | rfl
    · exact h.nb t ht hD
    · exact .inl hb, ⟨fun _ => ⟨j, hj, .inr rfl, hb⟩, fun _ => rfl⟩⟩

/-- the edges but that to one that is matched -/
theorem BF.fdm (h : BF M L n lo hi b lv q p D f) {j : Nat} (hb : 0 ≤ b (hi j)) : f = true ↔ ∃ t, t < n ∧ (D t ∨ t = j) ∧ b (hi t) < 0 :=
  h.fd.trans ⟨fun ⟨t, a, c, d⟩ => ⟨t, a, .inl c, d⟩, fun ⟨t, a, c, d⟩ => c.elim (fun c => ⟨t, a, c, d⟩) fun c => by rw [c] at d; omega⟩

/-- an edge to a node whose mate has a level -/
theorem BF.seen (h : BF M L n lo hi b lv q p D f) {j : Nat} (hj : j < n) (hp : q[p]? = some (lo j)) (hb : 0 ≤ b (hi j)) (hu : lo (b (hi j)).toNat < L) (hl : 0 ≤ lv (lo (b (hi j)).toNat)) : BF M L n lo hi b lv q p (fun t => D t ∨ t = j) f :=
  ⟨h.ql, h.qa, h.hL, h.nd, h.lq, h.top, h.srt, h.l0, h.l1, h.dn, h.pr, fun t ht hD => (by
    rcases hD with hD | rfl
    · exact h.dl t ht hD
    · exact (h.ql _ (List.mem_of_getElem? hp)).2), fun t ht hD => by
    rcases hD with hD | rfl
    · exact h.nb t ht hD
    · exact .inr ⟨hl, h.top _ (h.qa _ hu hl) _ hp⟩, h.fdm hb⟩

/-- an edge to a node whose mate has none yet -/
theorem BF.push (h : BF M L n lo hi b lv q p D f) {j : Nat} (hj : j < n) (hp : q[p]? = some (lo j)) (hb : 0 ≤ b (hi j)) (hu : lo (b (hi j)).toNat < L) (hl : lv (lo (b (hi j)).toNat) < 0) :
    BF M L n lo hi b (upf lv (lo (b (hi j)).toNat) (lv (lo j) + 1)) (q ++ [lo (b (hi j)).toNat]) p (fun t => D t ∨ t = j) f := by
  generalize eu : lo (b (hi j)).toNat = u at *
  have hpl : p < q.length := by
    rcases Nat.lt_or_ge p q.length with h' | h'
    · exact h'
    · rw [List.getElem?_eq_none h'] at hp; cases hp
  have hvq : lo j ∈ q := List.mem_of_getElem? hp
  have hv := h.ql _ hvq
  have hne : ∀ w ∈ q, w ≠ u := fun w hw e => by have := (h.ql w hw).2; rw [e] at this; omega
  have hvu := hne _ hvq
  have hbu : 0 ≤ b u := Int.not_lt.1 fun hlt => by have := h.l0 u hu hlt; omega
  have hlp := h.lq p _ hp
  have mem : ∀ {i : Nat} {w}, (q ++ [u])[i]? = some w → (q[i]? = some w ∧ w ∈ q) ∨ (w = u ∧ i = q.length) := fun {i w} hw => by
    rcases Nat.lt_or_ge i q.length with h' | h'
    · rw [List.getElem?_append_left h'] at hw; exact .inl ⟨hw, List.mem_of_getElem? hw⟩
    · rw [List.getElem?_append_right h'] at hw
      rcases Nat.eq_or_lt_of_le h' with h'' | h''
      · rw [← h'', Nat.sub_self] at hw; exact .inr ⟨by simpa using hw.symm, h''.symm⟩
      · rw [List.getElem?_eq_none (by simp; omega)] at hw; cases hw
  refine ⟨fun w hw => ?_, fun w hw hl' => ?_, fun w hw => ?_, ?_, fun i w hw => ?_, fun w hw x hx => ?_, fun i i' w w' hi hw hw' => ?_, fun w hw hb' => ?_, fun w hw hl' => ?_, fun w => ?_, fun w hw hl' => ?_, fun t ht hD => ?_, fun t ht hD => ?_, h.fdm hb⟩
  · rcases List.mem_append.1 hw with hw | hw
    · rw [upf_ne (hne w hw)]; exact h.ql w hw
    · rw [List.mem_singleton.1 hw, upf_same]; exact ⟨hu, by omega⟩
  · by_cases ew : w = u
    · rw [ew]; simp
    · rw [upf_ne ew] at hl'; exact List.mem_append_left _ (h.qa w hw hl')
  · rw [upf_ne (by omega)]; exact h.hL w hw
  · rw [List.nodup_append]
    exact ⟨h.nd, by simp, fun a ha c hc => by rw [List.mem_singleton.1 hc]; exact hne a ha⟩
  · rcases mem hw with ⟨h1, h2⟩ | ⟨rfl, rfl⟩
    · rw [upf_ne (hne w h2)]; exact h.lq i w h1
    · rw [upf_same]; omega
  · rcases mem hx with ⟨h1, h2⟩ | ⟨_, h2⟩
    · rw [hp] at h1
      have ex : lo j = x := by simpa using h1
      rw [← ex, upf_ne hvu]
      rcases List.mem_append.1 hw with hw | hw
      · rw [upf_ne (hne w hw)]; exact h.top w hw _ hp
      · rw [List.mem_singleton.1 hw, upf_same]; exact Int.le_refl _
    · omega
  · rcases mem hw with ⟨h1, h2⟩ | ⟨rfl, rfl⟩
    · rw [upf_ne (hne w h2)]
      rcases mem hw' with ⟨h3, h4⟩ | ⟨rfl, rfl⟩
      · rw [upf_ne (hne w' h4)]; exact h.srt i i' w w' hi h1 h3
      · rw [upf_same]; exact h.top w h2 _ hp
    · rcases mem hw' with ⟨h3, h4⟩ | ⟨rfl, _⟩
      · rw [List.getElem?_eq_none hi] at h3; cases h3
      · exact Int.le_refl _
  · by_cases ew : w = u
    · rw [ew] at hb'; omega
    · rw [upf_ne ew]; exact h.l0 w hw hb'
  · by_cases ew : w = u
    · rw [ew, upf_same] at hl'; omega
    · rw [upf_ne ew] at hl'; exact h.l1 w hw hl'
  · by_cases ew : w = u
    · rw [ew, upf_same]; omega
    · rw [upf_ne ew]; exact h.dn w
  · by_cases ew : w = u
    · rw [ew, upf_same]; exact ⟨j, hj, by rw [upf_ne hvu], hb, eu⟩
    · rw [upf_ne ew] at hl' ⊢
      obtain ⟨t, t1, t2, t3, t4⟩ := h.pr w hw hl'
      refine ⟨t, t1, ?_, t3, t4⟩
      by_cases et : lo t = u
      · rw [et] at t2
        have := h.l1 w hw
        have := h.dn u
        omega
      · rw [upf_ne et]; exact t2
  · rcases hD with hD | rfl
    · have := h.dl t ht hD
      rw [upf_ne (fun e => by rw [e] at this; omega)]; exact this
    · rw [upf_ne hvu]; exact hv.2
  · rcases hD with hD | rfl
    · rcases h.nb t ht hD with h1 | ⟨h1, h2⟩
      · exact .inl h1
      · right
        have e1 : lo (b (hi t)).toNat ≠ u := fun e => by rw [e] at h1; omega
        have e2 : lo t ≠ u := fun e => by have := h.dl t ht hD; rw [e] at this; omega
        rw [upf_ne e1, upf_ne e2]; exact ⟨h1, h2⟩
    · right
      rw [eu, upf_same, upf_ne hvu]; exact ⟨by omega, Int.le_refl _⟩

/-- at the end of the line -/
theorem BF.done (hB : Bip M L n lo hi) (h : BF M L n lo hi b lv q p (fun j => lo j ∈ q) f) : Lay M L n lo hi b lv ∧ (f = true ↔ Fnd n lo hi b lv) := by
  have hLM := hB.lm
  have hlen := h.len
  have mem : ∀ j, j < n → (lo j ∈ q ↔ 0 ≤ lv (lo j)) := fun j hj => ⟨fun hm => (h.ql _ hm).2, fun hl => h.qa _ (hB.lt j hj) hl⟩
  refine ⟨⟨h.l0, h.l1, fun v => ?_, h.dn, fun j hj hl => h.nb j hj ((mem j hj).2 hl), h.pr⟩, h.fd.trans ⟨fun ⟨j, a, c, d⟩ => ⟨j, a, (mem j a).1 c, d⟩, fun ⟨j, a, c, d⟩ => ⟨j, a, (mem j a).2 c, d⟩⟩⟩
  by_cases hv : v < L
  · by_cases hl : 0 ≤ lv v
    · obtain ⟨i, hi', e⟩ := List.getElem_of_mem (h.qa v hv hl)
      have := h.lq i v (by rw [List.getElem?_eq_getElem hi', e])
      omega
    · omega
  · rw [h.hL v (by omega)]; omega

/-- before the first node of the line -/
theorem BF.start (hB : Bip M L n lo hi) (hq : ∀ u, u ∈ q ↔ u < L ∧ b u < 0) (hn : q.Nodup) (h0 : ∀ u, u < L → b u < 0 → lv u = 0) (h1 : ∀ u, (L ≤ u ∨ 0 ≤ b u) → lv u = -1) : BF M L n lo hi b lv q 0 (fun j => lo j ∈ q.take 0) false := by
  have hz : ∀ u ∈ q, lv u = 0 := fun u hu => h0 u ((hq u).1 hu).1 ((hq u).1 hu).2
  have cs : ∀ u, (u < L ∧ b u < 0 ∧ lv u = 0) ∨ lv u = -1 := fun u => by
    by_cases a : u < L
    · by_cases c : b u < 0
      · exact .inl ⟨a, c, h0 u a c⟩
      · exact .inr (h1 u (.inr (by omega)))
    · exact .inr (h1 u (.inl (by omega)))
  refine ⟨fun u hu => ⟨((hq u).1 hu).1, by rw [hz u hu]; decide⟩, fun u hu hl => ?_, fun u hu => h1 u (.inl hu), hn, fun i u hu => ?_, fun u hu w hw => ?_, fun i i' u u' _ hu hu' => ?_, h0, fun v hv hl => ?_, fun v => ?_, fun v hv hl => ?_, fun j hj hD => by simp at hD, fun j hj hD => by simp at hD, ⟨fun h => (by cases h), fun ⟨j, _, hD, _⟩ => by simp at hD⟩⟩
  · rcases cs u with h | h
    · exact (hq u).2 ⟨h.1, h.2.1⟩
    · omega
  · rw [hz u (List.mem_of_getElem? hu)]; omega
  · rw [hz u hu, hz w (List.mem_of_getElem? hw)]; decide
  · rw [hz u (List.mem_of_getElem? hu), hz u' (List.mem_of_getElem? hu')]; exact Int.le_refl _
  · rcases cs v with h | h
    · exact h.2.1
    · omega
  · rcases cs v with h | h <;> omega
  · rcases cs v with h | h <;> omega
end Go.Mz

/-
  Walks of layer 15: layer.
-/
namespace Go.Mz

section
variable {E : Value → Hp → Prop}
variable {H0 H : Hp} {fb lb xb pb M L n ec bo bb : Nat} {ep : Option Addr} {e : Nat → Edg} {sl : Nat → Sl} {b : Nat → Int} {lv : Nat → Int} {nx : Nat → Nat}

/-- what a search by levels doesn't hold -/
structure PhA (H0 : Hp) (fb lb xb pb bo bb L : Nat) (sl : Nat → Sl) (y : Nat) : Prop where
  n : H0 y = none
  w : PrAway pb bo bb L sl y
  f : y ≠ fb
  l : y ≠ lb
  x : y ≠ xb

theorem PhM.keep {H' : Hp} {F : Nat → Prop} (h : PhM H0 H fb lb xb pb M L ep n ec e bo bb sl b lv nx) (s : Step F H H') (hF : ∀ y, F y → PhA H0 fb lb xb pb bo bb L sl y) : PhM H0 H' fb lb xb pb M L ep n ec e bo bb sl b lv nx :=
  ⟨h.pr.keep s fun y hy => ⟨(hF y hy).n, (hF y hy).w⟩, s.keep _ _ h.cell fun hh => (hF _ hh).f rfl, h.rl.keep s fun y hy hh => by rw [fpS_mk] at hy; exact (hF _ hh).l hy, h.rx.keep s fun y hy hh => by rw [fpS_mk] at hy; exact (hF _ hh).x hy, h.ff, h.fl, h.fx, h.aF, h.aL, h.aX, h.d1, h.d2, h.d3⟩

theorem PhM.fresh (h : PhM H0 H fb lb xb pb M L ep n ec e bo bb sl b lv nx) {y : Nat} (hy : H y = none) : PhA H0 fb lb xb pb bo bb L sl y :=
  ⟨h.pr.st.mono y hy, h.pr.fresh hy, fun hh => (by rw [hh, h.cell] at hy; cases hy), fun hh => h.rl.live ⟨0, rfl⟩ (hh ▸ hy), fun hh => h.rx.live ⟨0, rfl⟩ (hh ▸ hy)⟩

theorem PhM.congL {lv' : Nat → Int} (h : PhM H0 H fb lb xb pb M L ep n ec e bo bb sl b lv nx) (hc : ∀ t, t < M → lv t = lv' t) : PhM H0 H fb lb xb pb M L ep n ec e bo bb sl b lv' nx :=
  ⟨h.pr, h.cell, h.rl.congr fun t ht => hc t ht, h.rx, h.ff, h.fl, h.fx, h.aF, h.aL, h.aX, h.d1, h.d2, h.d3⟩

/-- what the line holds -/
structure QuL (H0 H : Hp) (fb lb xb pb bo bb L : Nat) (sl : Nat → Sl) (qp : Option Addr) (qc : Nat) (q : List Nat) : Prop where
  r : Row H qp q.length qc (lsF q)
  a : ∀ y, fpS qp y → PhA H0 fb lb xb pb bo bb L sl y

theorem QuL.setL {H' : Hp} {qp : Option Addr} {qc : Nat} {q : List Nat} (h : QuL H0 H fb lb xb pb bo bb L sl qp qc q) (s : Step (fpS (some ⟨lb, 0, none⟩)) H H') : QuL H0 H' fb lb xb pb bo bb L sl qp qc q :=
  ⟨h.r.keep s fun y hy hh => by rw [fpS_mk] at hh; exact (h.a y hy).l hh, h.a⟩

theorem lsF_at {q : List Nat} {i u : Nat} (h : q[i]? = some u) : lsF q i = (u : Int) := by unfold lsF; rw [h]; rfl

theorem blayer {lvV nxV : Value} {K : Bool → Hp → Prop} (hr : Right (M : Int) n e) (hB : Bip M L n (elo e) (ehi e)) (hMB : MB M n (elo e) (ehi e) b) (hP : PrM H0 H pb M L ep n ec e bo bb sl (outs (elo e) n) b) (hc : H fb = some ⟨[.pointer (some ⟨pb, 0, none⟩), lvV, nxV], 88⟩) (ff : H0 fb = none) (aF : PrAway pb bo bb L sl fb)
    (k : ∀ H' lb xb lv f, PhM H0 H' fb lb xb pb M L ep n ec e bo bb sl b lv (fun _ => 0) → Lay M L n (elo e) (ehi e) b lv → (f = true ↔ Fnd n (elo e) (ehi e) b lv) → K f H') : bimatch_phases_layer.call (some ⟨fb, 0, none⟩) E H K := by
  have hN0 := hr.N0; have hN1 := hr.N1; have hn1 := hr.n1
  have hLM := hB.lm
  refine bimatch_phases_layer.of (bimatch_phases_layer.run_eq ?_)
  unfold bimatch_phases_layer.run_t
  simp only [nn_mk, get_at hc, get_at hP.cell, List.getElem?_cons_zero, List.getElem?_cons_succ, ldI_mk, ldP_mk, Nat.zero_add]
  refine Row.mkI (by omega) (by omega) fun lb H1 hlb rl s1 => ?_
  rw [Int.toNat_natCast] at rl ⊢
  have hc1 := s1.keep _ _ hc fun h => h
  have hP1 := hP.keep0 s1
  have flb : H0 lb = none := hP.st.mono _ hlb
  have dfl : fb ≠ lb := fun h => by rw [h] at hc; rw [hc] at hlb; cases hlb
  have aL := hP.fresh hlb
  refine stp hc1 (by simp) rfl fun H2 hc2 s2 => ?_
  replace hc2 : H2 fb = some ⟨[.pointer (some ⟨pb, 0, none⟩), .slice (some ⟨lb, 0, none⟩) M M, nxV], 88⟩ := hc2
  have hP2 := hP1.keep s2 fun y hy => hy ▸ ⟨ff, aF⟩
  have rl2 := rl.keep s2 fun y hy h => by rw [fpS_mk] at hy; exact dfl (h.symm.trans hy)
  simp only [nn_mk, get_at hc2, get_at hP2.cell, List.getElem?_cons_zero, List.getElem?_cons_succ, ldI_mk, ldP_mk, Nat.zero_add]
  refine Row.mkI (by omega) (by omega) fun xb H3 hxb rx s3 => ?_
  rw [Int.toNat_natCast] at rx ⊢
  have hc3 := s3.keep _ _ hc2 fun h => h
  have hP3 := hP2.keep0 s3
  have fxb : H0 xb = none := hP2.st.mono _ hxb
  have dfx : fb ≠ xb := fun h => by rw [h] at hc2; rw [hc2] at hxb; cases hxb
  have dlx : lb ≠ xb := fun h => rl2.live ⟨0, rfl⟩ (h ▸ hxb)
  have aX := hP2.fresh hxb
  have rl3 := rl2.keep s3 fun y _ h => h
  refine stp hc3 (by simp) rfl fun H4 hc4 s4 => ?_
  replace hc4 : H4 fb = some ⟨[.pointer (some ⟨pb, 0, none⟩), .slice (some ⟨lb, 0, none⟩) M M, .slice (some ⟨xb, 0, none⟩) M M], 88⟩ := hc4
  have hP4 := hP3.keep s4 fun y hy => hy ▸ ⟨ff, aF⟩
  have rl4 := rl3.keep s4 fun y hy h => by rw [fpS_mk] at hy; exact dfl (h.symm.trans hy)
  have rx4 := rx.keep s4 fun y hy h => by rw [fpS_mk] at hy; exact dfx (h.symm.trans hy)
  have hM : PhM H0 H4 fb lb xb pb M L ep n ec e bo bb sl b (fun _ => 0) (fun _ => 0) := ⟨hP4, hc4, rl4, rx4.congr fun t _ => rfl, ff, flb, fxb, aF, aL, aX, dfl, dfx, dlx⟩
  simp only [nn_mk, get_at hc4, List.getElem?_cons_zero, List.getElem?_cons_succ, ldS_mk, Nat.zero_add]
  -- the nodes that aren't matched
  refine bimatch_phases_layer.l1_rule (fun p0 qp qn qc t40 t41 H' => p0 = some ⟨fb, 0, none⟩ ∧ t40 = (M : Int) ∧ ∃ (v : Nat) (q : List Nat) (lv : Nat → Int), t41 = v ∧ v ≤ M ∧ qn = q.length ∧ PhM H0 H' fb lb xb pb M L ep n ec e bo bb sl b lv (fun _ => 0) ∧ QuL H0 H' fb lb xb pb bo bb L sl qp qc q ∧
      (∀ u, u ∈ q ↔ u < v ∧ u < L ∧ b u < 0) ∧ q.Nodup ∧ (∀ u, u < v → u < L → b u < 0 → lv u = 0) ∧ (∀ u, u < v → (L ≤ u ∨ 0 ≤ b u) → lv u = -1) ∧ q.length ≤ v)
    (fun p0 qp qn qc t40 t41 H' => M - t41.toNat) ?_ ⟨rfl, rfl, 0, [], _, rfl, Nat.zero_le _, rfl, hM, ⟨Row.nil, fun y h => by rw [fpS_none] at h; exact h.elim⟩, fun u => ⟨fun h => (by cases h), fun h => by omega⟩, List.nodup_nil, fun u hu => by omega, fun u hu => by omega, Nat.le_refl _⟩
  rintro p0 qp qn qc t40 t41 H5 ⟨rfl, rfl, v, q, lv, rfl, hv, rfl, hM5, hQ5, hq5, hn5, ha5, hz5, hl5⟩ X hX
  refine bimatch_phases_layer.b1_eq ?_
  unfold bimatch_phases_layer.b1_t
  refine bc (fun hlt => ?_) fun hge => ?_
  · have hvM : v < M := by omega
    simp only [nn_mk, get_at hM5.cell, List.getElem?_cons_zero, List.getElem?_cons_succ, ldI_mk, ldS_mk, ldP_mk, Nat.zero_add]
    refine hM5.rl.stI (by omega) (by omega) _ fun H6 r6 s6 => ?_
    rw [Int.toNat_natCast] at r6
    have hM6 := hM5.setL s6 r6
    have hQ6 := hQ5.setL s6
    have next : ∀ {H7 : Hp} {qp7 : Option Addr} {qc7 : Nat} {q7 : List Nat} {lv7 : Nat → Int}, PhM H0 H7 fb lb xb pb M L ep n ec e bo bb sl b lv7 (fun _ => 0) → QuL H0 H7 fb lb xb pb bo bb L sl qp7 qc7 q7 → (∀ u, u ∈ q7 ↔ u < v + 1 ∧ u < L ∧ b u < 0) → q7.Nodup → (∀ u, u < v + 1 → u < L → b u < 0 → lv7 u = 0) → (∀ u, u < v + 1 → (L ≤ u ∨ 0 ≤ b u) → lv7 u = -1) → q7.length ≤ v + 1 →
        bimatch_phases_layer.j1 (some ⟨fb, 0, none⟩) qp7 q7.length qc7 (M : Int) (v : Int) X E H7 K := by
      intro H7 qp7 qc7 q7 lv7 hM7 hQ7 hq7 hn7 ha7 hz7 hl7
      refine bimatch_phases_layer.j1_eq ?_
      unfold bimatch_phases_layer.j1_t
      rw [i64w (by omega) (by omega)]
      exact hX _ _ _ _ _ _ _ ⟨rfl, rfl, v + 1, q7, lv7, by omega, by omega, rfl, hM7, hQ7, hq7, hn7, ha7, hz7, hl7⟩ (by omega)
    have stay : (L ≤ v ∨ 0 ≤ b v) → bimatch_phases_layer.j1 (some ⟨fb, 0, none⟩) qp q.length qc (M : Int) (v : Int) X E H6 K := fun hh => by
      refine next hM6 hQ6 (fun u => ?_) hn5 (fun u hu huL hub => ?_) (fun u hu huo => ?_) (by omega)
      · rw [hq5 u]
        constructor
        · rintro ⟨h1, h2, h3⟩; exact ⟨by omega, h2, h3⟩
        · rintro ⟨h1, h2, h3⟩
          have : u ≠ v := fun e' => by rw [e'] at h2 h3; omega
          exact ⟨by omega, h2, h3⟩
      · have : u ≠ v := fun e' => by rw [e'] at huL hub; omega
        rw [upf_ne this]; exact ha5 u (by omega) huL hub
      · by_cases eu : u = v
        · rw [eu, upf_same]
        · rw [upf_ne eu]; exact hz5 u (by omega) huo
    simp only [nn_mk, get_at hM6.cell, get_at hM6.pr.cell, List.getElem?_cons_zero, List.getElem?_cons_succ, ldI_mk, ldS_mk, ldP_mk, Nat.zero_add]
    refine bc (fun hvl => ?_) fun hvl => stay (.inl (by omega))
    try simp only [nn_mk, get_at hM6.cell, get_at hM6.pr.cell, List.getElem?_cons_zero, List.getElem?_cons_succ, ldI_mk, ldS_mk, ldP_mk, Nat.zero_add]
    refine hM6.pr.rb.rdr.ixI (by omega) (by omega) ?_
    rw [Int.toNat_natCast]
    refine bc (fun hneg => ?_) fun hnn => stay (.inr (by omega))
    try simp only [nn_mk, get_at hM6.cell, List.getElem?_cons_zero, List.getElem?_cons_succ, ldI_mk, ldS_mk, ldP_mk, Nat.zero_add]
    refine hM6.rl.stI (by omega) (by omega) _ fun H7 r7 s7 => ?_
    rw [Int.toNat_natCast] at r7
    have hM7 := hM6.setL s7 r7
    have hQ7 := hQ6.setL s7
    refine hQ7.r.appI _ (by omega) fun qp8 qc8 H8 rq8 s8 f8 => ?_
    rw [lsF_app] at rq8
    have hl1 : q.length + 1 = (q ++ [v]).length := by simp
    rw [hl1] at rq8 ⊢
    refine next (hM7.keep s8 hQ7.a) ⟨rq8, fun y hy => (f8 y hy).elim (hQ7.a y) fun h => hM7.fresh h⟩ (fun u => ?_) ?_ (fun u hu huL hub => ?_) (fun u hu huo => ?_) (by simp; omega)
    · rw [List.mem_append, List.mem_singleton, hq5 u]
      constructor
      · rintro (⟨h1, h2, h3⟩ | rfl)
        · exact ⟨by omega, h2, h3⟩
        · exact ⟨by omega, by omega, hneg⟩
      · rintro ⟨h1, h2, h3⟩
        by_cases eu : u = v
        · exact .inr eu
        · exact .inl ⟨by omega, h2, h3⟩
    · rw [List.nodup_append]
      exact ⟨hn5, by simp, fun a ha c hc' => by rw [List.mem_singleton.1 hc']; intro e'; have := ((hq5 a).1 ha).1; omega⟩
    · by_cases eu : u = v
      · rw [eu, upf_same]
      · rw [upf_ne eu, upf_ne eu]; exact ha5 u (by omega) huL hub
    · have : u ≠ v := fun e' => by rw [e'] at huo; omega
      rw [upf_ne this, upf_ne this]; exact hz5 u (by omega) huo
  · clear hX
    refine bimatch_phases_layer.j2_eq ?_
    unfold bimatch_phases_layer.j2_t
    have hvM : v = M := by omega
    subst hvM
    have hM6 : PhM H0 H5 fb lb xb pb v L ep n ec e bo bb sl b (fun u => if u < L then lv u else -1) (fun _ => 0) := hM5.congL fun t ht => by
      by_cases hh : t < L
      · rw [if_pos hh]
      · rw [if_neg hh]; exact hz5 t ht (.inl (by omega))
    have B0 : BF v L n (elo e) (ehi e) b (fun u => if u < L then lv u else -1) q 0 (fun j => elo e j ∈ q.take 0) false := by
      refine BF.start hB (fun u => ?_) hn5 (fun u hu hub => ?_) fun u hu => ?_
      · rw [hq5 u]; constructor
        · rintro ⟨_, h2, h3⟩; exact ⟨h2, h3⟩
        · rintro ⟨h2, h3⟩; exact ⟨by omega, h2, h3⟩
      · show (if u < L then lv u else -1) = 0
        rw [if_pos hu]; exact ha5 u (by omega) hu hub
      · show (if u < L then lv u else -1) = -1
        by_cases hh : u < L
        · rw [if_pos hh]; exact hz5 u (by omega) hu
        · rw [if_neg hh]
    -- the line
    refine bimatch_phases_layer.l2_rule (fun p0 qp qn qc f n6 H' => p0 = some ⟨fb, 0, none⟩ ∧ ∃ (p : Nat) (q : List Nat) (lv : Nat → Int), n6 = p ∧ p ≤ q.length ∧ qn = q.length ∧ PhM H0 H' fb lb xb pb v L ep n ec e bo bb sl b lv (fun _ => 0) ∧ QuL H0 H' fb lb xb pb bo bb L sl qp qc q ∧ BF v L n (elo e) (ehi e) b lv q p (fun j => elo e j ∈ q.take p) f)
      (fun p0 qp qn qc f n6 H' => L - n6.toNat) ?_ ⟨rfl, 0, q, _, rfl, Nat.zero_le _, rfl, hM6, hQ5, B0⟩
    rintro p0 qp qn qc f n6 H6 ⟨rfl, p, q, lv, rfl, hp, rfl, hM6, hQ6, hB6⟩ X hX
    have hlen6 := hB6.len
    refine bimatch_phases_layer.b2_eq ?_
    unfold bimatch_phases_layer.b2_t
    refine bc (fun hlt => ?_) fun hge => ?_
    · have hpl : p < q.length := by omega
      have hat : q[p]? = some q[p] := List.getElem?_eq_getElem hpl
      obtain ⟨u, hu⟩ : ∃ u, q[p] = u := ⟨_, rfl⟩
      rw [hu] at hat
      have huq : u ∈ q := List.mem_of_getElem? hat
      have huL := (hB6.ql u huq).1
      refine hQ6.r.rdr.ixI (by omega) (by omega) ?_
      rw [Int.toNat_natCast, lsF_at hat]
      simp only [nn_mk, get_at hM6.cell, get_at hM6.pr.cell, List.getElem?_cons_zero, List.getElem?_cons_succ, ldI_mk, ldS_mk, ldP_mk, Nat.zero_add]
      refine hM6.pr.out.row.rdr.ixS (by omega) (by omega) ?_
      rw [Int.toNat_natCast, hM6.pr.out.len u huL]
      have hol : (outs (elo e) n u).length ≤ n := outs_len
      refine bimatch_phases_layer.l3_rule (fun p0 qp qn qc f n6 v7 tp tn tc t103 t104 H' => p0 = some ⟨fb, 0, none⟩ ∧ n6 = p ∧ v7 = u ∧ tp = (sl u).p ∧ tn = (outs (elo e) n u).length ∧ t103 = ((outs (elo e) n u).length : Int) ∧ ∃ (k : Nat) (q : List Nat) (lv : Nat → Int), t104 = k ∧ k ≤ (outs (elo e) n u).length ∧ qn = q.length ∧ q[p]? = some u ∧ PhM H0 H' fb lb xb pb v L ep n ec e bo bb sl b lv (fun _ => 0) ∧ QuL H0 H' fb lb xb pb bo bb L sl qp qc q ∧
          BF v L n (elo e) (ehi e) b lv q p (fun j => elo e j ∈ q.take p ∨ j ∈ (outs (elo e) n u).take k) f)
        (fun p0 qp qn qc f n6 v7 tp tn tc t103 t104 H' => (outs (elo e) n u).length - t104.toNat) ?_ ⟨rfl, rfl, rfl, rfl, rfl, rfl, 0, q, lv, rfl, Nat.zero_le _, rfl, hat, hM6, hQ6, hB6.of fun j hj => by simp⟩
      rintro p0 qp qn qc f n6 v7 tp tn tc t103 t104 H7 ⟨rfl, rfl, rfl, rfl, rfl, rfl, k7, q, lv, rfl, hk7, rfl, hat7, hM7, hQ7, hB7⟩ X3 hX3
      have hlen7 := hB7.len
      have hpl7 : p < q.length := by
        rcases Nat.lt_or_ge p q.length with h' | h'
        · exact h'
        · rw [List.getElem?_eq_none h'] at hat7; cases hat7
      refine bimatch_phases_layer.b3_eq ?_
      unfold bimatch_phases_layer.b3_t
      refine bc (fun hlt3 => ?_) fun hge3 => ?_
      · have hkl : k7 < (outs (elo e) n u).length := by omega
        refine (hM7.pr.out.each u huL).rdr.ixI (by omega) (by omega) ?_
        obtain ⟨i, hi⟩ : ∃ i, (outs (elo e) n u)[k7] = i := ⟨_, rfl⟩
        have ei : lsF (outs (elo e) n u) ((k7 : Int)).toNat = (i : Int) := by rw [Int.toNat_natCast]; unfold lsF; rw [List.getElem?_eq_getElem hkl, Option.getD_some, hi]
        rw [ei]
        obtain ⟨hin, hiv⟩ := mem_outs.1 (show i ∈ outs (elo e) n u from hi ▸ List.getElem_mem hkl)
        have hwL := hB.ge i hin
        have hwM := hB.hm i hin
        have htake : (outs (elo e) n u).take (k7 + 1) = (outs (elo e) n u).take k7 ++ [i] := by rw [List.take_succ_eq_append_getElem hkl, hi]
        have next : ∀ {H8 : Hp} {qp8 : Option Addr} {qc8 : Nat} {q8 : List Nat} {lv8 : Nat → Int} {f8 : Bool}, q8[p]? = some u → q8.take p = q.take p → PhM H0 H8 fb lb xb pb v L ep n ec e bo bb sl b lv8 (fun _ => 0) → QuL H0 H8 fb lb xb pb bo bb L sl qp8 qc8 q8 → BF v L n (elo e) (ehi e) b lv8 q8 p (fun t => (elo e t ∈ q.take p ∨ t ∈ (outs (elo e) n u).take k7) ∨ t = i) f8 →
            bimatch_phases_layer.j3 (some ⟨fb, 0, none⟩) qp8 q8.length qc8 f8 (p : Int) (u : Int) (sl u).p (outs (elo e) n u).length tc ((outs (elo e) n u).length : Int) (k7 : Int) X X3 E H8 K := by
          intro H8 qp8 qc8 q8 lv8 f8 hat8 ht8 hM8 hQ8 hB8
          refine bimatch_phases_layer.j3_eq ?_
          unfold bimatch_phases_layer.j3_t
          rw [i64w (by omega) (by omega)]
          exact hX3 _ _ _ _ _ _ _ _ _ _ _ _ _ ⟨rfl, rfl, rfl, rfl, rfl, rfl, k7 + 1, q8, lv8, by omega, by omega, rfl, hat8, hM8, hQ8, hB8.of fun j hj => by rw [htake, ht8, List.mem_append, List.mem_singleton, or_assoc]⟩ (by omega)
        simp only [nn_mk, get_at hM7.cell, get_at hM7.pr.cell, List.getElem?_cons_zero, List.getElem?_cons_succ, ldI_mk, ldP_mk, ldS_mk, Nat.zero_add]
        rw [← hiv]
        refine bother_lo hM7.pr hr hin ?_
        simp only [nn_mk, get_at hM7.cell, get_at hM7.pr.cell, List.getElem?_cons_zero, List.getElem?_cons_succ, ldI_mk, ldP_mk, ldS_mk, Nat.zero_add]
        refine ⟨trivial, trivial, ?_⟩
        refine hM7.pr.rb.rdr.ixI (by omega) (by omega) ?_
        rw [Int.toNat_natCast]
        refine bc (fun hf => ?_) fun hm => ?_
        · rw [hiv]
          exact next hat7 rfl hM7 hQ7 (hB7.free hin (by rw [hiv]; exact hat7) hf)
        · rcases hMB.all hwM with hbk | ⟨kk, hkn, hbk, _⟩
          · omega
          · have hki : ehi e kk = ehi e i := MX.right hB hMB hwL hwM hkn hbk
            have htL := hB.lt kk hkn
            try simp only [nn_mk, get_at hM7.cell, List.getElem?_cons_zero, List.getElem?_cons_succ, ldP_mk, Nat.zero_add]
            refine bother_lo hM7.pr hr hin ?_
            try simp only [nn_mk, get_at hM7.cell, List.getElem?_cons_zero, List.getElem?_cons_succ, ldP_mk, Nat.zero_add]
            refine ⟨trivial, ?_⟩
            rw [hbk, ← hki]
            refine bother_hi hM7.pr hr hkn ?_
            simp only [nn_mk, get_at hM7.cell, List.getElem?_cons_zero, List.getElem?_cons_succ, ldS_mk, Nat.zero_add]
            refine hM7.rl.rdr.ixI (by omega) (by omega) ?_
            rw [Int.toNat_natCast]
            have emt : elo e (b (ehi e i)).toNat = elo e kk := by rw [hbk, Int.toNat_natCast]
            refine bc (fun hl => ?_) fun hl => ?_
            · try simp only [nn_mk, get_at hM7.cell, List.getElem?_cons_zero, List.getElem?_cons_succ, ldS_mk, Nat.zero_add]
              refine hM7.rl.rdr.ixI (by omega) (by omega) ?_
              have hlu := hB7.lq p u hat7
              have hdn := hB7.dn u
              rw [Int.toNat_natCast, hiv, i64w (by omega) (by omega)]
              refine hM7.rl.stI (by omega) (by omega) _ fun H8 r8 s8 => ?_
              rw [Int.toNat_natCast] at r8
              have hM8 := hM7.setL s8 r8
              have hQ8 := hQ7.setL s8
              refine hQ8.r.appI _ (by omega) fun qp9 qc9 H9 rq9 s9 f9 => ?_
              rw [lsF_app] at rq9
              have hl1 : q.length + 1 = (q ++ [elo e kk]).length := by simp
              rw [hl1] at rq9 ⊢
              refine next (by rw [List.getElem?_append_left hpl7]; exact hat7) (List.take_append_of_le_length (by omega)) (hM8.keep s9 hQ8.a) ⟨rq9, fun y hy => (f9 y hy).elim (hQ8.a y) fun h => hM8.fresh h⟩ ?_
              have := hB7.push hin (by rw [hiv]; exact hat7) (by omega) (by rw [emt]; exact htL) (by rw [emt]; exact hl)
              rw [emt, hiv] at this
              exact this
            · rw [hiv]
              exact next hat7 rfl hM7 hQ7 (hB7.seen hin (by rw [hiv]; exact hat7) (by omega) (by rw [emt]; exact htL) (by rw [emt]; omega))
      · clear hX3
        refine bimatch_phases_layer.j4_eq ?_
        unfold bimatch_phases_layer.j4_t
        rw [i64w (by omega) (by omega)]
        have hk : k7 = (outs (elo e) n u).length := by omega
        subst hk
        refine hX _ _ _ _ _ _ _ ⟨rfl, p + 1, q, lv, by omega, by omega, rfl, hM7, hQ7, (hB7.of fun j hj => ?_).step hpl7⟩ (by omega)
        rw [List.take_length, mem_outs, List.take_succ_eq_append_getElem hpl7, List.mem_append, List.mem_singleton]
        have : q[p] = u := by rw [List.getElem?_eq_getElem hpl7] at hat7; simpa using hat7
        rw [this]
        constructor
        · rintro (h | h)
          · exact .inl h
          · exact .inr ⟨hj, h⟩
        · rintro (h | h)
          · exact .inl h
          · exact .inr h.2
    · have hpq : p = q.length := by omega
      have hD := (hB6.of (D' := fun j => elo e j ∈ q) fun j hj => by rw [hpq, List.take_length]).done hB
      exact k H6 lb xb lv f hM6 hD.1 hD.2
end
end Go.Mz

/-
  Walks of layer 15: matching by phases.
-/
namespace Go.Mz

/-- so many nodes of the left side aren't matched -/
def unm (L : Nat) (b : Nat → Int) : Nat := cnt (fun v => decide (b v < 0)) L

theorem unm_lt {L v : Nat} {b b1 : Nat → Int} (h : ∀ t, t < L → 0 ≤ b t → 0 ≤ b1 t) (hv : v < L) (h0 : b v < 0) (h1 : 0 ≤ b1 v) : unm L b1 < unm L b := by
  have e1 : unm L b = cnt (fun u => decide (b u < 0) && decide (u ≠ v)) L + 1 := cnt_less hv (decide_eq_true h0) (by simp) fun i _ hne => by simp [hne]
  have e2 : unm L b1 ≤ cnt (fun u => decide (b u < 0) && decide (u ≠ v)) L := cnt_mono fun i hi hp => by
    have hp := of_decide_eq_true hp
    have a1 : b i < 0 := Int.not_le.1 fun hh => by have := h i hi hh; omega
    have a2 : i ≠ v := fun e => by rw [e] at hp; omega
    simp [a1, a2]
  omega

section
variable {E : Value → Hp → Prop}
variable {H0 H : Hp} {fb pb M L n ec bo bb : Nat} {ep : Option Addr} {e : Nat → Edg} {sl : Nat → Sl}

/-- between two phases; so many aren't matched -/
def PhI (H0 : Hp) (fb pb M L : Nat) (ep : Option Addr) (n ec : Nat) (e : Nat → Edg) (bo bb : Nat) (sl : Nat → Sl) (H : Hp) (m : Nat) : Prop :=
  ∃ (b : Nat → Int) (lvV nxV : Value), PrM H0 H pb M L ep n ec e bo bb sl (outs (elo e) n) b ∧ H fb = some ⟨[.pointer (some ⟨pb, 0, none⟩), lvV, nxV], 88⟩ ∧ MB M n (elo e) (ehi e) b ∧ unm L b = m

theorem pmatch {lvV nxV : Value} {K : Hp → Prop} (hr : Right (M : Int) n e) (hB : Bip M L n (elo e) (ehi e)) (hP : PrM H0 H pb M L ep n ec e bo bb sl (outs (elo e) n) fun _ => -1) (hc : H fb = some ⟨[.pointer (some ⟨pb, 0, none⟩), lvV, nxV], 88⟩) (ff : H0 fb = none) (aF : PrAway pb bo bb L sl fb)
    (k : ∀ H' b1, PrM H0 H' pb M L ep n ec e bo bb sl (outs (elo e) n) b1 → MB M n (elo e) (ehi e) b1 → (∀ v, v < L → 0 ≤ b1 v ∨ Shut M L n (elo e) (ehi e) b1 v) → K H') : bimatch_phases_match.call (some ⟨fb, 0, none⟩) E H K := by
  have hN0 := hr.N0; have hN1 := hr.N1; have hn1 := hr.n1
  have hLM := hB.lm
  refine bimatch_phases_match.of (bimatch_phases_match.run_eq ?_)
  unfold bimatch_phases_match.run_t
  refine bimatch_phases_match.l1_rule (fun p0 H' => p0 = some ⟨fb, 0, none⟩ ∧ ∃ m, PhI H0 fb pb M L ep n ec e bo bb sl H' m) (fun p0 H' => gm (PhI H0 fb pb M L ep n ec e bo bb sl H')) ?_ ⟨rfl, _, _, _, _, hP, hc, MB.none, rfl⟩
  rintro p0 H1 ⟨rfl, m0, hm0⟩ X hX
  obtain ⟨b, lv1, nx1, hP1, hc1, hMB1, hm1⟩ := (gm_of hm0).1
  refine bimatch_phases_match.b1_eq ?_
  unfold bimatch_phases_match.b1_t
  refine blayer hr hB hMB1 hP1 hc1 ff aF fun H2 lb xb lv f hM2 hL2 hF2 => ?_
  refine bcb (fun hf => ?_) fun hf => ?_
  · have hFn := hF2.1 hf
    simp only [nn_mk, get_at hM2.cell, get_at hM2.pr.cell, List.getElem?_cons_zero, List.getElem?_cons_succ, ldI_mk, ldP_mk, ldS_mk, Nat.zero_add]
    refine bimatch_phases_match.l2_rule (fun p0 t11 t12 H' => p0 = some ⟨fb, 0, none⟩ ∧ t11 = (L : Int) ∧ ∃ (v : Nat) (b1 : Nat → Int) (lvc : Nat → Int) (nxc : Nat → Nat), t12 = v ∧ v ≤ L ∧ PhM H0 H' fb lb xb pb M L ep n ec e bo bb sl b1 lvc nxc ∧ MB M n (elo e) (ehi e) b1 ∧ (∀ t, t < L → 0 ≤ b t → 0 ≤ b1 t) ∧ (∀ t, -1 ≤ lvc t ∧ lvc t ≤ M) ∧ (∀ t, t < L → nxc t ≤ (outs (elo e) n t).length) ∧
        (∀ u, v ≤ u → u < L → b u < 0 → lvc u = 0) ∧ (unm L b1 < unm L b ∨ (b1 = b ∧ FI n (elo e) (ehi e) b lv lvc nxc 0 ∧ ∀ u, u < v → u < L → b u < 0 → lvc u = -1)))
      (fun p0 t11 t12 H' => L - t12.toNat) ?_ ⟨rfl, rfl, 0, b, lv, fun _ => 0, rfl, Nat.zero_le _, hM2, hMB1, fun t _ h => h, fun t => ⟨hL2.dn t, hL2.up t⟩, fun t _ => Nat.zero_le _, fun u _ huL hub => hL2.l0 u huL hub, .inr ⟨rfl, ⟨fun t => .inl rfl, fun j _ hd => by have h1 := hd.1; have h2 := hd.2; omega, fun t _ => rfl⟩, fun u hu => by omega⟩⟩
    rintro p0 t11 t12 H3 ⟨rfl, rfl, v, b1, lvc, nxc, rfl, hv, hM3, hMB3, hmo, hlb, hnx, hz, hor⟩ X2 hX2
    refine bimatch_phases_match.b2_eq ?_
    unfold bimatch_phases_match.b2_t
    refine bc (fun hlt => ?_) fun hge => ?_
    · have hvL : v < L := by omega
      simp only [nn_mk, get_at hM3.cell, get_at hM3.pr.cell, List.getElem?_cons_zero, List.getElem?_cons_succ, ldI_mk, ldP_mk, ldS_mk, Nat.zero_add]
      refine hM3.pr.rb.rdr.ixI (by omega) (by omega) ?_
      rw [Int.toNat_natCast]
      refine bc (fun hneg => ?_) fun hnn => ?_
      · have hbv : b v < 0 := Int.not_le.1 fun hh => by have := hmo v hvL hh; omega
        have hlv : lvc v = 0 := hz v (Nat.le_refl _) hvL hbv
        refine balong hr hB _ (Nat.le_refl _) hM3 hvL (by omega) hlb hMB3 hnx (fun H4 b4 lv4 nx4 hM4 hw hFe hl4 hnx4 => ?_) fun H4 lv4 nx4 hM4 hFe hl4 hnx4 hI4 => ?_
        · refine bimatch_phases_match.j1_eq ?_
          unfold bimatch_phases_match.j1_t
          rw [i64w (by omega) (by omega)]
          have hmx := hw.mx
          have hex : exm M (ehi e) (b1 v) = M := by unfold exm; rw [if_pos hneg]
          rw [hex] at hmx
          have hmo4 : ∀ t, t < L → 0 ≤ b t → 0 ≤ b4 t := fun t ht hb => hw.lft t ht (hmo t ht hb)
          refine hX2 _ _ _ _ ⟨rfl, rfl, v + 1, b4, lv4, nx4, by omega, by omega, hM4, hmx, hmo4, fun t => ?_, hnx4, fun u hu huL hub => ?_, .inl ?_⟩ (by omega)
          · have h1 := hlb t
            by_cases et : t = v
            · rw [et, hl4, ← et]; exact h1
            · rcases hFe.a t et with h | h <;> omega
          · rcases hFe.a u (by omega) with h | h
            · rw [h]; exact hz u (by omega) huL hub
            · have := hz u (by omega) huL hub; omega
          · obtain ⟨i, _, ei, _⟩ := hw.new
            exact unm_lt hmo4 hvL hbv (by omega)
        · refine bimatch_phases_match.j1_eq ?_
          unfold bimatch_phases_match.j1_t
          rw [i64w (by omega) (by omega)]
          refine hX2 _ _ _ _ ⟨rfl, rfl, v + 1, b1, lv4, nx4, by omega, by omega, hM4, hMB3, hmo, fun t => ?_, hnx4, fun u hu huL hub => ?_, ?_⟩ (by omega)
          · have h1 := hlb t
            by_cases et : t = v
            · rw [et, hl4]; omega
            · rcases hFe.a t et with h | h <;> omega
          · rcases hFe.a u (by omega) with h | h
            · rw [h]; exact hz u (by omega) huL hub
            · have := hz u (by omega) huL hub; omega
          · rcases hor with h | ⟨e1, g, hd⟩
            · exact .inl h
            · right
              subst e1
              have g4 := hI4 lv (by rw [hlv]; exact g)
              rw [hlv] at g4
              refine ⟨rfl, g4, fun u hu huL hub => ?_⟩
              by_cases eu : u = v
              · rw [eu]; exact hl4
              · have h1 := hd u (by omega) huL hub
                rcases hFe.a u eu with h | h <;> omega
      · refine bimatch_phases_match.j1_eq ?_
        unfold bimatch_phases_match.j1_t
        rw [i64w (by omega) (by omega)]
        refine hX2 _ _ _ _ ⟨rfl, rfl, v + 1, b1, lvc, nxc, by omega, by omega, hM3, hMB3, hmo, hlb, hnx, fun u hu huL hub => hz u (by omega) huL hub, ?_⟩ (by omega)
        rcases hor with h | ⟨e1, g, hd⟩
        · exact .inl h
        · right
          subst e1
          refine ⟨rfl, g, fun u hu huL hub => hd u ?_ huL hub⟩
          have : u ≠ v := fun e' => by rw [e'] at hub; omega
          omega
    · have hless : unm L b1 < unm L b := by
        rcases hor with h | ⟨e1, g, hd⟩
        · exact h
        · exact absurd hFn (FI.none hB hL2 g fun u huL hub => hd u (by omega) huL hub)
      have hP3 : PhI H0 fb pb M L ep n ec e bo bb sl H3 (unm L b1) := ⟨b1, _, _, hM3.pr, hM3.cell, hMB3, rfl⟩
      have h1 := (gm_of hP3).2
      exact hX _ _ ⟨rfl, _, hP3⟩ (by omega)
  · exact k H2 b hM2.pr hMB1 (hL2.shut hB fun hh => by rw [hF2.2 hh] at hf; cases hf)
end
end Go.Mz
