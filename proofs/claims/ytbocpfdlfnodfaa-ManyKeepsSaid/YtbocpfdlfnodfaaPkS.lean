/-
  Joined: BmA, BmB, BmC, BmD, BmE.
-/
import Derived.Test.YtbocpfdlfnodfaaPkE
import Derived.Test.YtbocpfdlfnodfaaPkM
import Derived.Test.YtbocpfdlfnodfaaGBlo
set_option linter.unusedSimpArgs false
set_option linter.unusedVariables false
/-
  Layer 17 in memory: what a look for ways holds; the far end of an edge, the mate of a node, walked.
-/
namespace Go.Mz

/-- an edge's ends, as numbers from nought -/
def ef (e : Nat → Edg) (i : Nat) : Nat := (e i).fr.toNat
def et (e : Nat → Edg) (i : Nat) : Nat := (e i).to.toNat

theorem Right.nds {M n : Nat} {e : Nat → Edg} (hr : Right (M : Int) n e) : Nds M n (ef e) (et e) := fun i hi => by
  have hx := hr.ed i hi
  have h0 := hx.f0; have h1 := hx.f1; have h2 := hx.t0; have h3 := hx.t1
  unfold ef et; omega

theorem Right.ends {M n : Nat} {e : Nat → Edg} (hr : Right (M : Int) n e) {i : Nat} (hi : i < n) : (e i).fr = (ef e i : Int) ∧ (e i).to = (et e i : Int) := by
  have hx := hr.ed i hi
  have h0 := hx.f0; have h2 := hx.t0
  unfold ef et; omega

/-- the edges at each node, among so many; no loops -/
def incs (fr to : Nat → Nat) : Nat → Nat → List Nat
  | 0 => fun _ => []
  | i + 1 => if fr i = to i then incs fr to i else upf (upf (incs fr to i) (fr i) (incs fr to i (fr i) ++ [i])) (to i) (incs fr to i (to i) ++ [i])

theorem mem_incs {fr to : Nat → Nat} : ∀ {i j v : Nat}, j ∈ incs fr to i v ↔ En i fr to j v
  | 0, j, v => ⟨fun h => (by cases h), fun h => by have := h.1; omega⟩
  | i + 1, j, v => by
    unfold incs
    by_cases hl : fr i = to i
    · rw [if_pos hl, mem_incs]
      constructor
      · rintro ⟨h1, h2, h3⟩; exact ⟨by omega, h2, h3⟩
      · rintro ⟨h1, h2, h3⟩
        by_cases ej : j = i
        · subst ej; exact (h2 hl).elim
        · exact ⟨by omega, h2, h3⟩
    · rw [if_neg hl]
      have key : ∀ u, j ∈ incs fr to i u ++ [i] ↔ En i fr to j u ∨ j = i := fun u => by simp [mem_incs]
      by_cases e1 : v = to i
      · subst e1
        rw [upf_same, key]
        constructor
        · rintro (⟨h1, h2, h3⟩ | rfl)
          · exact ⟨by omega, h2, h3⟩
          · exact ⟨by omega, hl, .inr rfl⟩
        · rintro ⟨h1, h2, h3⟩
          by_cases ej : j = i
          · exact .inr ej
          · exact .inl ⟨by omega, h2, h3⟩
      · rw [upf_ne e1]
        by_cases e2 : v = fr i
        · subst e2
          rw [upf_same, key]
          constructor
          · rintro (⟨h1, h2, h3⟩ | rfl)
            · exact ⟨by omega, h2, h3⟩
            · exact ⟨by omega, hl, .inl rfl⟩
          · rintro ⟨h1, h2, h3⟩
            by_cases ej : j = i
            · exact .inr ej
            · exact .inl ⟨by omega, h2, h3⟩
        · rw [upf_ne e2, mem_incs]
          constructor
          · rintro ⟨h1, h2, h3⟩; exact ⟨by omega, h2, h3⟩
          · rintro ⟨h1, h2, h3⟩
            by_cases ej : j = i
            · subst ej; exact (h3.elim e2 e1).elim
            · exact ⟨by omega, h2, h3⟩

theorem incs_len {fr to : Nat → Nat} : ∀ {i v : Nat}, (incs fr to i v).length ≤ i
  | 0, v => Nat.le_refl _
  | i + 1, v => by
    unfold incs
    by_cases hl : fr i = to i
    · rw [if_pos hl]; have := incs_len (fr := fr) (to := to) (i := i) (v := v); omega
    · rw [if_neg hl]
      by_cases e1 : v = to i
      · subst e1; rw [upf_same]; have := incs_len (fr := fr) (to := to) (i := i) (v := to i); simp; omega
      · rw [upf_ne e1]
        by_cases e2 : v = fr i
        · subst e2; rw [upf_same]; have := incs_len (fr := fr) (to := to) (i := i) (v := fr i); simp; omega
        · rw [upf_ne e2]; have := incs_len (fr := fr) (to := to) (i := i) (v := v); omega

/-- the blocks of a look -/
structure LY where
  sb : Nat
  nb : Nat
  bb : Nat
  xb : Nat
  xv : Nat
  xe : Nat
  ep : Option Addr
  ec : Nat
  sl : Nat → Sl

/-- away from what is there before the first look -/
structure Aw (Y : LY) (M y : Nat) : Prop where
  s : y ≠ Y.sb
  n : y ≠ Y.nb
  b : y ≠ Y.bb
  l : ∀ v, v < M → ¬ fpS (Y.sl v).p y

/-- what is there before the first look, too -/
structure BsC (H0 H : Hp) (Y : LY) (M n : Nat) (e : Nat → Edg) (nx : Nat → List Nat) (mb : Nat → Int) (v4 v5 v6 v7 : Value) : Prop where
  st : Step (fun _ => False) H0 H
  he : Rdr H0 Y.ep n e
  cell : H Y.sb = some ⟨[.int .i64 (M : Int), .slice Y.ep n Y.ec, .slice (some ⟨Y.nb, 0, none⟩) M M, .slice (some ⟨Y.bb, 0, none⟩) M M, v4, v5, v6, v7], 71⟩
  out : Rows2 H0 H Y.nb M Y.sl nx
  rb : Row H (some ⟨Y.bb, 0, none⟩) M M mb
  fs : H0 Y.sb = none
  fb : H0 Y.bb = none
  d1 : Y.sb ≠ Y.bb
  d2 : Y.sb ≠ Y.nb
  d3 : Y.nb ≠ Y.bb
  d4 : ∀ v, v < M → ∀ x, fpS (Y.sl v).p x → x ≠ Y.sb ∧ x ≠ Y.bb

/-- away from all of it -/
structure Ax (Y : LY) (M : Nat) (qp : Option Addr) (y : Nat) : Prop where
  w : Aw Y M y
  b : y ≠ Y.xb
  v : y ≠ Y.xv
  e : y ≠ Y.xe
  q : ¬ fpS qp y

/-- while a look is made -/
structure BkM (H0 H : Hp) (Y : LY) (M n : Nat) (e : Nat → Edg) (mb : Nat → Int) (base : Nat → Nat) (via : Nat → Int) (ev : Nat → Bool) (qp : Option Addr) (qc : Nat) (Q : List Nat) : Prop where
  c : BsC H0 H Y M n e (incs (ef e) (et e) n) mb (.slice (some ⟨Y.xb, 0, none⟩) M M) (.slice (some ⟨Y.xv, 0, none⟩) M M) (.slice (some ⟨Y.xe, 0, none⟩) M M) (.slice qp Q.length qc)
  rba : Row H (some ⟨Y.xb, 0, none⟩) M M (fun v => (base v : Int))
  rvi : Row H (some ⟨Y.xv, 0, none⟩) M M via
  rev : Row H (some ⟨Y.xe, 0, none⟩) M M ev
  rq : Row H qp Q.length qc (lsF Q)
  ab : Aw Y M Y.xb
  av : Aw Y M Y.xv
  ae : Aw Y M Y.xe
  aq : ∀ y, fpS qp y → H0 y = none ∧ Aw Y M y ∧ y ≠ Y.xb ∧ y ≠ Y.xv ∧ y ≠ Y.xe
  fb : H0 Y.xb = none
  fv : H0 Y.xv = none
  fe : H0 Y.xe = none
  dbv : Y.xb ≠ Y.xv
  dbe : Y.xb ≠ Y.xe
  dve : Y.xv ≠ Y.xe

section
variable {E : Value → Hp → Prop}
variable {H0 H H' : Hp} {Y : LY} {M n : Nat} {e : Nat → Edg} {nx : Nat → List Nat} {mb : Nat → Int} {v4 v5 v6 v7 : Value} {base : Nat → Nat} {via : Nat → Int} {ev : Nat → Bool} {qp : Option Addr} {qc : Nat} {Q : List Nat}

theorem BsC.keep {F : Nat → Prop} (h : BsC H0 H Y M n e nx mb v4 v5 v6 v7) (s : Step F H H') (hF : ∀ y, F y → H0 y = none ∧ Aw Y M y) : BsC H0 H' Y M n e nx mb v4 v5 v6 v7 :=
  ⟨h.st.own s fun y hy => (hF y hy).1, h.he, s.keep _ _ h.cell fun hh => (hF _ hh).2.s rfl, h.out.keep s (fun hh => (hF _ hh).2.n rfl) fun v hv x hx hh => (hF _ hh).2.l v hv hx, h.rb.keep s fun y hy hh => by rw [fpS_mk] at hy; exact (hF _ hh).2.b hy, h.fs, h.fb, h.d1, h.d2, h.d3, h.d4⟩

theorem BsC.keep0 (h : BsC H0 H Y M n e nx mb v4 v5 v6 v7) (s : Step (fun _ => False) H H') : BsC H0 H' Y M n e nx mb v4 v5 v6 v7 := h.keep s fun _ h => h.elim

theorem BsC.ed (h : BsC H0 H Y M n e nx mb v4 v5 v6 v7) : Rdr H Y.ep n e := h.he.keep h.st fun _ _ _ h => h

theorem BsC.fresh (h : BsC H0 H Y M n e nx mb v4 v5 v6 v7) {y : Nat} (hy : H y = none) : Aw Y M y :=
  ⟨fun hh => (by rw [hh, h.cell] at hy; cases hy), fun hh => h.out.row.live ⟨0, rfl⟩ (hh ▸ hy), fun hh => h.rb.live ⟨0, rfl⟩ (hh ▸ hy), fun v hv hh => (h.out.each v hv).live hh hy⟩

/-- the last four fields are others -/
theorem BsC.setC {w4 w5 w6 w7 : Value} (h : BsC H0 H Y M n e nx mb v4 v5 v6 v7) (s : Step (· = Y.sb) H H') (c : H' Y.sb = some ⟨[.int .i64 (M : Int), .slice Y.ep n Y.ec, .slice (some ⟨Y.nb, 0, none⟩) M M, .slice (some ⟨Y.bb, 0, none⟩) M M, w4, w5, w6, w7], 71⟩) : BsC H0 H' Y M n e nx mb w4 w5 w6 w7 :=
  ⟨h.st.own s fun y hy => hy ▸ h.fs, h.he, c, h.out.keep s (fun hh => h.d2 hh.symm) fun v hv x hx hh => (h.d4 v hv x hx).1 hh, h.rb.keep s fun y hy hh => by rw [fpS_mk] at hy; exact h.d1 (hh.symm.trans hy), h.fs, h.fb, h.d1, h.d2, h.d3, h.d4⟩

/-- the matches are others -/
theorem BsC.setB {b' : Nat → Int} (h : BsC H0 H Y M n e nx mb v4 v5 v6 v7) (s : Step (fpS (some ⟨Y.bb, 0, none⟩)) H H') (r : Row H' (some ⟨Y.bb, 0, none⟩) M M b') : BsC H0 H' Y M n e nx b' v4 v5 v6 v7 := by
  have hF : ∀ y, fpS (some ⟨Y.bb, 0, none⟩) y → y = Y.bb := fun y hy => by rwa [fpS_mk] at hy
  exact ⟨h.st.own s fun y hy => hF y hy ▸ h.fb, h.he, s.keep _ _ h.cell fun hh => h.d1 (hF _ hh), h.out.keep s (fun hh => h.d3 (hF _ hh)) fun v hv x hx hh => (h.d4 v hv x hx).2 (hF _ hh), r, h.fs, h.fb, h.d1, h.d2, h.d3, h.d4⟩

theorem BkM.keep {F : Nat → Prop} (h : BkM H0 H Y M n e mb base via ev qp qc Q) (s : Step F H H') (hF : ∀ y, F y → H0 y = none ∧ Ax Y M qp y) : BkM H0 H' Y M n e mb base via ev qp qc Q :=
  ⟨h.c.keep s fun y hy => ⟨(hF y hy).1, (hF y hy).2.w⟩, h.rba.keep s fun y hy hh => by rw [fpS_mk] at hy; exact (hF _ hh).2.b hy, h.rvi.keep s fun y hy hh => by rw [fpS_mk] at hy; exact (hF _ hh).2.v hy, h.rev.keep s fun y hy hh => by rw [fpS_mk] at hy; exact (hF _ hh).2.e hy,
    h.rq.keep s fun y hy hh => (hF _ hh).2.q hy, h.ab, h.av, h.ae, h.aq, h.fb, h.fv, h.fe, h.dbv, h.dbe, h.dve⟩

theorem BkM.keep0 (h : BkM H0 H Y M n e mb base via ev qp qc Q) (s : Step (fun _ => False) H H') : BkM H0 H' Y M n e mb base via ev qp qc Q := h.keep s fun _ h => h.elim

theorem BkM.fresh (h : BkM H0 H Y M n e mb base via ev qp qc Q) {y : Nat} (hy : H y = none) : Ax Y M qp y :=
  ⟨h.c.fresh hy, fun hh => h.rba.live ⟨0, rfl⟩ (hh ▸ hy), fun hh => h.rvi.live ⟨0, rfl⟩ (hh ▸ hy), fun hh => h.rev.live ⟨0, rfl⟩ (hh ▸ hy), fun hh => h.rq.live hh hy⟩

theorem BkM.setV {via' : Nat → Int} (h : BkM H0 H Y M n e mb base via ev qp qc Q) (s : Step (fpS (some ⟨Y.xv, 0, none⟩)) H H') (r : Row H' (some ⟨Y.xv, 0, none⟩) M M via') : BkM H0 H' Y M n e mb base via' ev qp qc Q := by
  have hF : ∀ y, fpS (some ⟨Y.xv, 0, none⟩) y → y = Y.xv := fun y hy => by rwa [fpS_mk] at hy
  exact ⟨h.c.keep s fun y hy => hF y hy ▸ ⟨h.fv, h.av⟩, h.rba.keep s fun y hy hh => by rw [fpS_mk] at hy; exact h.dbv (hy.symm.trans (hF _ hh)), r, h.rev.keep s fun y hy hh => by rw [fpS_mk] at hy; exact h.dve ((hF _ hh).symm.trans hy),
    h.rq.keep s fun y hy hh => (h.aq y hy).2.2.2.1 (hF _ hh), h.ab, h.av, h.ae, h.aq, h.fb, h.fv, h.fe, h.dbv, h.dbe, h.dve⟩

theorem BkM.setBa {base' : Nat → Nat} (h : BkM H0 H Y M n e mb base via ev qp qc Q) (s : Step (fpS (some ⟨Y.xb, 0, none⟩)) H H') (r : Row H' (some ⟨Y.xb, 0, none⟩) M M (fun v => (base' v : Int))) : BkM H0 H' Y M n e mb base' via ev qp qc Q := by
  have hF : ∀ y, fpS (some ⟨Y.xb, 0, none⟩) y → y = Y.xb := fun y hy => by rwa [fpS_mk] at hy
  exact ⟨h.c.keep s fun y hy => hF y hy ▸ ⟨h.fb, h.ab⟩, r, h.rvi.keep s fun y hy hh => by rw [fpS_mk] at hy; exact h.dbv ((hF _ hh).symm.trans hy), h.rev.keep s fun y hy hh => by rw [fpS_mk] at hy; exact h.dbe ((hF _ hh).symm.trans hy),
    h.rq.keep s fun y hy hh => (h.aq y hy).2.2.1 (hF _ hh), h.ab, h.av, h.ae, h.aq, h.fb, h.fv, h.fe, h.dbv, h.dbe, h.dve⟩

theorem BkM.setE {ev' : Nat → Bool} (h : BkM H0 H Y M n e mb base via ev qp qc Q) (s : Step (fpS (some ⟨Y.xe, 0, none⟩)) H H') (r : Row H' (some ⟨Y.xe, 0, none⟩) M M ev') : BkM H0 H' Y M n e mb base via ev' qp qc Q := by
  have hF : ∀ y, fpS (some ⟨Y.xe, 0, none⟩) y → y = Y.xe := fun y hy => by rwa [fpS_mk] at hy
  exact ⟨h.c.keep s fun y hy => hF y hy ▸ ⟨h.fe, h.ae⟩, h.rba.keep s fun y hy hh => by rw [fpS_mk] at hy; exact h.dbe (hy.symm.trans (hF _ hh)), h.rvi.keep s fun y hy hh => by rw [fpS_mk] at hy; exact h.dve (hy.symm.trans (hF _ hh)), r,
    h.rq.keep s fun y hy hh => (h.aq y hy).2.2.2.2 (hF _ hh), h.ab, h.av, h.ae, h.aq, h.fb, h.fv, h.fe, h.dbv, h.dbe, h.dve⟩

theorem BkM.setM {b' : Nat → Int} (h : BkM H0 H Y M n e mb base via ev qp qc Q) (s : Step (fpS (some ⟨Y.bb, 0, none⟩)) H H') (r : Row H' (some ⟨Y.bb, 0, none⟩) M M b') : BkM H0 H' Y M n e b' base via ev qp qc Q := by
  have hF : ∀ y, fpS (some ⟨Y.bb, 0, none⟩) y → y = Y.bb := fun y hy => by rwa [fpS_mk] at hy
  exact ⟨h.c.setB s r, h.rba.keep s fun y hy hh => by rw [fpS_mk] at hy; exact h.ab.b (hy.symm.trans (hF _ hh)), h.rvi.keep s fun y hy hh => by rw [fpS_mk] at hy; exact h.av.b (hy.symm.trans (hF _ hh)), h.rev.keep s fun y hy hh => by rw [fpS_mk] at hy; exact h.ae.b (hy.symm.trans (hF _ hh)),
    h.rq.keep s fun y hy hh => (h.aq y hy).2.1.b (hF _ hh), h.ab, h.av, h.ae, h.aq, h.fb, h.fv, h.fe, h.dbv, h.dbe, h.dve⟩

/-- the line is another: its own row, then the field that tells it -/
theorem BkM.setQ {H1 : Hp} {qp' : Option Addr} {qc' : Nat} {Q' : List Nat} (h : BkM H0 H Y M n e mb base via ev qp qc Q) (s : Step (fpS qp) H H1) (r : Row H1 qp' Q'.length qc' (lsF Q')) (f : ∀ y, fpS qp' y → fpS qp y ∨ H y = none) (s' : Step (· = Y.sb) H1 H')
    (c : H' Y.sb = some ⟨[.int .i64 (M : Int), .slice Y.ep n Y.ec, .slice (some ⟨Y.nb, 0, none⟩) M M, .slice (some ⟨Y.bb, 0, none⟩) M M, .slice (some ⟨Y.xb, 0, none⟩) M M, .slice (some ⟨Y.xv, 0, none⟩) M M, .slice (some ⟨Y.xe, 0, none⟩) M M, .slice qp' Q'.length qc'], 71⟩) :
    BkM H0 H' Y M n e mb base via ev qp' qc' Q' := by
  have aq' : ∀ y, fpS qp' y → H0 y = none ∧ Aw Y M y ∧ y ≠ Y.xb ∧ y ≠ Y.xv ∧ y ≠ Y.xe := fun y hy => (f y hy).elim (h.aq y) fun hn => by
    have := h.fresh hn
    exact ⟨h.c.st.mono _ hn, this.w, this.b, this.v, this.e⟩
  have c1 := h.c.keep s fun y hy => ⟨(h.aq y hy).1, (h.aq y hy).2.1⟩
  refine ⟨c1.setC s' c, ?_, ?_, ?_, r.keep s' fun y hy hh => (aq' y hy).2.1.s hh, h.ab, h.av, h.ae, aq', h.fb, h.fv, h.fe, h.dbv, h.dbe, h.dve⟩
  · exact (h.rba.keep s fun y hy hh => by rw [fpS_mk] at hy; exact (h.aq y hh).2.2.1 hy).keep s' fun y hy hh => by rw [fpS_mk] at hy; exact h.ab.s (hy.symm.trans hh)
  · exact (h.rvi.keep s fun y hy hh => by rw [fpS_mk] at hy; exact (h.aq y hh).2.2.2.1 hy).keep s' fun y hy hh => by rw [fpS_mk] at hy; exact h.av.s (hy.symm.trans hh)
  · exact (h.rev.keep s fun y hy hh => by rw [fpS_mk] at hy; exact (h.aq y hh).2.2.2.2 hy).keep s' fun y hy hh => by rw [fpS_mk] at hy; exact h.ae.s (hy.symm.trans hh)

theorem blother {i v : Nat} {K : Int → Hp → Prop} (h : BsC H0 H Y M n e nx mb v4 v5 v6 v7) (hr : Right (M : Int) n e) (hv : En n (ef e) (et e) i v) (k : K (ot (ef e) (et e) i v : Int) H) : blossom_search_other.call (some ⟨Y.sb, 0, none⟩) i v E H K := by
  have hi := hv.1
  obtain ⟨e1, e2⟩ := hr.ends hi
  have hN := hr.N1
  obtain ⟨h1, h2⟩ := hr.nds i hi
  refine blossom_search_other.of (blossom_search_other.run_eq ?_)
  unfold blossom_search_other.run_t
  simp only [nn_mk, get_at h.cell, List.getElem?_cons_zero, List.getElem?_cons_succ, ldS_mk, Nat.zero_add]
  refine h.ed.edgeF (by omega) (by omega) ?_
  refine h.ed.edgeT (by omega) (by omega) ?_
  have hv' := hv.2.2
  rw [Int.toNat_natCast, i64w (n := (e i).fr + (e i).to) (by omega) (by omega), i64w (by omega) (by omega)]
  have : (e i).fr + (e i).to - (v : Int) = (ot (ef e) (et e) i v : Int) := by unfold ot; omega
  rw [this]; exact k

theorem blmate {i v : Nat} {K : Int → Hp → Prop} (h : BsC H0 H Y M n e nx mb v4 v5 v6 v7) (hr : Right (M : Int) n e) (hv : En n (ef e) (et e) i v) (hb : mb v = (i : Int)) (k : K (mt (ef e) (et e) mb v : Int) H) : blossom_search_mate.call (some ⟨Y.sb, 0, none⟩) v E H K := by
  have hvM := hv.nd hr.nds
  refine blossom_search_mate.of (blossom_search_mate.run_eq ?_)
  unfold blossom_search_mate.run_t
  simp only [nn_mk, get_at h.cell, List.getElem?_cons_zero, List.getElem?_cons_succ, ldS_mk, Nat.zero_add]
  refine h.rb.ixI (by omega) (by omega) ?_
  rw [Int.toNat_natCast, hb]
  refine blother h hr hv ?_
  have : mt (ef e) (et e) mb v = ot (ef e) (et e) i v := by unfold mt; rw [hb, Int.toNat_natCast]
  rw [← this]; exact k
end
end Go.Mz

/-
  Walks of layer 17: the start of a look; where two ways back meet; marking a way back.
-/
namespace Go.Mz

section
variable {E : Value → Hp → Prop}
variable {H0 H : Hp} {Y : LY} {M n : Nat} {e : Nat → Edg} {mb : Nat → Int} {v4 v5 v6 v7 : Value} {base ρ : Nat → Nat} {via : Nat → Int} {ev : Nat → Bool} {qp : Option Addr} {qc r : Nat} {Q : List Nat}

/-- a fresh look -/
theorem blbegin {K : Hp → Prop} (h : BsC H0 H Y M n e (incs (ef e) (et e) n) mb v4 v5 v6 v7) (hM : M ≤ 1024) (hr : r < M)
    (k : ∀ H' xb xv xe qp qc, BkM H0 H' { Y with xb := xb, xv := xv, xe := xe } M n e mb (fun v => v) (fun _ => -1) (fun v => decide (v = r)) qp qc [r] → K H') : blossom_search_begin.call (some ⟨Y.sb, 0, none⟩) (r : Int) E H K := by
  refine blossom_search_begin.of (blossom_search_begin.run_eq ?_)
  unfold blossom_search_begin.run_t
  simp only [nn_mk, get_at h.cell, List.getElem?_cons_zero, List.getElem?_cons_succ, ldI_mk, ldS_mk, Nat.zero_add]
  refine Row.mkI (by omega) (by omega) fun xb H1 hb1 r1 s1 => ?_
  refine Row.mkI (by omega) (by omega) fun xv H2 hb2 r2 s2 => ?_
  refine Row.mkB (by omega) (by omega) fun xe H3 hb3 r3 s3 => ?_
  rw [Int.toNat_natCast] at r1 r2 r3 ⊢
  have hd1 : xb ≠ xv := fun hh => r1.live ⟨0, rfl⟩ (hh ▸ hb2)
  have r1' := r1.keep s2 fun _ _ h => h
  have hd2 : xb ≠ xe := fun hh => r1'.live ⟨0, rfl⟩ (hh ▸ hb3)
  have hd3 : xv ≠ xe := fun hh => r2.live ⟨0, rfl⟩ (hh ▸ hb3)
  have a1 := h.fresh hb1
  have c1 := h.keep0 s1
  have a2 := c1.fresh hb2
  have c2 := c1.keep0 s2
  have a3 := c2.fresh hb3
  have c3 := c2.keep0 s3
  have f1 : H0 xb = none := h.st.mono _ hb1
  have f2 : H0 xv = none := c1.st.mono _ hb2
  have f3 : H0 xe = none := c2.st.mono _ hb3
  have r13 := r1'.keep s3 fun _ _ h => h
  have r23 := r2.keep s3 fun _ _ h => h
  try simp only [nn_mk, Nat.zero_add]
  refine stp c3.cell (by simp) rfl fun H4 e4 s4 => ?_
  have c4 := c3.setC (w4 := .slice (some ⟨xb, 0, none⟩) M M) (w5 := v5) (w6 := v6) (w7 := v7) s4 e4
  refine stp c4.cell (by simp) rfl fun H5 e5 s5 => ?_
  have c5 := c4.setC (w4 := .slice (some ⟨xb, 0, none⟩) M M) (w5 := .slice (some ⟨xv, 0, none⟩) M M) (w6 := v6) (w7 := v7) s5 e5
  refine stp c5.cell (by simp) rfl fun H6 e6 s6 => ?_
  have c6 := c5.setC (w4 := .slice (some ⟨xb, 0, none⟩) M M) (w5 := .slice (some ⟨xv, 0, none⟩) M M) (w6 := .slice (some ⟨xe, 0, none⟩) M M) (w7 := v7) s6 e6
  have s36 : Step (· = Y.sb) H3 H6 := (s4.trans s5 fun _ h => .inl h).trans s6 fun _ h => .inl h
  have nsb : ∀ {x : Nat}, x ≠ Y.sb → ∀ y, fpS (some ⟨x, 0, none⟩) y → ¬ y = Y.sb := fun hx y hy hh => by rw [fpS_mk] at hy; exact hx (hy.symm.trans hh)
  have r16 := r13.keep s36 (nsb a1.s)
  have r26 := r23.keep s36 (nsb a2.s)
  have r36 := r3.keep s36 (nsb a3.s)
  -- base and via, node by node
  refine blossom_search_begin.l1_rule (fun s0 r0 t26 t27 H' => s0 = some ⟨Y.sb, 0, none⟩ ∧ r0 = (r : Int) ∧ t26 = (M : Int) ∧ ∃ (v : Nat) (ba vi : Nat → Int), t27 = v ∧ v ≤ M ∧ BsC H0 H' Y M n e (incs (ef e) (et e) n) mb (.slice (some ⟨xb, 0, none⟩) M M) (.slice (some ⟨xv, 0, none⟩) M M) (.slice (some ⟨xe, 0, none⟩) M M) v7 ∧
      Row H' (some ⟨xb, 0, none⟩) M M ba ∧ Row H' (some ⟨xv, 0, none⟩) M M vi ∧ Row H' (some ⟨xe, 0, none⟩) M M (fun _ => false) ∧ (∀ u, u < v → ba u = u) ∧ ∀ u, u < v → vi u = -1)
    (fun s0 r0 t26 t27 H' => M - t27.toNat) ?_ ⟨rfl, rfl, rfl, 0, _, _, rfl, Nat.zero_le _, c6, r16, r26, r36, fun u hu => by omega, fun u hu => by omega⟩
  rintro s0 r0 t26 t27 H7 ⟨rfl, rfl, rfl, v, ba, vi, rfl, hv, c7, q1, q2, q3, hba, hvi⟩ X hX
  refine blossom_search_begin.b1_eq ?_
  unfold blossom_search_begin.b1_t
  refine bc (fun hlt => ?_) fun hge => ?_
  · simp only [nn_mk, get_at c7.cell, List.getElem?_cons_zero, List.getElem?_cons_succ, ldI_mk, ldS_mk, Nat.zero_add]
    refine q1.stI (by omega) (by omega) _ fun H8 q1' s8 => ?_
    have q28 := q2.keep s8 fun y hy hh => by rw [fpS_mk] at hy hh; exact hd1 (hh.symm.trans hy)
    have q38 := q3.keep s8 fun y hy hh => by rw [fpS_mk] at hy hh; exact hd2 (hh.symm.trans hy)
    have c8 := c7.keep s8 fun y hy => by rw [fpS_mk] at hy; exact hy ▸ ⟨f1, a1⟩
    refine q28.stI (by omega) (by omega) _ fun H9 q2' s9 => ?_
    have q19 := q1'.keep s9 fun y hy hh => by rw [fpS_mk] at hy hh; exact hd1 (hy.symm.trans hh)
    have q39 := q38.keep s9 fun y hy hh => by rw [fpS_mk] at hy hh; exact hd3 (hh.symm.trans hy)
    have c9 := c8.keep s9 fun y hy => by rw [fpS_mk] at hy; exact hy ▸ ⟨f2, a2⟩
    rw [Int.toNat_natCast] at q2' q19
    rw [i64w (by omega) (by omega)]
    refine hX _ _ _ _ _ ⟨rfl, rfl, rfl, v + 1, _, _, by omega, by omega, c9, q19, q2', q39, fun u hu => ?_, fun u hu => ?_⟩ (by omega)
    · by_cases eu : u = v
      · rw [eu, upf_same]
      · rw [upf_ne eu]; exact hba u (by omega)
    · by_cases eu : u = v
      · rw [eu, upf_same]
      · rw [upf_ne eu]; exact hvi u (by omega)
  · clear hX
    refine blossom_search_begin.j1_eq ?_
    unfold blossom_search_begin.j1_t
    simp only [nn_mk, get_at c7.cell, List.getElem?_cons_zero, List.getElem?_cons_succ, ldI_mk, ldS_mk, Nat.zero_add]
    refine q3.stB (by omega) (by omega) _ fun H8 q3' s8 => ?_
    have q18 := q1.keep s8 fun y hy hh => by rw [fpS_mk] at hy hh; exact hd2 (hy.symm.trans hh)
    have q28 := q2.keep s8 fun y hy hh => by rw [fpS_mk] at hy hh; exact hd3 (hy.symm.trans hh)
    have c8 := c7.keep s8 fun y hy => by rw [fpS_mk] at hy; exact hy ▸ ⟨f3, a3⟩
    refine nwk fun qb H9 hqb eq s9 => ?_
    have c9 := c8.keep0 s9
    have aq := c8.fresh hqb
    try simp only [nn_mk, Nat.zero_add]
    refine stp c9.cell (by simp) rfl fun H10 e10 s10 => ?_
    have c10 := c9.setC (w4 := .slice (some ⟨xb, 0, none⟩) M M) (w5 := .slice (some ⟨xv, 0, none⟩) M M) (w6 := .slice (some ⟨xe, 0, none⟩) M M) (w7 := .slice (some ⟨qb, 0, none⟩) 1 1) s10 e10
    have rq : Row H9 (some ⟨qb, 0, none⟩) 1 1 (lsF [r]) := by
      refine ⟨Nat.le_refl _, by decide, .inr ⟨qb, 0, _, rfl, eq, ⟨by simp [El.w], rfl⟩, fun i hi j hj => ?_⟩⟩
      have : i = 0 := by omega
      subst this
      have : j = 0 := by have : El.w Int = 1 := rfl; omega
      subst this
      rfl
    have live8 : ∀ {x : Nat} {α : Type} [El α] {f : Nat → α}, Row H8 (some ⟨x, 0, none⟩) M M f → x ≠ qb := fun hx hh => hx.live ⟨0, rfl⟩ (hh ▸ hqb)
    refine k H10 xb xv xe (some ⟨qb, 0, none⟩) 1 ⟨?_, ?_, ?_, ?_, ?_, ?_, ?_, ?_, ?_, f1, f2, f3, hd1, hd2, hd3⟩
    · exact ⟨c10.st, c10.he, c10.cell, c10.out, c10.rb, c10.fs, c10.fb, c10.d1, c10.d2, c10.d3, c10.d4⟩
    · exact (((q18.keep s9 fun _ _ h => h).keep s10 (nsb a1.s)).congr fun u hu => hba u (by omega))
    · exact (((q28.keep s9 fun _ _ h => h).keep s10 (nsb a2.s)).congr fun u hu => hvi u (by omega))
    · refine (((q3'.keep s9 fun _ _ h => h).keep s10 (nsb a3.s)).congr fun u hu => ?_)
      rw [Int.toNat_natCast]
      by_cases eu : u = r
      · rw [eu, upf_same]; simp
      · rw [upf_ne eu]; simp [eu]
    · exact rq.keep s10 (nsb aq.s)
    · exact ⟨a1.s, a1.n, a1.b, a1.l⟩
    · exact ⟨a2.s, a2.n, a2.b, a2.l⟩
    · exact ⟨a3.s, a3.n, a3.b, a3.l⟩
    · intro y hy
      rw [fpS_mk] at hy
      subst hy
      exact ⟨c8.st.mono _ hqb, ⟨aq.s, aq.n, aq.b, aq.l⟩, (live8 q18).symm, (live8 q28).symm, (live8 q3').symm⟩

/-- a node at an even place that isn't the root: its mate, the edge that the mate was come to by -/
theorem Tre.stn (hN : Nds M n (ef e) (et e)) (hMM : MM M n (ef e) (et e) M mb) (hT : Tre M n (ef e) (et e) mb r base via ev ρ) {u : Nat} (hu : u < M) (he : ev u = true) (hne : u ≠ r) : ∃ j k : Nat, mb u = j ∧ En n (ef e) (et e) j u ∧ mt (ef e) (et e) mb u < M ∧ via (mt (ef e) (et e) mb u) = k ∧ En n (ef e) (et e) k (mt (ef e) (et e) mb u) := by
  obtain ⟨hb, k, hk, hen, _⟩ := hT.st u hu he hne
  obtain ⟨j, ej, hj, _⟩ := hMM.en hu (by omega) hb
  exact ⟨j, k, ej, hj, hMM.ltN hN hu hb, hk, hen⟩

/-- going back from the one node, circle by circle -/
def MtA (H0 : Hp) (Y : LY) (M n : Nat) (e : Nat → Edg) (mb : Nat → Int) (base : Nat → Nat) (via : Nat → Int) (ev : Nat → Bool) (qp : Option Addr) (qc : Nat) (Q : List Nat) (la : List Nat) (c pb : Nat) (s0 : Option Addr) (a1 b2 : Int) (p7 : Option Addr) (p7n p7c : Nat) (H' : Hp) (k : Nat) : Prop :=
  s0 = some ⟨Y.sb, 0, none⟩ ∧ b2 = (c : Int) ∧ p7 = some ⟨pb, 0, none⟩ ∧ p7n = M ∧ p7c = M ∧ ∃ (x : Nat) (q1 lx : List Nat) (ps : Nat → Bool), a1 = x ∧ k = lx.length ∧ la = q1 ++ lx ∧ AP n (ef e) (et e) mb via x lx ∧ x < M ∧ ev x = true ∧ BkM H0 H' Y M n e mb base via ev qp qc Q ∧
    Row H' (some ⟨pb, 0, none⟩) M M ps ∧ (∀ z, ps z = true → z ∈ la ∧ base z = z) ∧ ∀ z ∈ q1, base z = z → ps z = true

/-- and from the other -/
def MtB (H0 : Hp) (Y : LY) (M n : Nat) (e : Nat → Edg) (mb : Nat → Int) (base : Nat → Nat) (via : Nat → Int) (ev : Nat → Bool) (qp : Option Addr) (qc : Nat) (Q : List Nat) (la lb : List Nat) (pb : Nat) (ps : Nat → Bool) (s0 : Option Addr) (b2 : Int) (p7 : Option Addr) (p7n p7c : Nat) (H' : Hp) (k : Nat) : Prop :=
  s0 = some ⟨Y.sb, 0, none⟩ ∧ p7 = some ⟨pb, 0, none⟩ ∧ p7n = M ∧ p7c = M ∧ ∃ (y : Nat) (q1 ly : List Nat), b2 = y ∧ k = ly.length ∧ lb = q1 ++ ly ∧ AP n (ef e) (et e) mb via y ly ∧ y < M ∧ ev y = true ∧ BkM H0 H' Y M n e mb base via ev qp qc Q ∧
    Row H' (some ⟨pb, 0, none⟩) M M ps ∧ ∀ z ∈ q1, base z = z → z ∉ la

/-- where the ways back meet -/
theorem blmeet {a c : Nat} {la lb : List Nat} {K : Int → Hp → Prop} (h : BkM H0 H Y M n e mb base via ev qp qc Q) (hr : Right (M : Int) n e) (hMM : MM M n (ef e) (et e) M mb) (hT : Tre M n (ef e) (et e) mb r base via ev ρ) (ha : a < M) (hc : c < M) (ea : ev a = true) (ec : ev c = true)
    (hla : AP n (ef e) (et e) mb via a la) (hlb : AP n (ef e) (et e) mb via c lb) (hnb : ND (ef e) (et e) mb lb)
    (k : ∀ H' top, BkM H0 H' Y M n e mb base via ev qp qc Q → Meet2 (ef e) (et e) base la lb top → top < M → K (top : Int) H') : blossom_search_meet.call (some ⟨Y.sb, 0, none⟩) (a : Int) (c : Int) E H K := by
  have hN := hr.nds
  have hM1 := hr.N1
  refine blossom_search_meet.of (blossom_search_meet.run_eq ?_)
  unfold blossom_search_meet.run_t
  simp only [nn_mk, get_at h.c.cell, List.getElem?_cons_zero, List.getElem?_cons_succ, ldI_mk, ldS_mk, Nat.zero_add]
  refine Row.mkB (by omega) (by omega) fun pb H1 hpb rp s1 => ?_
  rw [Int.toNat_natCast] at rp ⊢
  have ap := h.fresh hpb
  have fp : H0 pb = none := h.c.st.mono _ hpb
  have h1 := h.keep0 s1
  -- the root stands on both ways
  have rootA : r ∈ la := by
    have : ∀ {u : Nat} {l : List Nat}, AP n (ef e) (et e) mb via u l → u < M → ev u = true → r ∈ l := by
      intro u l hA
      induction hA with
      | root h0 =>
        rename_i u
        intro hu he
        have : u = r := Classical.byContradiction fun hne => by have := (hT.st u hu he hne).1; omega
        rw [this]; simp
      | step h1 hk he' hl ih =>
        rename_i u k' l'
        intro hu he
        have hne : u ≠ r := fun e => by rw [e, hT.rb] at h1; omega
        obtain ⟨_, k2, hk2, _, hev, _⟩ := hT.st u hu he hne
        have := Int.ofNat.inj (hk.symm.trans hk2)
        subst this
        exact List.mem_cons_of_mem _ (ih (he'.ot.nd hN) hev)
    exact this hla ha ea
  -- back from the other node, once all circles of the one are marked
  have other : ∀ (ps : Nat → Bool) (H' : Hp), BkM H0 H' Y M n e mb base via ev qp qc Q → Row H' (some ⟨pb, 0, none⟩) M M ps → (∀ z, ps z = true → z ∈ la ∧ base z = z) → (∀ z ∈ la, base z = z → ps z = true) → blossom_search_meet.j1 (some ⟨Y.sb, 0, none⟩) (c : Int) (some ⟨pb, 0, none⟩) M M E H' K := fun ps H' hB hP hp1 hp2 => by
    refine blossom_search_meet.j1_eq ?_
    unfold blossom_search_meet.j1_t
    refine blossom_search_meet.l2_rule (fun s0 b2 p7 p7n p7c H' => ∃ k, MtB H0 Y M n e mb base via ev qp qc Q la lb pb ps s0 b2 p7 p7n p7c H' k) (fun s0 b2 p7 p7n p7c H' => gm (MtB H0 Y M n e mb base via ev qp qc Q la lb pb ps s0 b2 p7 p7n p7c H')) ?_ ⟨lb.length, rfl, rfl, rfl, rfl, c, [], lb, rfl, rfl, rfl, hlb, hc, ec, hB, hP, fun z hz => by cases hz⟩
    rintro s0 b2 p7 p7n p7c H2 ⟨k0, hk0⟩ X hX
    have hJ := (gm_of hk0).1
    generalize gm (MtB H0 Y M n e mb base via ev qp qc Q la lb pb ps s0 b2 p7 p7n p7c H2) = kk at hJ hX
    obtain ⟨rfl, rfl, rfl, rfl, y, q1, ly, rfl, rfl, hl, hA, hy, hey, hB2, hP2, hfar⟩ := hJ
    obtain ⟨p, q, hsp, hpb⟩ := hT.split hN hA hy hey
    have hbN := hT.baseN hy
    refine blossom_search_meet.b2_eq ?_
    unfold blossom_search_meet.b2_t
    simp only [nn_mk, get_at hB2.c.cell, List.getElem?_cons_zero, List.getElem?_cons_succ, ldI_mk, ldS_mk, Nat.zero_add]
    refine hB2.rba.ixI (by omega) (by omega) ?_
    rw [Int.toNat_natCast]
    refine hP2.ixB (by omega) (by omega) ?_
    rw [Int.toNat_natCast]
    have hlb' : lb = (q1 ++ p) ++ base y :: q := by rw [hl, hsp]; simp
    refine bcb (fun hps => ?_) fun hps => ?_
    · obtain ⟨hin, hbb⟩ := hp1 _ hps
      refine k H2 (base y) hB2 ⟨hbb, hin, q1 ++ p, q, hlb', fun z hz hzb => ?_⟩ hbN
      rcases List.mem_append.1 hz with hz | hz
      · exact hfar z hz hzb
      · exfalso
        have : z = base y := by rw [← hpb z hz, hzb]
        have hnd := hnb.1
        rw [hlb'] at hnd
        exact (List.nodup_append.1 hnd).2.2 z (by simp [hz]) (base y) (by simp) this
    · have hno : base y ∉ la := fun hin => by rw [hp2 _ hin (hT.bb hy)] at hps; cases hps
      have hne : base y ≠ r := fun e => hno (e ▸ rootA)
      have heb := (hT.evb hy).trans hey
      obtain ⟨j, k2, ej, hj, hmN, hk2, hen2⟩ := hT.stn hN hMM hbN heb hne
      obtain ⟨_, k3, hk3, _, hex, _⟩ := hT.st _ hbN heb hne
      have := Int.ofNat.inj (hk2.symm.trans hk3)
      subst this
      refine blmate hB2.c hr hj ej ?_
      simp only [nn_mk, get_at hB2.c.cell, List.getElem?_cons_zero, List.getElem?_cons_succ, ldI_mk, ldS_mk, Nat.zero_add]
      refine hB2.rvi.ixI (by omega) (by omega) ?_
      rw [Int.toNat_natCast, hk2]
      refine blother hB2.c hr hen2 ?_
      have hAb : AP n (ef e) (et e) mb via (base y) (base y :: q) := hA.suf hsp
      have hAn : AP n (ef e) (et e) mb via (ot (ef e) (et e) k2 (mt (ef e) (et e) mb (base y))) q := by
        cases hAb with
        | root h0 => rw [ej] at h0; omega
        | step h1 hk' he' hl' =>
          have := Int.ofNat.inj (hk2.symm.trans hk')
          subst this
          exact hl'
      have hJ' : MtB H0 Y _ n e mb base via ev qp qc Q la lb pb ps (some ⟨Y.sb, 0, none⟩) (ot (ef e) (et e) k2 (mt (ef e) (et e) mb (base y)) : Int) (some ⟨pb, 0, none⟩) _ _ H2 q.length := ⟨rfl, rfl, rfl, rfl, _, (q1 ++ p) ++ [base y], q, rfl, rfl, by rw [hlb']; simp, hAn, hen2.ot.nd hN, hex, hB2, hP2, fun z hz hzb => by
        rcases List.mem_append.1 hz with hz | hz
        · rcases List.mem_append.1 hz with hz | hz
          · exact hfar z hz hzb
          · rw [← hzb, hpb z hz]; exact hno
        · rw [List.mem_singleton.1 hz]; exact hno⟩
      refine hX _ _ _ _ _ _ ⟨_, hJ'⟩ (Nat.lt_of_le_of_lt (gm_of hJ').2 ?_)
      rw [hsp]; simp; omega
  -- back from the one node
  refine blossom_search_meet.l1_rule (fun s0 a1 b2 p7 p7n p7c H' => ∃ k, MtA H0 Y M n e mb base via ev qp qc Q la c pb s0 a1 b2 p7 p7n p7c H' k) (fun s0 a1 b2 p7 p7n p7c H' => gm (MtA H0 Y M n e mb base via ev qp qc Q la c pb s0 a1 b2 p7 p7n p7c H')) ?_ ⟨la.length, rfl, rfl, rfl, rfl, rfl, a, [], la, _, rfl, rfl, rfl, hla, ha, ea, h1, rp, fun z hz => (by cases hz), fun z hz => by cases hz⟩
  rintro s0 a1 b2 p7 p7n p7c H2 ⟨k0, hk0⟩ X hX
  have hJ := (gm_of hk0).1
  generalize gm (MtA H0 Y M n e mb base via ev qp qc Q la c pb s0 a1 b2 p7 p7n p7c H2) = kk at hJ hX
  obtain ⟨rfl, rfl, rfl, rfl, rfl, x, q1, lx, ps, rfl, rfl, hl, hA, hx, hex, hB2, hP2, hp1, hp2⟩ := hJ
  obtain ⟨p, q, hsp, hpb'⟩ := hT.split hN hA hx hex
  have hbN := hT.baseN hx
  have heb := (hT.evb hx).trans hex
  have hla' : la = (q1 ++ p) ++ base x :: q := by rw [hl, hsp]; simp
  refine blossom_search_meet.b1_eq ?_
  unfold blossom_search_meet.b1_t
  simp only [nn_mk, get_at hB2.c.cell, List.getElem?_cons_zero, List.getElem?_cons_succ, ldI_mk, ldS_mk, Nat.zero_add]
  refine hB2.rba.ixI (by omega) (by omega) ?_
  rw [Int.toNat_natCast]
  refine hP2.stB (by omega) (by omega) _ fun H3 rp3 s3 => ?_
  rw [Int.toNat_natCast] at rp3
  have hB3 := hB2.keep s3 fun y hy => by rw [fpS_mk] at hy; exact hy ▸ ⟨fp, ap⟩
  have hp1' : ∀ z, upf ps (base x) true z = true → z ∈ la ∧ base z = z := fun z hz => by
    by_cases ez : z = base x
    · rw [ez]; exact ⟨by rw [hla']; simp, hT.bb hx⟩
    · rw [upf_ne ez] at hz; exact hp1 z hz
  have hp2' : ∀ z ∈ (q1 ++ p) ++ [base x], base z = z → upf ps (base x) true z = true := fun z hz hzb => by
    by_cases ez : z = base x
    · rw [ez, upf_same]
    · rw [upf_ne ez]
      rcases List.mem_append.1 hz with hz | hz
      · rcases List.mem_append.1 hz with hz | hz
        · exact hp2 z hz hzb
        · exact (ez (by rw [← hzb, hpb' z hz])).elim
      · exact (ez (List.mem_singleton.1 hz)).elim
  have hAb : AP n (ef e) (et e) mb via (base x) (base x :: q) := hA.suf hsp
  simp only [nn_mk, get_at hB3.c.cell, List.getElem?_cons_zero, List.getElem?_cons_succ, ldI_mk, ldS_mk, Nat.zero_add]
  refine hB3.c.rb.ixI (by omega) (by omega) ?_
  rw [Int.toNat_natCast]
  refine bc (fun hneg => ?_) fun hpos => ?_
  · refine other _ H3 hB3 rp3 hp1' fun z hz hzb => hp2' z ?_ hzb
    have hq : q = [] := by
      cases q with
      | nil => rfl
      | cons w q => have := hAb.pos rfl (by simp); omega
    rw [hla', hq] at hz
    exact hz
  · have hne : base x ≠ r := fun e => by rw [e, hT.rb] at hpos; omega
    obtain ⟨j, k2, ej, hj, hmN, hk2, hen2⟩ := hT.stn hN hMM hbN heb hne
    obtain ⟨_, k3, hk3, _, hex2, _⟩ := hT.st _ hbN heb hne
    have := Int.ofNat.inj (hk2.symm.trans hk3)
    subst this
    refine blmate hB3.c hr hj ej ?_
    simp only [nn_mk, get_at hB3.c.cell, List.getElem?_cons_zero, List.getElem?_cons_succ, ldI_mk, ldS_mk, Nat.zero_add]
    refine hB3.rvi.ixI (by omega) (by omega) ?_
    rw [Int.toNat_natCast, hk2]
    refine bc (fun hh => by omega) fun _ => ?_
    try simp only [nn_mk, get_at hB3.c.cell, List.getElem?_cons_zero, List.getElem?_cons_succ, ldI_mk, ldS_mk, Nat.zero_add]
    refine hB3.rvi.ixI (by omega) (by omega) ?_
    rw [Int.toNat_natCast, hk2]
    refine blother hB3.c hr hen2 ?_
    have hAn : AP n (ef e) (et e) mb via (ot (ef e) (et e) k2 (mt (ef e) (et e) mb (base x))) q := by
      cases hAb with
      | root h0 => rw [ej] at h0; omega
      | step h1 hk' he' hl' =>
        have := Int.ofNat.inj (hk2.symm.trans hk')
        subst this
        exact hl'
    have hJ' : MtA H0 Y _ n e mb base via ev qp qc Q la c pb (some ⟨Y.sb, 0, none⟩) (ot (ef e) (et e) k2 (mt (ef e) (et e) mb (base x)) : Int) (c : Int) (some ⟨pb, 0, none⟩) _ _ H3 q.length := ⟨rfl, rfl, rfl, rfl, rfl, _, (q1 ++ p) ++ [base x], q, _, rfl, rfl, by rw [hla']; simp, hAn, hen2.ot.nd hN, hex2, hB3, rp3, hp1', hp2'⟩
    refine hX _ _ _ _ _ _ _ ⟨_, hJ'⟩ (Nat.lt_of_le_of_lt (gm_of hJ').2 ?_)
    rw [hsp]; simp; omega
end
end Go.Mz

/-
  Walks of layer 17: marking a way back; a circle more.
-/
namespace Go.Mz

section
variable {E : Value → Hp → Prop}
variable {H0 H : Hp} {Y : LY} {M n : Nat} {e : Nat → Edg} {mb : Nat → Int} {base ρ : Nat → Nat} {via : Nat → Int} {ev : Nat → Bool} {qp : Option Addr} {qc r : Nat} {Q : List Nat}

/-- what a marked way leaves: the marks on circles and on nodes at odd places, before and now -/
def Mk (fr to : Nat → Nat) (mb : Nat → Int) (base : Nat → Nat) (P : List Nat) (inn inn' : Nat → Bool) : Prop :=
  ∀ z, inn' z = true ↔ inn z = true ∨ ∃ y ∈ P, z = base y ∨ z = base (mt fr to mb y)

/-- how far a way back is marked -/
def MkJ (H0 H : Hp) (Y : LY) (M n : Nat) (e : Nat → Edg) (mb : Nat → Int) (base : Nat → Nat) (via V : Nat → Int) (i : Int) (ev : Nat → Bool) (qp : Option Addr) (qc : Nat) (Q : List Nat) (P R : List Nat) (top ib : Nat) (inn : Nat → Bool) (s0 : Option Addr) (v1 t2 i3 : Int) (p4 : Option Addr) (p4n p4c : Nat) (H' : Hp) (k : Nat) : Prop :=
  s0 = some ⟨Y.sb, 0, none⟩ ∧ t2 = (top : Int) ∧ p4 = some ⟨ib, 0, none⟩ ∧ p4n = M ∧ p4c = M ∧ ∃ (v : Nat) (P1 P2 : List Nat) (V1 : Nat → Int) (inn1 : Nat → Bool), v1 = v ∧ v < M ∧ k = P2.length ∧ P = P1 ++ P2 ∧ AP n (ef e) (et e) mb via v (P2 ++ R) ∧ BkM H0 H' Y M n e mb base V1 ev qp qc Q ∧ Row H' (some ⟨ib, 0, none⟩) M M inn1 ∧
    Mk (ef e) (et e) mb base P1 inn inn1 ∧ markF (ef e) (et e) mb P2 V1 i3 = markF (ef e) (et e) mb P V i ∧ (∀ y ∈ P2, V1 (mt (ef e) (et e) mb y) = via (mt (ef e) (et e) mb y)) ∧ Step (fun y => y = Y.xv ∨ y = ib) H H'

theorem blmark {v top ib x : Nat} {i : Nat} {P q : List Nat} {V : Nat → Int} {inn : Nat → Bool} {K : Hp → Prop} (h : BkM H0 H Y M n e mb base V ev qp qc Q) (hr : Right (M : Int) n e) (hMM : MM M n (ef e) (et e) M mb) (hT : Tre M n (ef e) (et e) mb r base via ev ρ) (hv : v < M) (hev : ev v = true)
    (hA : AP n (ef e) (et e) mb via v (P ++ x :: q)) (hnd : ND (ef e) (et e) mb (P ++ x :: q)) (hP : ∀ y ∈ P, base y ≠ top) (hx : base x = top) (hV : ∀ y ∈ P, V (mt (ef e) (et e) mb y) = via (mt (ef e) (et e) mb y)) (hin : Row H (some ⟨ib, 0, none⟩) M M inn) (hib : H0 ib = none) (aib : Ax Y M qp ib)
    (k : ∀ H' inn', BkM H0 H' Y M n e mb base (markF (ef e) (et e) mb P V i) ev qp qc Q → Row H' (some ⟨ib, 0, none⟩) M M inn' → Mk (ef e) (et e) mb base P inn inn' → K H') :
    blossom_search_mark.call (some ⟨Y.sb, 0, none⟩) (v : Int) (top : Int) (i : Int) (some ⟨ib, 0, none⟩) M M E H K := by
  have hN := hr.nds
  have hM1 := hr.N1
  have hall := hT.pev hN hA hv hev
  refine blossom_search_mark.of (blossom_search_mark.run_eq ?_)
  unfold blossom_search_mark.run_t
  refine blossom_search_mark.l1_rule (fun s0 v1 t2 i3 p4 p4n p4c H' => ∃ k, MkJ H0 H Y M n e mb base via V i ev qp qc Q P (x :: q) top ib inn s0 v1 t2 i3 p4 p4n p4c H' k) (fun s0 v1 t2 i3 p4 p4n p4c H' => gm (MkJ H0 H Y M n e mb base via V i ev qp qc Q P (x :: q) top ib inn s0 v1 t2 i3 p4 p4n p4c H')) ?_
    ⟨P.length, rfl, rfl, rfl, rfl, rfl, v, [], P, V, inn, rfl, hv, rfl, rfl, hA, h, hin, fun z => ⟨.inl, fun hh => hh.elim id fun ⟨y, hy, _⟩ => by cases hy⟩, rfl, hV, .refl⟩
  rintro s0 v1 t2 i3 p4 p4n p4c H1 ⟨k0, hk0⟩ X hX
  have hJ := (gm_of hk0).1
  generalize gm (MkJ H0 H Y M n e mb base via V i ev qp qc Q P (x :: q) top ib inn s0 v1 t2 i3 p4 p4n p4c H1) = kk at hJ hX
  obtain ⟨rfl, rfl, rfl, e1, e2, u, P1, P2, V1, inn1, rfl, hu, rfl, hsp, hA1, hB1, hI1, hmk, hmF, hV1, s1⟩ := hJ
  subst e1 e2
  refine blossom_search_mark.b1_eq ?_
  unfold blossom_search_mark.b1_t
  simp only [nn_mk, get_at hB1.c.cell, List.getElem?_cons_zero, List.getElem?_cons_succ, ldI_mk, ldS_mk, Nat.zero_add]
  refine hB1.rba.ixI (by omega) (by omega) ?_
  rw [Int.toNat_natCast]
  cases P2 with
  | nil =>
    obtain ⟨_, eh⟩ := hA1.head
    have hux : u = x := (List.cons.inj eh).1.symm
    subst hux
    refine bcn (fun hh => (hh (by rw [hx])).elim) fun _ => ?_
    have hP1 : P1 = P := by rw [hsp]; simp
    have hm : V1 = markF (ef e) (et e) mb P V i := hmF
    rw [hm] at hB1
    rw [hP1] at hmk
    exact k H1 inn1 hB1 hI1 hmk
  | cons y P2 =>
    obtain ⟨_, eh⟩ := hA1.head
    have huy : u = y := (List.cons.inj eh).1.symm
    subst huy
    have huP : u ∈ P := by rw [hsp]; simp
    have hueN := hall u (by simp [huP])
    refine bcn (fun hne => ?_) fun hh => (hP u huP (by omega)).elim
    have hur : u ≠ r := fun e => by
      have := hA1.pos rfl (by simp)
      rw [e, hT.rb] at this; omega
    obtain ⟨j, k2, ej, hj, hmN, hk2, hen2⟩ := hT.stn hN hMM hu hueN.2 hur
    refine blmate hB1.c hr hj ej ?_
    simp only [nn_mk, get_at hB1.c.cell, List.getElem?_cons_zero, List.getElem?_cons_succ, ldI_mk, ldS_mk, Nat.zero_add]
    refine hB1.rba.ixI (by omega) (by omega) ?_
    try simp only [nn_mk, get_at hB1.c.cell, List.getElem?_cons_zero, List.getElem?_cons_succ, ldI_mk, ldS_mk, Nat.zero_add]
    refine hB1.rba.ixI (by omega) (by omega) ?_
    simp only [Int.toNat_natCast]
    have hb1 := hT.baseN hu
    have hb2 := hT.baseN hmN
    refine hI1.stB (by omega) (by omega) _ fun H2 r2 s2 => ?_
    refine r2.stB (by omega) (by omega) _ fun H3 r3 s3 => ?_
    simp only [Int.toNat_natCast] at r3
    have hFi : ∀ y, fpS (some ⟨ib, 0, none⟩) y → H0 y = none ∧ Ax Y p4c qp y := fun y hy => by rw [fpS_mk] at hy; exact hy ▸ ⟨hib, aib⟩
    have hB3 := (hB1.keep s2 hFi).keep s3 hFi
    simp only [nn_mk, get_at hB3.c.cell, List.getElem?_cons_zero, List.getElem?_cons_succ, ldI_mk, ldS_mk, Nat.zero_add]
    refine hB3.rvi.stI (by omega) (by omega) _ fun H4 rv4 s4 => ?_
    rw [Int.toNat_natCast] at rv4
    have hB4 := hB3.setV s4 rv4
    have r4 := r3.keep s4 fun y hy hh => by rw [fpS_mk] at hy hh; exact aib.v (hy.symm.trans hh)
    simp only [nn_mk, get_at hB4.c.cell, List.getElem?_cons_zero, List.getElem?_cons_succ, ldI_mk, ldS_mk, Nat.zero_add]
    refine hB4.rvi.ixI (by omega) (by omega) ?_
    rw [Int.toNat_natCast]
    have hmu : mt (ef e) (et e) mb u ≠ u := by
      obtain ⟨j', ej', hj', em', _⟩ := hMM.en hu (by omega) (by omega)
      rw [em']; exact hj'.ne
    have hvm : upf V1 u i3 (mt (ef e) (et e) mb u) = (k2 : Int) := by rw [upf_ne hmu, hV1 u (by simp), hk2]
    rw [hvm]
    refine blother hB4.c hr hen2 ?_
    have hAn : AP n (ef e) (et e) mb via (ot (ef e) (et e) k2 (mt (ef e) (et e) mb u)) (P2 ++ x :: q) := by
      generalize hl : u :: P2 ++ x :: q = l at hA1
      cases hA1 with
      | root h0 => rw [ej] at h0; omega
      | step h1 hk' he' hl' =>
        have := Int.ofNat.inj (hk2.symm.trans hk')
        subst this
        have e3 := (List.cons.inj hl).2
        rw [← e3] at hl'
        exact hl'
    have hsp' : P = (P1 ++ [u]) ++ P2 := by rw [hsp]; simp
    have hJ' : MkJ H0 H Y p4c n e mb base via V i ev qp qc Q P (x :: q) top ib inn (some ⟨Y.sb, 0, none⟩) (ot (ef e) (et e) k2 (mt (ef e) (et e) mb u) : Int) (top : Int) (k2 : Int) (some ⟨ib, 0, none⟩) p4c p4c H4 P2.length := by
      refine ⟨rfl, rfl, rfl, rfl, rfl, _, P1 ++ [u], P2, upf V1 u i3, _, rfl, hen2.ot.nd hN, rfl, hsp', hAn, hB4, r4, fun z => ?_, ?_, fun y hy => ?_, ?_⟩
      · have at' : upf (upf inn1 (base u) true) (base (mt (ef e) (et e) mb u)) true z = true ↔ inn1 z = true ∨ z = base u ∨ z = base (mt (ef e) (et e) mb u) := by
          by_cases c1 : z = base (mt (ef e) (et e) mb u)
          · rw [c1, upf_same]; simp
          · rw [upf_ne c1]
            by_cases c2 : z = base u
            · rw [c2, upf_same]; simp
            · rw [upf_ne c2]; simp [c1, c2]
        rw [at', hmk z]
        constructor
        · rintro ((hh | ⟨y, hy, hh⟩) | hh)
          · exact .inl hh
          · exact .inr ⟨y, by simp [hy], hh⟩
          · exact .inr ⟨u, by simp, hh⟩
        · rintro (hh | ⟨y, hy, hh⟩)
          · exact .inl (.inl hh)
          · rcases List.mem_append.1 hy with hy | hy
            · exact .inl (.inr ⟨y, hy, hh⟩)
            · rw [List.mem_singleton.1 hy] at hh; exact .inr hh
      · rw [← hmF]
        show markF (ef e) (et e) mb P2 (upf V1 u i3) (k2 : Int) = markF (ef e) (et e) mb P2 (upf V1 u i3) (upf V1 u i3 (mt (ef e) (et e) mb u))
        rw [hvm]
      · have hyP : y ∈ P := by rw [hsp]; simp [hy]
        have hyb : 0 ≤ mb y := by
          obtain ⟨p1, p2, hp⟩ := List.append_of_mem hyP
          have hsuf : AP n (ef e) (et e) mb via y (y :: (p2 ++ x :: q)) := hA.suf (p := p1) (by rw [hp]; simp)
          exact hsuf.pos rfl (by simp)
        have hne : mt (ef e) (et e) mb y ≠ u := hnd.2 y (by simp [hyP]) hyb u (by simp [huP])
        rw [upf_ne hne]
        exact hV1 y (by simp [hy])
      · have w : ∀ {F : Nat → Prop} {Ha Hb : Hp}, Step F Ha Hb → (∀ y, F y → y = Y.xv ∨ y = ib) → Step (fun y => y = Y.xv ∨ y = ib) Ha Hb := fun s hF => s.weak fun y hy => .inl (hF y hy)
        have s2' := w s2 fun y hy => by rw [fpS_mk] at hy; exact .inr hy
        have s3' := w s3 fun y hy => by rw [fpS_mk] at hy; exact .inr hy
        have s4' := w s4 fun y hy => by rw [fpS_mk] at hy; exact .inl hy
        exact ((s1.trans s2' fun _ h => .inl h).trans s3' fun _ h => .inl h).trans s4' fun _ h => .inl h
    refine hX _ _ _ _ _ _ _ _ ⟨_, hJ'⟩ (Nat.lt_of_le_of_lt (gm_of hJ').2 (by simp))

/-- the numbers below `n` that are marked, rising -/
def pkl (P : Nat → Bool) (n : Nat) : List Nat := (List.range n).filter P

theorem pkl_succ {P : Nat → Bool} {n : Nat} : pkl P (n + 1) = if P n = true then pkl P n ++ [n] else pkl P n := by
  unfold pkl
  rw [List.range_succ, List.filter_append]
  by_cases h : P n = true <;> simp [h]

theorem pkl_mem {P : Nat → Bool} {n x : Nat} : x ∈ pkl P n ↔ x < n ∧ P x = true := by unfold pkl; rw [List.mem_filter, List.mem_range]
theorem pkl_nodup {P : Nat → Bool} {n : Nat} : (pkl P n).Nodup := List.nodup_range.sublist List.filter_sublist

theorem BkM.congr {base' : Nat → Nat} {ev' : Nat → Bool} {Q : List Nat} (h : BkM H0 H Y M n e mb base via ev qp qc Q) (hb : ∀ z, z < M → base z = base' z) (he : ∀ z, z < M → ev z = ev' z) : BkM H0 H Y M n e mb base' via ev' qp qc Q :=
  ⟨h.c, h.rba.congr fun u hu => by rw [hb u hu], h.rvi, h.rev.congr fun u hu => he u hu, h.rq, h.ab, h.av, h.ae, h.aq, h.fb, h.fv, h.fe, h.dbv, h.dbe, h.dve⟩

/-- what is known after a circle more -/
structure Shr (M : Nat) (e : Nat → Edg) (base base' : Nat → Nat) (via via' : Nat → Int) (ev ev' : Nat → Bool) (i : Nat) (Q Q' : List Nat) : Prop where
  mg : ∀ u w, u < M → w < M → base u = base w → base' u = base' w
  mn : ∀ u, u < M → ev u = true → ev' u = true
  vi : ∀ u, u < M → 0 ≤ via u → 0 ≤ via' u
  jn : base' (ef e i) = base' (et e i)
  qu : ∃ nl : List Nat, Q' = Q ++ nl ∧ nl.Nodup ∧ ∀ u, u ∈ nl ↔ u < M ∧ ev' u = true ∧ ev u = false

/-- an edge between two circles makes one of them -/
theorem blshrink {i : Nat} {K : Hp → Prop} (h : BkM H0 H Y M n e mb base via ev qp qc Q) (hr : Right (M : Int) n e) (hMM : MM M n (ef e) (et e) M mb) (hT : Tre M n (ef e) (et e) mb r base via ev ρ) (hi : i < n) (hl : ef e i ≠ et e i) (ea : ev (ef e i) = true) (ec : ev (et e i) = true) (hQ : Q.length ≤ M)
    (hql : ∀ nl : List Nat, nl.Nodup → (∀ u ∈ nl, u < M ∧ ev u = false) → (Q ++ nl).length ≤ M)
    (k : ∀ H' base' via' ev' ρ' qp' qc' Q', BkM H0 H' Y M n e mb base' via' ev' qp' qc' Q' → Tre M n (ef e) (et e) mb r base' via' ev' ρ' → Shr M e base base' via via' ev ev' i Q Q' → K H') : blossom_search_shrink.call (some ⟨Y.sb, 0, none⟩) (i : Int) E H K := by
  have hN := hr.nds
  have hM1 := hr.N1
  obtain ⟨aM, cM⟩ := hN i hi
  obtain ⟨ef', et'⟩ := hr.ends hi
  have hen : En n (ef e) (et e) i (ef e i) := ⟨hi, hl, .inl rfl⟩
  have hec : et e i = ot (ef e) (et e) i (ef e i) := by unfold ot; omega
  obtain ⟨la, hla, hna⟩ := hT.pa _ aM ea
  obtain ⟨lb, hlb, hnb⟩ := hT.pa _ cM ec
  refine blossom_search_shrink.of (blossom_search_shrink.run_eq ?_)
  unfold blossom_search_shrink.run_t
  simp only [nn_mk, get_at h.c.cell, List.getElem?_cons_zero, List.getElem?_cons_succ, ldI_mk, ldS_mk, Nat.zero_add]
  refine h.c.ed.edgeF (by omega) (by omega) ?_
  try simp only [nn_mk, get_at h.c.cell, List.getElem?_cons_zero, List.getElem?_cons_succ, ldI_mk, ldS_mk, Nat.zero_add]
  refine h.c.ed.edgeT (by omega) (by omega) ?_
  rw [Int.toNat_natCast, ef', et']
  refine blmeet h hr hMM hT aM cM ea ec hla hlb hnb fun H1 top hB1 hmt htM => ?_
  obtain ⟨PA, RA, PB, RB, eA, eB, hS⟩ := SH.make hN hMM hT hen hec ea ec hla hna hlb hnb hmt
  obtain ⟨xa, qa, hRA, hxa⟩ := hS.ra
  obtain ⟨xc, qb, hRB, hxc⟩ := hS.rb
  simp only [nn_mk, get_at hB1.c.cell, List.getElem?_cons_zero, List.getElem?_cons_succ, ldI_mk, ldS_mk, Nat.zero_add]
  refine Row.mkB (by omega) (by omega) fun ib H2 hib ri s2 => ?_
  rw [Int.toNat_natCast] at ri ⊢
  have aib := hB1.fresh hib
  have fib : H0 ib = none := hB1.c.st.mono _ hib
  have hB2 := hB1.keep0 s2
  refine blmark hB2 hr hMM hT aM ea (hRA ▸ hS.apa) (hRA ▸ hS.nda) hS.na hxa (fun _ _ => rfl) ri fib aib fun H3 in1 hB3 ri3 hk1 => ?_
  have posA : ∀ y ∈ PA, 0 ≤ mb y := fun y hy => (hS.next hy).1
  have posB : ∀ y ∈ PB, 0 ≤ mb y := fun y hy => ((hS.symm hN hMM hT).next hy).1
  have hVB : ∀ y ∈ PB, markF (ef e) (et e) mb PA via i (mt (ef e) (et e) mb y) = via (mt (ef e) (et e) mb y) := fun y hy => markF_out fun hm => by
    obtain ⟨hyN, _⟩ := hS.fp hN hMM hT (.inr hy)
    obtain ⟨_, _, _, _, _, _, hmm⟩ := hMM.en hyN (by omega) (posB y hy)
    exact (hS.cr _ hm y hy).2 hmm
  refine blmark hB3 hr hMM hT cM ec (hRB ▸ hS.apb) (hRB ▸ hS.ndb) hS.nb hxc hVB ri3 fib aib fun H4 in2 hB4 ri4 hk2 => ?_
  -- the marks, and the edges by which the ways may be gone about
  have hin : Cin (ef e) (et e) mb base M PA PB in2 := fun z hz => by
    rw [hk2 z, hk1 z]
    constructor
    · rintro ((hh | ⟨y, hy, hh⟩) | ⟨y, hy, hh⟩)
      · cases hh
      · exact ⟨y, .inl hy, hh⟩
      · exact ⟨y, .inr hy, hh⟩
    · rintro ⟨y, hy | hy, hh⟩
      · exact .inl (.inr ⟨y, hy, hh⟩)
      · exact .inr ⟨y, hy, hh⟩
  have ndA := (nd_sub hS.nda).1
  have ndB := (nd_sub hS.ndb).1
  have chA0 : Ch (ef e) (et e) mb (markF (ef e) (et e) mb PA via i) via PA (i : Int) := markF_ch ndA.1 fun x hx y hy => ndA.2 x hx (posA x hx) y hy
  have chB0 : Ch (ef e) (et e) mb (markF (ef e) (et e) mb PB (markF (ef e) (et e) mb PA via i) i) (markF (ef e) (et e) mb PA via i) PB (i : Int) := markF_ch ndB.1 fun x hx y hy => ndB.2 x hx (posB x hx) y hy
  have hV : ∀ x, x ∉ PA → x ∉ PB → markF (ef e) (et e) mb PB (markF (ef e) (et e) mb PA via i) i x = via x := fun x h1 h2 => by rw [markF_out h2, markF_out h1]
  have hca : Ch (ef e) (et e) mb (markF (ef e) (et e) mb PB (markF (ef e) (et e) mb PA via i) i) via PA (i : Int) := chA0.congr fun x hx => ⟨markF_out fun hm => (hS.cr x hx x hm).1 rfl, rfl⟩
  have hcb : Ch (ef e) (et e) mb (markF (ef e) (et e) mb PB (markF (ef e) (et e) mb PA via i) i) via PB (i : Int) := chB0.congr fun x hx => ⟨rfl, (hVB x hx).symm⟩
  have hT' := hT.shrink hN hMM hS hin hV hca hcb
  generalize markF (ef e) (et e) mb PB (markF (ef e) (et e) mb PA via i) i = V at hB4 hV hca hcb hT'
  have hjoin := hS.joined hN hMM hT hin
  have hct := hin.ctop hN hMM hT hS
  have newl : ∀ v, v ≤ M → ∀ u ∈ pkl (fun z => in2 (base z) && !ev z) v, u < M ∧ ev u = false := fun v hv u hu => by
    obtain ⟨h1, h2⟩ := pkl_mem.1 hu
    simp at h2
    exact ⟨by omega, h2.2⟩
  -- node by node
  refine blossom_search_shrink.l1_rule (fun s0 t6 p7 p7n p7c t50 t51 H' => s0 = some ⟨Y.sb, 0, none⟩ ∧ t6 = (top : Int) ∧ p7 = some ⟨ib, 0, none⟩ ∧ p7n = M ∧ p7c = M ∧ t50 = (M : Int) ∧ ∃ (v : Nat) (qp' : Option Addr) (qc' : Nat), t51 = v ∧ v ≤ M ∧
      BkM H0 H' Y M n e mb (fun z => if z < v ∧ in2 (base z) = true then top else base z) V (fun z => ev z || (decide (z < v) && in2 (base z))) qp' qc' (Q ++ pkl (fun z => in2 (base z) && !ev z) v) ∧ Row H' (some ⟨ib, 0, none⟩) M M in2 ∧ Ax Y M qp' ib)
    (fun s0 t6 p7 p7n p7c t50 t51 H' => M - t51.toNat) ?_ ⟨rfl, rfl, rfl, rfl, rfl, rfl, 0, qp, qc, rfl, Nat.zero_le _, ?_, ri4, aib⟩
  · rintro s0 t6 p7 p7n p7c t50 t51 H5 ⟨rfl, rfl, rfl, e1, e2, rfl, v, qp5, qc5, rfl, hv, hB5, ri5, aib5⟩ X hX
    subst e1 e2
    refine blossom_search_shrink.b1_eq ?_
    unfold blossom_search_shrink.b1_t
    refine bc (fun hlt => ?_) fun hge => ?_
    · have hvM : v < p7c := by omega
      have hbM := hT.baseN hvM
      simp only [nn_mk, get_at hB5.c.cell, List.getElem?_cons_zero, List.getElem?_cons_succ, ldI_mk, ldS_mk, Nat.zero_add]
      refine hB5.rba.ixI (by omega) (by omega) ?_
      rw [Int.toNat_natCast, if_neg (by omega)]
      refine ri5.ixB (by omega) (by omega) ?_
      rw [Int.toNat_natCast]
      -- on with the next node
      have next : ∀ {H6 : Hp} {qp6 : Option Addr} {qc6 : Nat} {ba : Nat → Nat} {ev6 : Nat → Bool} {Q6 : List Nat}, BkM H0 H6 Y p7c n e mb ba V ev6 qp6 qc6 Q6 → (∀ z, z < p7c → ba z = if z < v + 1 ∧ in2 (base z) = true then top else base z) → (∀ z, z < p7c → ev6 z = (ev z || (decide (z < v + 1) && in2 (base z)))) → Q6 = Q ++ pkl (fun z => in2 (base z) && !ev z) (v + 1) → Row H6 (some ⟨ib, 0, none⟩) p7c p7c in2 → Ax Y p7c qp6 ib →
          blossom_search_shrink.j1 (some ⟨Y.sb, 0, none⟩) (top : Int) (some ⟨ib, 0, none⟩) p7c p7c (p7c : Int) (v : Int) X E H6 K := by
        intro H6 qp6 qc6 ba ev6 Q6 hB6 hba hev6 hQ6 ri6 aib6
        refine blossom_search_shrink.j1_eq ?_
        unfold blossom_search_shrink.j1_t
        rw [i64w (by omega) (by omega)]
        subst hQ6
        exact hX _ _ _ _ _ _ _ _ ⟨rfl, rfl, rfl, rfl, rfl, rfl, v + 1, qp6, qc6, by omega, by omega, hB6.congr hba (fun z hz => hev6 z hz), ri6, aib6⟩ (by omega)
      refine bcb (fun hc => ?_) fun hc => ?_
      · try simp only [nn_mk, get_at hB5.c.cell, List.getElem?_cons_zero, List.getElem?_cons_succ, ldI_mk, ldS_mk, Nat.zero_add]
        refine hB5.rba.stI (by omega) (by omega) _ fun H6 rb6 s6 => ?_
        rw [Int.toNat_natCast] at rb6
        have hB6 : BkM H0 H6 Y p7c n e mb (upf (fun z => if z < v ∧ in2 (base z) = true then top else base z) v top) V _ qp5 qc5 _ := hB5.setBa s6 (rb6.congr fun u hu => by
          by_cases eu : u = v
          · rw [eu, upf_same, upf_same]
          · rw [upf_ne eu, upf_ne eu])
        have ri6 := ri5.keep s6 fun y hy hh => by rw [fpS_mk] at hy hh; exact aib5.b (hy.symm.trans hh)
        have hba6 : ∀ z, z < p7c → upf (fun z => if z < v ∧ in2 (base z) = true then top else base z) v top z = if z < v + 1 ∧ in2 (base z) = true then top else base z := fun z hz => by
          by_cases ez : z = v
          · rw [ez, upf_same, if_pos ⟨by omega, hc⟩]
          · rw [upf_ne ez]
            by_cases h1 : z < v ∧ in2 (base z) = true
            · rw [if_pos h1, if_pos ⟨by omega, h1.2⟩]
            · rw [if_neg h1, if_neg fun hh => h1 ⟨by omega, hh.2⟩]
        simp only [nn_mk, get_at hB6.c.cell, List.getElem?_cons_zero, List.getElem?_cons_succ, ldI_mk, ldS_mk, Nat.zero_add]
        refine hB6.rev.ixB (by omega) (by omega) ?_
        rw [Int.toNat_natCast]
        have hevv : (ev v || (decide (v < v) && in2 (base v))) = ev v := by simp
        rw [hevv]
        have hev7 : ∀ (f : Nat → Bool), (∀ z, z ≠ v → f z = (ev z || (decide (z < v) && in2 (base z)))) → f v = true → ∀ z, z < p7c → f z = (ev z || (decide (z < v + 1) && in2 (base z))) := fun f h1 h2 z hz => by
          by_cases ez : z = v
          · rw [ez, h2, hc]; simp
          · rw [h1 z ez]
            have : decide (z < v) = decide (z < v + 1) := by rw [decide_eq_decide]; omega
            rw [this]
        refine bcb (fun hne => ?_) fun hne => ?_
        · have hev0 : ev v = false := by simpa using hne
          have hpk : pkl (fun z => in2 (base z) && !ev z) (v + 1) = pkl (fun z => in2 (base z) && !ev z) v ++ [v] := by rw [pkl_succ, if_pos (by rw [hc, hev0]; rfl)]
          try simp only [nn_mk, get_at hB6.c.cell, List.getElem?_cons_zero, List.getElem?_cons_succ, ldI_mk, ldS_mk, Nat.zero_add]
          refine hB6.rev.stB (by omega) (by omega) _ fun H7 re7 s7 => ?_
          rw [Int.toNat_natCast] at re7
          have hB7 := hB6.setE s7 re7
          have ri7 := ri6.keep s7 fun y hy hh => by rw [fpS_mk] at hy hh; exact aib5.e (hy.symm.trans hh)
          have hlen := hql (pkl (fun z => in2 (base z) && !ev z) v) pkl_nodup (newl v hv)
          simp only [nn_mk, get_at hB7.c.cell, List.getElem?_cons_zero, List.getElem?_cons_succ, ldI_mk, ldS_mk, Nat.zero_add]
          refine hB7.rq.appI _ (by omega) fun p8 c8 H8 r8 s8 f8 => ?_
          rw [lsF_app] at r8
          have e8 := s8.keep _ _ hB7.c.cell fun hh => (hB7.aq _ hh).2.1.s rfl
          try simp only [nn_mk, Nat.zero_add]
          refine stp e8 (by simp) rfl fun H9 e9 s9 => ?_
          have hl2 : ((Q ++ pkl (fun z => in2 (base z) && !ev z) v) ++ [v]).length = (Q ++ pkl (fun z => in2 (base z) && !ev z) v).length + 1 := by simp only [List.length_append, List.length_singleton]
          have r8' : Row H8 p8 ((Q ++ pkl (fun z => in2 (base z) && !ev z) v) ++ [v]).length c8 (lsF ((Q ++ pkl (fun z => in2 (base z) && !ev z) v) ++ [v])) := by
            rw [hl2]; exact r8
          have hB9 := hB7.setQ s8 r8' f8 s9 (by rw [e9, hl2]; rfl)
          refine next hB9 hba6 (hev7 _ (fun z hz => by rw [upf_ne hz]) upf_same) (by rw [hpk]; simp) ?_ ⟨aib5.w, aib5.b, aib5.v, aib5.e, fun hh => ?_⟩
          · refine (ri7.keep s8 fun y hy hh => ?_).keep s9 fun y hy hh => by rw [fpS_mk] at hy; exact aib5.w.s (hy.symm.trans hh)
            rw [fpS_mk] at hy; exact aib5.q (hy ▸ hh)
          · rcases f8 _ hh with hh | hh
            · exact aib5.q hh
            · exact ri7.live ⟨0, rfl⟩ hh
        · have hev1 : ev v = true := by simpa using hne
          have hpk : pkl (fun z => in2 (base z) && !ev z) (v + 1) = pkl (fun z => in2 (base z) && !ev z) v := by rw [pkl_succ, if_neg (by rw [hev1]; simp)]
          exact next hB6 hba6 (hev7 _ (fun z hz => rfl) (by simp [hev1])) (by rw [hpk]) ri6 aib5
      · have hpk : pkl (fun z => in2 (base z) && !ev z) (v + 1) = pkl (fun z => in2 (base z) && !ev z) v := by rw [pkl_succ, if_neg (by rw [hc]; simp)]
        refine next hB5 (fun z hz => ?_) (fun z hz => ?_) (by rw [hpk]) ri5 aib5
        · by_cases ez : z = v
          · rw [ez, if_neg (by omega), if_neg (by rw [hc]; simp)]
          · by_cases h1 : z < v ∧ in2 (base z) = true
            · rw [if_pos h1, if_pos ⟨by omega, h1.2⟩]
            · rw [if_neg h1, if_neg fun hh => h1 ⟨by omega, hh.2⟩]
        · by_cases ez : z = v
          · rw [ez, hc]; simp
          · have : decide (z < v) = decide (z < v + 1) := by rw [decide_eq_decide]; omega
            rw [this]
    · clear hX
      have hvM : v = p7c := by omega
      subst hvM
      refine k H5 (fun u => if in2 (base u) = true then top else base u) V (fun u => ev u || in2 (base u)) _ qp5 qc5 _ (hB5.congr (fun z hz => ?_) fun z hz => ?_) hT' ⟨fun u w hu hw hh => ?_, fun u hu hh => ?_, fun u hu hh => ?_, ?_, ⟨_, rfl, pkl_nodup, fun u => ?_⟩⟩
      · by_cases h1 : in2 (base z) = true
        · rw [if_pos h1, if_pos ⟨hz, h1⟩]
        · rw [if_neg h1, if_neg fun hh => h1 hh.2]
      · simp [hz]
      · simp only [hh]
      · simp [hh]
      · rcases hT'.vw u hu with hh' | ⟨k', hk', _⟩
        · by_cases hm : u ∈ PA ∨ u ∈ PB
          · exfalso
            have : ∃ k : Nat, V u = k := by
              rcases hm with hm | hm
              · obtain ⟨k', hk', _⟩ := hS.chA hN hca hm; exact ⟨k', hk'⟩
              · obtain ⟨k', hk', _⟩ := (hS.symm hN hMM hT).chA hN hcb hm; exact ⟨k', hk'⟩
            obtain ⟨k', hk'⟩ := this
            omega
          · rw [hV u (fun hh => hm (.inl hh)) fun hh => hm (.inr hh)]; exact hh
        · rw [hk']; omega
      · exact hjoin.1.trans hjoin.2.symm
      · rw [pkl_mem]
        simp only [Bool.and_eq_true, Bool.or_eq_true, Bool.not_eq_true']
        constructor
        · rintro ⟨h1, h2, h3⟩; exact ⟨h1, .inr h2, h3⟩
        · rintro ⟨h1, h2, h3⟩; exact ⟨h1, h2.resolve_left (by rw [h3]; decide), h3⟩
  · have hQ0 : Q ++ pkl (fun z => in2 (base z) && !ev z) 0 = Q := by simp [pkl]
    rw [hQ0]
    refine (hB4.congr (fun z hz => ?_) fun z hz => ?_)
    · rw [if_neg (by omega)]
    · simp
end
end Go.Mz

/-
  Walks of layer 17: the look from a root, and turning a way about.
-/
namespace Go.Mz

section
variable {E : Value → Hp → Prop}
variable {H0 H : Hp} {Y : LY} {M n : Nat} {e : Nat → Edg} {mb : Nat → Int} {v4 v5 v6 v7 : Value} {base ρ : Nat → Nat} {via : Nat → Int} {ev : Nat → Bool} {qp : Option Addr} {qc r : Nat} {Q : List Nat}

theorem Row.fp_slp {α : Type} [El α] {H : Hp} {p : Option Addr} {n c l m sz y : Nat} {f : Nat → α} (r : Row H p n c f) (h : fpS (slp p l m sz) y) : fpS p y := by
  unfold slp at h
  split at h
  · exact h
  · rcases r.cells with ⟨e, _⟩ | ⟨b, o, x, e, _⟩
    · rw [e] at h; exact fpS_none.1 h |>.elim
    · rw [e] at h ⊢
      obtain ⟨o', e'⟩ := h
      have e1 := Option.some.inj e'
      have hb := congrArg Addr.block e1
      simp only [Addr.add] at hb
      rw [fpS_mk]
      split at hb <;> exact hb.symm

/-- between two nodes of the look -/
def GwJ (H0 : Hp) (Y : LY) (M n : Nat) (e : Nat → Edg) (mb : Nat → Int) (r : Nat) (s0 : Option Addr) (H' : Hp) (k : Nat) : Prop :=
  s0 = some ⟨Y.sb, 0, none⟩ ∧ ∃ (base : Nat → Nat) (via : Nat → Int) (ev : Nat → Bool) (ρ : Nat → Nat) (scn : Nat → Bool) (qp : Option Addr) (qc : Nat) (Q : List Nat), BkM H0 H' Y M n e mb base via ev qp qc Q ∧ Gr M n (ef e) (et e) mb r base via ev ρ scn (fun _ => false) Q ∧ k = M - cnt scn M

/-- between two edges at a node -/
def GvJ (H0 : Hp) (Y : LY) (M n : Nat) (e : Nat → Edg) (mb : Nat → Int) (r v : Nat) (scn : Nat → Bool) (s0 : Option Addr) (v5 : Int) (tp : Option Addr) (tn tc : Nat) (t40 t41 : Int) (H' : Hp) (k : Nat) : Prop :=
  s0 = some ⟨Y.sb, 0, none⟩ ∧ v5 = (v : Int) ∧ tp = (Y.sl v).p ∧ tn = (incs (ef e) (et e) n v).length ∧ t40 = ((incs (ef e) (et e) n v).length : Int) ∧ ∃ (l1 l2 : List Nat) (base : Nat → Nat) (via : Nat → Int) (ev : Nat → Bool) (ρ : Nat → Nat) (qp : Option Addr) (qc : Nat) (Q : List Nat), t41 = l1.length ∧ k = l2.length ∧ incs (ef e) (et e) n v = l1 ++ l2 ∧
    BkM H0 H' Y M n e mb base via ev qp qc Q ∧ Gr M n (ef e) (et e) mb r base via ev ρ scn (fun u => decide (u = v)) Q ∧ ev v = true ∧ Pt n (ef e) (et e) mb base via ev scn v l1

theorem blgrow {K : Int → Hp → Prop} (h : BsC H0 H Y M n e (incs (ef e) (et e) n) mb v4 v5 v6 v7) (hr : Right (M : Int) n e) (hMM : MM M n (ef e) (et e) M mb) (hrM : r < M) (hrb : mb r = -1)
    (k1 : ∀ H' xb xv xe base via ev ρ qp qc Q, BkM H0 H' { Y with xb := xb, xv := xv, xe := xe } M n e mb base via ev qp qc Q → Clo M n (ef e) (et e) mb r base via ev ρ → K (-1) H')
    (k2 : ∀ H' xb xv xe base via ev ρ qp qc Q (v i w : Nat), BkM H0 H' { Y with xb := xb, xv := xv, xe := xe } M n e mb base (upf via w (i : Int)) ev qp qc Q → Tre M n (ef e) (et e) mb r base via ev ρ → v < M → ev v = true → En n (ef e) (et e) i v → w = ot (ef e) (et e) i v → ev w = false → via w < 0 → mb w = -1 → K (w : Int) H') :
    blossom_search_grow.call (some ⟨Y.sb, 0, none⟩) (r : Int) E H K := by
  have hN := hr.nds
  have hM1 := hr.N1
  have hn1 := hr.n1
  refine blossom_search_grow.of (blossom_search_grow.run_eq ?_)
  unfold blossom_search_grow.run_t
  refine blbegin h (by omega) hrM fun H1 xb xv xe qp qc hB1 => ?_
  generalize hY : ({ Y with xb := xb, xv := xv, xe := xe } : LY) = Z at hB1
  have hsb : Z.sb = Y.sb := by rw [← hY]
  have hsl : Z.sl = Y.sl := by rw [← hY]
  rw [← hsb]
  refine blossom_search_grow.l1_rule (fun s0 H' => ∃ k, GwJ H0 Z M n e mb r s0 H' k) (fun s0 H' => gm (GwJ H0 Z M n e mb r s0 H')) ?_ ⟨_, rfl, _, _, _, _, _, _, _, _, hB1, Gr.start hrM hrb, rfl⟩
  rintro s0 H2 ⟨k0, hk0⟩ X hX
  have hJ := (gm_of hk0).1
  generalize gm (GwJ H0 Z M n e mb r s0 H2) = kk at hJ hX
  obtain ⟨rfl, base, via, ev, ρ, scn, qp2, qc2, Q, hB2, hG, rfl⟩ := hJ
  refine blossom_search_grow.b1_eq ?_
  unfold blossom_search_grow.b1_t
  simp only [nn_mk, get_at hB2.c.cell, List.getElem?_cons_zero, List.getElem?_cons_succ, ldI_mk, ldS_mk, Nat.zero_add]
  refine bc (fun hpos => ?_) fun hz => ?_
  · cases Q with
    | nil => simp at hpos
    | cons v Q =>
      obtain ⟨hvM, hev, hsv, _⟩ := hG.qe v (by simp)
      try simp only [nn_mk, get_at hB2.c.cell, List.getElem?_cons_zero, List.getElem?_cons_succ, ldI_mk, ldS_mk, Nat.zero_add]
      refine hB2.rq.rdr.ixI (by omega) (by omega) ?_
      have e0 : lsF (v :: Q) (0 : Int).toNat = (v : Int) := rfl
      rw [e0]
      try simp only [nn_mk, get_at hB2.c.cell, List.getElem?_cons_zero, List.getElem?_cons_succ, ldI_mk, ldS_mk, Nat.zero_add]
      refine ⟨⟨by omega, by omega⟩, ?_⟩
      refine stp hB2.c.cell (by simp) rfl fun H3 e3 s3 => ?_
      have rdrop := hB2.rq.drop (l := 1) (by omega)
      have hlen : (v :: Q).length - 1 = Q.length := by simp
      have hfun : (fun i => lsF (v :: Q) (i + 1)) = lsF Q := by funext i; rfl
      rw [hfun, hlen] at rdrop
      have hw1 : El.w Int = 1 := rfl
      rw [hw1] at rdrop
      have hB3 : BkM H0 H3 Z M n e mb base via ev (slp qp2 1 qc2 1) (qc2 - 1) Q := hB2.setQ (H1 := H2) (Step.refl (F := fpS qp2)) rdrop (fun y hy => .inl (hB2.rq.fp_slp hy)) s3 (by rw [e3, hlen]; rfl)
      have hG3 := hG.pop
      simp only [nn_mk, get_at hB3.c.cell, List.getElem?_cons_zero, List.getElem?_cons_succ, ldI_mk, ldS_mk, Nat.zero_add]
      refine hB3.c.out.row.rdr.ixS (by omega) (by omega) ?_
      rw [Int.toNat_natCast, hB3.c.out.len v hvM]
      have hol := incs_len (fr := ef e) (to := et e) (i := n) (v := v)
      refine blossom_search_grow.l2_rule (fun s0 v5 tp tn tc t40 t41 H' => ∃ k, GvJ H0 Z M n e mb r v scn s0 v5 tp tn tc t40 t41 H' k) (fun s0 v5 tp tn tc t40 t41 H' => gm (GvJ H0 Z M n e mb r v scn s0 v5 tp tn tc t40 t41 H')) ?_ ⟨_, rfl, rfl, rfl, rfl, rfl, [], incs (ef e) (et e) n v, base, via, ev, ρ, _, _, _, rfl, rfl, rfl, hB3, hG3, hev, fun i hi => by cases hi⟩
      clear hG3 hB3 hB2 hG rdrop hfun hlen e3 s3 hev k0 hk0
      rintro s0 v5 tp tn tc t40 t41 H4 ⟨k0, hk0⟩ X2 hX2
      have hJ := (gm_of hk0).1
      generalize gm (GvJ H0 Z M n e mb r v scn s0 v5 tp tn tc t40 t41 H4) = kk at hJ hX2
      obtain ⟨rfl, rfl, rfl, rfl, rfl, l1, l2, base, via, ev, ρ, qp4, qc4, Q4, rfl, rfl, hsp, hB4, hG4, hev, hPt⟩ := hJ
      have hlen : (incs (ef e) (et e) n v).length = l1.length + l2.length := by rw [hsp]; simp
      refine blossom_search_grow.b2_eq ?_
      unfold blossom_search_grow.b2_t
      refine bc (fun hlt => ?_) fun hge => ?_
      · cases l2 with
        | nil => simp at hlen; omega
        | cons i l2 =>
          simp only [List.length_cons] at hlen
          have hiv : En n (ef e) (et e) i v := mem_incs.1 (by rw [hsp]; simp)
          have hl1 : ∀ j ∈ l1, En n (ef e) (et e) j v := fun j hj => mem_incs.1 (by rw [hsp]; simp [hj])
          have hwM : ot (ef e) (et e) i v < M := hiv.ot.nd hN
          have hbv := hG4.T.baseN hvM
          have hbw := hG4.T.baseN hwM
          refine (hB4.c.out.each v hvM).rdr.ixI (by omega) (by omega) ?_
          have ei : lsF (incs (ef e) (et e) n v) (l1.length : Int).toNat = (i : Int) := by rw [Int.toNat_natCast, hsp]; simp [lsF]
          rw [ei]
          refine blother hB4.c hr hiv ?_
          generalize hw : ot (ef e) (et e) i v = w at hwM hbw
          have eow : ot (ef e) (et e) i w = v := by rw [← hw, hiv.oo]
          have hiw : En n (ef e) (et e) i w := hw ▸ hiv.ot
          have hwv : w ≠ v := hw ▸ hiv.ne
          -- on with the next edge
          have next : ∀ {H5 : Hp} {base' : Nat → Nat} {via' : Nat → Int} {ev' : Nat → Bool} {ρ' : Nat → Nat} {qp5 : Option Addr} {qc5 : Nat} {Q5 : List Nat}, BkM H0 H5 Z M n e mb base' via' ev' qp5 qc5 Q5 → Gr M n (ef e) (et e) mb r base' via' ev' ρ' scn (fun u => decide (u = v)) Q5 → ev' v = true → Pt n (ef e) (et e) mb base' via' ev' scn v l1 →
              (ev' w = true ∨ 0 ≤ via' w) → (scn w = true → base' v = base' w ∨ mb v = (i : Int)) → blossom_search_grow.j1 (some ⟨Z.sb, 0, none⟩) (v : Int) (Z.sl v).p (incs (ef e) (et e) n v).length tc ((incs (ef e) (et e) n v).length : Int) (l1.length : Int) X X2 E H5 K := by
            intro H5 base' via' ev' ρ' qp5 qc5 Q5 hB5 hG5 hev5 hPt5 h1 h2
            refine blossom_search_grow.j1_eq ?_
            unfold blossom_search_grow.j1_t
            rw [i64w (by omega) (by omega)]
            have hJ' : GvJ H0 Z M n e mb r v scn (some ⟨Z.sb, 0, none⟩) (v : Int) (Z.sl v).p (incs (ef e) (et e) n v).length tc ((incs (ef e) (et e) n v).length : Int) ((l1.length : Int) + 1) H5 l2.length :=
              ⟨rfl, rfl, rfl, rfl, rfl, l1 ++ [i], l2, base', via', ev', ρ', qp5, qc5, Q5, by simp, rfl, by rw [hsp]; simp, hB5, hG5, hev5, fun j hj => by
                rcases List.mem_append.1 hj with hj | hj
                · exact hPt5 j hj
                · rw [List.mem_singleton.1 hj, hw]; exact ⟨h1, h2⟩⟩
            exact hX2 _ _ _ _ _ _ _ _ ⟨_, hJ'⟩ (Nat.lt_of_le_of_lt (gm_of hJ').2 (by simp))
          simp only [nn_mk, get_at hB4.c.cell, List.getElem?_cons_zero, List.getElem?_cons_succ, ldI_mk, ldS_mk, Nat.zero_add]
          refine hB4.rba.ixI (by omega) (by omega) ?_
          try simp only [nn_mk, get_at hB4.c.cell, List.getElem?_cons_zero, List.getElem?_cons_succ, ldI_mk, ldS_mk, Nat.zero_add]
          refine hB4.rba.ixI (by omega) (by omega) ?_
          simp only [Int.toNat_natCast]
          refine bc (fun hbe => ?_) fun hbne => ?_
          · have hbe' : base w = base v := by omega
            refine next hB4 hG4 hev hPt (.inl ?_) fun _ => .inl hbe'.symm
            rw [← hG4.T.evb hwM, hbe', hG4.T.evb hvM]; exact hev
          · try simp only [nn_mk, get_at hB4.c.cell, List.getElem?_cons_zero, List.getElem?_cons_succ, ldI_mk, ldS_mk, Nat.zero_add]
            refine hB4.c.rb.ixI (by omega) (by omega) ?_
            rw [Int.toNat_natCast]
            refine bc (fun hme => ?_) fun hmne => ?_
            · have hvr : v ≠ r := fun hh => by rw [hh, hrb] at hme; omega
              have em : mt (ef e) (et e) mb v = w := by unfold mt; rw [hme, Int.toNat_natCast]; exact hw
              obtain ⟨_, k', hk', _⟩ := hG4.T.st v hvM hev hvr
              rw [em] at hk'
              exact next hB4 hG4 hev hPt (.inr (by omega)) fun _ => .inr hme
            · try simp only [nn_mk, get_at hB4.c.cell, List.getElem?_cons_zero, List.getElem?_cons_succ, ldI_mk, ldS_mk, Nat.zero_add]
              refine hB4.rev.ixB (by omega) (by omega) ?_
              rw [Int.toNat_natCast]
              refine bcb (fun hew => ?_) fun hew => ?_
              · -- a circle
                have ends : ev (ef e i) = true ∧ ev (et e i) = true := by
                  have h1 := hiv.2.2
                  have h2 := hiw.2.2
                  have h3 := hiv.2.1
                  rcases h1 with h1 | h1 <;> rcases h2 with h2 | h2
                  · omega
                  · exact ⟨h1 ▸ hev, h2 ▸ hew⟩
                  · exact ⟨h2 ▸ hew, h1 ▸ hev⟩
                  · omega
                refine blshrink hB4 hr hMM hG4.T hiv.1 hiv.2.1 ends.1 ends.2 ?_ (fun nl h1 h2 => hG4.len h1 h2) fun H5 base' via' ev' ρ' qp5 qc5 Q5 hB5 hT5 hS => ?_
                · have := hG4.len (nl := []) (by simp) (fun u hu => by cases hu)
                  simpa using this
                · obtain ⟨nl, rfl, hnl, hnm⟩ := hS.qu
                  have hG5 := hG4.mono hN hT5 hS.mg hS.mn hS.vi hnl hnm (fun u hu => by have := of_decide_eq_true hu; rw [this]; exact ⟨hvM, hev⟩)
                  refine next hB5 hG5 (hS.mn v hvM hev) (hPt.mono hN hl1 hS.mg hS.mn hS.vi) (.inl (hS.mn w hwM hew)) fun _ => .inl ?_
                  have hj := hS.jn
                  have h1 := hiv.2.2
                  have h2 := hiw.2.2
                  have h3 := hiv.2.1
                  rcases h1 with h1 | h1 <;> rcases h2 with h2 | h2
                  · omega
                  · rw [h1, h2]; exact hj
                  · rw [h1, h2]; exact hj.symm
                  · omega
              · try simp only [nn_mk, get_at hB4.c.cell, List.getElem?_cons_zero, List.getElem?_cons_succ, ldI_mk, ldS_mk, Nat.zero_add]
                have hns : ¬ scn w = true := fun hs => by rw [(hG4.sc w hs).2] at hew; cases hew
                refine hB4.rvi.ixI (by omega) (by omega) ?_
                rw [Int.toNat_natCast]
                refine bc (fun hvw => ?_) fun hvw => next hB4 hG4 hev hPt (.inr (by omega)) fun hs => (hns hs).elim
                try simp only [nn_mk, get_at hB4.c.cell, List.getElem?_cons_zero, List.getElem?_cons_succ, ldI_mk, ldS_mk, Nat.zero_add]
                refine hB4.rvi.stI (by omega) (by omega) _ fun H5 rv5 s5 => ?_
                rw [Int.toNat_natCast] at rv5
                have hB5 := hB4.setV s5 rv5
                simp only [nn_mk, get_at hB5.c.cell, List.getElem?_cons_zero, List.getElem?_cons_succ, ldI_mk, ldS_mk, Nat.zero_add]
                refine hB5.c.rb.ixI (by omega) (by omega) ?_
                rw [Int.toNat_natCast]
                refine bc (fun hmw => ?_) fun hmw => ?_
                · have : mb w = -1 := hMM.neg hwM (by omega) hmw
                  rw [← hY] at hB5
                  exact k2 H5 xb xv xe base via ev ρ qp4 qc4 Q4 v i w hB5 hG4.T hvM hev hiv hw.symm hew hvw this
                · obtain ⟨j, ej, hj, em, _, hbm, hmm⟩ := hMM.en hwM (by omega) (by omega)
                  obtain ⟨hmN, hem, hvm⟩ := hG4.T.fresh hN hMM hwM hew hvw (by omega)
                  have hT5 := hG4.T.grow hN hMM hvM hev hiv hw.symm hew hvw (by omega)
                  refine blmate hB5.c hr hj ej ?_
                  simp only [nn_mk, get_at hB5.c.cell, List.getElem?_cons_zero, List.getElem?_cons_succ, ldI_mk, ldS_mk, Nat.zero_add]
                  refine hB5.rev.stB (by omega) (by omega) _ fun H6 re6 s6 => ?_
                  rw [Int.toNat_natCast] at re6
                  have hB6 := hB5.setE s6 re6
                  have hlenQ := hG4.len (nl := []) (by simp) (fun u hu => by cases hu)
                  simp only [List.append_nil] at hlenQ
                  simp only [nn_mk, get_at hB6.c.cell, List.getElem?_cons_zero, List.getElem?_cons_succ, ldI_mk, ldS_mk, Nat.zero_add]
                  refine hB6.rq.appI _ (by omega) fun p8 c8 H8 r8 s8 f8 => ?_
                  rw [lsF_app] at r8
                  have e8 := s8.keep _ _ hB6.c.cell fun hh => (hB6.aq _ hh).2.1.s rfl
                  try simp only [nn_mk, Nat.zero_add]
                  refine stp e8 (by simp) rfl fun H9 e9 s9 => ?_
                  have hl2 : (Q4 ++ [mt (ef e) (et e) mb w]).length = Q4.length + 1 := by simp only [List.length_append, List.length_singleton]
                  have r8' : Row H8 p8 (Q4 ++ [mt (ef e) (et e) mb w]).length c8 (lsF (Q4 ++ [mt (ef e) (et e) mb w])) := by rw [hl2]; exact r8
                  have hB9 := hB6.setQ s8 r8' f8 s9 (by rw [e9, hl2]; rfl)
                  have mg : ∀ u w, u < M → w < M → base u = base w → base u = base w := fun _ _ _ _ h => h
                  have mn : ∀ u, u < M → ev u = true → upf ev (mt (ef e) (et e) mb w) true u = true := fun u _ hu => by
                    by_cases eu : u = mt (ef e) (et e) mb w
                    · rw [eu, upf_same]
                    · rw [upf_ne eu]; exact hu
                  have vi : ∀ u, u < M → 0 ≤ via u → 0 ≤ upf via w (i : Int) u := fun u _ hu => by
                    by_cases eu : u = w
                    · rw [eu, upf_same]; omega
                    · rw [upf_ne eu]; exact hu
                  have hG9 := hG4.mono hN hT5 mg mn vi (nl := [mt (ef e) (et e) mb w]) (by simp) (fun u => ?_) (fun u hu => by have := of_decide_eq_true hu; rw [this]; exact ⟨hvM, hev⟩)
                  · exact next hB9 hG9 (mn v hvM hev) (hPt.mono hN hl1 mg mn vi) (.inr (by rw [upf_same]; omega)) fun hs => (hns hs).elim
                  · rw [List.mem_singleton]
                    constructor
                    · rintro rfl; exact ⟨hmN, upf_same, hem⟩
                    · rintro ⟨_, h2, h3⟩
                      refine Classical.byContradiction fun hne => ?_
                      rw [upf_ne hne, h3] at h2; cases h2
      · clear hX2
        have hnil : l2 = [] := List.length_eq_zero_iff.1 (by omega)
        subst hnil
        have hdone := hG4.done hMM hvM hev (l := l1) (fun i hi => by
          have := mem_incs.2 hi
          rw [hsp] at this; simpa using this) hPt
        have hc1 := cnt_less (p := upf scn v true) (q := scn) (n := M) hvM upf_same hsv fun u _ hne => upf_ne hne
        have hc2 := cnt_le (upf scn v true) M
        have hJ' : GwJ H0 Z M n e mb r (some ⟨Z.sb, 0, none⟩) H4 (M - cnt (upf scn v true) M) := ⟨rfl, base, via, ev, ρ, _, qp4, qc4, Q4, hB4, hdone, rfl⟩
        exact hX _ _ ⟨_, hJ'⟩ (Nat.lt_of_le_of_lt (gm_of hJ').2 (by omega))
  · have hQ : Q = [] := List.length_eq_zero_iff.1 (by omega)
    subst hQ
    rw [← hY] at hB2
    exact k1 H2 xb xv xe base via ev ρ qp2 qc2 [] hB2 (hG.end hN hMM)
end
end Go.Mz

/-
  Walks of layer 17: turning a way about; a new search.
-/
namespace Go.Mz

section
variable {E : Value → Hp → Prop}
variable {H0 H : Hp} {Y : LY} {M n : Nat} {e : Nat → Edg} {mb : Nat → Int} {v4 v5 v6 v7 : Value} {base ρ : Nat → Nat} {via : Nat → Int} {ev : Nat → Bool} {qp : Option Addr} {qc r : Nat} {Q : List Nat}

/-- so far a way has been turned about -/
def TuJ (H0 : Hp) (Y : LY) (M n : Nat) (e : Nat → Edg) (b0 : Nat → Int) (base : Nat → Nat) (via : Nat → Int) (ev : Nat → Bool) (qp : Option Addr) (qc : Nat) (Q : List Nat) (T : Nat → Int) (s0 : Option Addr) (w1 : Int) (H' : Hp) (k : Nat) : Prop :=
  s0 = some ⟨Y.sb, 0, none⟩ ∧ ((w1 = -1 ∧ k = 0 ∧ BkM H0 H' Y M n e T base via ev qp qc Q) ∨
    ∃ (w u i : Nat) (l : List Nat) (b : Nat → Int), w1 = w ∧ k = l.length ∧ BkM H0 H' Y M n e b base via ev qp qc Q ∧ AP n (ef e) (et e) b0 via u l ∧ ND (ef e) (et e) b0 l ∧ (∀ x ∈ l, x < M ∧ b x = b0 x ∧ x ≠ w) ∧ via w = (i : Int) ∧ En n (ef e) (et e) i w ∧ u = ot (ef e) (et e) i w ∧ turnF (ef e) (et e) via l b w = T)

theorem blturn {b0 : Nat → Int} {w u i : Nat} {l : List Nat} {K : Hp → Prop} (h : BkM H0 H Y M n e b0 base via ev qp qc Q) (hr : Right (M : Int) n e) (hMM : MM M n (ef e) (et e) M b0) (hA : AP n (ef e) (et e) b0 via u l) (hD : ND (ef e) (et e) b0 l) (hl : ∀ x ∈ l, x < M ∧ x ≠ w) (hvw : via w = (i : Int)) (hi : En n (ef e) (et e) i w) (hu : u = ot (ef e) (et e) i w)
    (k : ∀ H', BkM H0 H' Y M n e (turnF (ef e) (et e) via l b0 w) base via ev qp qc Q → K H') : blossom_search_turn.call (some ⟨Y.sb, 0, none⟩) (w : Int) E H K := by
  have hN := hr.nds
  have hM1 := hr.N1
  refine blossom_search_turn.of (blossom_search_turn.run_eq ?_)
  unfold blossom_search_turn.run_t
  generalize hT : turnF (ef e) (et e) via l b0 w = T at k
  refine blossom_search_turn.l1_rule (fun s0 w1 H' => ∃ k, TuJ H0 Y M n e b0 base via ev qp qc Q T s0 w1 H' k) (fun s0 w1 H' => gm (TuJ H0 Y M n e b0 base via ev qp qc Q T s0 w1 H')) ?_ ⟨_, rfl, .inr ⟨w, u, i, l, b0, rfl, rfl, h, hA, hD, fun x hx => ⟨(hl x hx).1, rfl, (hl x hx).2⟩, hvw, hi, hu, hT⟩⟩
  clear h hA hD hl hvw hi hu hT
  rintro s0 w1 H1 ⟨k0, hk0⟩ X hX
  have hJ := (gm_of hk0).1
  generalize gm (TuJ H0 Y M n e b0 base via ev qp qc Q T s0 w1 H1) = kk at hJ hX
  obtain ⟨rfl, ⟨rfl, rfl, hB⟩ | ⟨w, u, i, l, b, rfl, rfl, hB, hA, hD, hl, hvw, hi, hu, hT⟩⟩ := hJ
  · refine blossom_search_turn.b1_eq ?_
    unfold blossom_search_turn.b1_t
    exact bc (fun hh => by omega) fun _ => k H1 hB
  · have hwM := hi.nd hN
    have huM : u < M := by rw [hu]; exact hi.ot.nd hN
    obtain ⟨l', hl'⟩ := hA.head
    subst hl'
    obtain ⟨_, hbu, huw⟩ := hl u (by simp)
    refine blossom_search_turn.b1_eq ?_
    unfold blossom_search_turn.b1_t
    refine bc (fun _ => ?_) fun hh => by omega
    simp only [nn_mk, get_at hB.c.cell, List.getElem?_cons_zero, List.getElem?_cons_succ, ldI_mk, ldS_mk, Nat.zero_add]
    refine hB.rvi.ixI (by omega) (by omega) ?_
    rw [Int.toNat_natCast, hvw]
    refine blother hB.c hr hi ?_
    rw [← hu]
    simp only [nn_mk, get_at hB.c.cell, List.getElem?_cons_zero, List.getElem?_cons_succ, ldI_mk, ldS_mk, Nat.zero_add]
    refine hB.c.rb.ixI (by omega) (by omega) ?_
    rw [Int.toNat_natCast]
    -- the edge is taken
    have wr : ∀ (x : Int) (_ : ∀ H3, BkM H0 H3 Y M n e (upf (upf b w (i : Int)) u (i : Int)) base via ev qp qc Q → X (blossom_search_turn.f1 (some ⟨Y.sb, 0, none⟩) x) H3), blossom_search_turn.j1 (some ⟨Y.sb, 0, none⟩) (w : Int) (i : Int) (u : Int) x X E H1 K := fun x hk => by
      refine blossom_search_turn.j1_eq ?_
      unfold blossom_search_turn.j1_t
      simp only [nn_mk, get_at hB.c.cell, List.getElem?_cons_zero, List.getElem?_cons_succ, ldI_mk, ldS_mk, Nat.zero_add]
      refine hB.c.rb.stI (by omega) (by omega) _ fun H2 r2 s2 => ?_
      refine r2.stI (by omega) (by omega) _ fun H3 r3 s3 => ?_
      simp only [Int.toNat_natCast] at r2 r3
      exact hk H3 ((hB.setM s2 r2).setM s3 r3)
    refine bc (fun hpos => ?_) fun hneg => ?_
    · have hpos0 : 0 ≤ b0 u := by omega
      obtain ⟨j, ej, hj, em, _, hbm, hmm⟩ := hMM.en huM (by omega) hpos0
      refine blmate hB.c hr hj (by rw [hbu, ej]) ?_
      have emt : mt (ef e) (et e) b u = mt (ef e) (et e) b0 u := mt_congr hbu
      rw [emt]
      refine wr _ fun H3 hB3 => ?_
      generalize hll : u :: l' = ll at hA
      cases hA with
      | root h0 => omega
      | step h1 hk' he' hl2 =>
        rename_i k2 l2
        have := (List.cons.inj hll).2
        subst this
        have hnd := List.nodup_cons.1 hD.1
        have hTJ : TuJ H0 Y M n e b0 base via ev qp qc Q T (some ⟨Y.sb, 0, none⟩) (mt (ef e) (et e) b0 u : Int) H3 l'.length := by
          refine ⟨rfl, .inr ⟨_, _, k2, l', _, rfl, rfl, hB3, hl2, ⟨hnd.2, fun x hx hb y hy => hD.2 x (by simp [hx]) hb y (by simp [hy])⟩, fun x hx => ?_, hk', he', rfl, ?_⟩⟩
          · obtain ⟨a1, a2, a3⟩ := hl x (by simp [hx])
            have hxu : x ≠ u := fun hh => hnd.1 (hh ▸ hx)
            exact ⟨a1, by rw [upf_ne hxu, upf_ne a3]; exact a2, fun hh => hD.2 u (by simp) hpos0 x (by simp [hx]) hh.symm⟩
          · rw [← hT]
            conv => rhs; unfold turnF
            rw [if_neg (by omega), hvw, emt]
        exact hX _ _ _ ⟨_, hTJ⟩ (Nat.lt_of_le_of_lt (gm_of hTJ).2 (by simp))
    · have hl0 : l' = [] := by
        cases l' with
        | nil => rfl
        | cons y l' => have := hA.pos rfl (by simp); omega
      subst hl0
      refine wr _ fun H3 hB3 => ?_
      have hTe : T = upf (upf b w (i : Int)) u (i : Int) := by
        rw [← hT]; unfold turnF; rw [if_pos (by omega), hvw]
      have hTJ : TuJ H0 Y M n e b0 base via ev qp qc Q T (some ⟨Y.sb, 0, none⟩) (-1) H3 0 := ⟨rfl, .inl ⟨rfl, rfl, by rw [hTe]; exact hB3⟩⟩
      exact hX _ _ _ ⟨_, hTJ⟩ (Nat.lt_of_le_of_lt (gm_of hTJ).2 (by simp))

/-- nothing to turn -/
theorem blturn0 {K : Hp → Prop} {s : Option Addr} (k : K H) : blossom_search_turn.call s (-1) E H K := by
  refine blossom_search_turn.of (blossom_search_turn.run_eq ?_)
  unfold blossom_search_turn.run_t
  refine blossom_search_turn.l1_rule (fun s0 w1 H' => w1 = -1 ∧ H' = H) (fun s0 w1 H' => 0) ?_ ⟨rfl, rfl⟩
  rintro s0 w1 H1 ⟨rfl, rfl⟩ X hX
  refine blossom_search_turn.b1_eq ?_
  unfold blossom_search_turn.b1_t
  exact bc (fun hh => by omega) fun _ => k

/-- an edge more at a node -/
theorem BsC.push {H8 H9 : Hp} {nx : Nat → List Nat} {u x : Nat} {p8 : Option Addr} {c8 : Nat} (h : BsC H0 H Y M n e nx mb v4 v5 v6 v7) (hu : u < M) (r8 : Row H8 p8 ((nx u).length + 1) c8 (upf (lsF (nx u)) (nx u).length (x : Int))) (s8 : Step (fpS (Y.sl u).p) H H8) (f8 : ∀ y, fpS p8 y → fpS (Y.sl u).p y ∨ H y = none)
    (r9 : Row H9 (some ⟨Y.nb, 0, none⟩) M M (upf Y.sl u ⟨p8, (nx u).length + 1, c8⟩)) (s9 : Step (fpS (some ⟨Y.nb, 0, none⟩)) H8 H9) : BsC H0 H9 { Y with sl := upf Y.sl u ⟨p8, (nx u).length + 1, c8⟩ } M n e (upf nx u (nx u ++ [x])) mb v4 v5 v6 v7 := by
  have rows9 := h.out.push hu h.st r8 s8 f8 r9 s9
  have nb : ∀ y, fpS (some ⟨Y.nb, 0, none⟩) y → y = Y.nb := fun y hy => by rwa [fpS_mk] at hy
  refine ⟨(h.st.own s8 (h.out.new _ hu)).own s9 fun y hy => nb y hy ▸ h.out.b0, h.he, ?_, rows9, ?_, h.fs, h.fb, h.d1, h.d2, h.d3, fun v hv y hy => ?_⟩
  · exact s9.keep _ _ (s8.keep _ _ h.cell fun hh => (h.d4 _ hu _ hh).1 rfl) fun hh => h.d2 (nb _ hh)
  · exact (h.rb.keep s8 fun y hy hh => by rw [fpS_mk] at hy; exact (h.d4 _ hu y hh).2 hy).keep s9 fun y hy hh => by rw [fpS_mk] at hy; exact h.d3 ((nb _ hh).symm.trans hy)
  · by_cases evu : v = u
    · rw [evu] at hy
      simp only [upf_same] at hy
      rcases f8 y hy with hh | hh
      · exact h.d4 _ hu y hh
      · exact ⟨(h.fresh hh).s, (h.fresh hh).b⟩
    · simp only [upf_ne evu] at hy
      exact h.d4 v hv y hy

/-- a new search -/
theorem blnew {ep : Option Addr} {ec : Nat} {K : Option Addr → Hp → Prop} (he : Rdr H ep n e) (hr : Right (M : Int) n e)
    (k : ∀ H' Y, BsC H H' Y M n e (incs (ef e) (et e) n) (fun _ => -1) (.slice none 0 0) (.slice none 0 0) (.slice none 0 0) (.slice none 0 0) → K (some ⟨Y.sb, 0, none⟩) H') : blossom_newSearch.call (M : Int) ep n ec E H K := by
  have hN := hr.nds
  have hM1 := hr.N1
  have hn1 := hr.n1
  refine blossom_newSearch.of (blossom_newSearch.run_eq ?_)
  unfold blossom_newSearch.run_t
  refine nwk fun b1 H1 hb1 e1 s1 => ?_
  simp only [get_at e1, List.getElem?_cons_zero, List.getElem?_cons_succ, ldI_mk, ldS_mk]
  refine Row.mkSl (by omega) (by omega) fun nb H2 hnb rn s2 => ?_
  rw [Int.toNat_natCast] at rn ⊢
  have e12 := s2.keep _ _ e1 fun h => h
  simp only [get_at e12, List.getElem?_cons_zero, List.getElem?_cons_succ, ldI_mk, ldS_mk]
  refine Row.mkI (by omega) (by omega) fun bb H3 hbb rb s3 => ?_
  rw [Int.toNat_natCast] at rb ⊢
  have e13 := s3.keep _ _ e12 fun h => h
  refine nwk fun sb H4 hsb es s4 => ?_
  have e14 := s4.keep _ _ e13 fun h => h
  simp only [get_at e14, List.getElem?_cons_zero, List.getElem?_cons_succ, ldI_mk, ldS_mk]
  have s03 := (s1.and s2).and s3
  have s04 := s03.and s4
  have rn3 := rn.keep s3 fun _ _ h => h
  have d1 : sb ≠ bb := fun h => rb.live ⟨0, rfl⟩ (h ▸ hsb)
  have d2 : sb ≠ nb := fun h => rn3.live ⟨0, rfl⟩ (h ▸ hsb)
  have d3 : nb ≠ bb := fun h => rn.live ⟨0, rfl⟩ (h ▸ hbb)
  have hB4 : BsC H H4 ⟨sb, nb, bb, 0, 0, 0, ep, ec, fun _ => ⟨none, 0, 0⟩⟩ M n e (incs (ef e) (et e) 0) (fun _ => 0) (.slice none 0 0) (.slice none 0 0) (.slice none 0 0) (.slice none 0 0) :=
    ⟨s04, he, es, ⟨rn3.keep s4 fun _ _ h => h, s1.mono _ hnb, fun _ _ => rfl, fun _ _ => .nil, fun _ _ _ _ _ _ h => (by rw [fpS_none] at h; exact h.elim), fun _ _ _ h => (by rw [fpS_none] at h; exact h.elim), fun _ _ _ h => by rw [fpS_none] at h; exact h.elim⟩, rb.keep s4 fun _ _ h => h, s03.mono _ hsb, (s1.and s2).mono _ hbb, d1, d2, d3, fun v hv x hx => by rw [fpS_none] at hx; exact hx.elim⟩
  refine blossom_newSearch.l1_rule (fun s3 tp tn tc t18 t19 H' => s3 = some ⟨sb, 0, none⟩ ∧ tp = ep ∧ tn = n ∧ t18 = (n : Int) ∧ ∃ (i : Nat) (sl : Nat → Sl), t19 = i ∧ i ≤ n ∧ BsC H H' ⟨sb, nb, bb, 0, 0, 0, ep, ec, sl⟩ M n e (incs (ef e) (et e) i) (fun _ => 0) (.slice none 0 0) (.slice none 0 0) (.slice none 0 0) (.slice none 0 0))
    (fun s3 tp tn tc t18 t19 H' => n - t19.toNat) ?_ ⟨rfl, rfl, rfl, rfl, 0, _, rfl, Nat.zero_le _, hB4⟩
  clear hB4 rn3 rn rb es e14 e13 e12 e1
  rintro s0 tp tn tc t18 t19 H5 ⟨rfl, rfl, rfl, rfl, i, sl, rfl, hi, hB5⟩ X hX
  refine blossom_newSearch.b1_eq ?_
  unfold blossom_newSearch.b1_t
  refine bc (fun hlt => ?_) fun hge => ?_
  · have hin : i < tn := by omega
    obtain ⟨e1, e2⟩ := hr.ends hin
    obtain ⟨aM, cM⟩ := hN i hin
    refine hB5.ed.edge (by omega) (by omega) ?_
    simp only [Int.toNat_natCast]
    refine nwst rfl rfl fun b4 H6 hb4 e4 s6 => ?_
    have hB6 := hB5.keep0 s6
    have a4 := hB5.fresh hb4
    rw [e1, e2] at e4
    have next : ∀ {H7 : Hp} {sl' : Nat → Sl} {nx : Nat → List Nat}, BsC H H7 ⟨sb, nb, bb, 0, 0, 0, tp, ec, sl'⟩ M tn e nx (fun _ => 0) (.slice none 0 0) (.slice none 0 0) (.slice none 0 0) (.slice none 0 0) → nx = incs (ef e) (et e) (i + 1) → blossom_newSearch.j1 (some ⟨sb, 0, none⟩) tp tn tc (tn : Int) (i : Int) X E H7 K := by
      intro H7 sl' nx hB7 hnx
      subst hnx
      refine blossom_newSearch.j1_eq ?_
      unfold blossom_newSearch.j1_t
      rw [i64w (by omega) (by omega)]
      exact hX _ _ _ _ _ _ _ ⟨rfl, rfl, rfl, rfl, i + 1, sl', by omega, by omega, hB7⟩ (by omega)
    simp only [get_at e4, List.getElem?_cons_zero, List.getElem?_cons_succ, ldI_mk, ldS_mk]
    refine bcn (fun hne => ?_) fun heq => ?_
    · have hne' : ef e i ≠ et e i := fun hh => hne (by rw [hh])
      have cell6 := hB6.cell
      simp only [nn_mk, get_at cell6, get_at e4, List.getElem?_cons_zero, List.getElem?_cons_succ, ldI_mk, ldS_mk, Nat.zero_add]
      refine hB6.out.row.rdr.ixS (by omega) (by omega) ?_
      rw [Int.toNat_natCast, hB6.out.len _ aM]
      have hol := incs_len (fr := ef e) (to := et e) (i := i) (v := ef e i)
      refine (hB6.out.each _ aM).appI _ (by omega) fun p8 c8 H8 r8 s8 f8 => ?_
      have live6 : ∀ {b : Nat} {x : Blk}, H6 b = some x → H6 b ≠ none := fun h h' => by rw [h] at h'; cases h'
      have n4 : ∀ v, v < M → ¬ fpS (sl v).p b4 := fun v hv h => a4.l v hv h
      have cell8 := s8.keep _ _ cell6 fun h => (hB6.d4 _ aM sb h).1 rfl
      have e48 := s8.keep _ _ e4 (n4 _ aM)
      simp only [get_at cell8, get_at e48, List.getElem?_cons_zero, List.getElem?_cons_succ, ldS_mk, ldI_mk]
      refine ⟨trivial, trivial, ?_⟩
      have row8 := hB6.out.row.keep s8 fun y hy hy' => by rw [fpS_mk] at hy; exact hB6.out.out _ aM y hy' hy
      refine row8.st (α := Sl) (by omega) (by omega) ⟨p8, (incs (ef e) (et e) i (ef e i)).length + 1, c8⟩ fun H9 r9 s9 => ?_
      simp only [Int.toNat_natCast] at r9
      have hB9 : BsC H H9 ⟨sb, nb, bb, 0, 0, 0, tp, ec, upf sl (ef e i) ⟨p8, (incs (ef e) (et e) i (ef e i)).length + 1, c8⟩⟩ M tn e _ _ _ _ _ _ := hB6.push (x := i) aM r8 s8 f8 r9 s9
      have cell9 := hB9.cell
      have n4nb : ¬ fpS (some ⟨nb, 0, none⟩) b4 := fun h => by rw [fpS_mk] at h; exact a4.n h
      have e49 := s9.keep _ _ e48 n4nb
      simp only [nn_mk, get_at cell9, get_at e49, List.getElem?_cons_zero, List.getElem?_cons_succ, ldI_mk, ldS_mk, Nat.zero_add]
      -- the other end
      have hac : et e i ≠ ef e i := fun hh => hne' hh.symm
      refine hB9.out.row.rdr.ixS (by omega) (by omega) ?_
      rw [Int.toNat_natCast, hB9.out.len _ cM]
      have hnx : upf (incs (ef e) (et e) i) (ef e i) (incs (ef e) (et e) i (ef e i) ++ [i]) (et e i) = incs (ef e) (et e) i (et e i) := upf_ne hac
      have hsl9 : upf sl (ef e i) ⟨p8, (incs (ef e) (et e) i (ef e i)).length + 1, c8⟩ (et e i) = sl (et e i) := upf_ne hac
      have hol2 := incs_len (fr := ef e) (to := et e) (i := i) (v := et e i)
      have each9 := hB9.out.each _ cM
      rw [hnx] at each9 ⊢
      refine each9.appI _ (by omega) fun p10 c10 H10 r10 s10 f10 => ?_
      have cell10 := s10.keep _ _ cell9 fun h => (hB9.d4 _ cM sb h).1 rfl
      have e410 := s10.keep _ _ e49 (fun h => by simp only [hsl9] at h; exact n4 _ cM h)
      simp only [get_at cell10, get_at e410, List.getElem?_cons_zero, List.getElem?_cons_succ, ldS_mk, ldI_mk]
      refine ⟨trivial, trivial, ?_⟩
      have row10 := hB9.out.row.keep s10 fun y hy hy' => by rw [fpS_mk] at hy; exact hB9.out.out _ cM y hy' hy
      refine row10.st (α := Sl) (by omega) (by omega) ⟨p10, (incs (ef e) (et e) i (et e i)).length + 1, c10⟩ fun H11 r11 s11 => ?_
      simp only [Int.toNat_natCast] at r11
      have hB11 := hB9.push (x := i) (p8 := p10) (c8 := c10) cM (by rw [hnx]; exact r10) s10 f10 (by rw [hnx]; exact r11) s11
      rw [hnx] at hB11
      refine next hB11 ?_
      conv => rhs; unfold incs
      rw [if_neg hne']
    · have heq' : ef e i = et e i := by omega
      refine next hB6 ?_
      conv => rhs; unfold incs
      rw [if_pos heq']
  · clear hX
    have hin : i = tn := by omega
    subst hin
    refine blossom_newSearch.j2_eq ?_
    unfold blossom_newSearch.j2_t
    simp only [nn_mk, get_at hB5.cell, List.getElem?_cons_zero, List.getElem?_cons_succ, ldI_mk, ldS_mk, Nat.zero_add]
    refine blossom_newSearch.l2_rule (fun s3 t70 t71 H' => s3 = some ⟨sb, 0, none⟩ ∧ t70 = (M : Int) ∧ ∃ (v : Nat) (b : Nat → Int), t71 = v ∧ v ≤ M ∧ BsC H H' ⟨sb, nb, bb, 0, 0, 0, tp, ec, sl⟩ M i e (incs (ef e) (et e) i) b (.slice none 0 0) (.slice none 0 0) (.slice none 0 0) (.slice none 0 0) ∧ ∀ u, u < v → b u = -1)
      (fun s3 t70 t71 H' => M - t71.toNat) ?_ ⟨rfl, rfl, 0, _, rfl, Nat.zero_le _, hB5, fun u hu => by omega⟩
    rintro s0 t70 t71 H6 ⟨rfl, rfl, v, b, rfl, hv, hB6, hb⟩ X hX
    refine blossom_newSearch.b2_eq ?_
    unfold blossom_newSearch.b2_t
    refine bc (fun hlt => ?_) fun hge => ?_
    · simp only [nn_mk, get_at hB6.cell, List.getElem?_cons_zero, List.getElem?_cons_succ, ldI_mk, ldS_mk, Nat.zero_add]
      refine hB6.rb.stI (by omega) (by omega) _ fun H7 r7 s7 => ?_
      rw [Int.toNat_natCast] at r7
      rw [i64w (by omega) (by omega)]
      refine hX _ _ _ _ ⟨rfl, rfl, v + 1, _, by omega, by omega, hB6.setB s7 r7, fun u hu => ?_⟩ (by omega)
      by_cases eu : u = v
      · rw [eu, upf_same]
      · rw [upf_ne eu]; exact hb u (by omega)
    · refine k H6 ⟨sb, nb, bb, 0, 0, 0, tp, ec, sl⟩ ⟨hB6.st, hB6.he, hB6.cell, hB6.out, hB6.rb.congr fun u hu => hb u (by omega), hB6.fs, hB6.fb, hB6.d1, hB6.d2, hB6.d3, hB6.d4⟩
end
end Go.Mz
