/-
  Joined: VouN, VouT.
-/
import Derived.Test.YtjdhhepphbhjgaaPkX
import Derived.Test.YtjdhhepphbhjgaaGLaw
set_option linter.unusedSimpArgs false
set_option linter.unusedVariables false
/-
  The one fixed thing that the laws of layer 12 ask first: it holds.
-/
namespace Go.Mz
section
variable {E : Value → Hp → Prop}

theorem row_ls {H : Hp} {b : Nat} {l : List Int} {t : BT} (e : H b = some ⟨l.map (Value.int .i64), t⟩) (ht : t.fz = (0, 0)) (hl : l.length < 2 ^ 63) : Row H (some ⟨b, 0, none⟩) l.length l.length (fun i => l[i]?.getD 0) := by
  refine ⟨Nat.le_refl _, hl, .inr ⟨b, 0, _, rfl, e, ⟨by simp [El.w], ht⟩, fun i hi j hj => ?_⟩⟩
  have : j = 0 := by have : El.w Int = 1 := rfl; omega
  subst this
  have hw : El.w Int = 1 := rfl
  rw [hw]
  simp [El.enc, hi]

theorem row_sls {H : Hp} {b : Nat} {l : List Sl} {t : BT} (e : H b = some ⟨l.map (fun s => Value.slice s.p s.n s.c), t⟩) (ht : t.fz = (0, 0)) (hl : l.length < 2 ^ 63) : Row H (some ⟨b, 0, none⟩) l.length l.length (fun i => l[i]?.getD ⟨none, 0, 0⟩) := by
  refine ⟨Nat.le_refl _, hl, .inr ⟨b, 0, _, rfl, e, ⟨by simp [El.w], ht⟩, fun i hi j hj => ?_⟩⟩
  have : j = 0 := by have : El.w Sl = 1 := rfl; omega
  subst this
  have hw : El.w Sl = 1 := rfl
  rw [hw]
  simp [El.enc, hi]

theorem oddN_conn {N : Int} {n : Nat} {e : Nat → Edg} {W : Nat → Bool} (hc : ∀ v, v < N.toNat → Cn (Adj e n W) 0 v) (h2 : N.toNat % 2 = 0) : oddN N n e W = 0 := by
  have key : ∀ s, s ≤ N.toNat → oddB (Adj e n W) W N.toNat s = 0 := by
    intro s
    induction s with
    | zero => intro _; rfl
    | succ s ih =>
      intro hs
      show oddB (Adj e n W) W N.toNat s + _ = 0
      rw [ih (by omega)]
      split
      · rename_i hf
        by_cases h0 : s = 0
        · subst h0
          have : csz (Adj e n W) N.toNat 0 = N.toNat := cnt_all fun i hi => by simpa using hc i hi
          rw [this, h2]
        · exact absurd (hc s (by omega)) (hf.2 0 (by omega))
      · rfl
  exact key _ (Nat.le_refl _)

def e0 : Nat → Edg := fun _ => (0, 1, 0, 2)
def z0 : Nat → Int := fun _ => 0

theorem righte0 : RightE 2 ((0, 1, 0, 2) : Edg) := ⟨by decide, by decide, by decide, by decide, by decide, by decide, by decide, by decide⟩
theorem right0 : Right 2 1 e0 := ⟨by decide, by decide, by decide, fun i _ => righte0⟩
theorem nlp0 : ¬ lp ((0, 1, 0, 2) : Edg) := by decide

theorem tkn0 {most : Int → Int} (h0 : 1 ≤ most 0) (h1 : 1 ≤ most 1) : Tkn 2 1 e0 z0 1 most := by
  refine ⟨fun i hi => ?_, fun i _ => nlp0, fun v v0 v1 _ => ?_⟩
  · have : i = 0 := by omega
    subst this
    exact ⟨by decide, by decide, fun h => absurd h (by decide)⟩
  · have : v = 0 ∨ v = 1 := by omega
    rcases this with rfl | rfl
    · have : dg e0 z0 1 0 = 1 := by decide
      rw [this]; exact h0
    · have : dg e0 z0 1 1 = 1 := by decide
      rw [this]; exact h1

theorem cst0 : cst e0 z0 1 = 2 := by decide

theorem ris0 {m : Nat → Int} {n : Int} : Ris m 0 n := fun i hi => by omega

open Classical in
theorem okw {set : Nat → Int} (a b : Nat) (hw : ∀ x : Nat, decide (In set 0 (x : Int)) = false) (c d : Int) : okE (fun v => decide (In set 0 (v : Int))) (((a : Int), (b : Int), c, d) : Edg) = true := by
  show (!decide (In set 0 (((a : Int).toNat : Nat) : Int)) && !decide (In set 0 (((b : Int).toNat : Nat) : Int))) = true
  rw [hw, hw]; rfl

open Classical in
theorem odd0 {set : Nat → Int} : oddS 2 1 e0 set 0 = 0 := by
  refine oddN_conn (fun v hv => ?_) rfl
  have : v = 0 ∨ v = 1 := by have : (2 : Int).toNat = 2 := rfl; omega
  have hw : ∀ x : Nat, decide (In set 0 (x : Int)) = false := fun x => decide_eq_false fun ⟨i, hi, _⟩ => by omega
  rcases this with rfl | rfl
  · exact .refl _
  · exact .edge ⟨0, by decide, okw 0 1 hw 0 2, .inl ⟨rfl, rfl⟩⟩

theorem cov0 : CovP 2 1 e0 z0 1 (fun i => ([1] : List Int)[i]?.getD 0) 1 := by
  refine ⟨tkn0 (by decide) (by decide), fun i hi => ?_, fun i hi => .inr (.inr ⟨0, by decide, rfl⟩), rfl⟩
  have : i = 0 := by omega
  subst this
  exact ⟨by decide, by decide, fun h => absurd h (by decide)⟩

theorem hvy0 : HvyP 2 1 e0 z0 1 (fun i => ([2, 0] : List Int)[i]?.getD 0) 2 := by
  refine ⟨tkn0 (by decide) (by decide), rfl, fun v hv => ?_, fun i hi => .inr (by show (2 : Int) ≤ 2 + 0; decide), by decide⟩
  have : v = 0 ∨ v = 1 := by omega
  rcases this with rfl | rfl <;> exact ⟨by decide, by decide⟩

theorem lrg0 {set : Nat → Int} : LrgP 2 1 e0 z0 1 set 0 := ⟨tkn0 (by decide) (by decide), ris0, by rw [odd0]; rfl⟩

theorem wt0 {Y : Nat → Int} (h0 : -4398046511104 ≤ Y 0 ∧ Y 0 ≤ 4398046511104) (h1 : -4398046511104 ≤ Y 1 ∧ Y 1 ≤ 4398046511104) {z : Nat → Int} {ln : Nat → Nat} {nd : Nat → Nat → Int} : Wt 2 Y 2 z ln nd 0 := by
  refine ⟨rfl, by decide, fun v hv => ?_, fun i hi => by omega⟩
  have : v = 0 ∨ v = 1 := by omega
  rcases this with rfl | rfl
  · exact h0
  · exact h1

theorem chp0 {z : Nat → Int} {ln : Nat → Nat} {nd : Nat → Nat → Int} : ChpP 2 1 e0 z0 1 (fun i => ([3, 1] : List Int)[i]?.getD 0) 2 z ln nd 0 :=
  ⟨tkn0 (by decide) (by decide), rfl, wt0 (by decide) (by decide), fun i hi => .inr (by show (3 : Int) + 1 - 0 ≤ 2 * 2; decide), by show ((0 : Int) + 3 + 1 - 0) = 2 * cst e0 z0 1; rw [cst0]; rfl⟩

def b0 : Nat → Int := fun i => ([1, 1] : List Int)[i]?.getD 0

theorem bnd0 : Bnd 2 b0 2 := by
  refine ⟨rfl, fun v hv => ?_⟩
  have : v = 0 ∨ v = 1 := by omega
  rcases this with rfl | rfl <;> exact ⟨by decide, by decide⟩

theorem gnn0 : gnn e0 (cps e0 1 b0) (2 : Int).toNat 1 = 4 := by decide
theorem gel0 : gel e0 (cps e0 1 b0) (2 : Int).toNat 1 = [(2, 3, 0, 0), (0, 2, 0, 0), (3, 1, 0, 0)] := by decide
theorem gsz0 : Gsz e0 (cps e0 1 b0) (2 : Int).toNat 1 := ⟨by rw [gnn0]; decide, by rw [gel0]; decide⟩

open Classical in
theorem mny0 {set : Nat → Int} : MnyP 2 1 e0 b0 z0 1 set 0 := by
  refine ⟨tkn0 (by decide) (by decide), ris0, ?_⟩
  rw [gnn0, gel0]
  have hw : ∀ x : Nat, decide (In set 0 (x : Int)) = false := fun x => decide_eq_false fun ⟨i, hi, _⟩ => by omega
  have : oddS 4 ([(2, 3, 0, 0), (0, 2, 0, 0), (3, 1, 0, 0)] : List Edg).length (lsE [(2, 3, 0, 0), (0, 2, 0, 0), (3, 1, 0, 0)]) set 0 = 0 := by
    refine oddN_conn (fun v hv => ?_) rfl
    have c02 : Cn (Adj (lsE [(2, 3, 0, 0), (0, 2, 0, 0), (3, 1, 0, 0)]) ([(2, 3, 0, 0), (0, 2, 0, 0), (3, 1, 0, 0)] : List Edg).length fun v => decide (In set 0 (v : Int))) 0 2 := .edge ⟨1, by decide, okw 0 2 hw 0 0, .inl ⟨rfl, rfl⟩⟩
    have c23 : Cn (Adj (lsE [(2, 3, 0, 0), (0, 2, 0, 0), (3, 1, 0, 0)]) ([(2, 3, 0, 0), (0, 2, 0, 0), (3, 1, 0, 0)] : List Edg).length fun v => decide (In set 0 (v : Int))) 2 3 := .edge ⟨0, by decide, okw 2 3 hw 0 0, .inl ⟨rfl, rfl⟩⟩
    have c31 : Cn (Adj (lsE [(2, 3, 0, 0), (0, 2, 0, 0), (3, 1, 0, 0)]) ([(2, 3, 0, 0), (0, 2, 0, 0), (3, 1, 0, 0)] : List Edg).length fun v => decide (In set 0 (v : Int))) 3 1 := .edge ⟨2, by decide, okw 3 1 hw 0 0, .inl ⟨rfl, rfl⟩⟩
    have : v = 0 ∨ v = 1 ∨ v = 2 ∨ v = 3 := by have : (4 : Int).toNat = 4 := rfl; omega
    rcases this with rfl | rfl | rfl | rfl
    · exact .refl _
    · exact c02.trans (c23.trans c31)
    · exact c02
    · exact c02.trans c23
  rw [this]
  decide

theorem dbl0 {sl0 sl1 : Option Addr} {row : Nat → Nat → Int} (hr0 : row 0 = fun i => ([0, 2] : List Int)[i]?.getD 0) (hr1 : row 1 = fun i => ([2, 0] : List Int)[i]?.getD 0) {z : Nat → Int} {ln : Nat → Nat} {nd : Nat → Nat → Int} :
    DblP 2 1 e0 z0 1 2 (fun i => ([⟨sl0, 2, 2⟩, ⟨sl1, 2, 2⟩] : List Sl)[i]?.getD ⟨none, 0, 0⟩) row (fun i => ([2, 2] : List Int)[i]?.getD 0) 2 z ln nd 0 := by
  have ho : odds e0 1 (2 : Int).toNat = [0, 1] := by decide
  have hs : odds (sub e0 z0) 1 (2 : Int).toNat = [0, 1] := by decide
  refine ⟨(tkn0 (most := fun _ => 1) (by decide) (by decide)).ris, by rw [ho, hs], by rw [ho]; rfl, fun i hi => ?_, ?_, fun i hi j hj => ?_, by show ((0 : Int) + 2 + 2 - 0) = 2 * cst e0 z0 1; rw [cst0]; rfl⟩
  · rw [ho] at hi ⊢
    have : i = 0 ∨ i = 1 := by simp at hi; omega
    rcases this with rfl | rfl
    · rw [hr0]
      refine ⟨rfl, fun v hv => ?_, rfl, fun i hi => ⟨by show (0 : Int) - 2 ≤ 2; decide, by show (2 : Int) - 0 ≤ 2; decide⟩⟩
      have : v = 0 ∨ v = 1 := by have : v < 2 := hv; omega
      rcases this with rfl | rfl <;> exact ⟨by decide, by decide⟩
    · rw [hr1]
      refine ⟨rfl, fun v hv => ?_, rfl, fun i hi => ⟨by show (2 : Int) - 0 ≤ 2; decide, by show (0 : Int) - 2 ≤ 2; decide⟩⟩
      have : v = 0 ∨ v = 1 := by have : v < 2 := hv; omega
      rcases this with rfl | rfl <;> exact ⟨by decide, by decide⟩
  · rw [ho]; exact wt0 (by decide) (by decide)
  · rw [ho] at hi ⊢
    have : i = 1 ∧ j = 0 := by simp at hi; omega
    obtain ⟨rfl, rfl⟩ := this
    rw [hr0]
    show (2 : Int) + 2 - 0 ≤ 2 * 2
    decide
end
end Go.Mz

/-
  awake of layer 12, walked: it answers true and leaves what was there.
-/
namespace Go.Mz
section
variable {E : Value → Hp → Prop}

theorem bct {p : Prop} [Decidable p] {X Y : Prop} (hp : p) (k : X) : bcase (decide p) X Y := bc (fun _ => k) fun h => (h hp).elim

theorem out0 {P : Prop} {c : Int} (h : Out 2 1 e0 P c) (hp : P) : c = 0 := by
  rcases h with ⟨h, _⟩ | ⟨h, h'⟩ | ⟨_, _, h⟩
  · exact h
  · exact absurd (h.trans (chk_zero.2 right0)) h'
  · exact absurd hp h

theorem rdr_e0 {H : Hp} {b : Nat} (e : H b = some ⟨[.int .i64 0, .int .i64 1, .int .i64 0, .int .i64 2], 84⟩) : Rdr H (some ⟨b, 0, none⟩) 1 e0 := by
  intro i hi
  refine ⟨b, 0, rfl, fun j hj => ?_⟩
  have : i = 0 := by omega
  subst this
  rw [get_at e]
  have : j = 0 ∨ j = 1 ∨ j = 2 ∨ j = 3 := by have : El.w Edg = 4 := rfl; omega
  rcases this with rfl | rfl | rfl | rfl <;> rfl

theorem dual_none {H : Hp} {yp : Option Addr} {yn : Nat} {Y : Nat → Int} (h : Rdr H yp yn Y) : DualR H yp yn none 0 Y (fun _ => 0) (fun _ => ⟨none, 0, 0⟩) (fun _ _ => 0) :=
  ⟨h, fun i hi => by omega, fun i hi => by omega⟩

theorem rdr0 {α : Type} [El α] {H : Hp} {p : Option Addr} {f : Nat → α} : Rdr H p 0 f := fun i hi => by omega

theorem lawake12 {H : Hp} {K : Bool → Hp → Prop} (kk : ∀ H', Step (fun _ => False) H H' → K true H') : compasslaw12_awake.call E H K := by
  refine compasslaw12_awake.of (compasslaw12_awake.run_eq ?_)
  unfold compasslaw12_awake.run_t
  refine nwk fun b1 H1 hb1 e1 s1 => ?_
  refine nwst rfl rfl fun b2 H2 hb2 e2 s2 => ?_
  have G2 : Rdr H2 (some ⟨b1, 0, none⟩) 1 e0 := (rdr_e0 e1).keep s2 fun _ _ _ h => h
  have t2 := s1.and s2
  have n2 : ∀ {H'}, Step (fun _ => False) H2 H' → H' b2 = some ⟨[.int .i64 2, .slice (some ⟨b1, 0, none⟩) 1 1], 24⟩ := fun s => s.keep _ _ e2 fun h => h
  have kG : ∀ {H'}, Step (fun _ => False) H2 H' → Rdr H' (some ⟨b1, 0, none⟩) 1 e0 := fun s => G2.keep s fun _ _ _ h => h
  simp only [get_at e2, List.getElem?_cons_zero, List.getElem?_cons_succ, ldI_mk, ldS_mk]
  have z1 : ∀ {H' b}, H' b = some ⟨[.int .i64 0], 3⟩ → Rdr H' (some ⟨b, 0, none⟩) 1 z0 := fun e => ((row_one e rfl).congr (g := z0) fun i _ => rfl).rdr
  -- Covered
  refine nwk fun b3 H3 hb3 e3 s3 => ?_
  refine nwk fun b4 H4 hb4 e4 s4 => ?_
  have u4 := s3.and s4
  refine vCovered (m := z0) (cv := fun i => ([1] : List Int)[i]?.getD 0) (kG u4) (by decide) ((z1 e3).keep s4 fun _ _ _ h => h) (by decide) (row_ls (l := [1]) e4 rfl (by decide)).rdr (by decide) fun H5 r2 s5 o2 => ?_
  have q2 := out0 o2 cov0
  subst q2
  have u5 := u4.and s5
  simp only [get_at (n2 u5), List.getElem?_cons_zero, List.getElem?_cons_succ, ldI_mk, ldS_mk]
  -- Heaviest
  refine nwk fun b5 H6 hb5 e5 s6 => ?_
  refine nwk fun b6 H7 hb6 e6 s7 => ?_
  have u7 := (u5.and s6).and s7
  refine vHeaviest (m := z0) (pot := fun i => ([2, 0] : List Int)[i]?.getD 0) (kG u7) (by decide) ((z1 e5).keep s7 fun _ _ _ h => h) (by decide) (row_ls (l := [2, 0]) e6 rfl (by decide)).rdr (by decide) fun H8 r4 s8 o4 => ?_
  have q4 := out0 o4 hvy0
  subst q4
  have u8 := u7.and s8
  simp only [get_at (n2 u8), List.getElem?_cons_zero, List.getElem?_cons_succ, ldI_mk, ldS_mk]
  -- Largest
  refine nwk fun b7 H9 hb7 e7 s9 => ?_
  have u9 := u8.and s9
  refine vLargest (m := z0) (set := z0) (kG u9) (by decide) (z1 e7) (by decide) rdr0 (by decide) fun H10 r6 s10 o6 => ?_
  have q6 := out0 o6 lrg0
  subst q6
  have u10 := u9.and s10
  simp only [get_at (n2 u10), List.getElem?_cons_zero, List.getElem?_cons_succ, ldI_mk, ldS_mk]
  -- Cheapest
  refine nwk fun b8 H11 hb8 e8 s11 => ?_
  refine nwk fun b9 H12 hb9 e9 s12 => ?_
  have u12 := (u10.and s11).and s12
  refine vCheapest (m := z0) (Y := fun i => ([3, 1] : List Int)[i]?.getD 0) (kG u12) (by decide) ((z1 e8).keep s12 fun _ _ _ h => h) (by decide) (dual_none (row_ls (l := [3, 1]) e9 rfl (by decide)).rdr) (by decide) (by decide) fun H13 r8 s13 o8 => ?_
  have q8 := out0 o8 chp0
  subst q8
  have u13 := u12.and s13
  simp only [get_at (n2 u13), List.getElem?_cons_zero, List.getElem?_cons_succ, ldI_mk, ldS_mk]
  -- Gadget
  refine nwk fun b10 H14 hb10 e10 s14 => ?_
  have u14 := u13.and s14
  have hgb : ∀ c, GadB 2 1 e0 b0 2 c → False := fun c h => by
    rcases h with ⟨h, h'⟩ | ⟨_, _, h⟩ | ⟨_, _, _, h⟩
    · exact h' (h.trans (chk_zero.2 right0))
    · exact h bnd0
    · exact h gsz0
  refine vGadget (b := b0) (kG u14) (by decide) (row_ls (l := [1, 1]) e10 rfl (by decide)).rdr (by decide) (fun H15 op oc s15 _ _ _ _ _ => ?_) fun H15 c s15 h => (hgb c h).elim
  rw [gnn0, gel0]
  have u15 := u14.and s15
  refine nwst rfl rfl fun b11 H16 hb11 e11 s16 => ?_
  have u16 := u15.and s16
  simp only [get_at (n2 u16), List.getElem?_cons_zero, List.getElem?_cons_succ, ldI_mk, ldS_mk]
  -- Many
  refine nwk fun b12 H17 hb12 e12 s17 => ?_
  refine nwk fun b13 H18 hb13 e13 s18 => ?_
  have u18 := (u16.and s17).and s18
  refine vMany (b := b0) (m := z0) (set := z0) (kG u18) (by decide) ((row_ls (l := [1, 1]) e12 rfl (by decide)).rdr.keep s18 fun _ _ _ h => h) (by decide) (z1 e13) (by decide) rdr0 (by decide) fun H19 r12 s19 o12 => ?_
  have q12 : r12 = 0 := by
    rcases o12 with ⟨h, _⟩ | h | ⟨_, _, _, _, h⟩
    · exact h
    · exact (hgb _ h).elim
    · exact absurd mny0 h
  subst q12
  have u19 := u18.and s19
  simp only [get_at (n2 u19), List.getElem?_cons_zero, List.getElem?_cons_succ, ldI_mk, ldS_mk]
  -- Doubled
  refine nwk fun b14 H20 hb14 e14 s20 => ?_
  refine nwk fun b15 H21 hb15 e15 s21 => ?_
  refine nwk fun b16 H22 hb16 e16 s22 => ?_
  refine nwk fun b17 H23 hb17 e17 s23 => ?_
  refine nwk fun b18 H24 hb18 e18 s24 => ?_
  have u24 := ((((u19.and s20).and s21).and s22).and s23).and s24
  have hd : DistR H24 (some ⟨b17, 0, none⟩) 2 (fun i => ([⟨some ⟨b15, 0, none⟩, 2, 2⟩, ⟨some ⟨b16, 0, none⟩, 2, 2⟩] : List Sl)[i]?.getD ⟨none, 0, 0⟩) (fun i => if i = 0 then fun i => ([0, 2] : List Int)[i]?.getD 0 else fun i => ([2, 0] : List Int)[i]?.getD 0) := by
    refine ⟨(row_sls (l := [⟨some ⟨b15, 0, none⟩, 2, 2⟩, ⟨some ⟨b16, 0, none⟩, 2, 2⟩]) e17 rfl (by show 2 < 2 ^ 63; decide)).rdr.keep s24 fun _ _ _ h => h, fun i hi => ?_⟩
    have : i = 0 ∨ i = 1 := by omega
    rcases this with rfl | rfl
    · exact ⟨(row_ls (l := [0, 2]) e15 rfl (by decide)).rdr.keep ((s22.and s23).and s24) fun _ _ _ h => h, by show 2 < 2 ^ 63; decide⟩
    · exact ⟨(row_ls (l := [2, 0]) e16 rfl (by decide)).rdr.keep (s23.and s24) fun _ _ _ h => h, by show 2 < 2 ^ 63; decide⟩
  refine vDoubled (tw := z0) (Y := fun i => ([2, 2] : List Int)[i]?.getD 0) (kG u24) (by decide) ((z1 e14).keep (((s21.and s22).and s23).and s24) fun _ _ _ h => h) (by decide) hd (by decide) (dual_none (row_ls (l := [2, 2]) e18 rfl (by decide)).rdr) (by decide) (by decide) fun H25 r14 s25 o14 => ?_
  have q14 : r14 = 0 := by
    rcases o14 with ⟨h, _⟩ | ⟨h, h'⟩ | ⟨_, _, h⟩ | ⟨_, _, _, h⟩
    · exact h
    · exact (h' (h.trans (chk_zero.2 right0))).elim
    · exact (h fun i _ => by show (0 : Int) ≤ 2; decide).elim
    · exact (h (dbl0 rfl rfl)).elim
  subst q14
  have u25 := u24.and s25
  have hall : allc e0 1 = 2 := by decide
  simp only [if_true, cst0, hall]
  refine bct (by first | trivial | rfl | decide) ?_
  refine bct (by first | trivial | rfl | decide) ?_
  refine bct (by first | trivial | rfl | decide) ?_
  refine bct (by first | trivial | rfl | decide) ?_
  refine bct (by first | trivial | rfl | decide) ?_
  refine bct (by first | trivial | rfl | decide) ?_
  refine bct (by first | trivial | rfl | decide) ?_
  refine bct (by first | trivial | rfl | decide) ?_
  have e11' := ((((((((s17.and s18).and s19).and s20).and s21).and s22).and s23).and s24).and s25).keep _ _ e11 fun h => h
  simp only [get_at e11', List.getElem?_cons_zero, List.getElem?_cons_succ, ldI_mk, ldS_mk]
  refine bct (by first | trivial | rfl | decide) ?_
  refine bct (by first | trivial | rfl | decide) ?_
  refine bct (by first | trivial | rfl | decide) ?_
  refine bct (by first | trivial | rfl | decide) ?_
  refine bct (by first | trivial | rfl | decide) ?_
  refine bct (by first | trivial | rfl | decide) ?_
  refine bct (by first | trivial | rfl | decide) ?_
  simp only [get_at (n2 u25), List.getElem?_cons_zero, List.getElem?_cons_succ, ldI_mk, ldS_mk]
  refine vNoPerfect (set := z0) (kG u25) (by decide) rdr0 (by decide) fun H26 r15 s26 o15 => ?_
  have q15 : r15 = 221 := by
    rcases o15 with ⟨_, _, h⟩ | ⟨h, h'⟩ | ⟨h, _⟩
    · have := h.lt; rw [odd0] at this; omega
    · exact (h' (h.trans (chk_zero.2 right0))).elim
    · exact h
  subst q15
  exact kk _ (t2.and (u25.and s26))
end
end Go.Mz
