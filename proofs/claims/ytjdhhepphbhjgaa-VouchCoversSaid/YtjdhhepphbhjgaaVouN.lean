/-
  The one fixed thing that the laws of layer 12 ask first: it holds.
-/
import Derived.Test.YtjdhhepphbhjgaaVouM
import Derived.Test.YtjdhhepphbhjgaaGLaw
set_option linter.unusedSimpArgs false
set_option linter.unusedVariables false
namespace Go.Mz
section
variable {E : Value → Hp → Prop}

theorem row_ls {H : Hp} {b : Nat} {l : List Int} {t : BT} (e : H b = some ⟨l.map (Value.int .i64), t⟩) (ht : t.fz = (0, 0)) (hl : l.length < 2 ^ 63) : Row H (some ⟨b, 0, none⟩) l.length l.length (fun i => l[i]?.getD 0) := by
  refine ⟨Nat.le_refl _, hl, .inr ⟨b, 0, _, rfl, e, ⟨by simp [El.w], ht⟩, fun i hi j hj => ?_⟩⟩
  have : j = 0 := by have : El.w Int = 1 := rfl; omega
  subst this
  have hw : El.w Int = 1 := rfl
  rw [hw]
  simp [El.enc, hi]

theorem row_sls {H : Hp} {b : Nat} {l : List Sl} {t : BT} (e : H b = some ⟨l.map (fun s => Value.slice s.p s.n s.c), t⟩) (ht : t.fz = (0, 0)) (hl : l.length < 2 ^ 63) : Row H (some ⟨b, 0, none⟩) l.length l.length (fun i => l[i]?.getD ⟨none, 0, 0⟩) := by
  refine ⟨Nat.le_refl _, hl, .inr ⟨b, 0, _, rfl, e, ⟨by simp [El.w], ht⟩, fun i hi j hj => ?_⟩⟩
  have : j = 0 := by have : El.w Sl = 1 := rfl; omega
  subst this
  have hw : El.w Sl = 1 := rfl
  rw [hw]
  simp [El.enc, hi]

theorem oddN_conn {N : Int} {n : Nat} {e : Nat → Edg} {W : Nat → Bool} (hc : ∀ v, v < N.toNat → Cn (Adj e n W) 0 v) (h2 : N.toNat % 2 = 0) : oddN N n e W = 0 := by
  have key : ∀ s, s ≤ N.toNat → oddB (Adj e n W) W N.toNat s = 0 := by
    intro s
    induction s with
    | zero => intro _; rfl
    | succ s ih =>
      intro hs
      show oddB (Adj e n W) W N.toNat s + _ = 0
      rw [ih (by omega)]
      split
      · rename_i hf
        by_cases h0 : s = 0
        · subst h0
          have : csz (Adj e n W) N.toNat 0 = N.toNat := cnt_all fun i hi => by simpa using hc i hi
          rw [this, h2]
        · exact absurd (hc s (by omega)) (hf.2 0 (by omega))
      · rfl
  exact key _ (Nat.le_refl _)

def e0 : Nat → Edg := fun _ => (0, 1, 0, 2)
def z0 : Nat → Int := fun _ => 0

theorem righte0 : RightE 2 ((0, 1, 0, 2) : Edg) := ⟨by decide, by decide, by decide, by decide, by decide, by decide, by decide, by decide⟩
theorem right0 : Right 2 1 e0 := ⟨by decide, by decide, by decide, fun i _ => righte0⟩
theorem nlp0 : ¬ lp ((0, 1, 0, 2) : Edg) := by decide

theorem tkn0 {most : Int → Int} (h0 : 1 ≤ most 0) (h1 : 1 ≤ most 1) : Tkn 2 1 e0 z0 1 most := by
  refine ⟨fun i hi => ?_, fun i _ => nlp0, fun v v0 v1 _ => ?_⟩
  · have : i = 0 := by omega
    subst this
    exact ⟨by decide, by decide, fun h => absurd h (by decide)⟩
  · have : v = 0 ∨ v = 1 := by omega
    rcases this with rfl | rfl
    · have : dg e0 z0 1 0 = 1 := by decide
      rw [this]; exact h0
    · have : dg e0 z0 1 1 = 1 := by decide
      rw [this]; exact h1

theorem cst0 : cst e0 z0 1 = 2 := by decide

theorem ris0 {m : Nat → Int} {n : Int} : Ris m 0 n := fun i hi => by omega

open Classical in
theorem okw {set : Nat → Int} (a b : Nat) (hw : ∀ x : Nat, decide (In set 0 (x : Int)) = false) (c d : Int) : okE (fun v => decide (In set 0 (v : Int))) (((a : Int), (b : Int), c, d) : Edg) = true := by
  show (!decide (In set 0 (((a : Int).toNat : Nat) : Int)) && !decide (In set 0 (((b : Int).toNat : Nat) : Int))) = true
  rw [hw, hw]; rfl

open Classical in
theorem odd0 {set : Nat → Int} : oddS 2 1 e0 set 0 = 0 := by
  refine oddN_conn (fun v hv => ?_) rfl
  have : v = 0 ∨ v = 1 := by have : (2 : Int).toNat = 2 := rfl; omega
  have hw : ∀ x : Nat, decide (In set 0 (x : Int)) = false := fun x => decide_eq_false fun ⟨i, hi, _⟩ => by omega
  rcases this with rfl | rfl
  · exact .refl _
  · exact .edge ⟨0, by decide, okw 0 1 hw 0 2, .inl ⟨rfl, rfl⟩⟩

theorem cov0 : CovP 2 1 e0 z0 1 (fun i => ([1] : List Int)[i]?.getD 0) 1 := by
  refine ⟨tkn0 (by decide) (by decide), fun i hi => ?_, fun i hi => .inr (.inr ⟨0, by decide, rfl⟩), rfl⟩
  have : i = 0 := by omega
  subst this
  exact ⟨by decide, by decide, fun h => absurd h (by decide)⟩

theorem hvy0 : HvyP 2 1 e0 z0 1 (fun i => ([2, 0] : List Int)[i]?.getD 0) 2 := by
  refine ⟨tkn0 (by decide) (by decide), rfl, fun v hv => ?_, fun i hi => .inr (by show (2 : Int) ≤ 2 + 0; decide), by decide⟩
  have : v = 0 ∨ v = 1 := by omega
  rcases this with rfl | rfl <;> exact ⟨by decide, by decide⟩

theorem lrg0 {set : Nat → Int} : LrgP 2 1 e0 z0 1 set 0 := ⟨tkn0 (by decide) (by decide), ris0, by rw [odd0]; rfl⟩

theorem wt0 {Y : Nat → Int} (h0 : -4398046511104 ≤ Y 0 ∧ Y 0 ≤ 4398046511104) (h1 : -4398046511104 ≤ Y 1 ∧ Y 1 ≤ 4398046511104) {z : Nat → Int} {ln : Nat → Nat} {nd : Nat → Nat → Int} : Wt 2 Y 2 z ln nd 0 := by
  refine ⟨rfl, by decide, fun v hv => ?_, fun i hi => by omega⟩
  have : v = 0 ∨ v = 1 := by omega
  rcases this with rfl | rfl
  · exact h0
  · exact h1

theorem chp0 {z : Nat → Int} {ln : Nat → Nat} {nd : Nat → Nat → Int} : ChpP 2 1 e0 z0 1 (fun i => ([3, 1] : List Int)[i]?.getD 0) 2 z ln nd 0 :=
  ⟨tkn0 (by decide) (by decide), rfl, wt0 (by decide) (by decide), fun i hi => .inr (by show (3 : Int) + 1 - 0 ≤ 2 * 2; decide), by show ((0 : Int) + 3 + 1 - 0) = 2 * cst e0 z0 1; rw [cst0]; rfl⟩

def b0 : Nat → Int := fun i => ([1, 1] : List Int)[i]?.getD 0

theorem bnd0 : Bnd 2 b0 2 := by
  refine ⟨rfl, fun v hv => ?_⟩
  have : v = 0 ∨ v = 1 := by omega
  rcases this with rfl | rfl <;> exact ⟨by decide, by decide⟩

theorem gnn0 : gnn e0 (cps e0 1 b0) (2 : Int).toNat 1 = 4 := by decide
theorem gel0 : gel e0 (cps e0 1 b0) (2 : Int).toNat 1 = [(2, 3, 0, 0), (0, 2, 0, 0), (3, 1, 0, 0)] := by decide
theorem gsz0 : Gsz e0 (cps e0 1 b0) (2 : Int).toNat 1 := ⟨by rw [gnn0]; decide, by rw [gel0]; decide⟩

open Classical in
theorem mny0 {set : Nat → Int} : MnyP 2 1 e0 b0 z0 1 set 0 := by
  refine ⟨tkn0 (by decide) (by decide), ris0, ?_⟩
  rw [gnn0, gel0]
  have hw : ∀ x : Nat, decide (In set 0 (x : Int)) = false := fun x => decide_eq_false fun ⟨i, hi, _⟩ => by omega
  have : oddS 4 ([(2, 3, 0, 0), (0, 2, 0, 0), (3, 1, 0, 0)] : List Edg).length (lsE [(2, 3, 0, 0), (0, 2, 0, 0), (3, 1, 0, 0)]) set 0 = 0 := by
    refine oddN_conn (fun v hv => ?_) rfl
    have c02 : Cn (Adj (lsE [(2, 3, 0, 0), (0, 2, 0, 0), (3, 1, 0, 0)]) ([(2, 3, 0, 0), (0, 2, 0, 0), (3, 1, 0, 0)] : List Edg).length fun v => decide (In set 0 (v : Int))) 0 2 := .edge ⟨1, by decide, okw 0 2 hw 0 0, .inl ⟨rfl, rfl⟩⟩
    have c23 : Cn (Adj (lsE [(2, 3, 0, 0), (0, 2, 0, 0), (3, 1, 0, 0)]) ([(2, 3, 0, 0), (0, 2, 0, 0), (3, 1, 0, 0)] : List Edg).length fun v => decide (In set 0 (v : Int))) 2 3 := .edge ⟨0, by decide, okw 2 3 hw 0 0, .inl ⟨rfl, rfl⟩⟩
    have c31 : Cn (Adj (lsE [(2, 3, 0, 0), (0, 2, 0, 0), (3, 1, 0, 0)]) ([(2, 3, 0, 0), (0, 2, 0, 0), (3, 1, 0, 0)] : List Edg).length fun v => decide (In set 0 (v : Int))) 3 1 := .edge ⟨2, by decide, okw 3 1 hw 0 0, .inl ⟨rfl, rfl⟩⟩
    have : v = 0 ∨ v = 1 ∨ v = 2 ∨ v = 3 := by have : (4 : Int).toNat = 4 := rfl; omega
    rcases this with rfl | rfl | rfl | rfl
    · exact .refl _
    · exact c02.trans (c23.trans c31)
    · exact c02
    · exact c02.trans c23
  rw [this]
  decide

theorem dbl0 {sl0 sl1 : Option Addr} {row : Nat → Nat → Int} (hr0 : row 0 = fun i => ([0, 2] : List Int)[i]?.getD 0) (hr1 : row 1 = fun i => ([2, 0] : List Int)[i]?.getD 0) {z : Nat → Int} {ln : Nat → Nat} {nd : Nat → Nat → Int} :
    DblP 2 1 e0 z0 1 2 (fun i => ([⟨sl0, 2, 2⟩, ⟨sl1, 2, 2⟩] : List Sl)[i]?.getD ⟨none, 0, 0⟩) row (fun i => ([2, 2] : List Int)[i]?.getD 0) 2 z ln nd 0 := by
  have ho : odds e0 1 (2 : Int).toNat = [0, 1] := by decide
  have hs : odds (sub e0 z0) 1 (2 : Int).toNat = [0, 1] := by decide
  refine ⟨(tkn0 (most := fun _ => 1) (by decide) (by decide)).ris, by rw [ho, hs], by rw [ho]; rfl, fun i hi => ?_, ?_, fun i hi j hj => ?_, by show ((0 : Int) + 2 + 2 - 0) = 2 * cst e0 z0 1; rw [cst0]; rfl⟩
  · rw [ho] at hi ⊢
    have : i = 0 ∨ i = 1 := by simp at hi; omega
    rcases this with rfl | rfl
    · rw [hr0]
      refine ⟨rfl, fun v hv => ?_, rfl, fun i hi => ⟨by show (0 : Int) - 2 ≤ 2; decide, by show (2 : Int) - 0 ≤ 2; decide⟩⟩
      have : v = 0 ∨ v = 1 := by have : v < 2 := hv; omega
      rcases this with rfl | rfl <;> exact ⟨by decide, by decide⟩
    · rw [hr1]
      refine ⟨rfl, fun v hv => ?_, rfl, fun i hi => ⟨by show (2 : Int) - 0 ≤ 2; decide, by show (0 : Int) - 2 ≤ 2; decide⟩⟩
      have : v = 0 ∨ v = 1 := by have : v < 2 := hv; omega
      rcases this with rfl | rfl <;> exact ⟨by decide, by decide⟩
  · rw [ho]; exact wt0 (by decide) (by decide)
  · rw [ho] at hi ⊢
    have : i = 1 ∧ j = 0 := by simp at hi; omega
    obtain ⟨rfl, rfl⟩ := this
    rw [hr0]
    show (2 : Int) + 2 - 0 ≤ 2 * 2
    decide
end
end Go.Mz
