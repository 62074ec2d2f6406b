/-
  Joined: PtA, SpL.
-/
import Derived.Test.YthcehonpfnmpiaaPkG
import Derived.Test.YthcehonpfnmpiaaPkU
import Derived.Test.YthcehonpfnmpiaaGRec
import Derived.Test.YthcehonpfnmpiaaPkS
import Derived.Test.YthcehonpfnmpiaaPkM
import Derived.Test.YthcehonpfnmpiaaMzS
import Derived.Test.YthcehonpfnmpiaaGL10
set_option linter.unusedSimpArgs false
set_option linter.unusedVariables false
/-
  The document's Numbered and Parts, walked (with the document's Check of the layers of heaps).
-/
namespace Go.Mz
section
variable {E : Value → Hp → Prop}

end
end Go.Mz

/-
  The statements of layer 10: what they share: the triangle, equal numbers, the graph with some edges alone.
-/
namespace Go.Mz

/-- the triangle's edges -/
def tri10 : Nat → Edg := fun i => if i = 0 then (0, 1, 0, 5) else if i = 1 then (1, 2, 0, 2) else (2, 0, 0, 3)

theorem tri_right : Right 3 3 tri10 := by
  refine ⟨by decide, by decide, by decide, fun i hi => ?_⟩
  rcases (by omega : i = 0 ∨ i = 1 ∨ i = 2) with rfl | rfl | rfl <;> exact ⟨by decide, by decide, by decide, by decide, by decide, by decide, by decide, by decide⟩

theorem tri_chk : chk 3 3 tri10 = 0 := chk_zero.2 tri_right

theorem tri_ahd {i j : Nat} (hi : i < 3) (hj : j < 3) : ahd tri10 i j ↔ (i = 1 ∧ j ≠ 1) ∨ (i = 2 ∧ j = 0) := by
  rcases (by omega : i = 0 ∨ i = 1 ∨ i = 2) with rfl | rfl | rfl <;> rcases (by omega : j = 0 ∨ j = 1 ∨ j = 2) with rfl | rfl | rfl <;> decide

theorem tri_one : InF tri10 3 1 := by
  refine InF.cut (C := fun u => u = 1) (by decide) (by decide) fun j hj ha => ?_
  have := (tri_ahd hj (by decide)).1 ha
  omega

theorem tri_two : InF tri10 3 2 := by
  refine InF.cut (C := fun u => u = 0) (by decide) (by decide) fun j hj ha => ?_
  have := (tri_ahd hj (by decide)).1 ha
  have : j = 1 := by omega
  subst this
  decide

theorem tri_way : Cn (Sel (ePr tri10) 3 fun i => ahd tri10 i 0) 0 1 := by
  have h1 : Cn (Sel (ePr tri10) 3 fun i => ahd tri10 i 0) 1 2 := .edge (Sel.of (pr := ePr tri10) (i := 1) (by decide) ((tri_ahd (by decide) (by decide)).2 (by decide)))
  have h2 : Cn (Sel (ePr tri10) 3 fun i => ahd tri10 i 0) 2 0 := .edge (Sel.of (pr := ePr tri10) (i := 2) (by decide) ((tri_ahd (by decide) (by decide)).2 (by decide)))
  exact (h1.trans h2).symm

theorem tri_zero : ¬ InF tri10 3 0 := fun h => h.2 tri_way

theorem tri_frs : frs tri10 3 = [1, 2] := by
  have h1 : frs tri10 3 = [1, 2] := by
    unfold frs
    have e : List.range 3 = [0, 1, 2] := rfl
    rw [e]
    simp [tri_zero, tri_one, tri_two]
  exact h1

theorem tri_neck : NkP tri10 3 0 1 2 := by
  refine ⟨by decide, fun c => ?_, ?_⟩
  · have : (0 : Nat) = 0 ↔ (1 : Nat) = 0 := c.iff (P := fun u => u = 0) fun u v ⟨j, hj, ha, e1, e2⟩ => by
      have := (tri_ahd hj (by decide)).1 ha
      have : j = 1 := by omega
      subst this
      rw [e1, e2]; decide
    omega
  · exact Sel.mono (fun t ht ha => by
      have := (tri_ahd ht (by decide)).1 ha
      rcases (by omega : t = 1 ∨ t = 2) with rfl | rfl
      · exact .inl ((tri_ahd (by decide) (by decide)).2 (by decide))
      · exact .inr rfl) tri_way

section
variable {E : Value → Hp → Prop}

theorem lints10 {p q : Option Addr} {n m c1 c2 : Nat} {f g : Nat → Int} {H : Hp} {K : Bool → Hp → Prop} (hp : Rdr H p n f) (hq : Rdr H q m g) (hn : n < 2 ^ 62)
    (kk : ∀ b, (b = true ↔ n = m ∧ ∀ i, i < n → f i = g i) → K b H) : compasslaw10_ints.call p n c1 q m c2 E H K := by
  refine compasslaw10_ints.of (compasslaw10_ints.run_eq ?_)
  unfold compasslaw10_ints.run_t
  refine bcn (fun h => ?_) fun hnm => ?_
  · exact kk false ⟨(fun h => by cases h), fun h' => by omega⟩
  have hnm : n = m := by omega
  subst hnm
  refine compasslaw10_ints.l1_rule (fun ap an ac bp bn bc t12 t13 H' => ap = p ∧ an = n ∧ bp = q ∧ bn = n ∧ t12 = n ∧ H' = H ∧ ∃ i : Nat, t13 = i ∧ i ≤ n ∧ ∀ j, j < i → f j = g j) (fun ap an ac bp bn bc t12 t13 H' => n - t13.toNat) ?_ ⟨rfl, rfl, rfl, rfl, rfl, rfl, 0, rfl, Nat.zero_le _, fun j hj => by omega⟩
  rintro ap an ac bp bn bc' t12 t13 H' ⟨rfl, rfl, rfl, rfl, rfl, rfl, i, rfl, hi, hall⟩ X hX
  refine compasslaw10_ints.b1_eq ?_
  unfold compasslaw10_ints.b1_t
  refine bc (fun hlt => ?_) fun hge => ?_
  · refine hp.ixI (by omega) (by omega) ?_
    refine hq.ixI (by omega) (by omega) ?_
    rw [Int.toNat_natCast]
    refine bcn (fun h => ?_) fun h => ?_
    · exact kk false ⟨(fun h => by cases h), fun h' => (h (h'.2 i (by omega))).elim⟩
    · rw [i64w (by omega) (by omega)]
      refine hX _ _ _ _ _ _ _ _ _ ⟨rfl, rfl, rfl, rfl, rfl, rfl, i + 1, by omega, by omega, fun j hj => ?_⟩ (by omega)
      by_cases e : j = i
      · rw [e]; exact h
      · exact hall j (by omega)
  · exact kk true ⟨fun _ => ⟨rfl, fun j hj => hall j (by omega)⟩, fun _ => rfl⟩

theorem lawake10 {H : Hp} {K : Bool → Hp → Prop} (kk : ∀ H', Step (fun _ => False) H H' → K true H') : compasslaw10_awake.call E H K := by
  refine compasslaw10_awake.of (compasslaw10_awake.run_eq ?_)
  unfold compasslaw10_awake.run_t
  refine nwk fun b1 H1 hb1 e1 s1 => ?_
  refine nwst rfl rfl fun b2 H2 hb2 e2 s2 => ?_
  have he : Rdr H2 (some ⟨b1, 0, none⟩) 3 tri10 := fun i hi => ⟨b1, 0, rfl, fun j hj => by
    have hj' : j = 0 ∨ j = 1 ∨ j = 2 ∨ j = 3 := by have : El.w Edg = 4 := rfl; omega
    rw [get_at (s2.keep _ _ e1 fun h => h)]
    rcases (by omega : i = 0 ∨ i = 1 ∨ i = 2) with rfl | rfl | rfl <;> rcases hj' with rfl | rfl | rfl | rfl <;> rfl⟩
  refine compasslaw10_awake.l1_rule (fun g k2 H' => g = b2 ∧ ∃ i : Nat, k2 = i ∧ 1 ≤ i ∧ i ≤ 4 ∧ Step (fun _ => False) H2 H') (fun g k2 H' => 4 - k2.toNat) ?_ ⟨rfl, 1, rfl, by omega, by omega, .refl⟩
  rintro g k2 H3 ⟨rfl, i, rfl, hi1, hi, s3⟩ X hX
  have e23 := s3.keep _ _ e2 fun h => h
  have he3 := he.keep s3 fun _ _ _ h => h
  refine compasslaw10_awake.b1_eq ?_
  unfold compasslaw10_awake.b1_t
  refine bc (fun hlt => ?_) fun hge => ?_
  · simp only [get_at e23, List.getElem?_cons_zero, List.getElem?_cons_succ, ldI_mk, ldS_mk]
    refine sforest he3 (by decide) fun H4 p m c f cost s4 r4 f4 hor hm => ?_
    have hz : spC 3 3 tri10 (i : Int) = 0 := by unfold spC; rw [if_neg (fun h => h tri_chk), if_neg (by omega)]
    obtain ⟨_, _, hF, hcost⟩ := hor.resolve_left fun h => h.1 hz
    refine bcn (fun h => (h hz).elim) fun _ => ?_
    have hl := hF.len
    rw [tri_frs] at hl
    have hl : m = 2 := hl
    subst hl
    have f0 : f 0 = 1 := by rw [hF.at' 0 (by decide), tri_frs]; rfl
    have f1 : f 1 = 2 := by rw [hF.at' 1 (by decide), tri_frs]; rfl
    refine nwk fun b5 H5 hb5 e5 s5 => ?_
    refine lints10 (r4.rdr.keep s5 fun _ _ _ h => h) (row2 e5) (by decide) fun b hb => ?_
    have hbt : b = true := hb.2 ⟨rfl, fun j hj => by
      rcases (by omega : j = 0 ∨ j = 1) with rfl | rfl
      · rw [f0]; rfl
      · rw [f1]; rfl⟩
    subst hbt
    refine bcb (fun h => by cases h) fun _ => ?_
    have hc5 : cost = 5 := by
      rw [hcost]
      show 0 + (tri10 (f 0).toNat).co + (tri10 (f 1).toNat).co = 5
      rw [f0, f1]; decide
    refine bcn (fun h => (h hc5).elim) fun _ => ?_
    rw [i64w (by omega) (by omega)]
    exact hX _ _ _ ⟨rfl, i + 1, by omega, by omega, by omega, (s3.and s4).and s5⟩ (by omega)
  · refine compasslaw10_awake.j1_eq ?_
    unfold compasslaw10_awake.j1_t
    simp only [get_at e23, List.getElem?_cons_zero, List.getElem?_cons_succ, ldI_mk, ldS_mk]
    refine sneck (u := 0) (v := 1) he3 (by decide) fun H4 x code s4 hR => ?_
    have hz : nkC 3 3 tri10 0 1 = 0 := by unfold nkC; rw [if_neg (fun h => h tri_chk), if_neg (by decide), if_neg (by decide)]
    have hR2 : NkR 3 3 tri10 0 1 2 0 := .inr ⟨hz, tri_right, .inr ⟨rfl, 2, rfl, tri_neck⟩⟩
    obtain ⟨rfl, rfl⟩ := hR.uniq hR2
    refine bct rfl ?_
    refine bct rfl ?_
    exact kk H4 (((s1.and s2).and s3).and s4)

end
end Go.Mz
