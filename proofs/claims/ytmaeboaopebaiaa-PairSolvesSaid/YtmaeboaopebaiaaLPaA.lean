/-
  Walks of the statements of layer 15: the trial that each of them makes first.
-/
import Derived.Test.YtmaeboaopebaiaaPkZ
import Derived.Test.YtmaeboaopebaiaaGL15
set_option linter.unusedSimpArgs false
set_option linter.unusedVariables false
namespace Go.Mz

/-- three edges in a row -/
def pa15 : Nat → Edg
  | 0 => (0, 2, 0, 0)
  | 1 => (2, 1, 0, 0)
  | _ => (1, 3, 0, 0)

theorem pa15_right : Right ((4 : Nat) : Int) 3 pa15 := by
  refine ⟨by decide, by decide, by decide, fun i hi => ?_⟩
  have : i = 0 ∨ i = 1 ∨ i = 2 := by omega
  rcases this with rfl | rfl | rfl <;> constructor <;> decide

theorem pa15_crs : Crs ((4 : Nat) : Int) 3 pa15 ((2 : Nat) : Int) := by
  refine ⟨by decide, by decide, fun i hi => ?_⟩
  have : i = 0 ∨ i = 1 ∨ i = 2 := by omega
  rcases this with rfl | rfl | rfl <;> decide

theorem pa15_most {g cv : Nat → Int} {k q : Nat} (h : CovP ((4 : Nat) : Int) 3 pa15 g k cv q) : k = 2 ∧ q = 2 ∧ g 0 = 0 ∧ g 1 = 2 := by
  have hkq := h.eq
  have hris := h.tk.ris
  have hlen := hris.len
  have hone : ∀ v : Int, 0 ≤ v → v < 4 → dg pa15 g k v ≤ 1 := fun v h0 h1 => by
    have := h.tk.mst v h0 h1
    omega
  have c0 := h.cvr 0 (by decide)
  have c2 := h.cvr 2 (by decide)
  have e0 : In cv q 0 ∨ In cv q 2 := by
    rcases c0 with c | c | c
    · exact absurd c (by decide)
    · exact .inl c
    · exact .inr c
  have e2 : In cv q 1 ∨ In cv q 3 := by
    rcases c2 with c | c | c
    · exact absurd c (by decide)
    · exact .inl c
    · exact .inr c
  have h2 : 2 ≤ k := by
    refine Classical.byContradiction fun hk => ?_
    have ex : ∀ x y : Int, In cv q x → In cv q y → x = y := fun x y ⟨i, hi, ei⟩ ⟨j, hj, ej⟩ => by
      have : i = j := by omega
      rw [← ei, ← ej, this]
    rcases e0 with a | a <;> rcases e2 with b | b <;> exact absurd (ex _ _ a b) (by decide)
  have r0 := hris 0 (by omega)
  have r1 := hris 1 (by omega)
  have r01 : g 0 < g 1 := r1.2.2 (by decide)
  have two : dg pa15 g 2 1 ≤ 1 ∧ dg pa15 g 2 2 ≤ 1 := ⟨Nat.le_trans (dg_mono h2) (hone 1 (by decide) (by decide)), Nat.le_trans (dg_mono h2) (hone 2 (by decide) (by decide))⟩
  have g01 : g 0 = 0 ∧ g 1 = 2 := by
    have hc : (g 0 = 0 ∧ g 1 = 1) ∨ (g 0 = 0 ∧ g 1 = 2) ∨ (g 0 = 1 ∧ g 1 = 2) := by omega
    rcases hc with ⟨a, b⟩ | h | ⟨a, b⟩
    · have := two.2
      simp only [dg, a, b] at this
      exact absurd this (by decide)
    · exact h
    · have := two.1
      simp only [dg, a, b] at this
      exact absurd this (by decide)
  have h3 : k = 2 := by
    refine Classical.byContradiction fun hk => ?_
    have r2 := hris 2 (by omega)
    have := r2.2.2 (by decide)
    simp only [Nat.add_one_sub_one] at this
    omega
  exact ⟨h3, by omega, g01.1, g01.2⟩

theorem pa15_fst : ∀ j, j < 1 → ¬ ((pa15 j).fr < 1 ↔ (pa15 j).to < 1) := fun j hj => by
  obtain rfl : j = 0 := by omega
  decide

theorem pa15_off {a : Int} (h : SdAt ((4 : Nat) : Int) 3 pa15 1 a) : a = 1 :=
  h.at' (chk_zero.2 pa15_right) (by decide) (by decide) 1 (by decide) pa15_fst (by decide)

section
variable {E : Value → Hp → Prop}

theorem lpath15 {H : Hp} {K : Int → Option Addr → Nat → Nat → Hp → Prop} (kk : ∀ H' p, Step (fun _ => False) H H' → Rdr H' p 3 pa15 → K ((4 : Nat) : Int) p 3 3 H') : compasslaw15_path.call E H K := by
  refine compasslaw15_path.of (compasslaw15_path.run_eq ?_)
  unfold compasslaw15_path.run_t
  refine nwk fun b1 H1 hb1 e1 s1 => ?_
  refine nwk fun b2 H2 hb2 e2 s2 => ?_
  have e12 := s2.keep _ _ e1 fun h => h
  have d12 : b1 ≠ b2 := fun h => by rw [h] at e1; rw [e1] at hb2; cases hb2
  refine stk e12 rfl rfl fun H3 e3 s3 => ?_
  have e23 := s3.keep _ _ e2 fun h => d12 h.symm
  simp only [get_at e3, List.getElem?_cons_zero, List.getElem?_cons_succ, ldI_mk, ldS_mk]
  refine kk H3 _ ((s1.and s2).own s3 fun y hy => hy ▸ hb1) fun i hi => ⟨b2, 0, rfl, fun j hj => ?_⟩
  have hi' : i = 0 ∨ i = 1 ∨ i = 2 := by omega
  have hj' : j = 0 ∨ j = 1 ∨ j = 2 ∨ j = 3 := by have : El.w Edg = 4 := rfl; omega
  rw [get_at e23]
  rcases hi' with rfl | rfl | rfl <;> rcases hj' with rfl | rfl | rfl | rfl <;> rfl

theorem lawake15 {H : Hp} {K : Bool → Hp → Prop} (kk : ∀ H', Step (fun _ => False) H H' → K true H') : compasslaw15_awake.call E H K := by
  refine compasslaw15_awake.of (compasslaw15_awake.run_eq ?_)
  unfold compasslaw15_awake.run_t
  refine compasslaw15_awake.l1_rule (fun kind H' => 1 ≤ kind ∧ kind ≤ 3 ∧ Step (fun _ => False) H H') (fun kind H' => (3 - kind).toNat) ?_ ⟨by decide, by decide, .refl⟩
  rintro kind H1 ⟨k1, k3, s1⟩ X hX
  refine compasslaw15_awake.b1_eq ?_
  unfold compasslaw15_awake.b1_t
  refine bc (fun h2 => ?_) fun _ => ?_
  · refine lpath15 fun H2 p s2 he => ?_
    refine bsolve (M := 4) (L := 2) he pa15_right pa15_crs (fun h => (h (by omega)).elim) fun _ H3 mp mn mc g cp cn cc cv s3 r1 r2 hC f1 f2 _ => ?_
    obtain ⟨rfl, rfl, g0, g1⟩ := pa15_most hC
    refine bcn (fun h => (h rfl).elim) fun _ => ?_
    refine bcn (fun h => (h rfl).elim) fun _ => ?_
    refine r1.ixI (by decide) (by decide) ?_
    refine bcn (fun h => (h g0).elim) fun _ => ?_
    refine r1.ixI (by decide) (by decide) ?_
    refine bcn (fun h => (h g1).elim) fun _ => ?_
    refine bcn (fun h => (h rfl).elim) fun _ => ?_
    rw [i64w (by omega) (by omega)]
    exact hX _ _ ⟨by omega, by omega, (s1.and s2).and s3⟩ (by omega)
  · refine compasslaw15_awake.j1_eq ?_
    unfold compasslaw15_awake.j1_t
    refine lpath15 fun H2 p s2 he => ?_
    refine bsides he (by decide) fun H3 a s3 ha => ?_
    have e1 := pa15_off ha
    have e2 : sdC ((4 : Nat) : Int) 3 pa15 1 = 140 := sdC_off (chk_zero.2 pa15_right) fun h => h.2.2 1 (by decide) (by decide)
    rw [e1, e2]
    exact kk H3 ((s1.and s2).and s3)
end
end Go.Mz
