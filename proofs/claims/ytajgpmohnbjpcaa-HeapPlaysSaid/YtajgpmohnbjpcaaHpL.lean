/-
  Layer 5: New of any kind; a queue that is all new since some heap; awake, walked.
-/
import Derived.Test.YtajgpmohnbjpcaaPkF
import Derived.Test.YtajgpmohnbjpcaaPkA
import Derived.Test.YtajgpmohnbjpcaaGLawA
set_option linter.unusedSimpArgs false
set_option linter.unusedVariables false
namespace Go.Mz

section
variable {E : Value → Hp → Prop}

theorem qnewK {kind n : Int} {H : Hp} {K : Option Addr → Int → Hp → Prop} (bad : newC kind n ≠ 0 → K none (newC kind n) H)
    (ok : newC kind n = 0 → 1 ≤ kind → kind ≤ 4 → 0 ≤ n → n ≤ 1024 → ∀ (g : Engine E) H' q FP, Qu g H' q n.toNat kind (fun _ => 0) 0 (fun _ => false) FP → Step (fun _ => False) H H' → (∀ y, FP y → H y = none) → K (some ⟨q, 0, none⟩) 0 H') : heaps_New.call kind n E H K := by
  by_cases h : newC kind n = 0
  · have hk : ¬ (kind < 1 ∨ 4 < kind) := fun hk => by unfold newC at h; rw [if_pos hk] at h; cases h
    have hn : ¬ (n < 0 ∨ 1024 < n) := fun hn => by unfold newC at h; rw [if_neg hk, if_pos hn] at h; cases h
    have h0 : 0 ≤ n := by omega
    have h1 : n ≤ 1024 := by omega
    rcases (by omega : kind = 1 ∨ kind = 2 ∨ kind = 3 ∨ kind = 4) with rfl | rfl | rfl | rfl
    · exact qnew1 h0 h1 (ok h (by decide) (by decide) h0 h1 _)
    · exact qnew2 h0 h1 (ok h (by decide) (by decide) h0 h1 _)
    · exact qnew3 h0 h1 (ok h (by decide) (by decide) h0 h1 _)
    · exact qnew4 h0 h1 (ok h (by decide) (by decide) h0 h1 _)
  · exact qnewBad h (bad h)

/-- a queue, all of it new since `H0` -/
structure QO (g : Engine E) (H0 H : Hp) (q n : Nat) (kind : Int) (key : Nat → Int) (last : Int) (S : Nat → Bool) (FP : Nat → Prop) : Prop where
  qu : Qu g H q n kind key last S FP
  st : Step (fun _ => False) H0 H
  fr : ∀ y, FP y → H0 y = none

variable {g : Engine E} {H0 H : Hp} {q n : Nat} {kind : Int} {key : Nat → Int} {last : Int} {S : Nat → Bool} {FP : Nat → Prop}

theorem QO.next {H' : Hp} {key' : Nat → Int} {last' : Int} {S' : Nat → Bool} {FP' : Nat → Prop} (h : QO g H0 H q n kind key last S FP) (hq : Qu g H' q n kind key' last' S' FP') (s : Step FP H H') (f : ∀ y, FP' y → FP y ∨ H y = none) : QO g H0 H' q n kind key' last' S' FP' :=
  ⟨hq, h.st.own s h.fr, fun y hy => (f y hy).elim (h.fr y) (h.st.mono y)⟩

theorem QO.keep {H' : Hp} {F : Nat → Prop} (h : QO g H0 H q n kind key last S FP) (s : Step F H H') (hF : ∀ y, F y → H0 y = none) (d : ∀ y, FP y → ¬ F y) : QO g H0 H' q n kind key last S FP :=
  ⟨h.qu.keep s d, h.st.own s hF, h.fr⟩

theorem pushC_high {n : Nat} {kind : Int} {S : Nat → Bool} {last h x : Int} (hx : last ≤ x) : pushC n kind S last h x = if h < 0 ∨ (n : Int) ≤ h then 30 else if S h.toNat then 51 else 0 := by
  unfold pushC
  rw [if_neg (show ¬ (kind = 4 ∧ x < last) by omega)]

theorem lowerC_high {n : Nat} {kind : Int} {key : Nat → Int} {S : Nat → Bool} {last h x : Int} (hx : last ≤ x) : lowerC n kind key S last h x = if h < 0 ∨ (n : Int) ≤ h then 30 else if S h.toNat = false then 2 else if key h.toNat < x then 52 else 0 := by
  unfold lowerC
  rw [if_neg (show ¬ (kind = 4 ∧ x < last) by omega)]

theorem lawake5 {H : Hp} {K : Bool → Hp → Prop} (kk : ∀ H', Step (fun _ => False) H H' → K true H') : compasslaw05_awake.call E H K := by
  refine compasslaw05_awake.of (compasslaw05_awake.run_eq ?_)
  unfold compasslaw05_awake.run_t
  refine compasslaw05_awake.l1_rule (fun kind H' => 1 ≤ kind ∧ kind ≤ 5 ∧ Step (fun _ => False) H H') (fun kind H' => (5 - kind).toNat) ?_ ⟨by decide, by decide, .refl⟩
  rintro kind H1 ⟨hk1, hk5, s1⟩ X hX
  refine compasslaw05_awake.b1_eq ?_
  unfold compasslaw05_awake.b1_t
  refine bc (fun hk => ?_) fun _ => kk H1 s1
  have hc : newC kind 2 = 0 := by unfold newC; rw [if_neg (by omega), if_neg (by decide)]
  refine qnewK (fun h => (h hc).elim) fun _ _ _ _ _ g H2 q FP hq s2 f2 => ?_
  have o2 : QO g H1 H2 q 2 kind (fun _ => 0) 0 (fun _ => false) FP := ⟨hq, s2, f2⟩
  refine bcb (fun h => by cases h) fun _ => ?_
  refine bcn (fun h => (h rfl).elim) fun _ => ?_
  have p1 : pushC 2 kind (fun _ => false) 0 0 7 = 0 := by rw [pushC_high (by decide)]; decide
  refine qpush (by decide) o2.qu (fun h => (h p1).elim) fun _ H3 FP3 q3 s3 f3 => ?_
  have o3 := o2.next q3 s3 f3
  refine bcn (fun h => (h rfl).elim) fun _ => ?_
  have p2 : pushC 2 kind (upf (fun _ => false) (0 : Int).toNat true) 0 1 9 = 0 := by rw [pushC_high (by decide)]; decide
  refine qpush (by decide) o3.qu (fun h => (h p2).elim) fun _ H4 FP4 q4 s4 f4 => ?_
  have o4 := o3.next q4 s4 f4
  refine bcn (fun h => (h rfl).elim) fun _ => ?_
  have p3 : lowerC 2 kind (upf (upf (fun _ => 0) (0 : Int).toNat 7) (1 : Int).toNat 9) (upf (upf (fun _ => false) (0 : Int).toNat true) (1 : Int).toNat true) 0 1 5 = 0 := by rw [lowerC_high (by decide)]; decide
  refine qlower o4.qu (fun h => (h p3).elim) fun _ H5 FP5 q5 s5 f5 => ?_
  have o5 := o4.next q5 s5 f5
  refine bcn (fun h => (h rfl).elim) fun _ => ?_
  refine qlen o5.qu ?_
  have c2 : cnt (upf (upf (fun _ => false) (0 : Int).toNat true) (1 : Int).toNat true) 2 = 2 := by decide
  rw [c2]
  refine bcn (fun h => (h rfl).elim) fun _ => ?_
  refine qpop o5.qu (fun h => by have := h 0; exact absurd this (by decide)) fun w H6 FP6 hw hl q6 s6 f6 => ?_
  have hw1 : w = 1 := by
    have hwn := o5.qu.sub w hw
    have h1 := hl 1 (by decide)
    rcases (by omega : w = 0 ∨ w = 1) with rfl | rfl
    · exact absurd h1 (by decide)
    · rfl
  subst hw1
  have o6 := o5.next q6 s6 f6
  refine bcn (fun h => (h rfl).elim) fun _ => ?_
  refine bcn (fun h => (h (by decide)).elim) fun _ => ?_
  refine bcn (fun h => (h rfl).elim) fun _ => ?_
  refine qlen o6.qu ?_
  have c1 : cnt (upf (upf (upf (fun _ => false) (0 : Int).toNat true) (1 : Int).toNat true) 1 false) 2 = 1 := by decide
  rw [c1]
  refine bcn (fun h => (h rfl).elim) fun _ => ?_
  rw [i64w (by omega) (by omega)]
  exact hX _ _ ⟨by omega, by omega, s1.and o6.st⟩ (by omega)
end
end Go.Mz
