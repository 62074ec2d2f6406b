/-
  The shallow texts of functions (LawA), each with a kernel-checked equation to the translated code. It proves nothing of the program by itself.
-/
import Derived.Test.YtajgpmohnbjpcaaTab
set_option linter.unusedVariables false
set_option maxRecDepth 100000
namespace Go.Mz
/-! ### compass/compasslaw05.awake (14) -/
noncomputable def compasslaw05_awake.A : An := { live := [(0, []), (1, []), (2, []), (3, [1]), (4, [1]), (5, [1]), (6, [1, 2, 3]), (7, []), (8, [1, 2]), (9, [1, 2, 4, 5, 6]), (10, []), (11, [])], ord := [], stb := [], pre := [] }
noncomputable def compasslaw05_awake.code : Code := bodyOf Go.Proofs.Try.f14
theorem compasslaw05_awake.ok : okCode compasslaw05_awake.A 63 compasslaw05_awake.code = true := by kernel_rfl
def compasslaw05_awake.rq (E : Value → Hp → Prop) (K : Bool → Hp → Prop) : Ex → Fr → Hp → Prop := retQ T0 [.tmp 0] [4] (fun r H => ldR (.one false [.bool]) r fun u => K (asB u) H) E
def compasslaw05_awake.run  (E : Value → Hp → Prop) (H : Hp) (K : Bool → Hp → Prop) : Prop := nodeM P0 T0 compasslaw05_awake.A compasslaw05_awake.code [] [] (compasslaw05_awake.rq E K) (argF 0 []) H
theorem compasslaw05_awake.of {E : Value → Hp → Prop} {H : Hp} {K : Bool → Hp → Prop} (h : compasslaw05_awake.run E H K) : compasslaw05_awake.call E H K :=
  callW_of T0_ok P0_mixed (A := compasslaw05_awake.A) (fn := Go.Proofs.Try.f14) Go.Proofs.Try.func14 rfl compasslaw05_awake.ok rfl h
noncomputable def compasslaw05_awake.f1 (kind1 : Int) : Fr := [(1, .int .i64 kind1)]
def compasslaw05_awake.l1 (kind1 : Int)  (E : Value → Hp → Prop) (H : Hp) (K : Bool → Hp → Prop) : Prop := nodeM P0 T0 compasslaw05_awake.A compasslaw05_awake.code [1, 1, 0, 1, 0] [] (compasslaw05_awake.rq E K) (compasslaw05_awake.f1 kind1) H
def compasslaw05_awake.b1 (kind1 : Int)  (X1 : Fr → Hp → Prop) (E : Value → Hp → Prop) (H : Hp) (K : Bool → Hp → Prop) : Prop := nodeM P0 T0 compasslaw05_awake.A compasslaw05_awake.code [1, 1, 0, 1, 0, 0] [X1] (compasslaw05_awake.rq E K) (compasslaw05_awake.f1 kind1) H
theorem compasslaw05_awake.l1_rule { E : Value → Hp → Prop} {K : Bool → Hp → Prop} (I : Int → Hp → Prop) (μ : Int → Hp → Nat)
    (h : ∀ kind1 H, I kind1 H → ∀ X : Fr → Hp → Prop, (∀ kind1' H', I kind1' H' → μ kind1' H' < μ kind1 H → X (compasslaw05_awake.f1 kind1') H') → compasslaw05_awake.b1 kind1  X E H K)
    {kind1 : Int} {H : Hp} (hI : I kind1 H) : compasslaw05_awake.l1 kind1  E H K :=
  loop_rule (S := Int) (fun s => compasslaw05_awake.f1 s) (fun s H => I s H) (fun s H => μ s H) (fun s H hI X hX => h s H hI X fun kind1' H' hI' hlt => hX kind1' H' hI' hlt) (s := kind1) rfl hI
theorem compasslaw05_awake.nok : nodesOk compasslaw05_awake.code [[0, 1, 0, 1, 1]] = true := by kernel_rfl
def compasslaw05_awake.run_t (l1 : Int → Hp → Prop)   (E : Value → Hp → Prop) (H : Hp) (K : Bool → Hp → Prop) : Prop :=
  l1 1 H
theorem compasslaw05_awake.run_eq { E : Value → Hp → Prop} {H : Hp} {K : Bool → Hp → Prop} (h : compasslaw05_awake.run_t (fun kind1 H => compasslaw05_awake.l1 kind1  E H K)   E H K) : compasslaw05_awake.run   E H K := by
  have k1 : ∀ G : List Nat → Fr → Hp → Prop, nodeR P0 T0 compasslaw05_awake.A [[0, 1, 0, 1, 1]] G compasslaw05_awake.code [] [] (compasslaw05_awake.rq E K) (argF 0 []) H = compasslaw05_awake.run_t (fun kind1 H => G [0, 1, 0, 1, 1] [(1, .int .i64 kind1)] H)   E H K := fun G => by kernel_rfl
  have k2 : compasslaw05_awake.run_t (fun kind1 H => compasslaw05_awake.l1 kind1  E H K)   E H K = compasslaw05_awake.run_t (fun kind1 H => (fun q F H => nodeM P0 T0 compasslaw05_awake.A compasslaw05_awake.code q.reverse [] (compasslaw05_awake.rq E K) F H) [0, 1, 0, 1, 1] [(1, .int .i64 kind1)] H)   E H K := by kernel_rfl
  exact nodeR_imp compasslaw05_awake.nok rfl ((k1 _).mpr (k2.mp h))
def compasslaw05_awake.b1_t  (kind1 : Int) (X1 : Fr → Hp → Prop) (E : Value → Hp → Prop) (H : Hp) (K : Bool → Hp → Prop) : Prop :=
  bcase (decide ((kind1 : Int) ≤ 4)) (
  heaps_New.call kind1 2 E H fun r_1 r_2 H_1 =>
  bcase (Option.isNone r_1) (
  K false H_1)
  (bcase (!decide ((r_2 : Int) = 0)) (
  K false H_1)
  (heaps_Queue_Push.call r_1 0 7 E H_1 fun r_3 H_2 =>
  bcase (!decide ((r_3 : Int) = 0)) (
  K false H_2)
  (heaps_Queue_Push.call r_1 1 9 E H_2 fun r_4 H_3 =>
  bcase (!decide ((r_4 : Int) = 0)) (
  K false H_3)
  (heaps_Queue_Lower.call r_1 1 5 E H_3 fun r_5 H_4 =>
  bcase (!decide ((r_5 : Int) = 0)) (
  K false H_4)
  (heaps_Queue_Len.call r_1 E H_4 fun r_6 H_5 =>
  bcase (!decide ((r_6 : Int) = 2)) (
  K false H_5)
  (heaps_Queue_Pop.call r_1 E H_5 fun r_7 r_8 r_9 H_6 =>
  bcase (!decide ((r_7 : Int) = 1)) (
  K false H_6)
  (bcase (!decide ((r_8 : Int) = 5)) (
  K false H_6)
  (bcase (!decide ((r_9 : Int) = 0)) (
  K false H_6)
  (heaps_Queue_Len.call r_1 E H_6 fun r_10 H_7 =>
  bcase (!decide ((r_10 : Int) = 1)) (
  K false H_7)
  (X1 (compasslaw05_awake.f1 (IntKind.wrap .i64 (kind1 + 1))) H_7)))))))))))
  (K true H)
theorem compasslaw05_awake.b1_eq {kind1 : Int} {X1 : Fr → Hp → Prop} { E : Value → Hp → Prop} {H : Hp} {K : Bool → Hp → Prop} (h : compasslaw05_awake.b1_t  kind1 X1 E H K) : compasslaw05_awake.b1 kind1 X1 E H K := by
  have k1 : ∀ G : List Nat → Fr → Hp → Prop, nodeR P0 T0 compasslaw05_awake.A [[0, 1, 0, 1, 1]] G compasslaw05_awake.code [1, 1, 0, 1, 0, 0] [X1] (compasslaw05_awake.rq E K) (compasslaw05_awake.f1 kind1) H = compasslaw05_awake.b1_t  kind1 X1 E H K := fun G => by kernel_rfl
  exact nodeR_imp compasslaw05_awake.nok rfl ((k1 _).mpr h)
/-! ### compass/compasslaw05.step (21) -/
/-! ### compass/compasslaw05.drained (22) -/
end Go.Mz
