/-
  The shallow texts of functions (LPP), each with a kernel-checked equation to the translated code. It proves nothing of the program by itself.
-/
import Derived.Test.YtmaeboaopebaiaaTab
set_option linter.unusedVariables false
set_option maxRecDepth 100000
namespace Go.Mz
/-! ### compass/compasslaw15.PairProved (11) -/
noncomputable def compasslaw15_PairProved.A : An := { live := [(0, [0, 1]), (1, [1, 2]), (2, []), (3, [1, 2]), (4, [1, 2, 5, 6, 7]), (5, [2, 5, 6, 7, 8, 9, 10]), (6, []), (7, [2, 5, 6, 7, 8, 9]), (8, [5]), (9, [2, 5, 6, 8, 9]), (10, [2, 5, 8, 9, 11, 12]), (11, [5, 11, 12, 13, 14])], ord := [], stb := [], pre := [] }
noncomputable def compasslaw15_PairProved.code : Code := bodyOf Go.Proofs.Try.f11
theorem compasslaw15_PairProved.ok : okCode compasslaw15_PairProved.A 78 compasslaw15_PairProved.code = true := by kernel_rfl
def compasslaw15_PairProved.rq (E : Value → Hp → Prop) (K : Bool → Hp → Prop) : Ex → Fr → Hp → Prop := retQ T0 [.tmp 4] [4] (fun r H => ldR (.one false [.bool]) r fun u => K (asB u) H) E
def compasslaw15_PairProved.run (g0_Nodes : Int) (g0_Edgesp : Option Addr) (g0_Edgesn : Nat) (g0_Edgesc : Nat) (left1 : Int) (E : Value → Hp → Prop) (H : Hp) (K : Bool → Hp → Prop) : Prop := nodeM P0 T0 compasslaw15_PairProved.A compasslaw15_PairProved.code [] [] (compasslaw15_PairProved.rq E K) (argF 0 [.agg ⟨[.int .i64 g0_Nodes, .slice g0_Edgesp g0_Edgesn g0_Edgesc]⟩, .int .i64 left1]) H
theorem compasslaw15_PairProved.of {g0_Nodes : Int} {g0_Edgesp : Option Addr} {g0_Edgesn : Nat} {g0_Edgesc : Nat} {left1 : Int} {E : Value → Hp → Prop} {H : Hp} {K : Bool → Hp → Prop} (h : compasslaw15_PairProved.run g0_Nodes g0_Edgesp g0_Edgesn g0_Edgesc left1 E H K) : compasslaw15_PairProved.call g0_Nodes g0_Edgesp g0_Edgesn g0_Edgesc left1 E H K :=
  callW_of T0_ok P0_mixed (A := compasslaw15_PairProved.A) (fn := Go.Proofs.Try.f11) Go.Proofs.Try.func11 rfl compasslaw15_PairProved.ok rfl h
theorem compasslaw15_PairProved.nok : nodesOk compasslaw15_PairProved.code [] = true := by kernel_rfl
def compasslaw15_PairProved.run_t  (g0_Nodes : Int) (g0_Edgesp : Option Addr) (g0_Edgesn : Nat) (g0_Edgesc : Nat) (left1 : Int)  (E : Value → Hp → Prop) (H : Hp) (K : Bool → Hp → Prop) : Prop :=
  nw H ⟨[.int .i64 g0_Nodes, .slice g0_Edgesp g0_Edgesn g0_Edgesc], 24⟩ fun b_1 H_1 =>
  compasslaw15_awake.call  E H_1 fun r_1 H_2 =>
  bcase ((!r_1)) (
  K false H_2)
  (ldI .i64 (H_2.get b_1 0) fun x_1 =>
  ldS (H_2.get b_1 1) fun x_2p x_2n x_2c =>
  bimatch_Solve.call x_1 x_2p x_2n x_2c left1 1 E H_2 fun r_2p r_2n r_2c r_3p r_3n r_3c r_4 H_3 =>
  ldI .i64 (H_3.get b_1 0) fun x_3 =>
  ldS (H_3.get b_1 1) fun x_4p x_4n x_4c =>
  bimatch_Solve.call x_3 x_4p x_4n x_4c left1 2 E H_3 fun r_5p r_5n r_5c r_6p r_6n r_6c r_7 H_4 =>
  bcase (!decide ((r_4 : Int) = r_7)) (
  K false H_4)
  (bcase (!decide (((r_2n : Int) : Int) = (r_5n : Int))) (
  K false H_4)
  (bcase (!decide ((r_4 : Int) = 0)) (
  K (decide (((r_2n : Int) : Int) = 0)) H_4)
  (ldI .i64 (H_4.get b_1 0) fun x_5 =>
  ldS (H_4.get b_1 1) fun x_6p x_6n x_6c =>
  vouch_Covered.call x_5 x_6p x_6n x_6c r_2p r_2n r_2c r_3p r_3n r_3c E H_4 fun r_8 r_9 H_5 =>
  ldI .i64 (H_5.get b_1 0) fun x_7 =>
  ldS (H_5.get b_1 1) fun x_8p x_8n x_8c =>
  vouch_Covered.call x_7 x_8p x_8n x_8c r_5p r_5n r_5c r_6p r_6n r_6c E H_5 fun r_10 r_11 H_6 =>
  bcase (decide ((r_9 : Int) = 0)) (
  bcase (decide ((r_11 : Int) = 0)) (
  bcase (decide ((r_8 : Int) = (r_2n : Int))) (
  K (decide ((r_10 : Int) = (r_2n : Int))) H_6)
  (K false H_6))
  (K false H_6))
  (K false H_6)))))
theorem compasslaw15_PairProved.run_eq {g0_Nodes : Int} {g0_Edgesp : Option Addr} {g0_Edgesn : Nat} {g0_Edgesc : Nat} {left1 : Int} { E : Value → Hp → Prop} {H : Hp} {K : Bool → Hp → Prop} (h : compasslaw15_PairProved.run_t  g0_Nodes g0_Edgesp g0_Edgesn g0_Edgesc left1  E H K) : compasslaw15_PairProved.run g0_Nodes g0_Edgesp g0_Edgesn g0_Edgesc left1  E H K := by
  have k1 : ∀ G : List Nat → Fr → Hp → Prop, nodeR P0 T0 compasslaw15_PairProved.A [] G compasslaw15_PairProved.code [] [] (compasslaw15_PairProved.rq E K) (argF 0 [.agg ⟨[.int .i64 g0_Nodes, .slice g0_Edgesp g0_Edgesn g0_Edgesc]⟩, .int .i64 left1]) H = compasslaw15_PairProved.run_t  g0_Nodes g0_Edgesp g0_Edgesn g0_Edgesc left1  E H K := fun G => by kernel_rfl
  exact nodeR_imp compasslaw15_PairProved.nok rfl ((k1 _).mpr h)
end Go.Mz
