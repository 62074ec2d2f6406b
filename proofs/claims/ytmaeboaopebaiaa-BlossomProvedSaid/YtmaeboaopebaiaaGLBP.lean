/-
  The shallow texts of functions (LBP), each with a kernel-checked equation to the translated code. It proves nothing of the program by itself.
-/
import Derived.Test.YtmaeboaopebaiaaTab
set_option linter.unusedVariables false
set_option maxRecDepth 100000
namespace Go.Mz
/-! ### compass/compasslaw17.BlossomProved (14) -/
noncomputable def compasslaw17_BlossomProved.A : An := { live := [(0, [0, 1]), (1, [1, 2]), (2, []), (3, [1, 2]), (4, [1, 2, 5, 6, 7]), (5, [5, 6]), (6, [1, 2, 5, 6]), (7, [1, 2, 5, 6, 8, 9]), (8, []), (9, [1, 2, 8]), (10, [8, 10, 12])], ord := [(7, [0, 1, 2, 3, 4, 5, 6, 7, 8, 9, 10, 13, 14, 15, 16, 17, 11, 12, 18, 19])], stb := [(7, [(11, [16])])], pre := [(7, [[], [0], [0, 1], [0, 1, 2], [0, 1, 2], [0, 1, 2, 4], [0, 1, 2, 3, 4, 5], [0, 1, 2, 3, 4, 5, 6], [0, 1, 2, 3, 4, 5, 6, 7], [0, 1, 2, 3, 4, 5, 6, 7, 8], [0, 1, 2, 3, 4, 5, 6, 7, 8], [0, 1, 2, 3, 4, 5, 6, 7, 8, 9, 10], [0, 1, 2, 3, 4, 5, 6, 7, 8, 9, 10, 11], [0, 1, 2, 3, 4, 5, 6, 7, 8], [0, 1, 2, 3, 4, 5, 6, 7, 8, 13], [0, 1, 2, 3, 4, 5, 6, 7, 8], [0, 1, 2, 3, 4, 5, 6, 7, 8, 15], [0, 1, 2, 3, 4, 5, 6, 7, 8, 13, 14, 15, 16], [0, 1, 2, 3, 4, 5, 6, 7, 8, 9, 10, 11, 12, 13, 14, 15, 16, 17], [0, 1, 2, 3, 4, 5, 6, 7, 8, 9, 10, 11, 12, 13, 14, 15, 16, 17, 18]])] }
noncomputable def compasslaw17_BlossomProved.code : Code := bodyOf Go.Proofs.Try.f14
theorem compasslaw17_BlossomProved.ok : okCode compasslaw17_BlossomProved.A 73 compasslaw17_BlossomProved.code = true := by kernel_rfl
def compasslaw17_BlossomProved.rq (E : Value → Hp → Prop) (K : Bool → Hp → Prop) : Ex → Fr → Hp → Prop := retQ T0 [.tmp 4] [4] (fun r H => ldR (.one false [.bool]) r fun u => K (asB u) H) E
def compasslaw17_BlossomProved.run (g0_Nodes : Int) (g0_Edgesp : Option Addr) (g0_Edgesn : Nat) (g0_Edgesc : Nat) (left1 : Int) (E : Value → Hp → Prop) (H : Hp) (K : Bool → Hp → Prop) : Prop := nodeM P0 T0 compasslaw17_BlossomProved.A compasslaw17_BlossomProved.code [] [] (compasslaw17_BlossomProved.rq E K) (argF 0 [.agg ⟨[.int .i64 g0_Nodes, .slice g0_Edgesp g0_Edgesn g0_Edgesc]⟩, .int .i64 left1]) H
theorem compasslaw17_BlossomProved.of {g0_Nodes : Int} {g0_Edgesp : Option Addr} {g0_Edgesn : Nat} {g0_Edgesc : Nat} {left1 : Int} {E : Value → Hp → Prop} {H : Hp} {K : Bool → Hp → Prop} (h : compasslaw17_BlossomProved.run g0_Nodes g0_Edgesp g0_Edgesn g0_Edgesc left1 E H K) : compasslaw17_BlossomProved.call g0_Nodes g0_Edgesp g0_Edgesn g0_Edgesc left1 E H K :=
  callW_of T0_ok P0_mixed (A := compasslaw17_BlossomProved.A) (fn := Go.Proofs.Try.f14) Go.Proofs.Try.func14 rfl compasslaw17_BlossomProved.ok rfl h
theorem compasslaw17_BlossomProved.nok : nodesOk compasslaw17_BlossomProved.code [] = true := by kernel_rfl
def compasslaw17_BlossomProved.run_t  (g0_Nodes : Int) (g0_Edgesp : Option Addr) (g0_Edgesn : Nat) (g0_Edgesc : Nat) (left1 : Int)  (E : Value → Hp → Prop) (H : Hp) (K : Bool → Hp → Prop) : Prop :=
  nw H ⟨[.int .i64 g0_Nodes, .slice g0_Edgesp g0_Edgesn g0_Edgesc], 24⟩ fun b_1 H_1 =>
  compasslaw17_awake.call  E H_1 fun r_1 H_2 =>
  bcase ((!r_1)) (
  K false H_2)
  (ldI .i64 (H_2.get b_1 0) fun x_1 =>
  ldS (H_2.get b_1 1) fun x_2p x_2n x_2c =>
  blossom_Solve.call x_1 x_2p x_2n x_2c E H_2 fun r_2p r_2n r_2c r_3p r_3n r_3c r_4 H_3 =>
  bcase (!decide ((r_4 : Int) = 0)) (
  bcase (decide (((r_2n : Int) : Int) = 0)) (
  K (decide (((r_3n : Int) : Int) = 0)) H_3)
  (K false H_3))
  (ldI .i64 (H_3.get b_1 0) fun x_3 =>
  ldS (H_3.get b_1 1) fun x_4p x_4n x_4c =>
  vouch_Largest.call x_3 x_4p x_4n x_4c r_2p r_2n r_2c r_3p r_3n r_3c E H_3 fun r_5 r_6 H_4 =>
  bcase (!decide ((r_6 : Int) = 0)) (
  K false H_4)
  (bcase (!decide ((r_5 : Int) = (r_2n : Int))) (
  K false H_4)
  (ldI .i64 (H_4.get b_1 0) fun x_5 =>
  ldS (H_4.get b_1 1) fun x_6p x_6n x_6c =>
  ldI .i64 (H_4.get b_1 0) fun x_7 =>
  vouch_NoPerfect.call x_5 x_6p x_6n x_6c r_3p r_3n r_3c E H_4 fun r_7 H_5 =>
  (ldI .i64 (H_5.get b_1 0) fun x_10 =>
  Value.int .i64 x_10 = Value.int .i64 x_7) ∧
  bcase (!((decide ((r_7 : Int) = 0)) == (decide (((IntKind.wrap .i64 (2 * r_5)) : Int) < x_7)))) (
  K false H_5)
  (ldI .i64 (H_5.get b_1 0) fun x_8 =>
  ldS (H_5.get b_1 1) fun x_9p x_9n x_9c =>
  bimatch_Solve.call x_8 x_9p x_9n x_9c left1 1 E H_5 fun r_8p r_8n r_8c r_9p r_9n r_9c r_10 H_6 =>
  bcase (!decide ((r_10 : Int) = 0)) (
  K true H_6)
  (K (decide (((r_8n : Int) : Int) = r_5)) H_6))))))
theorem compasslaw17_BlossomProved.run_eq {g0_Nodes : Int} {g0_Edgesp : Option Addr} {g0_Edgesn : Nat} {g0_Edgesc : Nat} {left1 : Int} { E : Value → Hp → Prop} {H : Hp} {K : Bool → Hp → Prop} (h : compasslaw17_BlossomProved.run_t  g0_Nodes g0_Edgesp g0_Edgesn g0_Edgesc left1  E H K) : compasslaw17_BlossomProved.run g0_Nodes g0_Edgesp g0_Edgesn g0_Edgesc left1  E H K := by
  have k1 : ∀ G : List Nat → Fr → Hp → Prop, nodeR P0 T0 compasslaw17_BlossomProved.A [] G compasslaw17_BlossomProved.code [] [] (compasslaw17_BlossomProved.rq E K) (argF 0 [.agg ⟨[.int .i64 g0_Nodes, .slice g0_Edgesp g0_Edgesn g0_Edgesc]⟩, .int .i64 left1]) H = compasslaw17_BlossomProved.run_t  g0_Nodes g0_Edgesp g0_Edgesn g0_Edgesc left1  E H K := fun G => by kernel_rfl
  exact nodeR_imp compasslaw17_BlossomProved.nok rfl ((k1 _).mpr h)
end Go.Mz
