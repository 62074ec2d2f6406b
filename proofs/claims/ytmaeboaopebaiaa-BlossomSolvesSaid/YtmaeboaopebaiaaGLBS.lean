/-
  The shallow texts of functions (LBS), each with a kernel-checked equation to the translated code. It proves nothing of the program by itself.
-/
import Derived.Test.YtmaeboaopebaiaaTab
set_option linter.unusedVariables false
set_option maxRecDepth 100000
namespace Go.Mz
/-! ### compass/compasslaw17.BlossomSolves (3) -/
noncomputable def compasslaw17_BlossomSolves.A : An := { live := [(0, [0]), (1, [1]), (2, []), (3, [1]), (4, [1, 3, 4, 5]), (5, [1, 3, 4, 5, 6]), (6, [3, 4, 5, 6]), (7, [1, 3, 4, 5]), (8, [3, 5, 8, 9])], ord := [], stb := [], pre := [] }
noncomputable def compasslaw17_BlossomSolves.code : Code := bodyOf Go.Proofs.Try.f3
theorem compasslaw17_BlossomSolves.ok : okCode compasslaw17_BlossomSolves.A 57 compasslaw17_BlossomSolves.code = true := by kernel_rfl
def compasslaw17_BlossomSolves.rq (E : Value → Hp → Prop) (K : Bool → Hp → Prop) : Ex → Fr → Hp → Prop := retQ T0 [.tmp 2] [4] (fun r H => ldR (.one false [.bool]) r fun u => K (asB u) H) E
def compasslaw17_BlossomSolves.run (g0_Nodes : Int) (g0_Edgesp : Option Addr) (g0_Edgesn : Nat) (g0_Edgesc : Nat) (E : Value → Hp → Prop) (H : Hp) (K : Bool → Hp → Prop) : Prop := nodeM P0 T0 compasslaw17_BlossomSolves.A compasslaw17_BlossomSolves.code [] [] (compasslaw17_BlossomSolves.rq E K) (argF 0 [.agg ⟨[.int .i64 g0_Nodes, .slice g0_Edgesp g0_Edgesn g0_Edgesc]⟩]) H
theorem compasslaw17_BlossomSolves.of {g0_Nodes : Int} {g0_Edgesp : Option Addr} {g0_Edgesn : Nat} {g0_Edgesc : Nat} {E : Value → Hp → Prop} {H : Hp} {K : Bool → Hp → Prop} (h : compasslaw17_BlossomSolves.run g0_Nodes g0_Edgesp g0_Edgesn g0_Edgesc E H K) : compasslaw17_BlossomSolves.call g0_Nodes g0_Edgesp g0_Edgesn g0_Edgesc E H K :=
  callW_of T0_ok P0_mixed (A := compasslaw17_BlossomSolves.A) (fn := Go.Proofs.Try.f3) Go.Proofs.Try.func3 rfl compasslaw17_BlossomSolves.ok rfl h
theorem compasslaw17_BlossomSolves.nok : nodesOk compasslaw17_BlossomSolves.code [] = true := by kernel_rfl
def compasslaw17_BlossomSolves.run_t  (g0_Nodes : Int) (g0_Edgesp : Option Addr) (g0_Edgesn : Nat) (g0_Edgesc : Nat)  (E : Value → Hp → Prop) (H : Hp) (K : Bool → Hp → Prop) : Prop :=
  nw H ⟨[.int .i64 g0_Nodes, .slice g0_Edgesp g0_Edgesn g0_Edgesc], 24⟩ fun b_1 H_1 =>
  compasslaw17_awake.call  E H_1 fun r_1 H_2 =>
  bcase ((!r_1)) (
  K false H_2)
  (ldI .i64 (H_2.get b_1 0) fun x_1 =>
  ldS (H_2.get b_1 1) fun x_2p x_2n x_2c =>
  blossom_Solve.call x_1 x_2p x_2n x_2c E H_2 fun r_2p r_2n r_2c r_3p r_3n r_3c r_4 H_3 =>
  ldI .i64 (H_3.get b_1 0) fun x_3 =>
  ldS (H_3.get b_1 1) fun x_4p x_4n x_4c =>
  compassref03_Check.call x_3 x_4p x_4n x_4c E H_3 fun r_5 r_6 H_4 =>
  bcase (!decide ((r_5 : Int) = 0)) (
  bcase (decide ((r_4 : Int) = r_5)) (
  bcase (decide (((r_2n : Int) : Int) = 0)) (
  K (decide (((r_3n : Int) : Int) = 0)) H_4)
  (K false H_4))
  (K false H_4))
  (ldI .i64 (H_4.get b_1 0) fun x_5 =>
  ldS (H_4.get b_1 1) fun x_6p x_6n x_6c =>
  compassref12_Largest.call x_5 x_6p x_6n x_6c r_2p r_2n r_2c r_3p r_3n r_3c E H_4 fun r_7 r_8 H_5 =>
  bcase (decide ((r_4 : Int) = 0)) (
  bcase (decide ((r_8 : Int) = 0)) (
  K (decide ((r_7 : Int) = (r_2n : Int))) H_5)
  (K false H_5))
  (K false H_5)))
theorem compasslaw17_BlossomSolves.run_eq {g0_Nodes : Int} {g0_Edgesp : Option Addr} {g0_Edgesn : Nat} {g0_Edgesc : Nat} { E : Value → Hp → Prop} {H : Hp} {K : Bool → Hp → Prop} (h : compasslaw17_BlossomSolves.run_t  g0_Nodes g0_Edgesp g0_Edgesn g0_Edgesc  E H K) : compasslaw17_BlossomSolves.run g0_Nodes g0_Edgesp g0_Edgesn g0_Edgesc  E H K := by
  have k1 : ∀ G : List Nat → Fr → Hp → Prop, nodeR P0 T0 compasslaw17_BlossomSolves.A [] G compasslaw17_BlossomSolves.code [] [] (compasslaw17_BlossomSolves.rq E K) (argF 0 [.agg ⟨[.int .i64 g0_Nodes, .slice g0_Edgesp g0_Edgesn g0_Edgesc]⟩]) H = compasslaw17_BlossomSolves.run_t  g0_Nodes g0_Edgesp g0_Edgesn g0_Edgesc  E H K := fun G => by kernel_rfl
  exact nodeR_imp compasslaw17_BlossomSolves.nok rfl ((k1 _).mpr h)
end Go.Mz
