/-
  The shallow texts of functions (LMS), each with a kernel-checked equation to the translated code. It proves nothing of the program by itself.
-/
import Derived.Test.YtbocpfdlfnodfaaTab
set_option linter.unusedVariables false
set_option maxRecDepth 100000
namespace Go.Mz
/-! ### compass/compasslaw19.ManySolves (3) -/
noncomputable def compasslaw19_ManySolves.A : An := { live := [(0, [0, 1]), (1, [1, 2]), (2, []), (3, [1, 2]), (4, [1, 2, 5, 6, 7]), (5, [1, 2, 5, 6, 7, 10]), (6, [5, 6, 7, 10]), (7, [1, 2, 5, 6, 7]), (8, [5, 7, 11, 12])], ord := [], stb := [], pre := [] }
noncomputable def compasslaw19_ManySolves.code : Code := bodyOf Go.Proofs.Try.f3
theorem compasslaw19_ManySolves.ok : okCode compasslaw19_ManySolves.A 64 compasslaw19_ManySolves.code = true := by kernel_rfl
def compasslaw19_ManySolves.rq (E : Value → Hp → Prop) (K : Bool → Hp → Prop) : Ex → Fr → Hp → Prop := retQ T0 [.tmp 4] [4] (fun r H => ldR (.one false [.bool]) r fun u => K (asB u) H) E
def compasslaw19_ManySolves.run (g0_Nodes : Int) (g0_Edgesp : Option Addr) (g0_Edgesn : Nat) (g0_Edgesc : Nat) (b1p : Option Addr) (b1n : Nat) (b1c : Nat) (E : Value → Hp → Prop) (H : Hp) (K : Bool → Hp → Prop) : Prop := nodeM P0 T0 compasslaw19_ManySolves.A compasslaw19_ManySolves.code [] [] (compasslaw19_ManySolves.rq E K) (argF 0 [.agg ⟨[.int .i64 g0_Nodes, .slice g0_Edgesp g0_Edgesn g0_Edgesc]⟩, .slice b1p b1n b1c]) H
theorem compasslaw19_ManySolves.of {g0_Nodes : Int} {g0_Edgesp : Option Addr} {g0_Edgesn : Nat} {g0_Edgesc : Nat} {b1p : Option Addr} {b1n : Nat} {b1c : Nat} {E : Value → Hp → Prop} {H : Hp} {K : Bool → Hp → Prop} (h : compasslaw19_ManySolves.run g0_Nodes g0_Edgesp g0_Edgesn g0_Edgesc b1p b1n b1c E H K) : compasslaw19_ManySolves.call g0_Nodes g0_Edgesp g0_Edgesn g0_Edgesc b1p b1n b1c E H K :=
  callW_of T0_ok P0_mixed (A := compasslaw19_ManySolves.A) (fn := Go.Proofs.Try.f3) Go.Proofs.Try.func3 rfl compasslaw19_ManySolves.ok rfl h
theorem compasslaw19_ManySolves.nok : nodesOk compasslaw19_ManySolves.code [] = true := by kernel_rfl
def compasslaw19_ManySolves.run_t  (g0_Nodes : Int) (g0_Edgesp : Option Addr) (g0_Edgesn : Nat) (g0_Edgesc : Nat) (b1p : Option Addr) (b1n : Nat) (b1c : Nat)  (E : Value → Hp → Prop) (H : Hp) (K : Bool → Hp → Prop) : Prop :=
  nw H ⟨[.int .i64 g0_Nodes, .slice g0_Edgesp g0_Edgesn g0_Edgesc], 24⟩ fun b_1 H_1 =>
  compasslaw19_awake.call  E H_1 fun r_1 H_2 =>
  bcase ((!r_1)) (
  K false H_2)
  (ldI .i64 (H_2.get b_1 0) fun x_1 =>
  ldS (H_2.get b_1 1) fun x_2p x_2n x_2c =>
  bmatch_Solve.call x_1 x_2p x_2n x_2c b1p b1n b1c E H_2 fun r_2p r_2n r_2c r_3p r_3n r_3c r_4 H_3 =>
  ldI .i64 (H_3.get b_1 0) fun x_3 =>
  ldS (H_3.get b_1 1) fun x_4p x_4n x_4c =>
  compassref12_Gadget.call x_3 x_4p x_4n x_4c b1p b1n b1c E H_3 fun r_5_Nodes r_5_Edgesp r_5_Edgesn r_5_Edgesc r_6 r_7 H_4 =>
  nw H_4 ⟨[.int .i64 0, .slice none 0 0], 24⟩ fun b_2 H_5 =>
  stC H_5 b_2 0 [.int .i64 r_5_Nodes, .slice r_5_Edgesp r_5_Edgesn r_5_Edgesc] fun H_6 =>
  bcase (!decide ((r_7 : Int) = 0)) (
  bcase (decide ((r_4 : Int) = r_7)) (
  bcase (decide (((r_2n : Int) : Int) = 0)) (
  K (decide (((r_3n : Int) : Int) = 0)) H_6)
  (K false H_6))
  (K false H_6))
  (ldI .i64 (H_6.get b_1 0) fun x_5 =>
  ldS (H_6.get b_1 1) fun x_6p x_6n x_6c =>
  compassref12_Many.call x_5 x_6p x_6n x_6c b1p b1n b1c r_2p r_2n r_2c r_3p r_3n r_3c E H_6 fun r_8 r_9 H_7 =>
  bcase (decide ((r_4 : Int) = 0)) (
  bcase (decide ((r_9 : Int) = 0)) (
  K (decide ((r_8 : Int) = (r_2n : Int))) H_7)
  (K false H_7))
  (K false H_7)))
theorem compasslaw19_ManySolves.run_eq {g0_Nodes : Int} {g0_Edgesp : Option Addr} {g0_Edgesn : Nat} {g0_Edgesc : Nat} {b1p : Option Addr} {b1n : Nat} {b1c : Nat} { E : Value → Hp → Prop} {H : Hp} {K : Bool → Hp → Prop} (h : compasslaw19_ManySolves.run_t  g0_Nodes g0_Edgesp g0_Edgesn g0_Edgesc b1p b1n b1c  E H K) : compasslaw19_ManySolves.run g0_Nodes g0_Edgesp g0_Edgesn g0_Edgesc b1p b1n b1c  E H K := by
  exact nodeR_imp2 (fun _ => compasslaw19_ManySolves.run_t  g0_Nodes g0_Edgesp g0_Edgesn g0_Edgesc b1p b1n b1c  E H K) compasslaw19_ManySolves.nok rfl (fun G => by kernel_rfl) h
end Go.Mz
