/-
  The shallow texts of functions (LSF), each with a kernel-checked equation to the translated code. It proves nothing of the program by itself.
-/
import Derived.Test.YthcehonpfnmpiaaGreatTab
set_option linter.unusedVariables false
set_option maxRecDepth 100000
namespace Go.Mz
/-! ### compass/compasslaw10.SpanForests (3) -/
noncomputable def compasslaw10_SpanForests.A : An := { live := [(0, [0, 1]), (1, [1, 2]), (2, []), (3, [1, 2]), (4, [1, 2, 5, 6, 7]), (5, [5, 6, 7, 8, 9, 10])], ord := [], stb := [], pre := [] }
noncomputable def compasslaw10_SpanForests.code : Code := bodyOf Go.Proofs.Tryz.f3
theorem compasslaw10_SpanForests.ok : okCode compasslaw10_SpanForests.A 40 compasslaw10_SpanForests.code = true := by kernel_rfl
def compasslaw10_SpanForests.rq (E : Value → Hp → Prop) (K : Bool → Hp → Prop) : Ex → Fr → Hp → Prop := retQ T0 [.tmp 4] [4] (fun r H => ldR (.one false [.bool]) r fun u => K (asB u) H) E
def compasslaw10_SpanForests.run (g0_Nodes : Int) (g0_Edgesp : Option Addr) (g0_Edgesn : Nat) (g0_Edgesc : Nat) (ki1 : Int) (E : Value → Hp → Prop) (H : Hp) (K : Bool → Hp → Prop) : Prop := nodeM P0 T0 compasslaw10_SpanForests.A compasslaw10_SpanForests.code [] [] (compasslaw10_SpanForests.rq E K) (argF 0 [.agg ⟨[.int .i64 g0_Nodes, .slice g0_Edgesp g0_Edgesn g0_Edgesc]⟩, .int .i64 ki1]) H
theorem compasslaw10_SpanForests.of {g0_Nodes : Int} {g0_Edgesp : Option Addr} {g0_Edgesn : Nat} {g0_Edgesc : Nat} {ki1 : Int} {E : Value → Hp → Prop} {H : Hp} {K : Bool → Hp → Prop} (h : compasslaw10_SpanForests.run g0_Nodes g0_Edgesp g0_Edgesn g0_Edgesc ki1 E H K) : compasslaw10_SpanForests.call g0_Nodes g0_Edgesp g0_Edgesn g0_Edgesc ki1 E H K :=
  callW_of T0_ok P0_mixed (A := compasslaw10_SpanForests.A) (fn := Go.Proofs.Tryz.f3) Go.Proofs.Tryz.func3 rfl compasslaw10_SpanForests.ok rfl h
theorem compasslaw10_SpanForests.nok : nodesOk compasslaw10_SpanForests.code [] = true := by kernel_rfl
def compasslaw10_SpanForests.run_t  (g0_Nodes : Int) (g0_Edgesp : Option Addr) (g0_Edgesn : Nat) (g0_Edgesc : Nat) (ki1 : Int)  (E : Value → Hp → Prop) (H : Hp) (K : Bool → Hp → Prop) : Prop :=
  nw H ⟨[.int .i64 g0_Nodes, .slice g0_Edgesp g0_Edgesn g0_Edgesc], 24⟩ fun b_1 H_1 =>
  compasslaw10_awake.call  E H_1 fun r_1 H_2 =>
  bcase ((!r_1)) (
  K false H_2)
  (ldI .i64 (H_2.get b_1 0) fun x_1 =>
  ldS (H_2.get b_1 1) fun x_2p x_2n x_2c =>
  span_Forest.call x_1 x_2p x_2n x_2c ki1 E H_2 fun r_2p r_2n r_2c r_3 r_4 H_3 =>
  ldI .i64 (H_3.get b_1 0) fun x_3 =>
  ldS (H_3.get b_1 1) fun x_4p x_4n x_4c =>
  compassref10_Forest.call x_3 x_4p x_4n x_4c ki1 E H_3 fun r_5p r_5n r_5c r_6 r_7 H_4 =>
  compasslaw10_ints.call r_2p r_2n r_2c r_5p r_5n r_5c E H_4 fun r_8 H_5 =>
  bcase (r_8) (
  bcase (decide ((r_3 : Int) = r_6)) (
  K (decide ((r_4 : Int) = r_7)) H_5)
  (K false H_5))
  (K false H_5))
theorem compasslaw10_SpanForests.run_eq {g0_Nodes : Int} {g0_Edgesp : Option Addr} {g0_Edgesn : Nat} {g0_Edgesc : Nat} {ki1 : Int} { E : Value → Hp → Prop} {H : Hp} {K : Bool → Hp → Prop} (h : compasslaw10_SpanForests.run_t  g0_Nodes g0_Edgesp g0_Edgesn g0_Edgesc ki1  E H K) : compasslaw10_SpanForests.run g0_Nodes g0_Edgesp g0_Edgesn g0_Edgesc ki1  E H K := by
  exact nodeR_imp2 (fun _ => compasslaw10_SpanForests.run_t  g0_Nodes g0_Edgesp g0_Edgesn g0_Edgesc ki1  E H K) compasslaw10_SpanForests.nok rfl (fun G => by kernel_rfl) h
end Go.Mz
