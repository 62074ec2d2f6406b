/-
  The shallow texts of functions (LSN), each with a kernel-checked equation to the translated code. It proves nothing of the program by itself.
-/
import Derived.Test.YthcehonpfnmpiaaGreatTab
set_option linter.unusedVariables false
set_option maxRecDepth 100000
namespace Go.Mz
/-! ### compass/compasslaw10.SpanNecks (4) -/
noncomputable def compasslaw10_SpanNecks.A : An := { live := [(0, [0, 1, 2]), (1, [1, 2, 3]), (2, []), (3, [1, 2, 3]), (4, [1, 2, 3, 7, 8]), (5, [1, 2, 3, 7, 8, 9, 10]), (6, [7, 8, 9, 10, 11, 12])], ord := [], stb := [], pre := [] }
noncomputable def compasslaw10_SpanNecks.code : Code := bodyOf Go.Proofs.Tryz.f4
theorem compasslaw10_SpanNecks.ok : okCode compasslaw10_SpanNecks.A 54 compasslaw10_SpanNecks.code = true := by kernel_rfl
def compasslaw10_SpanNecks.rq (E : Value → Hp → Prop) (K : Bool → Hp → Prop) : Ex → Fr → Hp → Prop := retQ T0 [.tmp 6] [4] (fun r H => ldR (.one false [.bool]) r fun u => K (asB u) H) E
def compasslaw10_SpanNecks.run (g0_Nodes : Int) (g0_Edgesp : Option Addr) (g0_Edgesn : Nat) (g0_Edgesc : Nat) (u1 : Int) (v2 : Int) (E : Value → Hp → Prop) (H : Hp) (K : Bool → Hp → Prop) : Prop := nodeM P0 T0 compasslaw10_SpanNecks.A compasslaw10_SpanNecks.code [] [] (compasslaw10_SpanNecks.rq E K) (argF 0 [.agg ⟨[.int .i64 g0_Nodes, .slice g0_Edgesp g0_Edgesn g0_Edgesc]⟩, .int .i64 u1, .int .i64 v2]) H
theorem compasslaw10_SpanNecks.of {g0_Nodes : Int} {g0_Edgesp : Option Addr} {g0_Edgesn : Nat} {g0_Edgesc : Nat} {u1 : Int} {v2 : Int} {E : Value → Hp → Prop} {H : Hp} {K : Bool → Hp → Prop} (h : compasslaw10_SpanNecks.run g0_Nodes g0_Edgesp g0_Edgesn g0_Edgesc u1 v2 E H K) : compasslaw10_SpanNecks.call g0_Nodes g0_Edgesp g0_Edgesn g0_Edgesc u1 v2 E H K :=
  callW_of T0_ok P0_mixed (A := compasslaw10_SpanNecks.A) (fn := Go.Proofs.Tryz.f4) Go.Proofs.Tryz.func4 rfl compasslaw10_SpanNecks.ok rfl h
theorem compasslaw10_SpanNecks.nok : nodesOk compasslaw10_SpanNecks.code [] = true := by kernel_rfl
def compasslaw10_SpanNecks.run_t  (g0_Nodes : Int) (g0_Edgesp : Option Addr) (g0_Edgesn : Nat) (g0_Edgesc : Nat) (u1 : Int) (v2 : Int)  (E : Value → Hp → Prop) (H : Hp) (K : Bool → Hp → Prop) : Prop :=
  nw H ⟨[.int .i64 g0_Nodes, .slice g0_Edgesp g0_Edgesn g0_Edgesc], 24⟩ fun b_1 H_1 =>
  compasslaw10_awake.call  E H_1 fun r_1 H_2 =>
  bcase ((!r_1)) (
  K false H_2)
  (ldI .i64 (H_2.get b_1 0) fun x_1 =>
  ldS (H_2.get b_1 1) fun x_2p x_2n x_2c =>
  span_Neck.call x_1 x_2p x_2n x_2c u1 v2 E H_2 fun r_2 r_3 H_3 =>
  ldI .i64 (H_3.get b_1 0) fun x_3 =>
  ldS (H_3.get b_1 1) fun x_4p x_4n x_4c =>
  compassref10_Neck.call x_3 x_4p x_4n x_4c u1 v2 E H_3 fun r_4 r_5 H_4 =>
  ldI .i64 (H_4.get b_1 0) fun x_5 =>
  ldS (H_4.get b_1 1) fun x_6p x_6n x_6c =>
  span_Neck.call x_5 x_6p x_6n x_6c v2 u1 E H_4 fun r_6 r_7 H_5 =>
  bcase (decide ((r_2 : Int) = r_4)) (
  bcase (decide ((r_3 : Int) = r_5)) (
  bcase (decide ((r_6 : Int) = r_2)) (
  K (decide ((r_7 : Int) = r_3)) H_5)
  (K false H_5))
  (K false H_5))
  (K false H_5))
theorem compasslaw10_SpanNecks.run_eq {g0_Nodes : Int} {g0_Edgesp : Option Addr} {g0_Edgesn : Nat} {g0_Edgesc : Nat} {u1 : Int} {v2 : Int} { E : Value → Hp → Prop} {H : Hp} {K : Bool → Hp → Prop} (h : compasslaw10_SpanNecks.run_t  g0_Nodes g0_Edgesp g0_Edgesn g0_Edgesc u1 v2  E H K) : compasslaw10_SpanNecks.run g0_Nodes g0_Edgesp g0_Edgesn g0_Edgesc u1 v2  E H K := by
  exact nodeR_imp2 (fun _ => compasslaw10_SpanNecks.run_t  g0_Nodes g0_Edgesp g0_Edgesn g0_Edgesc u1 v2  E H K) compasslaw10_SpanNecks.nok rfl (fun G => by kernel_rfl) h
end Go.Mz
