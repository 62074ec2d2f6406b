/-
  The shallow texts of functions (LMM), each with a kernel-checked equation to the translated code. It proves nothing of the program by itself.
-/
import Derived.Test.YtbocpfdlfnodfaaTab
set_option linter.unusedVariables false
set_option maxRecDepth 100000
namespace Go.Mz
/-! ### compass/compasslaw19.ManySmall (4) -/
noncomputable def compasslaw19_ManySmall.A : An := { live := [(0, [0, 1]), (1, [1, 2]), (2, []), (3, [1, 2]), (4, [1, 2, 5, 7]), (5, [5, 7]), (6, [1, 2, 5])], ord := [], stb := [], pre := [] }
noncomputable def compasslaw19_ManySmall.code : Code := bodyOf Go.Proofs.Try.f4
theorem compasslaw19_ManySmall.ok : okCode compasslaw19_ManySmall.A 38 compasslaw19_ManySmall.code = true := by kernel_rfl
def compasslaw19_ManySmall.rq (E : Value → Hp → Prop) (K : Bool → Hp → Prop) : Ex → Fr → Hp → Prop := retQ T0 [.tmp 4] [4] (fun r H => ldR (.one false [.bool]) r fun u => K (asB u) H) E
def compasslaw19_ManySmall.run (g0_Nodes : Int) (g0_Edgesp : Option Addr) (g0_Edgesn : Nat) (g0_Edgesc : Nat) (b1p : Option Addr) (b1n : Nat) (b1c : Nat) (E : Value → Hp → Prop) (H : Hp) (K : Bool → Hp → Prop) : Prop := nodeM P0 T0 compasslaw19_ManySmall.A compasslaw19_ManySmall.code [] [] (compasslaw19_ManySmall.rq E K) (argF 0 [.agg ⟨[.int .i64 g0_Nodes, .slice g0_Edgesp g0_Edgesn g0_Edgesc]⟩, .slice b1p b1n b1c]) H
theorem compasslaw19_ManySmall.of {g0_Nodes : Int} {g0_Edgesp : Option Addr} {g0_Edgesn : Nat} {g0_Edgesc : Nat} {b1p : Option Addr} {b1n : Nat} {b1c : Nat} {E : Value → Hp → Prop} {H : Hp} {K : Bool → Hp → Prop} (h : compasslaw19_ManySmall.run g0_Nodes g0_Edgesp g0_Edgesn g0_Edgesc b1p b1n b1c E H K) : compasslaw19_ManySmall.call g0_Nodes g0_Edgesp g0_Edgesn g0_Edgesc b1p b1n b1c E H K :=
  callW_of T0_ok P0_mixed (A := compasslaw19_ManySmall.A) (fn := Go.Proofs.Try.f4) Go.Proofs.Try.func4 rfl compasslaw19_ManySmall.ok rfl h
def compasslaw19_ManySmall.j1 (m5p : Option Addr) (m5n : Nat) (m5c : Nat) (e7 : Int)  (E : Value → Hp → Prop) (H : Hp) (K : Bool → Hp → Prop) : Prop := nodeM P0 T0 compasslaw19_ManySmall.A compasslaw19_ManySmall.code [1, 1, 1, 0, 1, 0] [] (compasslaw19_ManySmall.rq E K) [(5, .slice m5p m5n m5c), (7, .int .i64 e7)] H
theorem compasslaw19_ManySmall.nok : nodesOk compasslaw19_ManySmall.code [[0, 1, 0, 1, 1, 1]] = true := by kernel_rfl
def compasslaw19_ManySmall.run_t (j1 : (Option Addr) → Nat → Nat → Int → Hp → Prop) (g0_Nodes : Int) (g0_Edgesp : Option Addr) (g0_Edgesn : Nat) (g0_Edgesc : Nat) (b1p : Option Addr) (b1n : Nat) (b1c : Nat)  (E : Value → Hp → Prop) (H : Hp) (K : Bool → Hp → Prop) : Prop :=
  nw H ⟨[.int .i64 g0_Nodes, .slice g0_Edgesp g0_Edgesn g0_Edgesc], 24⟩ fun b_1 H_1 =>
  compasslaw19_awake.call  E H_1 fun r_1 H_2 =>
  bcase ((!r_1)) (
  K false H_2)
  (ldI .i64 (H_2.get b_1 0) fun x_1 =>
  ldS (H_2.get b_1 1) fun x_2p x_2n x_2c =>
  bmatch_Solve.call x_1 x_2p x_2n x_2c b1p b1n b1c E H_2 fun r_2p r_2n r_2c r_3p r_3n r_3c r_4 H_3 =>
  bcase (!decide ((r_4 : Int) = 0)) (
  j1 r_2p r_2n r_2c r_4 H_3)
  (ldS (H_3.get b_1 1) fun x_3p x_3n x_3c =>
  bcase (decide ((10 : Int) < (x_3n : Int))) (
  j1 r_2p r_2n r_2c r_4 H_3)
  (ldI .i64 (H_3.get b_1 0) fun x_4 =>
  ldS (H_3.get b_1 1) fun x_5p x_5n x_5c =>
  compassref19_Most.call x_4 x_5p x_5n x_5c b1p b1n b1c E H_3 fun r_5 H_4 =>
  K (decide (((r_2n : Int) : Int) = r_5)) H_4)))
theorem compasslaw19_ManySmall.run_eq {g0_Nodes : Int} {g0_Edgesp : Option Addr} {g0_Edgesn : Nat} {g0_Edgesc : Nat} {b1p : Option Addr} {b1n : Nat} {b1c : Nat} { E : Value → Hp → Prop} {H : Hp} {K : Bool → Hp → Prop} (h : compasslaw19_ManySmall.run_t (fun m5p m5n m5c e7 H => compasslaw19_ManySmall.j1 m5p m5n m5c e7  E H K) g0_Nodes g0_Edgesp g0_Edgesn g0_Edgesc b1p b1n b1c  E H K) : compasslaw19_ManySmall.run g0_Nodes g0_Edgesp g0_Edgesn g0_Edgesc b1p b1n b1c  E H K := by
  exact nodeR_imp2 (fun G => compasslaw19_ManySmall.run_t (fun m5p m5n m5c e7 H => G [0, 1, 0, 1, 1, 1] [(5, .slice m5p m5n m5c), (7, .int .i64 e7)] H) g0_Nodes g0_Edgesp g0_Edgesn g0_Edgesc b1p b1n b1c  E H K) compasslaw19_ManySmall.nok rfl (fun G => by kernel_rfl) (Eq.mp (by kernel_rfl) h)
def compasslaw19_ManySmall.j1_t  (m5p : Option Addr) (m5n : Nat) (m5c : Nat) (e7 : Int)  (E : Value → Hp → Prop) (H : Hp) (K : Bool → Hp → Prop) : Prop :=
  bcase (decide ((e7 : Int) = 0)) (
  K true H)
  (K (decide (((m5n : Int) : Int) = 0)) H)
theorem compasslaw19_ManySmall.j1_eq {m5p : Option Addr} {m5n : Nat} {m5c : Nat} {e7 : Int} { E : Value → Hp → Prop} {H : Hp} {K : Bool → Hp → Prop} (h : compasslaw19_ManySmall.j1_t  m5p m5n m5c e7  E H K) : compasslaw19_ManySmall.j1 m5p m5n m5c e7  E H K := by
  exact nodeR_imp2 (fun _ => compasslaw19_ManySmall.j1_t  m5p m5n m5c e7  E H K) compasslaw19_ManySmall.nok rfl (fun G => by kernel_rfl) h
end Go.Mz
