/-
  The shallow texts of functions (LBM), each with a kernel-checked equation to the translated code. It proves nothing of the program by itself.
-/
import Derived.Test.YtmaeboaopebaiaaTab
set_option linter.unusedVariables false
set_option maxRecDepth 100000
namespace Go.Mz
/-! ### compass/compasslaw17.BlossomSmall (4) -/
noncomputable def compasslaw17_BlossomSmall.A : An := { live := [(0, [0]), (1, [1]), (2, []), (3, [1]), (4, [1, 3, 4, 5]), (5, [3, 5]), (6, [1, 3, 4])], ord := [], stb := [], pre := [] }
noncomputable def compasslaw17_BlossomSmall.code : Code := bodyOf Go.Proofs.Try.f4
theorem compasslaw17_BlossomSmall.ok : okCode compasslaw17_BlossomSmall.A 46 compasslaw17_BlossomSmall.code = true := by kernel_rfl
def compasslaw17_BlossomSmall.rq (E : Value → Hp → Prop) (K : Bool → Hp → Prop) : Ex → Fr → Hp → Prop := retQ T0 [.tmp 2] [4] (fun r H => ldR (.one false [.bool]) r fun u => K (asB u) H) E
def compasslaw17_BlossomSmall.run (g0_Nodes : Int) (g0_Edgesp : Option Addr) (g0_Edgesn : Nat) (g0_Edgesc : Nat) (E : Value → Hp → Prop) (H : Hp) (K : Bool → Hp → Prop) : Prop := nodeM P0 T0 compasslaw17_BlossomSmall.A compasslaw17_BlossomSmall.code [] [] (compasslaw17_BlossomSmall.rq E K) (argF 0 [.agg ⟨[.int .i64 g0_Nodes, .slice g0_Edgesp g0_Edgesn g0_Edgesc]⟩]) H
theorem compasslaw17_BlossomSmall.of {g0_Nodes : Int} {g0_Edgesp : Option Addr} {g0_Edgesn : Nat} {g0_Edgesc : Nat} {E : Value → Hp → Prop} {H : Hp} {K : Bool → Hp → Prop} (h : compasslaw17_BlossomSmall.run g0_Nodes g0_Edgesp g0_Edgesn g0_Edgesc E H K) : compasslaw17_BlossomSmall.call g0_Nodes g0_Edgesp g0_Edgesn g0_Edgesc E H K :=
  callW_of T0_ok P0_mixed (A := compasslaw17_BlossomSmall.A) (fn := Go.Proofs.Try.f4) Go.Proofs.Try.func4 rfl compasslaw17_BlossomSmall.ok rfl h
def compasslaw17_BlossomSmall.j1 (m3p : Option Addr) (m3n : Nat) (m3c : Nat) (e5 : Int)  (E : Value → Hp → Prop) (H : Hp) (K : Bool → Hp → Prop) : Prop := nodeM P0 T0 compasslaw17_BlossomSmall.A compasslaw17_BlossomSmall.code [1, 1, 1, 0, 1, 0] [] (compasslaw17_BlossomSmall.rq E K) [(3, .slice m3p m3n m3c), (5, .int .i64 e5)] H
theorem compasslaw17_BlossomSmall.nok : nodesOk compasslaw17_BlossomSmall.code [[0, 1, 0, 1, 1, 1]] = true := by kernel_rfl
def compasslaw17_BlossomSmall.run_t (j1 : (Option Addr) → Nat → Nat → Int → Hp → Prop) (g0_Nodes : Int) (g0_Edgesp : Option Addr) (g0_Edgesn : Nat) (g0_Edgesc : Nat)  (E : Value → Hp → Prop) (H : Hp) (K : Bool → Hp → Prop) : Prop :=
  nw H ⟨[.int .i64 g0_Nodes, .slice g0_Edgesp g0_Edgesn g0_Edgesc], 24⟩ fun b_1 H_1 =>
  compasslaw17_awake.call  E H_1 fun r_1 H_2 =>
  bcase ((!r_1)) (
  K false H_2)
  (ldI .i64 (H_2.get b_1 0) fun x_1 =>
  ldS (H_2.get b_1 1) fun x_2p x_2n x_2c =>
  blossom_Solve.call x_1 x_2p x_2n x_2c E H_2 fun r_2p r_2n r_2c r_3p r_3n r_3c r_4 H_3 =>
  bcase (!decide ((r_4 : Int) = 0)) (
  j1 r_2p r_2n r_2c r_4 H_3)
  (ldI .i64 (H_3.get b_1 0) fun x_3 =>
  bcase (decide ((8 : Int) < x_3)) (
  j1 r_2p r_2n r_2c r_4 H_3)
  (ldS (H_3.get b_1 1) fun x_4p x_4n x_4c =>
  bcase (decide ((11 : Int) < (x_4n : Int))) (
  j1 r_2p r_2n r_2c r_4 H_3)
  (ldI .i64 (H_3.get b_1 0) fun x_5 =>
  ldS (H_3.get b_1 1) fun x_6p x_6n x_6c =>
  compassref12_Most.call x_5 x_6p x_6n x_6c E H_3 fun r_5p r_5n r_5c H_4 =>
  bcase (decide (((r_2n : Int) : Int) = (r_5n : Int))) (
  ldI .i64 (H_4.get b_1 0) fun x_7 =>
  ldS (H_4.get b_1 1) fun x_8p x_8n x_8c =>
  compassref17_Set.call x_7 x_8p x_8n x_8c E H_4 fun r_6p r_6n r_6c H_5 =>
  compasslaw17_ints.call r_3p r_3n r_3c r_6p r_6n r_6c E H_5 fun r_7 H_6 =>
  K r_7 H_6)
  (K false H_4)))))
theorem compasslaw17_BlossomSmall.run_eq {g0_Nodes : Int} {g0_Edgesp : Option Addr} {g0_Edgesn : Nat} {g0_Edgesc : Nat} { E : Value → Hp → Prop} {H : Hp} {K : Bool → Hp → Prop} (h : compasslaw17_BlossomSmall.run_t (fun m3p m3n m3c e5 H => compasslaw17_BlossomSmall.j1 m3p m3n m3c e5  E H K) g0_Nodes g0_Edgesp g0_Edgesn g0_Edgesc  E H K) : compasslaw17_BlossomSmall.run g0_Nodes g0_Edgesp g0_Edgesn g0_Edgesc  E H K := by
  have k1 : ∀ G : List Nat → Fr → Hp → Prop, nodeR P0 T0 compasslaw17_BlossomSmall.A [[0, 1, 0, 1, 1, 1]] G compasslaw17_BlossomSmall.code [] [] (compasslaw17_BlossomSmall.rq E K) (argF 0 [.agg ⟨[.int .i64 g0_Nodes, .slice g0_Edgesp g0_Edgesn g0_Edgesc]⟩]) H = compasslaw17_BlossomSmall.run_t (fun m3p m3n m3c e5 H => G [0, 1, 0, 1, 1, 1] [(3, .slice m3p m3n m3c), (5, .int .i64 e5)] H) g0_Nodes g0_Edgesp g0_Edgesn g0_Edgesc  E H K := fun G => by kernel_rfl
  have k2 : compasslaw17_BlossomSmall.run_t (fun m3p m3n m3c e5 H => compasslaw17_BlossomSmall.j1 m3p m3n m3c e5  E H K) g0_Nodes g0_Edgesp g0_Edgesn g0_Edgesc  E H K = compasslaw17_BlossomSmall.run_t (fun m3p m3n m3c e5 H => (fun q F H => nodeM P0 T0 compasslaw17_BlossomSmall.A compasslaw17_BlossomSmall.code q.reverse [] (compasslaw17_BlossomSmall.rq E K) F H) [0, 1, 0, 1, 1, 1] [(3, .slice m3p m3n m3c), (5, .int .i64 e5)] H) g0_Nodes g0_Edgesp g0_Edgesn g0_Edgesc  E H K := by kernel_rfl
  exact nodeR_imp compasslaw17_BlossomSmall.nok rfl ((k1 _).mpr (k2.mp h))
def compasslaw17_BlossomSmall.j1_t  (m3p : Option Addr) (m3n : Nat) (m3c : Nat) (e5 : Int)  (E : Value → Hp → Prop) (H : Hp) (K : Bool → Hp → Prop) : Prop :=
  bcase (decide ((e5 : Int) = 0)) (
  K true H)
  (K (decide (((m3n : Int) : Int) = 0)) H)
theorem compasslaw17_BlossomSmall.j1_eq {m3p : Option Addr} {m3n : Nat} {m3c : Nat} {e5 : Int} { E : Value → Hp → Prop} {H : Hp} {K : Bool → Hp → Prop} (h : compasslaw17_BlossomSmall.j1_t  m3p m3n m3c e5  E H K) : compasslaw17_BlossomSmall.j1 m3p m3n m3c e5  E H K := by
  have k1 : ∀ G : List Nat → Fr → Hp → Prop, nodeR P0 T0 compasslaw17_BlossomSmall.A [[0, 1, 0, 1, 1, 1]] G compasslaw17_BlossomSmall.code [1, 1, 1, 0, 1, 0] [] (compasslaw17_BlossomSmall.rq E K) [(3, .slice m3p m3n m3c), (5, .int .i64 e5)] H = compasslaw17_BlossomSmall.j1_t  m3p m3n m3c e5  E H K := fun G => by kernel_rfl
  exact nodeR_imp compasslaw17_BlossomSmall.nok rfl ((k1 _).mpr h)
end Go.Mz
