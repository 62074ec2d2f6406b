/-
  The shallow texts of functions (ShP), each with a kernel-checked equation to the translated code. It proves nothing of the program by itself.
-/
import Derived.Test.YtajgpmohnbjpcaaTab
set_option linter.unusedVariables false
set_option maxRecDepth 100000
namespace Go.Mz
/-! ### compass/compasslaw08.ShortPotentials (11) -/
noncomputable def compasslaw08_ShortPotentials.A : An := { live := [(0, [0]), (1, [1]), (2, []), (3, [1]), (4, [1, 3, 4, 5]), (5, [1, 3, 4, 5, 6, 7]), (6, []), (7, [1, 4, 7]), (8, [1, 4]), (9, [4])], ord := [], stb := [], pre := [] }
noncomputable def compasslaw08_ShortPotentials.code : Code := bodyOf Go.Proofs.Try.f11
theorem compasslaw08_ShortPotentials.ok : okCode compasslaw08_ShortPotentials.A 38 compasslaw08_ShortPotentials.code = true := by kernel_rfl
def compasslaw08_ShortPotentials.rq (E : Value → Hp → Prop) (K : Bool → Hp → Prop) : Ex → Fr → Hp → Prop := retQ T0 [.tmp 2] [4] (fun r H => ldR (.one false [.bool]) r fun u => K (asB u) H) E
def compasslaw08_ShortPotentials.run (g0_Nodes : Int) (g0_Edgesp : Option Addr) (g0_Edgesn : Nat) (g0_Edgesc : Nat) (E : Value → Hp → Prop) (H : Hp) (K : Bool → Hp → Prop) : Prop := nodeM P0 T0 compasslaw08_ShortPotentials.A compasslaw08_ShortPotentials.code [] [] (compasslaw08_ShortPotentials.rq E K) (argF 0 [.agg ⟨[.int .i64 g0_Nodes, .slice g0_Edgesp g0_Edgesn g0_Edgesc]⟩]) H
theorem compasslaw08_ShortPotentials.of {g0_Nodes : Int} {g0_Edgesp : Option Addr} {g0_Edgesn : Nat} {g0_Edgesc : Nat} {E : Value → Hp → Prop} {H : Hp} {K : Bool → Hp → Prop} (h : compasslaw08_ShortPotentials.run g0_Nodes g0_Edgesp g0_Edgesn g0_Edgesc E H K) : compasslaw08_ShortPotentials.call g0_Nodes g0_Edgesp g0_Edgesn g0_Edgesc E H K :=
  callW_of T0_ok P0_mixed (A := compasslaw08_ShortPotentials.A) (fn := Go.Proofs.Try.f11) Go.Proofs.Try.func11 rfl compasslaw08_ShortPotentials.ok rfl h
theorem compasslaw08_ShortPotentials.nok : nodesOk compasslaw08_ShortPotentials.code [] = true := by kernel_rfl
def compasslaw08_ShortPotentials.run_t  (g0_Nodes : Int) (g0_Edgesp : Option Addr) (g0_Edgesn : Nat) (g0_Edgesc : Nat)  (E : Value → Hp → Prop) (H : Hp) (K : Bool → Hp → Prop) : Prop :=
  nw H ⟨[.int .i64 g0_Nodes, .slice g0_Edgesp g0_Edgesn g0_Edgesc], 51⟩ fun b_1 H_1 =>
  compasslaw08_awake.call  E H_1 fun r_1 H_2 =>
  bcase ((!r_1)) (
  K false H_2)
  (ldI .i64 (H_2.get b_1 0) fun x_1 =>
  ldS (H_2.get b_1 1) fun x_2p x_2n x_2c =>
  short_Potentials.call x_1 x_2p x_2n x_2c E H_2 fun r_2p r_2n r_2c r_3p r_3n r_3c r_4 H_3 =>
  ldI .i64 (H_3.get b_1 0) fun x_3 =>
  ldS (H_3.get b_1 1) fun x_4p x_4n x_4c =>
  compassref08_Potentials.call x_3 x_4p x_4n x_4c E H_3 fun r_5p r_5n r_5c r_6 H_4 =>
  bcase (!decide ((r_4 : Int) = r_6)) (
  K false H_4)
  (compasslaw08_longs.call r_2p r_2n r_2c r_5p r_5n r_5c E H_4 fun r_7 H_5 =>
  bcase ((!r_7)) (
  K false H_5)
  (bcase (decide ((r_6 : Int) = 80)) (
  ldI .i64 (H_5.get b_1 0) fun x_5 =>
  ldS (H_5.get b_1 1) fun x_6p x_6n x_6c =>
  compasslaw08_below.call x_5 x_6p x_6n x_6c r_3p r_3n r_3c E H_5 fun r_8 H_6 =>
  K r_8 H_6)
  (K (decide (((r_3n : Int) : Int) = 0)) H_5))))
theorem compasslaw08_ShortPotentials.run_eq {g0_Nodes : Int} {g0_Edgesp : Option Addr} {g0_Edgesn : Nat} {g0_Edgesc : Nat} { E : Value → Hp → Prop} {H : Hp} {K : Bool → Hp → Prop} (h : compasslaw08_ShortPotentials.run_t  g0_Nodes g0_Edgesp g0_Edgesn g0_Edgesc  E H K) : compasslaw08_ShortPotentials.run g0_Nodes g0_Edgesp g0_Edgesn g0_Edgesc  E H K := by
  have k1 : ∀ G : List Nat → Fr → Hp → Prop, nodeR P0 T0 compasslaw08_ShortPotentials.A [] G compasslaw08_ShortPotentials.code [] [] (compasslaw08_ShortPotentials.rq E K) (argF 0 [.agg ⟨[.int .i64 g0_Nodes, .slice g0_Edgesp g0_Edgesn g0_Edgesc]⟩]) H = compasslaw08_ShortPotentials.run_t  g0_Nodes g0_Edgesp g0_Edgesn g0_Edgesc  E H K := fun G => by kernel_rfl
  exact nodeR_imp compasslaw08_ShortPotentials.nok rfl ((k1 _).mpr h)
end Go.Mz
