/-
  The shallow texts of functions (ShT), each with a kernel-checked equation to the translated code. It proves nothing of the program by itself.
-/
import Derived.Test.YtajgpmohnbjpcaaTab
set_option linter.unusedVariables false
set_option maxRecDepth 100000
namespace Go.Mz
/-! ### compass/compasslaw08.ShortTrees (7) -/
noncomputable def compasslaw08_ShortTrees.A : An := { live := [(0, [0, 1, 2]), (1, [1, 2, 3]), (2, []), (3, [1, 2, 3]), (4, [1, 2, 3, 7, 8]), (5, [1, 3, 7, 8, 9]), (6, [7, 8, 9]), (7, [1, 3, 7, 8]), (8, [1, 3, 7, 8, 10])], ord := [], stb := [], pre := [] }
noncomputable def compasslaw08_ShortTrees.code : Code := bodyOf Go.Proofs.Try.f7
theorem compasslaw08_ShortTrees.ok : okCode compasslaw08_ShortTrees.A 65 compasslaw08_ShortTrees.code = true := by kernel_rfl
def compasslaw08_ShortTrees.rq (E : Value → Hp → Prop) (K : Bool → Hp → Prop) : Ex → Fr → Hp → Prop := retQ T0 [.tmp 6] [4] (fun r H => ldR (.one false [.bool]) r fun u => K (asB u) H) E
def compasslaw08_ShortTrees.run (g0_Nodes : Int) (g0_Edgesp : Option Addr) (g0_Edgesn : Nat) (g0_Edgesc : Nat) (s1 : Int) (kind2 : Int) (E : Value → Hp → Prop) (H : Hp) (K : Bool → Hp → Prop) : Prop := nodeM P0 T0 compasslaw08_ShortTrees.A compasslaw08_ShortTrees.code [] [] (compasslaw08_ShortTrees.rq E K) (argF 0 [.agg ⟨[.int .i64 g0_Nodes, .slice g0_Edgesp g0_Edgesn g0_Edgesc]⟩, .int .i64 s1, .int .i64 kind2]) H
theorem compasslaw08_ShortTrees.of {g0_Nodes : Int} {g0_Edgesp : Option Addr} {g0_Edgesn : Nat} {g0_Edgesc : Nat} {s1 : Int} {kind2 : Int} {E : Value → Hp → Prop} {H : Hp} {K : Bool → Hp → Prop} (h : compasslaw08_ShortTrees.run g0_Nodes g0_Edgesp g0_Edgesn g0_Edgesc s1 kind2 E H K) : compasslaw08_ShortTrees.call g0_Nodes g0_Edgesp g0_Edgesn g0_Edgesc s1 kind2 E H K :=
  callW_of T0_ok P0_mixed (A := compasslaw08_ShortTrees.A) (fn := Go.Proofs.Try.f7) Go.Proofs.Try.func7 rfl compasslaw08_ShortTrees.ok rfl h
theorem compasslaw08_ShortTrees.nok : nodesOk compasslaw08_ShortTrees.code [] = true := by kernel_rfl
def compasslaw08_ShortTrees.run_t  (g0_Nodes : Int) (g0_Edgesp : Option Addr) (g0_Edgesn : Nat) (g0_Edgesc : Nat) (s1 : Int) (kind2 : Int)  (E : Value → Hp → Prop) (H : Hp) (K : Bool → Hp → Prop) : Prop :=
  nw H ⟨[.int .i64 g0_Nodes, .slice g0_Edgesp g0_Edgesn g0_Edgesc], 51⟩ fun b_1 H_1 =>
  compasslaw08_awake.call  E H_1 fun r_1 H_2 =>
  bcase ((!r_1)) (
  K false H_2)
  (ldI .i64 (H_2.get b_1 0) fun x_1 =>
  ldS (H_2.get b_1 1) fun x_2p x_2n x_2c =>
  short_Dijkstra.call x_1 x_2p x_2n x_2c s1 kind2 E H_2 fun r_2_Distp r_2_Distn r_2_Distc r_2_Viap r_2_Vian r_2_Viac r_3 H_3 =>
  nw H_3 ⟨[.slice none 0 0, .slice none 0 0], 54⟩ fun b_2 H_4 =>
  stC H_4 b_2 0 [.slice r_2_Distp r_2_Distn r_2_Distc, .slice r_2_Viap r_2_Vian r_2_Viac] fun H_5 =>
  ldI .i64 (H_5.get b_1 0) fun x_3 =>
  ldS (H_5.get b_1 1) fun x_4p x_4n x_4c =>
  compassref08_Dijkstra.call x_3 x_4p x_4n x_4c s1 kind2 E H_5 fun r_4 H_6 =>
  bcase (!decide ((r_4 : Int) = 0)) (
  bcase (decide ((r_3 : Int) = r_4)) (
  ldS (H_6.get b_2 0) fun x_5p x_5n x_5c =>
  bcase (decide (((x_5n : Int) : Int) = 0)) (
  ldS (H_6.get b_2 1) fun x_6p x_6n x_6c =>
  K (decide (((x_6n : Int) : Int) = 0)) H_6)
  (K false H_6))
  (K false H_6))
  (ldI .i64 (H_6.get b_1 0) fun x_7 =>
  ldS (H_6.get b_1 1) fun x_8p x_8n x_8c =>
  compassref08_Dist.call x_7 x_8p x_8n x_8c s1 E H_6 fun r_5p r_5n r_5c r_6 H_7 =>
  bcase (decide ((r_3 : Int) = 0)) (
  ldS (H_7.get b_2 0) fun x_9p x_9n x_9c =>
  compasslaw08_longs.call x_9p x_9n x_9c r_5p r_5n r_5c E H_7 fun r_7 H_8 =>
  bcase (r_7) (
  ldI .i64 (H_8.get b_1 0) fun x_10 =>
  ldS (H_8.get b_1 1) fun x_11p x_11n x_11c =>
  ldS (H_8.get b_2 0) fun x_12p x_12n x_12c =>
  ldS (H_8.get b_2 1) fun x_13p x_13n x_13c =>
  compassref08_Tree.call x_10 x_11p x_11n x_11c s1 x_12p x_12n x_12c x_13p x_13n x_13c E H_8 fun r_8 H_9 =>
  K r_8 H_9)
  (K false H_8))
  (K false H_7)))
theorem compasslaw08_ShortTrees.run_eq {g0_Nodes : Int} {g0_Edgesp : Option Addr} {g0_Edgesn : Nat} {g0_Edgesc : Nat} {s1 : Int} {kind2 : Int} { E : Value → Hp → Prop} {H : Hp} {K : Bool → Hp → Prop} (h : compasslaw08_ShortTrees.run_t  g0_Nodes g0_Edgesp g0_Edgesn g0_Edgesc s1 kind2  E H K) : compasslaw08_ShortTrees.run g0_Nodes g0_Edgesp g0_Edgesn g0_Edgesc s1 kind2  E H K := by
  have k1 : ∀ G : List Nat → Fr → Hp → Prop, nodeR P0 T0 compasslaw08_ShortTrees.A [] G compasslaw08_ShortTrees.code [] [] (compasslaw08_ShortTrees.rq E K) (argF 0 [.agg ⟨[.int .i64 g0_Nodes, .slice g0_Edgesp g0_Edgesn g0_Edgesc]⟩, .int .i64 s1, .int .i64 kind2]) H = compasslaw08_ShortTrees.run_t  g0_Nodes g0_Edgesp g0_Edgesn g0_Edgesc s1 kind2  E H K := fun G => by kernel_rfl
  exact nodeR_imp compasslaw08_ShortTrees.nok rfl ((k1 _).mpr h)
end Go.Mz
