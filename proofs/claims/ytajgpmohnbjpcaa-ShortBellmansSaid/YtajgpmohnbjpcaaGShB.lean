/-
  The shallow texts of functions (ShB), each with a kernel-checked equation to the translated code. It proves nothing of the program by itself.
-/
import Derived.Test.YtajgpmohnbjpcaaTab
set_option linter.unusedVariables false
set_option maxRecDepth 100000
namespace Go.Mz
/-! ### compass/compasslaw08.ShortBellmans (8) -/
noncomputable def compasslaw08_ShortBellmans.A : An := { live := [(0, [0, 1]), (1, [1, 2]), (2, []), (3, [1, 2]), (4, [1, 2, 5, 6, 7]), (5, [1, 2, 5, 6, 7, 8, 9]), (6, []), (7, [1, 2, 5, 6, 8, 9]), (8, [1, 2, 5, 6, 8]), (9, [1, 2, 5, 6, 9]), (10, []), (11, [1, 2, 6, 9]), (12, [6]), (13, [1, 2, 6]), (14, [2, 6, 10])], ord := [(14, [0, 1, 2, 3, 4, 5, 6, 7, 8, 9, 10, 11, 12, 13, 14, 15, 16, 17])], stb := [], pre := [(14, [[], [], [0, 1], [0, 1, 2], [0, 1, 2, 3], [0, 1, 2, 3], [0, 1, 2, 3, 5], [0, 1, 2, 3], [0, 1, 2, 3, 7], [0, 1, 2, 3, 7, 8], [0, 1, 2, 3, 5, 6, 7, 8, 9], [0, 1, 2, 3, 5, 6, 7, 8, 9, 10], [0, 1, 2, 3, 5, 6, 7, 8, 9, 10, 11], [0, 1, 2, 3, 4, 5, 6, 7, 8, 9, 10, 11, 12], [0, 1, 2, 3, 4, 5, 6, 7, 8, 9, 10, 11, 12, 13], [0, 1, 2, 3, 4, 5, 6, 7, 8, 9, 10, 11, 12, 13, 14], [0, 1, 2, 3, 4, 5, 6, 7, 8, 9, 10, 11, 12, 13, 14, 15], [0, 1, 2, 3, 4, 5, 6, 7, 8, 9, 10, 11, 12, 13, 14, 15, 16]])] }
noncomputable def compasslaw08_ShortBellmans.code : Code := bodyOf Go.Proofs.Try.f8
theorem compasslaw08_ShortBellmans.ok : okCode compasslaw08_ShortBellmans.A 88 compasslaw08_ShortBellmans.code = true := by kernel_rfl
def compasslaw08_ShortBellmans.rq (E : Value → Hp → Prop) (K : Bool → Hp → Prop) : Ex → Fr → Hp → Prop := retQ T0 [.tmp 4] [4] (fun r H => ldR (.one false [.bool]) r fun u => K (asB u) H) E
def compasslaw08_ShortBellmans.run (g0_Nodes : Int) (g0_Edgesp : Option Addr) (g0_Edgesn : Nat) (g0_Edgesc : Nat) (s1 : Int) (E : Value → Hp → Prop) (H : Hp) (K : Bool → Hp → Prop) : Prop := nodeM P0 T0 compasslaw08_ShortBellmans.A compasslaw08_ShortBellmans.code [] [] (compasslaw08_ShortBellmans.rq E K) (argF 0 [.agg ⟨[.int .i64 g0_Nodes, .slice g0_Edgesp g0_Edgesn g0_Edgesc]⟩, .int .i64 s1]) H
theorem compasslaw08_ShortBellmans.of {g0_Nodes : Int} {g0_Edgesp : Option Addr} {g0_Edgesn : Nat} {g0_Edgesc : Nat} {s1 : Int} {E : Value → Hp → Prop} {H : Hp} {K : Bool → Hp → Prop} (h : compasslaw08_ShortBellmans.run g0_Nodes g0_Edgesp g0_Edgesn g0_Edgesc s1 E H K) : compasslaw08_ShortBellmans.call g0_Nodes g0_Edgesp g0_Edgesn g0_Edgesc s1 E H K :=
  callW_of T0_ok P0_mixed (A := compasslaw08_ShortBellmans.A) (fn := Go.Proofs.Try.f8) Go.Proofs.Try.func8 rfl compasslaw08_ShortBellmans.ok rfl h
theorem compasslaw08_ShortBellmans.nok : nodesOk compasslaw08_ShortBellmans.code [] = true := by kernel_rfl
def compasslaw08_ShortBellmans.run_t  (g0_Nodes : Int) (g0_Edgesp : Option Addr) (g0_Edgesn : Nat) (g0_Edgesc : Nat) (s1 : Int)  (E : Value → Hp → Prop) (H : Hp) (K : Bool → Hp → Prop) : Prop :=
  nw H ⟨[.int .i64 g0_Nodes, .slice g0_Edgesp g0_Edgesn g0_Edgesc], 51⟩ fun b_1 H_1 =>
  compasslaw08_awake.call  E H_1 fun r_1 H_2 =>
  bcase ((!r_1)) (
  K false H_2)
  (ldI .i64 (H_2.get b_1 0) fun x_1 =>
  ldS (H_2.get b_1 1) fun x_2p x_2n x_2c =>
  short_Bellman.call x_1 x_2p x_2n x_2c s1 E H_2 fun r_2_Distp r_2_Distn r_2_Distc r_2_Viap r_2_Vian r_2_Viac r_3p r_3n r_3c r_4 H_3 =>
  nw H_3 ⟨[.slice none 0 0, .slice none 0 0], 54⟩ fun b_2 H_4 =>
  stC H_4 b_2 0 [.slice r_2_Distp r_2_Distn r_2_Distc, .slice r_2_Viap r_2_Vian r_2_Viac] fun H_5 =>
  ldI .i64 (H_5.get b_1 0) fun x_3 =>
  ldS (H_5.get b_1 1) fun x_4p x_4n x_4c =>
  compassref08_Dist.call x_3 x_4p x_4n x_4c s1 E H_5 fun r_5p r_5n r_5c r_6 H_6 =>
  bcase (!decide ((r_4 : Int) = r_6)) (
  K false H_6)
  (bcase (decide ((r_6 : Int) = 0)) (
  ldS (H_6.get b_2 0) fun x_5p x_5n x_5c =>
  compasslaw08_longs.call x_5p x_5n x_5c r_5p r_5n r_5c E H_6 fun r_7 H_7 =>
  bcase (r_7) (
  ldI .i64 (H_7.get b_1 0) fun x_6 =>
  ldS (H_7.get b_1 1) fun x_7p x_7n x_7c =>
  ldS (H_7.get b_2 0) fun x_8p x_8n x_8c =>
  ldS (H_7.get b_2 1) fun x_9p x_9n x_9c =>
  compassref08_Tree.call x_6 x_7p x_7n x_7c s1 x_8p x_8n x_8c x_9p x_9n x_9c E H_7 fun r_8 H_8 =>
  bcase (r_8) (
  K (decide (((r_3n : Int) : Int) = 0)) H_8)
  (K false H_8))
  (K false H_7))
  (ldS (H_6.get b_2 0) fun x_10p x_10n x_10c =>
  bcase (!decide (((x_10n : Int) : Int) = 0)) (
  K false H_6)
  (ldS (H_6.get b_2 1) fun x_11p x_11n x_11c =>
  bcase (!decide (((x_11n : Int) : Int) = 0)) (
  K false H_6)
  (bcase (!decide ((r_6 : Int) = 80)) (
  K (decide (((r_3n : Int) : Int) = 0)) H_6)
  (ldI .i64 (H_6.get b_1 0) fun x_12 =>
  ldS (H_6.get b_1 1) fun x_13p x_13n x_13c =>
  compassref04_Levels.call x_12 x_13p x_13n x_13c s1 E H_6 fun r_9p r_9n r_9c r_10 H_9 =>
  ldI .i64 (H_9.get b_1 0) fun x_14 =>
  ldS (H_9.get b_1 1) fun x_15p x_15n x_15c =>
  compasslaw08_below.call x_14 x_15p x_15n x_15c r_3p r_3n r_3c E H_9 fun r_11 H_10 =>
  bcase (r_11) (
  ldS (H_10.get b_1 1) fun x_16p x_16n x_16c =>
  ix r_3p r_3n 0 1 fun b_3 o_1 =>
  ldI .i64 (H_10.get b_3 o_1) fun x_17 =>
  ix x_16p x_16n x_17 4 fun b_4 o_2 =>
  ldI .i64 (H_10.get b_4 o_2) fun x_18 =>
  ix r_9p r_9n x_18 1 fun b_5 o_3 =>
  ldI .i64 (H_10.get b_5 o_3) fun x_19 =>
  K (decide ((0 : Int) ≤ x_19)) H_10)
  (K false H_10)))))))
theorem compasslaw08_ShortBellmans.run_eq {g0_Nodes : Int} {g0_Edgesp : Option Addr} {g0_Edgesn : Nat} {g0_Edgesc : Nat} {s1 : Int} { E : Value → Hp → Prop} {H : Hp} {K : Bool → Hp → Prop} (h : compasslaw08_ShortBellmans.run_t  g0_Nodes g0_Edgesp g0_Edgesn g0_Edgesc s1  E H K) : compasslaw08_ShortBellmans.run g0_Nodes g0_Edgesp g0_Edgesn g0_Edgesc s1  E H K := by
  have k1 : ∀ G : List Nat → Fr → Hp → Prop, nodeR P0 T0 compasslaw08_ShortBellmans.A [] G compasslaw08_ShortBellmans.code [] [] (compasslaw08_ShortBellmans.rq E K) (argF 0 [.agg ⟨[.int .i64 g0_Nodes, .slice g0_Edgesp g0_Edgesn g0_Edgesc]⟩, .int .i64 s1]) H = compasslaw08_ShortBellmans.run_t  g0_Nodes g0_Edgesp g0_Edgesn g0_Edgesc s1  E H K := fun G => by kernel_rfl
  exact nodeR_imp compasslaw08_ShortBellmans.nok rfl ((k1 _).mpr h)
end Go.Mz
