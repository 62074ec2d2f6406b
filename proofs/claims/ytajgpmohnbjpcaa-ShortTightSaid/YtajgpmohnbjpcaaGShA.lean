/-
  The shallow texts of functions (ShA), each with a kernel-checked equation to the translated code. It proves nothing of the program by itself.
-/
import Derived.Test.YtajgpmohnbjpcaaTab
set_option linter.unusedVariables false
set_option maxRecDepth 100000
namespace Go.Mz
/-! ### compass/compasslaw08.awake (25) -/
noncomputable def compasslaw08_awake.A : An := { live := [(0, []), (1, []), (2, [1]), (3, [1, 2, 3]), (4, [2, 3, 4, 5, 6])], ord := [], stb := [], pre := [] }
noncomputable def compasslaw08_awake.code : Code := bodyOf Go.Proofs.Try.f25
theorem compasslaw08_awake.ok : okCode compasslaw08_awake.A 65 compasslaw08_awake.code = true := by kernel_rfl
def compasslaw08_awake.rq (E : Value → Hp → Prop) (K : Bool → Hp → Prop) : Ex → Fr → Hp → Prop := retQ T0 [.tmp 0] [4] (fun r H => ldR (.one false [.bool]) r fun u => K (asB u) H) E
def compasslaw08_awake.run  (E : Value → Hp → Prop) (H : Hp) (K : Bool → Hp → Prop) : Prop := nodeM P0 T0 compasslaw08_awake.A compasslaw08_awake.code [] [] (compasslaw08_awake.rq E K) (argF 0 []) H
theorem compasslaw08_awake.of {E : Value → Hp → Prop} {H : Hp} {K : Bool → Hp → Prop} (h : compasslaw08_awake.run E H K) : compasslaw08_awake.call E H K :=
  callW_of T0_ok P0_mixed (A := compasslaw08_awake.A) (fn := Go.Proofs.Try.f25) Go.Proofs.Try.func25 rfl compasslaw08_awake.ok rfl h
theorem compasslaw08_awake.nok : nodesOk compasslaw08_awake.code [] = true := by kernel_rfl
def compasslaw08_awake.run_t    (E : Value → Hp → Prop) (H : Hp) (K : Bool → Hp → Prop) : Prop :=
  nw H ⟨[.int .i64 0, .int .i64 2, .int .i64 0, .int .i64 9, .int .i64 0, .int .i64 1, .int .i64 0, .int .i64 2, .int .i64 1, .int .i64 2, .int .i64 0, .int .i64 3], 69⟩ fun b_1 H_1 =>
  nw H_1 ⟨[.int .i64 0, .slice none 0 0], 51⟩ fun b_2 H_2 =>
  stC H_2 b_2 0 [.int .i64 3, .slice (some ⟨b_1, 0, none⟩) 3 3] fun H_3 =>
  ldI .i64 (H_3.get b_2 0) fun x_1 =>
  ldS (H_3.get b_2 1) fun x_2p x_2n x_2c =>
  short_Dijkstra.call x_1 x_2p x_2n x_2c 0 1 E H_3 fun r_1_Distp r_1_Distn r_1_Distc r_1_Viap r_1_Vian r_1_Viac r_2 H_4 =>
  nw H_4 ⟨[.slice none 0 0, .slice none 0 0], 54⟩ fun b_3 H_5 =>
  stC H_5 b_3 0 [.slice r_1_Distp r_1_Distn r_1_Distc, .slice r_1_Viap r_1_Vian r_1_Viac] fun H_6 =>
  ldI .i64 (H_6.get b_2 0) fun x_3 =>
  ldS (H_6.get b_2 1) fun x_4p x_4n x_4c =>
  short_Way.call x_3 x_4p x_4n x_4c 0 2 E H_6 fun r_3p r_3n r_3c r_4 r_5 H_7 =>
  bcase (decide ((r_2 : Int) = 0)) (
  bcase (decide ((r_5 : Int) = 0)) (
  ldS (H_7.get b_3 0) fun x_5p x_5n x_5c =>
  bcase (decide (((x_5n : Int) : Int) = 3)) (
  ldS (H_7.get b_3 0) fun x_6p x_6n x_6c =>
  ix x_6p x_6n 2 1 fun b_4 o_1 =>
  ldI .i64 (H_7.get b_4 o_1) fun x_7 =>
  bcase (decide ((x_7 : Int) = 5)) (
  bcase (decide (((r_3n : Int) : Int) = 2)) (
  ix r_3p r_3n 0 1 fun b_5 o_2 =>
  ldI .i64 (H_7.get b_5 o_2) fun x_8 =>
  bcase (decide ((x_8 : Int) = 1)) (
  ix r_3p r_3n 1 1 fun b_6 o_3 =>
  ldI .i64 (H_7.get b_6 o_3) fun x_9 =>
  bcase (decide ((x_9 : Int) = 2)) (
  bcase (decide ((r_4 : Int) = 5)) (
  K true H_7)
  (K false H_7))
  (K false H_7))
  (K false H_7))
  (K false H_7))
  (K false H_7))
  (K false H_7))
  (K false H_7))
  (K false H_7)
theorem compasslaw08_awake.run_eq { E : Value → Hp → Prop} {H : Hp} {K : Bool → Hp → Prop} (h : compasslaw08_awake.run_t    E H K) : compasslaw08_awake.run   E H K := by
  have k1 : ∀ G : List Nat → Fr → Hp → Prop, nodeR P0 T0 compasslaw08_awake.A [] G compasslaw08_awake.code [] [] (compasslaw08_awake.rq E K) (argF 0 []) H = compasslaw08_awake.run_t    E H K := fun G => by kernel_rfl
  exact nodeR_imp compasslaw08_awake.nok rfl ((k1 _).mpr h)
/-! ### compass/compasslaw08.longs (29) -/
/-! ### compass/compasslaw08.below (33) -/
noncomputable def compasslaw08_below.A : An := { live := [(0, [0, 1]), (1, [1, 2])], ord := [], stb := [], pre := [] }
noncomputable def compasslaw08_below.code : Code := bodyOf Go.Proofs.Try.f33
theorem compasslaw08_below.ok : okCode compasslaw08_below.A 14 compasslaw08_below.code = true := by kernel_rfl
def compasslaw08_below.rq (E : Value → Hp → Prop) (K : Bool → Hp → Prop) : Ex → Fr → Hp → Prop := retQ T0 [.tmp 4] [4] (fun r H => ldR (.one false [.bool]) r fun u => K (asB u) H) E
def compasslaw08_below.run (g0_Nodes : Int) (g0_Edgesp : Option Addr) (g0_Edgesn : Nat) (g0_Edgesc : Nat) (circle1p : Option Addr) (circle1n : Nat) (circle1c : Nat) (E : Value → Hp → Prop) (H : Hp) (K : Bool → Hp → Prop) : Prop := nodeM P0 T0 compasslaw08_below.A compasslaw08_below.code [] [] (compasslaw08_below.rq E K) (argF 0 [.agg ⟨[.int .i64 g0_Nodes, .slice g0_Edgesp g0_Edgesn g0_Edgesc]⟩, .slice circle1p circle1n circle1c]) H
theorem compasslaw08_below.of {g0_Nodes : Int} {g0_Edgesp : Option Addr} {g0_Edgesn : Nat} {g0_Edgesc : Nat} {circle1p : Option Addr} {circle1n : Nat} {circle1c : Nat} {E : Value → Hp → Prop} {H : Hp} {K : Bool → Hp → Prop} (h : compasslaw08_below.run g0_Nodes g0_Edgesp g0_Edgesn g0_Edgesc circle1p circle1n circle1c E H K) : compasslaw08_below.call g0_Nodes g0_Edgesp g0_Edgesn g0_Edgesc circle1p circle1n circle1c E H K :=
  callW_of T0_ok P0_mixed (A := compasslaw08_below.A) (fn := Go.Proofs.Try.f33) Go.Proofs.Try.func33 rfl compasslaw08_below.ok rfl h
theorem compasslaw08_below.nok : nodesOk compasslaw08_below.code [] = true := by kernel_rfl
def compasslaw08_below.run_t  (g0_Nodes : Int) (g0_Edgesp : Option Addr) (g0_Edgesn : Nat) (g0_Edgesc : Nat) (circle1p : Option Addr) (circle1n : Nat) (circle1c : Nat)  (E : Value → Hp → Prop) (H : Hp) (K : Bool → Hp → Prop) : Prop :=
  nw H ⟨[.int .i64 g0_Nodes, .slice g0_Edgesp g0_Edgesn g0_Edgesc], 51⟩ fun b_1 H_1 =>
  ldI .i64 (H_1.get b_1 0) fun x_1 =>
  ldS (H_1.get b_1 1) fun x_2p x_2n x_2c =>
  compassref04_Circle.call x_1 x_2p x_2n x_2c circle1p circle1n circle1c E H_1 fun r_1 H_2 =>
  bcase (r_1) (
  ldI .i64 (H_2.get b_1 0) fun x_3 =>
  ldS (H_2.get b_1 1) fun x_4p x_4n x_4c =>
  compassref08_Cost.call x_3 x_4p x_4n x_4c circle1p circle1n circle1c E H_2 fun r_2 H_3 =>
  K (decide ((r_2 : Int) < 0)) H_3)
  (K false H_2)
theorem compasslaw08_below.run_eq {g0_Nodes : Int} {g0_Edgesp : Option Addr} {g0_Edgesn : Nat} {g0_Edgesc : Nat} {circle1p : Option Addr} {circle1n : Nat} {circle1c : Nat} { E : Value → Hp → Prop} {H : Hp} {K : Bool → Hp → Prop} (h : compasslaw08_below.run_t  g0_Nodes g0_Edgesp g0_Edgesn g0_Edgesc circle1p circle1n circle1c  E H K) : compasslaw08_below.run g0_Nodes g0_Edgesp g0_Edgesn g0_Edgesc circle1p circle1n circle1c  E H K := by
  have k1 : ∀ G : List Nat → Fr → Hp → Prop, nodeR P0 T0 compasslaw08_below.A [] G compasslaw08_below.code [] [] (compasslaw08_below.rq E K) (argF 0 [.agg ⟨[.int .i64 g0_Nodes, .slice g0_Edgesp g0_Edgesn g0_Edgesc]⟩, .slice circle1p circle1n circle1c]) H = compasslaw08_below.run_t  g0_Nodes g0_Edgesp g0_Edgesn g0_Edgesc circle1p circle1n circle1c  E H K := fun G => by kernel_rfl
  exact nodeR_imp compasslaw08_below.nok rfl ((k1 _).mpr h)
end Go.Mz
