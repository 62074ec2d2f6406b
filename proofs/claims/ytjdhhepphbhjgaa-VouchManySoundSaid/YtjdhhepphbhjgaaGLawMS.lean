/-
  The shallow texts of functions (LawMS), each with a kernel-checked equation to the translated code. It proves nothing of the program by itself.
-/
import Derived.Test.YtjdhhepphbhjgaaTab
set_option linter.unusedVariables false
set_option maxRecDepth 100000
namespace Go.Mz
/-! ### compass/compasslaw12.VouchManySound (10) -/
noncomputable def compasslaw12_VouchManySound.A : An := { live := [(0, [0, 1]), (1, [2, 3]), (2, []), (3, [2, 3]), (4, [2, 3, 5, 6]), (5, [5]), (6, [2, 3, 5])], ord := [], stb := [], pre := [] }
noncomputable def compasslaw12_VouchManySound.code : Code := bodyOf Go.Proofs.Try.f10
theorem compasslaw12_VouchManySound.ok : okCode compasslaw12_VouchManySound.A 38 compasslaw12_VouchManySound.code = true := by kernel_rfl
def compasslaw12_VouchManySound.rq (E : Value → Hp → Prop) (K : Bool → Hp → Prop) : Ex → Fr → Hp → Prop := retQ T0 [.tmp 4] [4] (fun r H => ldR (.one false [.bool]) r fun u => K (asB u) H) E
def compasslaw12_VouchManySound.run (g0_Nodes : Int) (g0_Edgesp : Option Addr) (g0_Edgesn : Nat) (g0_Edgesc : Nat) (w1_Mostp : Option Addr) (w1_Mostn : Nat) (w1_Mostc : Nat) (w1_Matchp : Option Addr) (w1_Matchn : Nat) (w1_Matchc : Nat) (w1_Setp : Option Addr) (w1_Setn : Nat) (w1_Setc : Nat) (w1_Otherp : Option Addr) (w1_Othern : Nat) (w1_Otherc : Nat) (E : Value → Hp → Prop) (H : Hp) (K : Bool → Hp → Prop) : Prop := nodeM P0 T0 compasslaw12_VouchManySound.A compasslaw12_VouchManySound.code [] [] (compasslaw12_VouchManySound.rq E K) (argF 0 [.agg ⟨[.int .i64 g0_Nodes, .slice g0_Edgesp g0_Edgesn g0_Edgesc]⟩, .agg ⟨[.slice w1_Mostp w1_Mostn w1_Mostc, .slice w1_Matchp w1_Matchn w1_Matchc, .slice w1_Setp w1_Setn w1_Setc, .slice w1_Otherp w1_Othern w1_Otherc]⟩]) H
theorem compasslaw12_VouchManySound.of {g0_Nodes : Int} {g0_Edgesp : Option Addr} {g0_Edgesn : Nat} {g0_Edgesc : Nat} {w1_Mostp : Option Addr} {w1_Mostn : Nat} {w1_Mostc : Nat} {w1_Matchp : Option Addr} {w1_Matchn : Nat} {w1_Matchc : Nat} {w1_Setp : Option Addr} {w1_Setn : Nat} {w1_Setc : Nat} {w1_Otherp : Option Addr} {w1_Othern : Nat} {w1_Otherc : Nat} {E : Value → Hp → Prop} {H : Hp} {K : Bool → Hp → Prop} (h : compasslaw12_VouchManySound.run g0_Nodes g0_Edgesp g0_Edgesn g0_Edgesc w1_Mostp w1_Mostn w1_Mostc w1_Matchp w1_Matchn w1_Matchc w1_Setp w1_Setn w1_Setc w1_Otherp w1_Othern w1_Otherc E H K) : compasslaw12_VouchManySound.call g0_Nodes g0_Edgesp g0_Edgesn g0_Edgesc w1_Mostp w1_Mostn w1_Mostc w1_Matchp w1_Matchn w1_Matchc w1_Setp w1_Setn w1_Setc w1_Otherp w1_Othern w1_Otherc E H K :=
  callW_of T0_ok P0_mixed (A := compasslaw12_VouchManySound.A) (fn := Go.Proofs.Try.f10) Go.Proofs.Try.func10 rfl compasslaw12_VouchManySound.ok rfl h
theorem compasslaw12_VouchManySound.nok : nodesOk compasslaw12_VouchManySound.code [] = true := by kernel_rfl
def compasslaw12_VouchManySound.run_t  (g0_Nodes : Int) (g0_Edgesp : Option Addr) (g0_Edgesn : Nat) (g0_Edgesc : Nat) (w1_Mostp : Option Addr) (w1_Mostn : Nat) (w1_Mostc : Nat) (w1_Matchp : Option Addr) (w1_Matchn : Nat) (w1_Matchc : Nat) (w1_Setp : Option Addr) (w1_Setn : Nat) (w1_Setc : Nat) (w1_Otherp : Option Addr) (w1_Othern : Nat) (w1_Otherc : Nat)  (E : Value → Hp → Prop) (H : Hp) (K : Bool → Hp → Prop) : Prop :=
  nw H ⟨[.int .i64 g0_Nodes, .slice g0_Edgesp g0_Edgesn g0_Edgesc], 24⟩ fun b_1 H_1 =>
  nw H_1 ⟨[.slice w1_Mostp w1_Mostn w1_Mostc, .slice w1_Matchp w1_Matchn w1_Matchc, .slice w1_Setp w1_Setn w1_Setc, .slice w1_Otherp w1_Othern w1_Otherc], 49⟩ fun b_2 H_2 =>
  compasslaw12_awake.call  E H_2 fun r_1 H_3 =>
  bcase ((!r_1)) (
  K false H_3)
  (ldI .i64 (H_3.get b_1 0) fun x_1 =>
  ldS (H_3.get b_1 1) fun x_2p x_2n x_2c =>
  ldS (H_3.get b_2 0) fun x_3p x_3n x_3c =>
  ldS (H_3.get b_2 1) fun x_4p x_4n x_4c =>
  ldS (H_3.get b_2 2) fun x_5p x_5n x_5c =>
  vouch_Many.call x_1 x_2p x_2n x_2c x_3p x_3n x_3c x_4p x_4n x_4c x_5p x_5n x_5c E H_3 fun r_2 r_3 H_4 =>
  bcase (!decide ((r_3 : Int) = 0)) (
  K (decide ((r_2 : Int) = 0)) H_4)
  (ldI .i64 (H_4.get b_1 0) fun x_6 =>
  ldS (H_4.get b_1 1) fun x_7p x_7n x_7c =>
  ldS (H_4.get b_2 3) fun x_8p x_8n x_8c =>
  ldS (H_4.get b_2 0) fun x_9p x_9n x_9c =>
  compassref12_Taken.call x_6 x_7p x_7n x_7c x_8p x_8n x_8c x_9p x_9n x_9c E H_4 fun r_4 H_5 =>
  bcase ((!r_4)) (
  K true H_5)
  (ldS (H_5.get b_2 3) fun x_10p x_10n x_10c =>
  K (decide (((x_10n : Int) : Int) ≤ r_2)) H_5)))
theorem compasslaw12_VouchManySound.run_eq {g0_Nodes : Int} {g0_Edgesp : Option Addr} {g0_Edgesn : Nat} {g0_Edgesc : Nat} {w1_Mostp : Option Addr} {w1_Mostn : Nat} {w1_Mostc : Nat} {w1_Matchp : Option Addr} {w1_Matchn : Nat} {w1_Matchc : Nat} {w1_Setp : Option Addr} {w1_Setn : Nat} {w1_Setc : Nat} {w1_Otherp : Option Addr} {w1_Othern : Nat} {w1_Otherc : Nat} { E : Value → Hp → Prop} {H : Hp} {K : Bool → Hp → Prop} (h : compasslaw12_VouchManySound.run_t  g0_Nodes g0_Edgesp g0_Edgesn g0_Edgesc w1_Mostp w1_Mostn w1_Mostc w1_Matchp w1_Matchn w1_Matchc w1_Setp w1_Setn w1_Setc w1_Otherp w1_Othern w1_Otherc  E H K) : compasslaw12_VouchManySound.run g0_Nodes g0_Edgesp g0_Edgesn g0_Edgesc w1_Mostp w1_Mostn w1_Mostc w1_Matchp w1_Matchn w1_Matchc w1_Setp w1_Setn w1_Setc w1_Otherp w1_Othern w1_Otherc  E H K := by
  have k1 : ∀ G : List Nat → Fr → Hp → Prop, nodeR P0 T0 compasslaw12_VouchManySound.A [] G compasslaw12_VouchManySound.code [] [] (compasslaw12_VouchManySound.rq E K) (argF 0 [.agg ⟨[.int .i64 g0_Nodes, .slice g0_Edgesp g0_Edgesn g0_Edgesc]⟩, .agg ⟨[.slice w1_Mostp w1_Mostn w1_Mostc, .slice w1_Matchp w1_Matchn w1_Matchc, .slice w1_Setp w1_Setn w1_Setc, .slice w1_Otherp w1_Othern w1_Otherc]⟩]) H = compasslaw12_VouchManySound.run_t  g0_Nodes g0_Edgesp g0_Edgesn g0_Edgesc w1_Mostp w1_Mostn w1_Mostc w1_Matchp w1_Matchn w1_Matchc w1_Setp w1_Setn w1_Setc w1_Otherp w1_Othern w1_Otherc  E H K := fun G => by kernel_rfl
  exact nodeR_imp compasslaw12_VouchManySound.nok rfl ((k1 _).mpr h)
end Go.Mz
