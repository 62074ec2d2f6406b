/-
  The shallow texts of functions (LawBS), each with a kernel-checked equation to the translated code. It proves nothing of the program by itself.
-/
import Derived.Test.YtjdhhepphbhjgaaTab
set_option linter.unusedVariables false
set_option maxRecDepth 100000
namespace Go.Mz
/-! ### compass/compasslaw12.VouchBarrierSound (8) -/
noncomputable def compasslaw12_VouchBarrierSound.A : An := { live := [(0, [0, 1]), (1, [2, 3]), (2, []), (3, [2, 3]), (4, [2, 3, 5, 6]), (5, [2, 3, 5, 6, 7]), (6, [5, 6]), (7, [2, 3, 5, 6, 7])], ord := [], stb := [], pre := [] }
noncomputable def compasslaw12_VouchBarrierSound.code : Code := bodyOf Go.Proofs.Try.f8
theorem compasslaw12_VouchBarrierSound.ok : okCode compasslaw12_VouchBarrierSound.A 56 compasslaw12_VouchBarrierSound.code = true := by kernel_rfl
def compasslaw12_VouchBarrierSound.rq (E : Value → Hp → Prop) (K : Bool → Hp → Prop) : Ex → Fr → Hp → Prop := retQ T0 [.tmp 4] [4] (fun r H => ldR (.one false [.bool]) r fun u => K (asB u) H) E
def compasslaw12_VouchBarrierSound.run (g0_Nodes : Int) (g0_Edgesp : Option Addr) (g0_Edgesn : Nat) (g0_Edgesc : Nat) (w1_Matchp : Option Addr) (w1_Matchn : Nat) (w1_Matchc : Nat) (w1_Nodesp : Option Addr) (w1_Nodesn : Nat) (w1_Nodesc : Nat) (w1_Otherp : Option Addr) (w1_Othern : Nat) (w1_Otherc : Nat) (E : Value → Hp → Prop) (H : Hp) (K : Bool → Hp → Prop) : Prop := nodeM P0 T0 compasslaw12_VouchBarrierSound.A compasslaw12_VouchBarrierSound.code [] [] (compasslaw12_VouchBarrierSound.rq E K) (argF 0 [.agg ⟨[.int .i64 g0_Nodes, .slice g0_Edgesp g0_Edgesn g0_Edgesc]⟩, .agg ⟨[.slice w1_Matchp w1_Matchn w1_Matchc, .slice w1_Nodesp w1_Nodesn w1_Nodesc, .slice w1_Otherp w1_Othern w1_Otherc]⟩]) H
theorem compasslaw12_VouchBarrierSound.of {g0_Nodes : Int} {g0_Edgesp : Option Addr} {g0_Edgesn : Nat} {g0_Edgesc : Nat} {w1_Matchp : Option Addr} {w1_Matchn : Nat} {w1_Matchc : Nat} {w1_Nodesp : Option Addr} {w1_Nodesn : Nat} {w1_Nodesc : Nat} {w1_Otherp : Option Addr} {w1_Othern : Nat} {w1_Otherc : Nat} {E : Value → Hp → Prop} {H : Hp} {K : Bool → Hp → Prop} (h : compasslaw12_VouchBarrierSound.run g0_Nodes g0_Edgesp g0_Edgesn g0_Edgesc w1_Matchp w1_Matchn w1_Matchc w1_Nodesp w1_Nodesn w1_Nodesc w1_Otherp w1_Othern w1_Otherc E H K) : compasslaw12_VouchBarrierSound.call g0_Nodes g0_Edgesp g0_Edgesn g0_Edgesc w1_Matchp w1_Matchn w1_Matchc w1_Nodesp w1_Nodesn w1_Nodesc w1_Otherp w1_Othern w1_Otherc E H K :=
  callW_of T0_ok P0_mixed (A := compasslaw12_VouchBarrierSound.A) (fn := Go.Proofs.Try.f8) Go.Proofs.Try.func8 rfl compasslaw12_VouchBarrierSound.ok rfl h
theorem compasslaw12_VouchBarrierSound.nok : nodesOk compasslaw12_VouchBarrierSound.code [] = true := by kernel_rfl
def compasslaw12_VouchBarrierSound.run_t  (g0_Nodes : Int) (g0_Edgesp : Option Addr) (g0_Edgesn : Nat) (g0_Edgesc : Nat) (w1_Matchp : Option Addr) (w1_Matchn : Nat) (w1_Matchc : Nat) (w1_Nodesp : Option Addr) (w1_Nodesn : Nat) (w1_Nodesc : Nat) (w1_Otherp : Option Addr) (w1_Othern : Nat) (w1_Otherc : Nat)  (E : Value → Hp → Prop) (H : Hp) (K : Bool → Hp → Prop) : Prop :=
  nw H ⟨[.int .i64 g0_Nodes, .slice g0_Edgesp g0_Edgesn g0_Edgesc], 24⟩ fun b_1 H_1 =>
  nw H_1 ⟨[.slice w1_Matchp w1_Matchn w1_Matchc, .slice w1_Nodesp w1_Nodesn w1_Nodesc, .slice w1_Otherp w1_Othern w1_Otherc], 72⟩ fun b_2 H_2 =>
  compasslaw12_awake.call  E H_2 fun r_1 H_3 =>
  bcase ((!r_1)) (
  K false H_3)
  (ldI .i64 (H_3.get b_1 0) fun x_1 =>
  ldS (H_3.get b_1 1) fun x_2p x_2n x_2c =>
  ldS (H_3.get b_2 0) fun x_3p x_3n x_3c =>
  ldS (H_3.get b_2 1) fun x_4p x_4n x_4c =>
  vouch_Largest.call x_1 x_2p x_2n x_2c x_3p x_3n x_3c x_4p x_4n x_4c E H_3 fun r_2 r_3 H_4 =>
  ldI .i64 (H_4.get b_1 0) fun x_5 =>
  ldS (H_4.get b_1 1) fun x_6p x_6n x_6c =>
  ldS (H_4.get b_2 1) fun x_7p x_7n x_7c =>
  vouch_NoPerfect.call x_5 x_6p x_6n x_6c x_7p x_7n x_7c E H_4 fun r_4 H_5 =>
  ldI .i64 (H_5.get b_1 0) fun x_8 =>
  ldS (H_5.get b_1 1) fun x_9p x_9n x_9c =>
  ldS (H_5.get b_2 2) fun x_10p x_10n x_10c =>
  compassref12_Matching.call x_8 x_9p x_9n x_9c x_10p x_10n x_10c E H_5 fun r_5 H_6 =>
  bcase (!decide ((r_5 : Int) = 0)) (
  bcase (decide ((r_3 : Int) = 0)) (
  K true H_6)
  (K (decide ((r_2 : Int) = 0)) H_6))
  (bcase (!decide ((r_3 : Int) = 0)) (
  bcase (!decide ((r_4 : Int) = 0)) (
  K true H_6)
  (ldS (H_6.get b_2 2) fun x_11p x_11n x_11c =>
  ldI .i64 (H_6.get b_1 0) fun x_12 =>
  K (decide (((IntKind.wrap .i64 (2 * (x_11n : Int))) : Int) < x_12)) H_6))
  (ldS (H_6.get b_2 2) fun x_13p x_13n x_13c =>
  bcase (decide (((x_13n : Int) : Int) ≤ r_2)) (
  bcase (!decide ((r_4 : Int) = 0)) (
  K true H_6)
  (ldS (H_6.get b_2 2) fun x_14p x_14n x_14c =>
  ldI .i64 (H_6.get b_1 0) fun x_15 =>
  K (decide (((IntKind.wrap .i64 (2 * (x_14n : Int))) : Int) < x_15)) H_6))
  (K false H_6))))
theorem compasslaw12_VouchBarrierSound.run_eq {g0_Nodes : Int} {g0_Edgesp : Option Addr} {g0_Edgesn : Nat} {g0_Edgesc : Nat} {w1_Matchp : Option Addr} {w1_Matchn : Nat} {w1_Matchc : Nat} {w1_Nodesp : Option Addr} {w1_Nodesn : Nat} {w1_Nodesc : Nat} {w1_Otherp : Option Addr} {w1_Othern : Nat} {w1_Otherc : Nat} { E : Value → Hp → Prop} {H : Hp} {K : Bool → Hp → Prop} (h : compasslaw12_VouchBarrierSound.run_t  g0_Nodes g0_Edgesp g0_Edgesn g0_Edgesc w1_Matchp w1_Matchn w1_Matchc w1_Nodesp w1_Nodesn w1_Nodesc w1_Otherp w1_Othern w1_Otherc  E H K) : compasslaw12_VouchBarrierSound.run g0_Nodes g0_Edgesp g0_Edgesn g0_Edgesc w1_Matchp w1_Matchn w1_Matchc w1_Nodesp w1_Nodesn w1_Nodesc w1_Otherp w1_Othern w1_Otherc  E H K := by
  have k1 : ∀ G : List Nat → Fr → Hp → Prop, nodeR P0 T0 compasslaw12_VouchBarrierSound.A [] G compasslaw12_VouchBarrierSound.code [] [] (compasslaw12_VouchBarrierSound.rq E K) (argF 0 [.agg ⟨[.int .i64 g0_Nodes, .slice g0_Edgesp g0_Edgesn g0_Edgesc]⟩, .agg ⟨[.slice w1_Matchp w1_Matchn w1_Matchc, .slice w1_Nodesp w1_Nodesn w1_Nodesc, .slice w1_Otherp w1_Othern w1_Otherc]⟩]) H = compasslaw12_VouchBarrierSound.run_t  g0_Nodes g0_Edgesp g0_Edgesn g0_Edgesc w1_Matchp w1_Matchn w1_Matchc w1_Nodesp w1_Nodesn w1_Nodesc w1_Otherp w1_Othern w1_Otherc  E H K := fun G => by kernel_rfl
  exact nodeR_imp compasslaw12_VouchBarrierSound.nok rfl ((k1 _).mpr h)
end Go.Mz
