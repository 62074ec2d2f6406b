/-
  The shallow texts of functions (LawBa), each with a kernel-checked equation to the translated code. It proves nothing of the program by itself.
-/
import Derived.Test.YtjdhhepphbhjgaaTab
set_option linter.unusedVariables false
set_option maxRecDepth 100000
namespace Go.Mz
/-! ### compass/compasslaw12.VouchBarriers (3) -/
noncomputable def compasslaw12_VouchBarriers.A : An := { live := [(0, [0, 1, 2]), (1, [1, 2, 3]), (2, []), (3, [1, 2, 3]), (4, [1, 2, 3, 7, 8]), (5, [2, 3, 7, 8, 9, 10])], ord := [(5, [0, 1, 2, 3, 4, 5, 6, 7, 8, 9, 10, 12, 13, 11, 14, 15, 16, 17])], stb := [(5, [(11, [12])])], pre := [(5, [[], [], [0, 1], [0, 1, 2], [0, 1, 2, 3], [0, 1, 2, 3], [0, 1, 2, 3, 4, 5], [0, 1, 2, 3, 4, 5, 6], [0, 1, 2, 3, 4, 5, 6, 7], [0, 1, 2, 3, 4, 5, 6, 7, 8], [0, 1, 2, 3, 4, 5, 6, 7, 8], [0, 1, 2, 3, 4, 5, 6, 7, 8, 9, 10], [0, 1, 2, 3, 4, 5, 6, 7, 8], [0, 1, 2, 3, 4, 5, 6, 7, 8], [0, 1, 2, 3, 4, 5, 6, 7, 8, 9, 10, 11, 12, 13], [0, 1, 2, 3, 4, 5, 6, 7, 8, 9, 10, 11, 12, 13, 14], [0, 1, 2, 3, 4, 5, 6, 7, 8, 9, 10, 11, 12, 13, 14, 15], [0, 1, 2, 3, 4, 5, 6, 7, 8, 9, 10, 11, 12, 13, 14, 15, 16]])] }
noncomputable def compasslaw12_VouchBarriers.code : Code := bodyOf Go.Proofs.Try.f3
theorem compasslaw12_VouchBarriers.ok : okCode compasslaw12_VouchBarriers.A 44 compasslaw12_VouchBarriers.code = true := by kernel_rfl
def compasslaw12_VouchBarriers.rq (E : Value → Hp → Prop) (K : Bool → Hp → Prop) : Ex → Fr → Hp → Prop := retQ T0 [.tmp 6] [4] (fun r H => ldR (.one false [.bool]) r fun u => K (asB u) H) E
def compasslaw12_VouchBarriers.run (g0_Nodes : Int) (g0_Edgesp : Option Addr) (g0_Edgesn : Nat) (g0_Edgesc : Nat) (m1p : Option Addr) (m1n : Nat) (m1c : Nat) (set2p : Option Addr) (set2n : Nat) (set2c : Nat) (E : Value → Hp → Prop) (H : Hp) (K : Bool → Hp → Prop) : Prop := nodeM P0 T0 compasslaw12_VouchBarriers.A compasslaw12_VouchBarriers.code [] [] (compasslaw12_VouchBarriers.rq E K) (argF 0 [.agg ⟨[.int .i64 g0_Nodes, .slice g0_Edgesp g0_Edgesn g0_Edgesc]⟩, .slice m1p m1n m1c, .slice set2p set2n set2c]) H
theorem compasslaw12_VouchBarriers.of {g0_Nodes : Int} {g0_Edgesp : Option Addr} {g0_Edgesn : Nat} {g0_Edgesc : Nat} {m1p : Option Addr} {m1n : Nat} {m1c : Nat} {set2p : Option Addr} {set2n : Nat} {set2c : Nat} {E : Value → Hp → Prop} {H : Hp} {K : Bool → Hp → Prop} (h : compasslaw12_VouchBarriers.run g0_Nodes g0_Edgesp g0_Edgesn g0_Edgesc m1p m1n m1c set2p set2n set2c E H K) : compasslaw12_VouchBarriers.call g0_Nodes g0_Edgesp g0_Edgesn g0_Edgesc m1p m1n m1c set2p set2n set2c E H K :=
  callW_of T0_ok P0_mixed (A := compasslaw12_VouchBarriers.A) (fn := Go.Proofs.Try.f3) Go.Proofs.Try.func3 rfl compasslaw12_VouchBarriers.ok rfl h
theorem compasslaw12_VouchBarriers.nok : nodesOk compasslaw12_VouchBarriers.code [] = true := by kernel_rfl
def compasslaw12_VouchBarriers.run_t  (g0_Nodes : Int) (g0_Edgesp : Option Addr) (g0_Edgesn : Nat) (g0_Edgesc : Nat) (m1p : Option Addr) (m1n : Nat) (m1c : Nat) (set2p : Option Addr) (set2n : Nat) (set2c : Nat)  (E : Value → Hp → Prop) (H : Hp) (K : Bool → Hp → Prop) : Prop :=
  nw H ⟨[.int .i64 g0_Nodes, .slice g0_Edgesp g0_Edgesn g0_Edgesc], 24⟩ fun b_1 H_1 =>
  compasslaw12_awake.call  E H_1 fun r_1 H_2 =>
  bcase ((!r_1)) (
  K false H_2)
  (ldI .i64 (H_2.get b_1 0) fun x_1 =>
  ldS (H_2.get b_1 1) fun x_2p x_2n x_2c =>
  vouch_Largest.call x_1 x_2p x_2n x_2c m1p m1n m1c set2p set2n set2c E H_2 fun r_2 r_3 H_3 =>
  ldI .i64 (H_3.get b_1 0) fun x_3 =>
  ldS (H_3.get b_1 1) fun x_4p x_4n x_4c =>
  compassref12_Largest.call x_3 x_4p x_4n x_4c m1p m1n m1c set2p set2n set2c E H_3 fun r_4 r_5 H_4 =>
  bcase (decide ((r_2 : Int) = r_4)) (
  bcase (decide ((r_3 : Int) = r_5)) (
  ldI .i64 (H_4.get b_1 0) fun x_5 =>
  ldS (H_4.get b_1 1) fun x_6p x_6n x_6c =>
  ldI .i64 (H_4.get b_1 0) fun x_7 =>
  ldS (H_4.get b_1 1) fun x_8p x_8n x_8c =>
  vouch_NoPerfect.call x_5 x_6p x_6n x_6c set2p set2n set2c E H_4 fun r_6 H_5 =>
  (ldI .i64 (H_5.get b_1 0) fun x_9 =>
  ldS (H_5.get b_1 1) fun x_10p x_10n x_10c =>
  Value.agg ⟨[.int .i64 x_9, .slice x_10p x_10n x_10c]⟩ = Value.agg ⟨[.int .i64 x_7, .slice x_8p x_8n x_8c]⟩) ∧
  compassref12_NoPerfect.call x_7 x_8p x_8n x_8c set2p set2n set2c E H_5 fun r_7 H_6 =>
  K (decide ((r_6 : Int) = r_7)) H_6)
  (K false H_4))
  (K false H_4))
theorem compasslaw12_VouchBarriers.run_eq {g0_Nodes : Int} {g0_Edgesp : Option Addr} {g0_Edgesn : Nat} {g0_Edgesc : Nat} {m1p : Option Addr} {m1n : Nat} {m1c : Nat} {set2p : Option Addr} {set2n : Nat} {set2c : Nat} { E : Value → Hp → Prop} {H : Hp} {K : Bool → Hp → Prop} (h : compasslaw12_VouchBarriers.run_t  g0_Nodes g0_Edgesp g0_Edgesn g0_Edgesc m1p m1n m1c set2p set2n set2c  E H K) : compasslaw12_VouchBarriers.run g0_Nodes g0_Edgesp g0_Edgesn g0_Edgesc m1p m1n m1c set2p set2n set2c  E H K := by
  have k1 : ∀ G : List Nat → Fr → Hp → Prop, nodeR P0 T0 compasslaw12_VouchBarriers.A [] G compasslaw12_VouchBarriers.code [] [] (compasslaw12_VouchBarriers.rq E K) (argF 0 [.agg ⟨[.int .i64 g0_Nodes, .slice g0_Edgesp g0_Edgesn g0_Edgesc]⟩, .slice m1p m1n m1c, .slice set2p set2n set2c]) H = compasslaw12_VouchBarriers.run_t  g0_Nodes g0_Edgesp g0_Edgesn g0_Edgesc m1p m1n m1c set2p set2n set2c  E H K := fun G => by kernel_rfl
  exact nodeR_imp compasslaw12_VouchBarriers.nok rfl ((k1 _).mpr h)
end Go.Mz
