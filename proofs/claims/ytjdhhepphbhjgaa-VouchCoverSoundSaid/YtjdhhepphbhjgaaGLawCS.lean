/-
  The shallow texts of functions (LawCS), each with a kernel-checked equation to the translated code. It proves nothing of the program by itself.
-/
import Derived.Test.YtjdhhepphbhjgaaTab
set_option linter.unusedVariables false
set_option maxRecDepth 100000
namespace Go.Mz
/-! ### compass/compasslaw12.VouchCoverSound (7) -/
noncomputable def compasslaw12_VouchCoverSound.A : An := { live := [(0, [0, 1, 2]), (1, [2, 3, 4]), (2, []), (3, [2, 3, 4]), (4, [2, 3, 4, 7, 8]), (5, [2, 3, 7, 8, 9, 10]), (6, [7, 8, 9, 10]), (7, [2, 3, 7, 8, 9, 10])], ord := [], stb := [], pre := [] }
noncomputable def compasslaw12_VouchCoverSound.code : Code := bodyOf Go.Proofs.Try.f7
theorem compasslaw12_VouchCoverSound.ok : okCode compasslaw12_VouchCoverSound.A 68 compasslaw12_VouchCoverSound.code = true := by kernel_rfl
def compasslaw12_VouchCoverSound.rq (E : Value → Hp → Prop) (K : Bool → Hp → Prop) : Ex → Fr → Hp → Prop := retQ T0 [.tmp 6] [4] (fun r H => ldR (.one false [.bool]) r fun u => K (asB u) H) E
def compasslaw12_VouchCoverSound.run (g0_Nodes : Int) (g0_Edgesp : Option Addr) (g0_Edgesn : Nat) (g0_Edgesc : Nat) (w1_Matchp : Option Addr) (w1_Matchn : Nat) (w1_Matchc : Nat) (w1_Nodesp : Option Addr) (w1_Nodesn : Nat) (w1_Nodesc : Nat) (w1_Potp : Option Addr) (w1_Potn : Nat) (w1_Potc : Nat) (other2p : Option Addr) (other2n : Nat) (other2c : Nat) (E : Value → Hp → Prop) (H : Hp) (K : Bool → Hp → Prop) : Prop := nodeM P0 T0 compasslaw12_VouchCoverSound.A compasslaw12_VouchCoverSound.code [] [] (compasslaw12_VouchCoverSound.rq E K) (argF 0 [.agg ⟨[.int .i64 g0_Nodes, .slice g0_Edgesp g0_Edgesn g0_Edgesc]⟩, .agg ⟨[.slice w1_Matchp w1_Matchn w1_Matchc, .slice w1_Nodesp w1_Nodesn w1_Nodesc, .slice w1_Potp w1_Potn w1_Potc]⟩, .slice other2p other2n other2c]) H
theorem compasslaw12_VouchCoverSound.of {g0_Nodes : Int} {g0_Edgesp : Option Addr} {g0_Edgesn : Nat} {g0_Edgesc : Nat} {w1_Matchp : Option Addr} {w1_Matchn : Nat} {w1_Matchc : Nat} {w1_Nodesp : Option Addr} {w1_Nodesn : Nat} {w1_Nodesc : Nat} {w1_Potp : Option Addr} {w1_Potn : Nat} {w1_Potc : Nat} {other2p : Option Addr} {other2n : Nat} {other2c : Nat} {E : Value → Hp → Prop} {H : Hp} {K : Bool → Hp → Prop} (h : compasslaw12_VouchCoverSound.run g0_Nodes g0_Edgesp g0_Edgesn g0_Edgesc w1_Matchp w1_Matchn w1_Matchc w1_Nodesp w1_Nodesn w1_Nodesc w1_Potp w1_Potn w1_Potc other2p other2n other2c E H K) : compasslaw12_VouchCoverSound.call g0_Nodes g0_Edgesp g0_Edgesn g0_Edgesc w1_Matchp w1_Matchn w1_Matchc w1_Nodesp w1_Nodesn w1_Nodesc w1_Potp w1_Potn w1_Potc other2p other2n other2c E H K :=
  callW_of T0_ok P0_mixed (A := compasslaw12_VouchCoverSound.A) (fn := Go.Proofs.Try.f7) Go.Proofs.Try.func7 rfl compasslaw12_VouchCoverSound.ok rfl h
theorem compasslaw12_VouchCoverSound.nok : nodesOk compasslaw12_VouchCoverSound.code [] = true := by kernel_rfl
def compasslaw12_VouchCoverSound.run_t  (g0_Nodes : Int) (g0_Edgesp : Option Addr) (g0_Edgesn : Nat) (g0_Edgesc : Nat) (w1_Matchp : Option Addr) (w1_Matchn : Nat) (w1_Matchc : Nat) (w1_Nodesp : Option Addr) (w1_Nodesn : Nat) (w1_Nodesc : Nat) (w1_Potp : Option Addr) (w1_Potn : Nat) (w1_Potc : Nat) (other2p : Option Addr) (other2n : Nat) (other2c : Nat)  (E : Value → Hp → Prop) (H : Hp) (K : Bool → Hp → Prop) : Prop :=
  nw H ⟨[.int .i64 g0_Nodes, .slice g0_Edgesp g0_Edgesn g0_Edgesc], 24⟩ fun b_1 H_1 =>
  nw H_1 ⟨[.slice w1_Matchp w1_Matchn w1_Matchc, .slice w1_Nodesp w1_Nodesn w1_Nodesc, .slice w1_Potp w1_Potn w1_Potc], 67⟩ fun b_2 H_2 =>
  compasslaw12_awake.call  E H_2 fun r_1 H_3 =>
  bcase ((!r_1)) (
  K false H_3)
  (ldI .i64 (H_3.get b_1 0) fun x_1 =>
  ldS (H_3.get b_1 1) fun x_2p x_2n x_2c =>
  ldS (H_3.get b_2 0) fun x_3p x_3n x_3c =>
  ldS (H_3.get b_2 1) fun x_4p x_4n x_4c =>
  vouch_Covered.call x_1 x_2p x_2n x_2c x_3p x_3n x_3c x_4p x_4n x_4c E H_3 fun r_2 r_3 H_4 =>
  ldI .i64 (H_4.get b_1 0) fun x_5 =>
  ldS (H_4.get b_1 1) fun x_6p x_6n x_6c =>
  ldS (H_4.get b_2 0) fun x_7p x_7n x_7c =>
  ldS (H_4.get b_2 2) fun x_8p x_8n x_8c =>
  vouch_Heaviest.call x_5 x_6p x_6n x_6c x_7p x_7n x_7c x_8p x_8n x_8c E H_4 fun r_4 r_5 H_5 =>
  ldI .i64 (H_5.get b_1 0) fun x_9 =>
  ldS (H_5.get b_1 1) fun x_10p x_10n x_10c =>
  compassref12_Matching.call x_9 x_10p x_10n x_10c other2p other2n other2c E H_5 fun r_6 H_6 =>
  bcase (!decide ((r_6 : Int) = 0)) (
  bcase (decide ((r_3 : Int) = 0)) (
  bcase (decide ((r_5 : Int) = 0)) (
  K true H_6)
  (K (decide ((r_4 : Int) = 0)) H_6))
  (bcase (decide ((r_2 : Int) = 0)) (
  bcase (decide ((r_5 : Int) = 0)) (
  K true H_6)
  (K (decide ((r_4 : Int) = 0)) H_6))
  (K false H_6)))
  (bcase (!decide ((r_3 : Int) = 0)) (
  bcase (!decide ((r_5 : Int) = 0)) (
  K true H_6)
  (ldI .i64 (H_6.get b_1 0) fun x_11 =>
  ldS (H_6.get b_1 1) fun x_12p x_12n x_12c =>
  compassref12_Cost.call x_11 x_12p x_12n x_12c other2p other2n other2c E H_6 fun r_7 H_7 =>
  K (decide ((r_7 : Int) ≤ r_4)) H_7))
  (bcase (decide (((other2n : Int) : Int) ≤ r_2)) (
  bcase (!decide ((r_5 : Int) = 0)) (
  K true H_6)
  (ldI .i64 (H_6.get b_1 0) fun x_13 =>
  ldS (H_6.get b_1 1) fun x_14p x_14n x_14c =>
  compassref12_Cost.call x_13 x_14p x_14n x_14c other2p other2n other2c E H_6 fun r_8 H_8 =>
  K (decide ((r_8 : Int) ≤ r_4)) H_8))
  (K false H_6))))
theorem compasslaw12_VouchCoverSound.run_eq {g0_Nodes : Int} {g0_Edgesp : Option Addr} {g0_Edgesn : Nat} {g0_Edgesc : Nat} {w1_Matchp : Option Addr} {w1_Matchn : Nat} {w1_Matchc : Nat} {w1_Nodesp : Option Addr} {w1_Nodesn : Nat} {w1_Nodesc : Nat} {w1_Potp : Option Addr} {w1_Potn : Nat} {w1_Potc : Nat} {other2p : Option Addr} {other2n : Nat} {other2c : Nat} { E : Value → Hp → Prop} {H : Hp} {K : Bool → Hp → Prop} (h : compasslaw12_VouchCoverSound.run_t  g0_Nodes g0_Edgesp g0_Edgesn g0_Edgesc w1_Matchp w1_Matchn w1_Matchc w1_Nodesp w1_Nodesn w1_Nodesc w1_Potp w1_Potn w1_Potc other2p other2n other2c  E H K) : compasslaw12_VouchCoverSound.run g0_Nodes g0_Edgesp g0_Edgesn g0_Edgesc w1_Matchp w1_Matchn w1_Matchc w1_Nodesp w1_Nodesn w1_Nodesc w1_Potp w1_Potn w1_Potc other2p other2n other2c  E H K := by
  have k1 : ∀ G : List Nat → Fr → Hp → Prop, nodeR P0 T0 compasslaw12_VouchCoverSound.A [] G compasslaw12_VouchCoverSound.code [] [] (compasslaw12_VouchCoverSound.rq E K) (argF 0 [.agg ⟨[.int .i64 g0_Nodes, .slice g0_Edgesp g0_Edgesn g0_Edgesc]⟩, .agg ⟨[.slice w1_Matchp w1_Matchn w1_Matchc, .slice w1_Nodesp w1_Nodesn w1_Nodesc, .slice w1_Potp w1_Potn w1_Potc]⟩, .slice other2p other2n other2c]) H = compasslaw12_VouchCoverSound.run_t  g0_Nodes g0_Edgesp g0_Edgesn g0_Edgesc w1_Matchp w1_Matchn w1_Matchc w1_Nodesp w1_Nodesn w1_Nodesc w1_Potp w1_Potn w1_Potc other2p other2n other2c  E H K := fun G => by kernel_rfl
  exact nodeR_imp compasslaw12_VouchCoverSound.nok rfl ((k1 _).mpr h)
end Go.Mz
