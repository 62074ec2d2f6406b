/-
  The shallow texts of functions (LawCv), each with a kernel-checked equation to the translated code. It proves nothing of the program by itself.
-/
import Derived.Test.YtjdhhepphbhjgaaTab
set_option linter.unusedVariables false
set_option maxRecDepth 100000
namespace Go.Mz
/-! ### compass/compasslaw12.VouchCovers (14) -/
noncomputable def compasslaw12_VouchCovers.A : An := { live := [(0, [0, 1]), (1, [2, 3]), (2, []), (3, [2, 3]), (4, [2, 3, 5, 6]), (5, [2, 3, 5, 6, 7, 8]), (6, [2, 3, 5, 6, 7, 8, 9, 10]), (7, [2, 3, 5, 6, 7, 8, 9, 10, 11, 12])], ord := [(7, [0, 1, 2, 3, 4, 5, 6, 7, 8, 9, 10, 11, 12, 13, 14, 15, 16, 17, 18, 19, 20, 21, 23, 24, 25, 22, 26, 27, 28, 29])], stb := [(7, [(22, [23, 25])])], pre := [(7, [[], [], [0, 1], [0, 1, 2], [0, 1, 2, 3], [0, 1, 2, 3], [0, 1, 2, 3, 4, 5], [0, 1, 2, 3, 4, 5, 6], [0, 1, 2, 3, 4, 5, 6, 7], [0, 1, 2, 3, 4, 5, 6, 7, 8], [0, 1, 2, 3, 4, 5, 6, 7, 8], [0, 1, 2, 3, 4, 5, 6, 7, 8, 9, 10], [0, 1, 2, 3, 4, 5, 6, 7, 8, 9, 10, 11], [0, 1, 2, 3, 4, 5, 6, 7, 8, 9, 10, 11, 12], [0, 1, 2, 3, 4, 5, 6, 7, 8, 9, 10, 11, 12, 13], [0, 1, 2, 3, 4, 5, 6, 7, 8, 9, 10, 11, 12, 13], [0, 1, 2, 3, 4, 5, 6, 7, 8, 9, 10, 11, 12, 13, 14, 15], [0, 1, 2, 3, 4, 5, 6, 7, 8, 9, 10, 11, 12, 13, 14, 15, 16], [0, 1, 2, 3, 4, 5, 6, 7, 8, 9, 10, 11, 12, 13, 14, 15, 16, 17], [0, 1, 2, 3, 4, 5, 6, 7, 8, 9, 10, 11, 12, 13, 14, 15, 16, 17, 18], [0, 1, 2, 3, 4, 5, 6, 7, 8, 9, 10, 11, 12, 13, 14, 15, 16, 17, 18], [0, 1, 2, 3, 4, 5, 6, 7, 8, 9, 10, 11, 12, 13, 14, 15, 16, 17, 18, 20], [0, 1, 2, 3, 4, 5, 6, 7, 8, 9, 10, 11, 12, 13, 14, 15, 16, 17, 18, 19, 20, 21], [0, 1, 2, 3, 4, 5, 6, 7, 8, 9, 10, 11, 12, 13, 14, 15, 16, 17, 18], [0, 1, 2, 3, 4, 5, 6, 7, 8, 9, 10, 11, 12, 13, 14, 15, 16, 17, 18], [0, 1, 2, 3, 4, 5, 6, 7, 8, 9, 10, 11, 12, 13, 14, 15, 16, 17, 18, 24], [0, 1, 2, 3, 4, 5, 6, 7, 8, 9, 10, 11, 12, 13, 14, 15, 16, 17, 18, 19, 20, 21, 22, 23, 24, 25], [0, 1, 2, 3, 4, 5, 6, 7, 8, 9, 10, 11, 12, 13, 14, 15, 16, 17, 18, 19, 20, 21, 22, 23, 24, 25, 26], [0, 1, 2, 3, 4, 5, 6, 7, 8, 9, 10, 11, 12, 13, 14, 15, 16, 17, 18, 19, 20, 21, 22, 23, 24, 25, 26, 27], [0, 1, 2, 3, 4, 5, 6, 7, 8, 9, 10, 11, 12, 13, 14, 15, 16, 17, 18, 19, 20, 21, 22, 23, 24, 25, 26, 27, 28]])] }
noncomputable def compasslaw12_VouchCovers.code : Code := bodyOf Go.Proofs.Try.f14
theorem compasslaw12_VouchCovers.ok : okCode compasslaw12_VouchCovers.A 80 compasslaw12_VouchCovers.code = true := by kernel_rfl
def compasslaw12_VouchCovers.rq (E : Value → Hp → Prop) (K : Bool → Hp → Prop) : Ex → Fr → Hp → Prop := retQ T0 [.tmp 4] [4] (fun r H => ldR (.one false [.bool]) r fun u => K (asB u) H) E
def compasslaw12_VouchCovers.run (g0_Nodes : Int) (g0_Edgesp : Option Addr) (g0_Edgesn : Nat) (g0_Edgesc : Nat) (w1_Matchp : Option Addr) (w1_Matchn : Nat) (w1_Matchc : Nat) (w1_Nodesp : Option Addr) (w1_Nodesn : Nat) (w1_Nodesc : Nat) (w1_Potp : Option Addr) (w1_Potn : Nat) (w1_Potc : Nat) (E : Value → Hp → Prop) (H : Hp) (K : Bool → Hp → Prop) : Prop := nodeM P0 T0 compasslaw12_VouchCovers.A compasslaw12_VouchCovers.code [] [] (compasslaw12_VouchCovers.rq E K) (argF 0 [.agg ⟨[.int .i64 g0_Nodes, .slice g0_Edgesp g0_Edgesn g0_Edgesc]⟩, .agg ⟨[.slice w1_Matchp w1_Matchn w1_Matchc, .slice w1_Nodesp w1_Nodesn w1_Nodesc, .slice w1_Potp w1_Potn w1_Potc]⟩]) H
theorem compasslaw12_VouchCovers.of {g0_Nodes : Int} {g0_Edgesp : Option Addr} {g0_Edgesn : Nat} {g0_Edgesc : Nat} {w1_Matchp : Option Addr} {w1_Matchn : Nat} {w1_Matchc : Nat} {w1_Nodesp : Option Addr} {w1_Nodesn : Nat} {w1_Nodesc : Nat} {w1_Potp : Option Addr} {w1_Potn : Nat} {w1_Potc : Nat} {E : Value → Hp → Prop} {H : Hp} {K : Bool → Hp → Prop} (h : compasslaw12_VouchCovers.run g0_Nodes g0_Edgesp g0_Edgesn g0_Edgesc w1_Matchp w1_Matchn w1_Matchc w1_Nodesp w1_Nodesn w1_Nodesc w1_Potp w1_Potn w1_Potc E H K) : compasslaw12_VouchCovers.call g0_Nodes g0_Edgesp g0_Edgesn g0_Edgesc w1_Matchp w1_Matchn w1_Matchc w1_Nodesp w1_Nodesn w1_Nodesc w1_Potp w1_Potn w1_Potc E H K :=
  callW_of T0_ok P0_mixed (A := compasslaw12_VouchCovers.A) (fn := Go.Proofs.Try.f14) Go.Proofs.Try.func14 rfl compasslaw12_VouchCovers.ok rfl h
theorem compasslaw12_VouchCovers.nok : nodesOk compasslaw12_VouchCovers.code [] = true := by kernel_rfl
def compasslaw12_VouchCovers.run_t  (g0_Nodes : Int) (g0_Edgesp : Option Addr) (g0_Edgesn : Nat) (g0_Edgesc : Nat) (w1_Matchp : Option Addr) (w1_Matchn : Nat) (w1_Matchc : Nat) (w1_Nodesp : Option Addr) (w1_Nodesn : Nat) (w1_Nodesc : Nat) (w1_Potp : Option Addr) (w1_Potn : Nat) (w1_Potc : Nat)  (E : Value → Hp → Prop) (H : Hp) (K : Bool → Hp → Prop) : Prop :=
  nw H ⟨[.int .i64 g0_Nodes, .slice g0_Edgesp g0_Edgesn g0_Edgesc], 24⟩ fun b_1 H_1 =>
  nw H_1 ⟨[.slice w1_Matchp w1_Matchn w1_Matchc, .slice w1_Nodesp w1_Nodesn w1_Nodesc, .slice w1_Potp w1_Potn w1_Potc], 67⟩ fun b_2 H_2 =>
  compasslaw12_awake.call  E H_2 fun r_1 H_3 =>
  bcase ((!r_1)) (
  K false H_3)
  (ldI .i64 (H_3.get b_1 0) fun x_1 =>
  ldS (H_3.get b_1 1) fun x_2p x_2n x_2c =>
  ldS (H_3.get b_2 0) fun x_3p x_3n x_3c =>
  ldS (H_3.get b_2 1) fun x_4p x_4n x_4c =>
  vouch_Covered.call x_1 x_2p x_2n x_2c x_3p x_3n x_3c x_4p x_4n x_4c E H_3 fun r_2 r_3 H_4 =>
  ldI .i64 (H_4.get b_1 0) fun x_5 =>
  ldS (H_4.get b_1 1) fun x_6p x_6n x_6c =>
  ldS (H_4.get b_2 0) fun x_7p x_7n x_7c =>
  ldS (H_4.get b_2 1) fun x_8p x_8n x_8c =>
  compassref12_Covered.call x_5 x_6p x_6n x_6c x_7p x_7n x_7c x_8p x_8n x_8c E H_4 fun r_4 r_5 H_5 =>
  ldI .i64 (H_5.get b_1 0) fun x_9 =>
  ldS (H_5.get b_1 1) fun x_10p x_10n x_10c =>
  ldS (H_5.get b_2 0) fun x_11p x_11n x_11c =>
  ldS (H_5.get b_2 2) fun x_12p x_12n x_12c =>
  vouch_Heaviest.call x_9 x_10p x_10n x_10c x_11p x_11n x_11c x_12p x_12n x_12c E H_5 fun r_6 r_7 H_6 =>
  ldI .i64 (H_6.get b_1 0) fun x_13 =>
  ldS (H_6.get b_1 1) fun x_14p x_14n x_14c =>
  ldS (H_6.get b_2 0) fun x_15p x_15n x_15c =>
  ldS (H_6.get b_2 2) fun x_16p x_16n x_16c =>
  compassref12_Heaviest.call x_13 x_14p x_14n x_14c x_15p x_15n x_15c x_16p x_16n x_16c E H_6 fun r_8 r_9 H_7 =>
  bcase (decide ((r_2 : Int) = r_4)) (
  bcase (decide ((r_3 : Int) = r_5)) (
  bcase (decide ((r_6 : Int) = r_8)) (
  bcase (decide ((r_7 : Int) = r_9)) (
  ldI .i64 (H_7.get b_1 0) fun x_17 =>
  ldS (H_7.get b_1 1) fun x_18p x_18n x_18c =>
  ldS (H_7.get b_2 0) fun x_19p x_19n x_19c =>
  ldI .i64 (H_7.get b_1 0) fun x_20 =>
  ldS (H_7.get b_1 1) fun x_21p x_21n x_21c =>
  ldS (H_7.get b_2 0) fun x_22p x_22n x_22c =>
  vouch_Matching.call x_17 x_18p x_18n x_18c x_19p x_19n x_19c E H_7 fun r_10 H_8 =>
  (ldI .i64 (H_8.get b_1 0) fun x_24 =>
  ldS (H_8.get b_1 1) fun x_25p x_25n x_25c =>
  Value.agg ⟨[.int .i64 x_24, .slice x_25p x_25n x_25c]⟩ = Value.agg ⟨[.int .i64 x_20, .slice x_21p x_21n x_21c]⟩) ∧
  (ldS (H_8.get b_2 0) fun x_23p x_23n x_23c =>
  Value.slice x_23p x_23n x_23c = Value.slice x_22p x_22n x_22c) ∧
  compassref12_Matching.call x_20 x_21p x_21n x_21c x_22p x_22n x_22c E H_8 fun r_11 H_9 =>
  K (decide ((r_10 : Int) = r_11)) H_9)
  (K false H_7))
  (K false H_7))
  (K false H_7))
  (K false H_7))
theorem compasslaw12_VouchCovers.run_eq {g0_Nodes : Int} {g0_Edgesp : Option Addr} {g0_Edgesn : Nat} {g0_Edgesc : Nat} {w1_Matchp : Option Addr} {w1_Matchn : Nat} {w1_Matchc : Nat} {w1_Nodesp : Option Addr} {w1_Nodesn : Nat} {w1_Nodesc : Nat} {w1_Potp : Option Addr} {w1_Potn : Nat} {w1_Potc : Nat} { E : Value → Hp → Prop} {H : Hp} {K : Bool → Hp → Prop} (h : compasslaw12_VouchCovers.run_t  g0_Nodes g0_Edgesp g0_Edgesn g0_Edgesc w1_Matchp w1_Matchn w1_Matchc w1_Nodesp w1_Nodesn w1_Nodesc w1_Potp w1_Potn w1_Potc  E H K) : compasslaw12_VouchCovers.run g0_Nodes g0_Edgesp g0_Edgesn g0_Edgesc w1_Matchp w1_Matchn w1_Matchc w1_Nodesp w1_Nodesn w1_Nodesc w1_Potp w1_Potn w1_Potc  E H K := by
  have k1 : ∀ G : List Nat → Fr → Hp → Prop, nodeR P0 T0 compasslaw12_VouchCovers.A [] G compasslaw12_VouchCovers.code [] [] (compasslaw12_VouchCovers.rq E K) (argF 0 [.agg ⟨[.int .i64 g0_Nodes, .slice g0_Edgesp g0_Edgesn g0_Edgesc]⟩, .agg ⟨[.slice w1_Matchp w1_Matchn w1_Matchc, .slice w1_Nodesp w1_Nodesn w1_Nodesc, .slice w1_Potp w1_Potn w1_Potc]⟩]) H = compasslaw12_VouchCovers.run_t  g0_Nodes g0_Edgesp g0_Edgesn g0_Edgesc w1_Matchp w1_Matchn w1_Matchc w1_Nodesp w1_Nodesn w1_Nodesc w1_Potp w1_Potn w1_Potc  E H K := fun G => by kernel_rfl
  exact nodeR_imp compasslaw12_VouchCovers.nok rfl ((k1 _).mpr h)
end Go.Mz
