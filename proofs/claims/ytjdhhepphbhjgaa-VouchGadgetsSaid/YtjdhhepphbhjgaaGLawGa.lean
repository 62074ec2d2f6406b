/-
  The shallow texts of functions (LawGa), each with a kernel-checked equation to the translated code. It proves nothing of the program by itself.
-/
import Derived.Test.YtjdhhepphbhjgaaTab
set_option linter.unusedVariables false
set_option maxRecDepth 100000
namespace Go.Mz
/-! ### compass/compasslaw12.VouchGadgets (5) -/
noncomputable def compasslaw12_VouchGadgets.A : An := { live := [(0, [0, 1]), (1, [2, 3]), (2, []), (3, [2, 3]), (4, [2, 3, 5, 6]), (5, [2, 3, 5, 6, 7, 9]), (6, [2, 3, 5, 6, 7, 9, 10, 11]), (7, [5, 6, 7, 9, 10, 11, 12, 13])], ord := [], stb := [], pre := [] }
noncomputable def compasslaw12_VouchGadgets.code : Code := bodyOf Go.Proofs.Try.f5
theorem compasslaw12_VouchGadgets.ok : okCode compasslaw12_VouchGadgets.A 71 compasslaw12_VouchGadgets.code = true := by kernel_rfl
def compasslaw12_VouchGadgets.rq (E : Value → Hp → Prop) (K : Bool → Hp → Prop) : Ex → Fr → Hp → Prop := retQ T0 [.tmp 4] [4] (fun r H => ldR (.one false [.bool]) r fun u => K (asB u) H) E
def compasslaw12_VouchGadgets.run (g0_Nodes : Int) (g0_Edgesp : Option Addr) (g0_Edgesn : Nat) (g0_Edgesc : Nat) (w1_Mostp : Option Addr) (w1_Mostn : Nat) (w1_Mostc : Nat) (w1_Matchp : Option Addr) (w1_Matchn : Nat) (w1_Matchc : Nat) (w1_Setp : Option Addr) (w1_Setn : Nat) (w1_Setc : Nat) (w1_Otherp : Option Addr) (w1_Othern : Nat) (w1_Otherc : Nat) (E : Value → Hp → Prop) (H : Hp) (K : Bool → Hp → Prop) : Prop := nodeM P0 T0 compasslaw12_VouchGadgets.A compasslaw12_VouchGadgets.code [] [] (compasslaw12_VouchGadgets.rq E K) (argF 0 [.agg ⟨[.int .i64 g0_Nodes, .slice g0_Edgesp g0_Edgesn g0_Edgesc]⟩, .agg ⟨[.slice w1_Mostp w1_Mostn w1_Mostc, .slice w1_Matchp w1_Matchn w1_Matchc, .slice w1_Setp w1_Setn w1_Setc, .slice w1_Otherp w1_Othern w1_Otherc]⟩]) H
theorem compasslaw12_VouchGadgets.of {g0_Nodes : Int} {g0_Edgesp : Option Addr} {g0_Edgesn : Nat} {g0_Edgesc : Nat} {w1_Mostp : Option Addr} {w1_Mostn : Nat} {w1_Mostc : Nat} {w1_Matchp : Option Addr} {w1_Matchn : Nat} {w1_Matchc : Nat} {w1_Setp : Option Addr} {w1_Setn : Nat} {w1_Setc : Nat} {w1_Otherp : Option Addr} {w1_Othern : Nat} {w1_Otherc : Nat} {E : Value → Hp → Prop} {H : Hp} {K : Bool → Hp → Prop} (h : compasslaw12_VouchGadgets.run g0_Nodes g0_Edgesp g0_Edgesn g0_Edgesc w1_Mostp w1_Mostn w1_Mostc w1_Matchp w1_Matchn w1_Matchc w1_Setp w1_Setn w1_Setc w1_Otherp w1_Othern w1_Otherc E H K) : compasslaw12_VouchGadgets.call g0_Nodes g0_Edgesp g0_Edgesn g0_Edgesc w1_Mostp w1_Mostn w1_Mostc w1_Matchp w1_Matchn w1_Matchc w1_Setp w1_Setn w1_Setc w1_Otherp w1_Othern w1_Otherc E H K :=
  callW_of T0_ok P0_mixed (A := compasslaw12_VouchGadgets.A) (fn := Go.Proofs.Try.f5) Go.Proofs.Try.func5 rfl compasslaw12_VouchGadgets.ok rfl h
theorem compasslaw12_VouchGadgets.nok : nodesOk compasslaw12_VouchGadgets.code [] = true := by kernel_rfl
def compasslaw12_VouchGadgets.run_t  (g0_Nodes : Int) (g0_Edgesp : Option Addr) (g0_Edgesn : Nat) (g0_Edgesc : Nat) (w1_Mostp : Option Addr) (w1_Mostn : Nat) (w1_Mostc : Nat) (w1_Matchp : Option Addr) (w1_Matchn : Nat) (w1_Matchc : Nat) (w1_Setp : Option Addr) (w1_Setn : Nat) (w1_Setc : Nat) (w1_Otherp : Option Addr) (w1_Othern : Nat) (w1_Otherc : Nat)  (E : Value → Hp → Prop) (H : Hp) (K : Bool → Hp → Prop) : Prop :=
  nw H ⟨[.int .i64 g0_Nodes, .slice g0_Edgesp g0_Edgesn g0_Edgesc], 24⟩ fun b_1 H_1 =>
  nw H_1 ⟨[.slice w1_Mostp w1_Mostn w1_Mostc, .slice w1_Matchp w1_Matchn w1_Matchc, .slice w1_Setp w1_Setn w1_Setc, .slice w1_Otherp w1_Othern w1_Otherc], 49⟩ fun b_2 H_2 =>
  compasslaw12_awake.call  E H_2 fun r_1 H_3 =>
  bcase ((!r_1)) (
  K false H_3)
  (ldI .i64 (H_3.get b_1 0) fun x_1 =>
  ldS (H_3.get b_1 1) fun x_2p x_2n x_2c =>
  ldS (H_3.get b_2 0) fun x_3p x_3n x_3c =>
  vouch_Gadget.call x_1 x_2p x_2n x_2c x_3p x_3n x_3c E H_3 fun r_2_Nodes r_2_Edgesp r_2_Edgesn r_2_Edgesc r_3 H_4 =>
  nw H_4 ⟨[.int .i64 0, .slice none 0 0], 24⟩ fun b_3 H_5 =>
  stC H_5 b_3 0 [.int .i64 r_2_Nodes, .slice r_2_Edgesp r_2_Edgesn r_2_Edgesc] fun H_6 =>
  ldI .i64 (H_6.get b_1 0) fun x_4 =>
  ldS (H_6.get b_1 1) fun x_5p x_5n x_5c =>
  ldS (H_6.get b_2 0) fun x_6p x_6n x_6c =>
  compassref12_Gadget.call x_4 x_5p x_5n x_5c x_6p x_6n x_6c E H_6 fun r_4_Nodes r_4_Edgesp r_4_Edgesn r_4_Edgesc r_5 r_6 H_7 =>
  nw H_7 ⟨[.int .i64 0, .slice none 0 0], 24⟩ fun b_4 H_8 =>
  stC H_8 b_4 0 [.int .i64 r_4_Nodes, .slice r_4_Edgesp r_4_Edgesn r_4_Edgesc] fun H_9 =>
  ldI .i64 (H_9.get b_1 0) fun x_7 =>
  ldS (H_9.get b_1 1) fun x_8p x_8n x_8c =>
  ldS (H_9.get b_2 0) fun x_9p x_9n x_9c =>
  ldS (H_9.get b_2 1) fun x_10p x_10n x_10c =>
  ldS (H_9.get b_2 2) fun x_11p x_11n x_11c =>
  vouch_Many.call x_7 x_8p x_8n x_8c x_9p x_9n x_9c x_10p x_10n x_10c x_11p x_11n x_11c E H_9 fun r_7 r_8 H_10 =>
  ldI .i64 (H_10.get b_1 0) fun x_12 =>
  ldS (H_10.get b_1 1) fun x_13p x_13n x_13c =>
  ldS (H_10.get b_2 0) fun x_14p x_14n x_14c =>
  ldS (H_10.get b_2 1) fun x_15p x_15n x_15c =>
  ldS (H_10.get b_2 2) fun x_16p x_16n x_16c =>
  compassref12_Many.call x_12 x_13p x_13n x_13c x_14p x_14n x_14c x_15p x_15n x_15c x_16p x_16n x_16c E H_10 fun r_9 r_10 H_11 =>
  ldI .i64 (H_11.get b_3 0) fun x_17 =>
  ldS (H_11.get b_3 1) fun x_18p x_18n x_18c =>
  ldI .i64 (H_11.get b_4 0) fun x_19 =>
  ldS (H_11.get b_4 1) fun x_20p x_20n x_20c =>
  compassref03_Same.call x_17 x_18p x_18n x_18c x_19 x_20p x_20n x_20c E H_11 fun r_11 H_12 =>
  bcase (r_11) (
  bcase (decide ((r_3 : Int) = r_6)) (
  bcase (decide ((r_7 : Int) = r_9)) (
  K (decide ((r_8 : Int) = r_10)) H_12)
  (K false H_12))
  (K false H_12))
  (K false H_12))
theorem compasslaw12_VouchGadgets.run_eq {g0_Nodes : Int} {g0_Edgesp : Option Addr} {g0_Edgesn : Nat} {g0_Edgesc : Nat} {w1_Mostp : Option Addr} {w1_Mostn : Nat} {w1_Mostc : Nat} {w1_Matchp : Option Addr} {w1_Matchn : Nat} {w1_Matchc : Nat} {w1_Setp : Option Addr} {w1_Setn : Nat} {w1_Setc : Nat} {w1_Otherp : Option Addr} {w1_Othern : Nat} {w1_Otherc : Nat} { E : Value → Hp → Prop} {H : Hp} {K : Bool → Hp → Prop} (h : compasslaw12_VouchGadgets.run_t  g0_Nodes g0_Edgesp g0_Edgesn g0_Edgesc w1_Mostp w1_Mostn w1_Mostc w1_Matchp w1_Matchn w1_Matchc w1_Setp w1_Setn w1_Setc w1_Otherp w1_Othern w1_Otherc  E H K) : compasslaw12_VouchGadgets.run g0_Nodes g0_Edgesp g0_Edgesn g0_Edgesc w1_Mostp w1_Mostn w1_Mostc w1_Matchp w1_Matchn w1_Matchc w1_Setp w1_Setn w1_Setc w1_Otherp w1_Othern w1_Otherc  E H K := by
  have k1 : ∀ G : List Nat → Fr → Hp → Prop, nodeR P0 T0 compasslaw12_VouchGadgets.A [] G compasslaw12_VouchGadgets.code [] [] (compasslaw12_VouchGadgets.rq E K) (argF 0 [.agg ⟨[.int .i64 g0_Nodes, .slice g0_Edgesp g0_Edgesn g0_Edgesc]⟩, .agg ⟨[.slice w1_Mostp w1_Mostn w1_Mostc, .slice w1_Matchp w1_Matchn w1_Matchc, .slice w1_Setp w1_Setn w1_Setc, .slice w1_Otherp w1_Othern w1_Otherc]⟩]) H = compasslaw12_VouchGadgets.run_t  g0_Nodes g0_Edgesp g0_Edgesn g0_Edgesc w1_Mostp w1_Mostn w1_Mostc w1_Matchp w1_Matchn w1_Matchc w1_Setp w1_Setn w1_Setc w1_Otherp w1_Othern w1_Otherc  E H K := fun G => by kernel_rfl
  exact nodeR_imp compasslaw12_VouchGadgets.nok rfl ((k1 _).mpr h)
end Go.Mz
