/-
  The shallow texts of functions (LawEv), each with a kernel-checked equation to the translated code. It proves nothing of the program by itself.
-/
import Derived.Test.YtjdhhepphbhjgaaTab
set_option linter.unusedVariables false
set_option maxRecDepth 100000
namespace Go.Mz
/-! ### compass/compasslaw12.VouchEvens (6) -/
noncomputable def compasslaw12_VouchEvens.A : An := { live := [(0, [0, 1]), (1, [2, 3]), (2, []), (3, [2, 3]), (4, [2, 3, 5, 6]), (5, [5, 6, 7, 8])], ord := [(4, [0, 1, 2, 3, 4, 5, 6, 7, 8, 9, 10, 11, 12, 13, 14, 15])], stb := [(4, [(9, [0, 2, 5])])], pre := [(4, [[], [], [1], [], [3], [3, 4], [], [6], [6, 7], [6, 7, 8], [0, 1, 2, 3, 4, 5, 6, 7, 8, 9], [0, 1, 2, 3, 4, 5, 6, 7, 8, 9, 10], [0, 1, 2, 3, 4, 5, 6, 7, 8, 9, 10, 11], [0, 1, 2, 3, 4, 5, 6, 7, 8, 9, 10, 11], [0, 1, 2, 3, 4, 5, 6, 7, 8, 9, 10, 11, 12], [0, 1, 2, 3, 4, 5, 6, 7, 8, 9, 10, 11, 12, 13, 14]])] }
noncomputable def compasslaw12_VouchEvens.code : Code := bodyOf Go.Proofs.Try.f6
theorem compasslaw12_VouchEvens.ok : okCode compasslaw12_VouchEvens.A 42 compasslaw12_VouchEvens.code = true := by kernel_rfl
def compasslaw12_VouchEvens.rq (E : Value → Hp → Prop) (K : Bool → Hp → Prop) : Ex → Fr → Hp → Prop := retQ T0 [.tmp 4] [4] (fun r H => ldR (.one false [.bool]) r fun u => K (asB u) H) E
def compasslaw12_VouchEvens.run (g0_Nodes : Int) (g0_Edgesp : Option Addr) (g0_Edgesn : Nat) (g0_Edgesc : Nat) (w1_Twicep : Option Addr) (w1_Twicen : Nat) (w1_Twicec : Nat) (w1_Metric_Distp : Option Addr) (w1_Metric_Distn : Nat) (w1_Metric_Distc : Nat) (w1_Metric_Duals_Yp : Option Addr) (w1_Metric_Duals_Yn : Nat) (w1_Metric_Duals_Yc : Nat) (w1_Metric_Duals_Setsp : Option Addr) (w1_Metric_Duals_Setsn : Nat) (w1_Metric_Duals_Setsc : Nat) (w1_Otherp : Option Addr) (w1_Othern : Nat) (w1_Otherc : Nat) (E : Value → Hp → Prop) (H : Hp) (K : Bool → Hp → Prop) : Prop := nodeM P0 T0 compasslaw12_VouchEvens.A compasslaw12_VouchEvens.code [] [] (compasslaw12_VouchEvens.rq E K) (argF 0 [.agg ⟨[.int .i64 g0_Nodes, .slice g0_Edgesp g0_Edgesn g0_Edgesc]⟩, .agg ⟨[.slice w1_Twicep w1_Twicen w1_Twicec, .slice w1_Metric_Distp w1_Metric_Distn w1_Metric_Distc, .slice w1_Metric_Duals_Yp w1_Metric_Duals_Yn w1_Metric_Duals_Yc, .slice w1_Metric_Duals_Setsp w1_Metric_Duals_Setsn w1_Metric_Duals_Setsc, .slice w1_Otherp w1_Othern w1_Otherc]⟩]) H
theorem compasslaw12_VouchEvens.of {g0_Nodes : Int} {g0_Edgesp : Option Addr} {g0_Edgesn : Nat} {g0_Edgesc : Nat} {w1_Twicep : Option Addr} {w1_Twicen : Nat} {w1_Twicec : Nat} {w1_Metric_Distp : Option Addr} {w1_Metric_Distn : Nat} {w1_Metric_Distc : Nat} {w1_Metric_Duals_Yp : Option Addr} {w1_Metric_Duals_Yn : Nat} {w1_Metric_Duals_Yc : Nat} {w1_Metric_Duals_Setsp : Option Addr} {w1_Metric_Duals_Setsn : Nat} {w1_Metric_Duals_Setsc : Nat} {w1_Otherp : Option Addr} {w1_Othern : Nat} {w1_Otherc : Nat} {E : Value → Hp → Prop} {H : Hp} {K : Bool → Hp → Prop} (h : compasslaw12_VouchEvens.run g0_Nodes g0_Edgesp g0_Edgesn g0_Edgesc w1_Twicep w1_Twicen w1_Twicec w1_Metric_Distp w1_Metric_Distn w1_Metric_Distc w1_Metric_Duals_Yp w1_Metric_Duals_Yn w1_Metric_Duals_Yc w1_Metric_Duals_Setsp w1_Metric_Duals_Setsn w1_Metric_Duals_Setsc w1_Otherp w1_Othern w1_Otherc E H K) : compasslaw12_VouchEvens.call g0_Nodes g0_Edgesp g0_Edgesn g0_Edgesc w1_Twicep w1_Twicen w1_Twicec w1_Metric_Distp w1_Metric_Distn w1_Metric_Distc w1_Metric_Duals_Yp w1_Metric_Duals_Yn w1_Metric_Duals_Yc w1_Metric_Duals_Setsp w1_Metric_Duals_Setsn w1_Metric_Duals_Setsc w1_Otherp w1_Othern w1_Otherc E H K :=
  callW_of T0_ok P0_mixed (A := compasslaw12_VouchEvens.A) (fn := Go.Proofs.Try.f6) Go.Proofs.Try.func6 rfl compasslaw12_VouchEvens.ok rfl h
theorem compasslaw12_VouchEvens.nok : nodesOk compasslaw12_VouchEvens.code [] = true := by kernel_rfl
def compasslaw12_VouchEvens.run_t  (g0_Nodes : Int) (g0_Edgesp : Option Addr) (g0_Edgesn : Nat) (g0_Edgesc : Nat) (w1_Twicep : Option Addr) (w1_Twicen : Nat) (w1_Twicec : Nat) (w1_Metric_Distp : Option Addr) (w1_Metric_Distn : Nat) (w1_Metric_Distc : Nat) (w1_Metric_Duals_Yp : Option Addr) (w1_Metric_Duals_Yn : Nat) (w1_Metric_Duals_Yc : Nat) (w1_Metric_Duals_Setsp : Option Addr) (w1_Metric_Duals_Setsn : Nat) (w1_Metric_Duals_Setsc : Nat) (w1_Otherp : Option Addr) (w1_Othern : Nat) (w1_Otherc : Nat)  (E : Value → Hp → Prop) (H : Hp) (K : Bool → Hp → Prop) : Prop :=
  nw H ⟨[.int .i64 g0_Nodes, .slice g0_Edgesp g0_Edgesn g0_Edgesc], 24⟩ fun b_1 H_1 =>
  nw H_1 ⟨[.slice w1_Twicep w1_Twicen w1_Twicec, .slice w1_Metric_Distp w1_Metric_Distn w1_Metric_Distc, .slice w1_Metric_Duals_Yp w1_Metric_Duals_Yn w1_Metric_Duals_Yc, .slice w1_Metric_Duals_Setsp w1_Metric_Duals_Setsn w1_Metric_Duals_Setsc, .slice w1_Otherp w1_Othern w1_Otherc], 62⟩ fun b_2 H_2 =>
  compasslaw12_awake.call  E H_2 fun r_1 H_3 =>
  bcase ((!r_1)) (
  K false H_3)
  (ldI .i64 (H_3.get b_1 0) fun x_1 =>
  ldS (H_3.get b_1 1) fun x_2p x_2n x_2c =>
  ldS (H_3.get b_2 0) fun x_3p x_3n x_3c =>
  ldS (H_3.get b_2 1) fun x_4p x_4n x_4c =>
  ldS (H_3.get b_2 2) fun x_5p x_5n x_5c =>
  ldS (H_3.get b_2 3) fun x_6p x_6n x_6c =>
  vouch_Doubled.call x_1 x_2p x_2n x_2c x_3p x_3n x_3c x_4p x_4n x_4c x_5p x_5n x_5c x_6p x_6n x_6c E H_3 fun r_2 r_3 H_4 =>
  ldI .i64 (H_4.get b_1 0) fun x_7 =>
  ldS (H_4.get b_1 1) fun x_8p x_8n x_8c =>
  ldS (H_4.get b_2 0) fun x_9p x_9n x_9c =>
  ldS (H_4.get b_2 1) fun x_10p x_10n x_10c =>
  ldS (H_4.get b_2 2) fun x_11p x_11n x_11c =>
  ldS (H_4.get b_2 3) fun x_12p x_12n x_12c =>
  compasslaw12_plain.call x_11p x_11n x_11c x_12p x_12n x_12c E H_4 fun r_4_Yp r_4_Yn r_4_Yc r_4_Setsp r_4_Setsn r_4_Setsc H_5 =>
  (ldI .i64 (H_5.get b_1 0) fun x_15 =>
  ldS (H_5.get b_1 1) fun x_16p x_16n x_16c =>
  Value.agg ⟨[.int .i64 x_15, .slice x_16p x_16n x_16c]⟩ = Value.agg ⟨[.int .i64 x_7, .slice x_8p x_8n x_8c]⟩) ∧
  (ldS (H_5.get b_2 0) fun x_14p x_14n x_14c =>
  Value.slice x_14p x_14n x_14c = Value.slice x_9p x_9n x_9c) ∧
  (ldS (H_5.get b_2 1) fun x_13p x_13n x_13c =>
  Value.slice x_13p x_13n x_13c = Value.slice x_10p x_10n x_10c) ∧
  compassref12_Doubled.call x_7 x_8p x_8n x_8c x_9p x_9n x_9c x_10p x_10n x_10c r_4_Yp r_4_Yn r_4_Yc r_4_Setsp r_4_Setsn r_4_Setsc E H_5 fun r_5 r_6 H_6 =>
  bcase (decide ((r_2 : Int) = r_5)) (
  K (decide ((r_3 : Int) = r_6)) H_6)
  (K false H_6))
theorem compasslaw12_VouchEvens.run_eq {g0_Nodes : Int} {g0_Edgesp : Option Addr} {g0_Edgesn : Nat} {g0_Edgesc : Nat} {w1_Twicep : Option Addr} {w1_Twicen : Nat} {w1_Twicec : Nat} {w1_Metric_Distp : Option Addr} {w1_Metric_Distn : Nat} {w1_Metric_Distc : Nat} {w1_Metric_Duals_Yp : Option Addr} {w1_Metric_Duals_Yn : Nat} {w1_Metric_Duals_Yc : Nat} {w1_Metric_Duals_Setsp : Option Addr} {w1_Metric_Duals_Setsn : Nat} {w1_Metric_Duals_Setsc : Nat} {w1_Otherp : Option Addr} {w1_Othern : Nat} {w1_Otherc : Nat} { E : Value → Hp → Prop} {H : Hp} {K : Bool → Hp → Prop} (h : compasslaw12_VouchEvens.run_t  g0_Nodes g0_Edgesp g0_Edgesn g0_Edgesc w1_Twicep w1_Twicen w1_Twicec w1_Metric_Distp w1_Metric_Distn w1_Metric_Distc w1_Metric_Duals_Yp w1_Metric_Duals_Yn w1_Metric_Duals_Yc w1_Metric_Duals_Setsp w1_Metric_Duals_Setsn w1_Metric_Duals_Setsc w1_Otherp w1_Othern w1_Otherc  E H K) : compasslaw12_VouchEvens.run g0_Nodes g0_Edgesp g0_Edgesn g0_Edgesc w1_Twicep w1_Twicen w1_Twicec w1_Metric_Distp w1_Metric_Distn w1_Metric_Distc w1_Metric_Duals_Yp w1_Metric_Duals_Yn w1_Metric_Duals_Yc w1_Metric_Duals_Setsp w1_Metric_Duals_Setsn w1_Metric_Duals_Setsc w1_Otherp w1_Othern w1_Otherc  E H K := by
  have k1 : ∀ G : List Nat → Fr → Hp → Prop, nodeR P0 T0 compasslaw12_VouchEvens.A [] G compasslaw12_VouchEvens.code [] [] (compasslaw12_VouchEvens.rq E K) (argF 0 [.agg ⟨[.int .i64 g0_Nodes, .slice g0_Edgesp g0_Edgesn g0_Edgesc]⟩, .agg ⟨[.slice w1_Twicep w1_Twicen w1_Twicec, .slice w1_Metric_Distp w1_Metric_Distn w1_Metric_Distc, .slice w1_Metric_Duals_Yp w1_Metric_Duals_Yn w1_Metric_Duals_Yc, .slice w1_Metric_Duals_Setsp w1_Metric_Duals_Setsn w1_Metric_Duals_Setsc, .slice w1_Otherp w1_Othern w1_Otherc]⟩]) H = compasslaw12_VouchEvens.run_t  g0_Nodes g0_Edgesp g0_Edgesn g0_Edgesc w1_Twicep w1_Twicen w1_Twicec w1_Metric_Distp w1_Metric_Distn w1_Metric_Distc w1_Metric_Duals_Yp w1_Metric_Duals_Yn w1_Metric_Duals_Yc w1_Metric_Duals_Setsp w1_Metric_Duals_Setsn w1_Metric_Duals_Setsc w1_Otherp w1_Othern w1_Otherc  E H K := fun G => by kernel_rfl
  exact nodeR_imp compasslaw12_VouchEvens.nok rfl ((k1 _).mpr h)
end Go.Mz
