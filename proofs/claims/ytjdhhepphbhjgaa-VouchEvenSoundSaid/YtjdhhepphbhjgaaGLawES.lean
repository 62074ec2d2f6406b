/-
  The shallow texts of functions (LawES), each with a kernel-checked equation to the translated code. It proves nothing of the program by itself.
-/
import Derived.Test.YtjdhhepphbhjgaaTab
set_option linter.unusedVariables false
set_option maxRecDepth 100000
namespace Go.Mz
/-! ### compass/compasslaw12.VouchEvenSound (11) -/
noncomputable def compasslaw12_VouchEvenSound.A : An := { live := [(0, [0, 1]), (1, [2, 3]), (2, []), (3, [2, 3]), (4, [2, 3, 5, 6]), (5, [5]), (6, [2, 3, 5]), (7, [2, 3, 5, 7])], ord := [(6, [0, 1, 2, 3, 4])], stb := [(6, [(2, [0])])], pre := [(6, [[], [], [1], [0, 1, 2], [0, 1, 2, 3]])] }
noncomputable def compasslaw12_VouchEvenSound.code : Code := bodyOf Go.Proofs.Try.f11
theorem compasslaw12_VouchEvenSound.ok : okCode compasslaw12_VouchEvenSound.A 42 compasslaw12_VouchEvenSound.code = true := by kernel_rfl
def compasslaw12_VouchEvenSound.rq (E : Value → Hp → Prop) (K : Bool → Hp → Prop) : Ex → Fr → Hp → Prop := retQ T0 [.tmp 4] [4] (fun r H => ldR (.one false [.bool]) r fun u => K (asB u) H) E
def compasslaw12_VouchEvenSound.run (g0_Nodes : Int) (g0_Edgesp : Option Addr) (g0_Edgesn : Nat) (g0_Edgesc : Nat) (w1_Twicep : Option Addr) (w1_Twicen : Nat) (w1_Twicec : Nat) (w1_Metric_Distp : Option Addr) (w1_Metric_Distn : Nat) (w1_Metric_Distc : Nat) (w1_Metric_Duals_Yp : Option Addr) (w1_Metric_Duals_Yn : Nat) (w1_Metric_Duals_Yc : Nat) (w1_Metric_Duals_Setsp : Option Addr) (w1_Metric_Duals_Setsn : Nat) (w1_Metric_Duals_Setsc : Nat) (w1_Otherp : Option Addr) (w1_Othern : Nat) (w1_Otherc : Nat) (E : Value → Hp → Prop) (H : Hp) (K : Bool → Hp → Prop) : Prop := nodeM P0 T0 compasslaw12_VouchEvenSound.A compasslaw12_VouchEvenSound.code [] [] (compasslaw12_VouchEvenSound.rq E K) (argF 0 [.agg ⟨[.int .i64 g0_Nodes, .slice g0_Edgesp g0_Edgesn g0_Edgesc]⟩, .agg ⟨[.slice w1_Twicep w1_Twicen w1_Twicec, .slice w1_Metric_Distp w1_Metric_Distn w1_Metric_Distc, .slice w1_Metric_Duals_Yp w1_Metric_Duals_Yn w1_Metric_Duals_Yc, .slice w1_Metric_Duals_Setsp w1_Metric_Duals_Setsn w1_Metric_Duals_Setsc, .slice w1_Otherp w1_Othern w1_Otherc]⟩]) H
theorem compasslaw12_VouchEvenSound.of {g0_Nodes : Int} {g0_Edgesp : Option Addr} {g0_Edgesn : Nat} {g0_Edgesc : Nat} {w1_Twicep : Option Addr} {w1_Twicen : Nat} {w1_Twicec : Nat} {w1_Metric_Distp : Option Addr} {w1_Metric_Distn : Nat} {w1_Metric_Distc : Nat} {w1_Metric_Duals_Yp : Option Addr} {w1_Metric_Duals_Yn : Nat} {w1_Metric_Duals_Yc : Nat} {w1_Metric_Duals_Setsp : Option Addr} {w1_Metric_Duals_Setsn : Nat} {w1_Metric_Duals_Setsc : Nat} {w1_Otherp : Option Addr} {w1_Othern : Nat} {w1_Otherc : Nat} {E : Value → Hp → Prop} {H : Hp} {K : Bool → Hp → Prop} (h : compasslaw12_VouchEvenSound.run g0_Nodes g0_Edgesp g0_Edgesn g0_Edgesc w1_Twicep w1_Twicen w1_Twicec w1_Metric_Distp w1_Metric_Distn w1_Metric_Distc w1_Metric_Duals_Yp w1_Metric_Duals_Yn w1_Metric_Duals_Yc w1_Metric_Duals_Setsp w1_Metric_Duals_Setsn w1_Metric_Duals_Setsc w1_Otherp w1_Othern w1_Otherc E H K) : compasslaw12_VouchEvenSound.call g0_Nodes g0_Edgesp g0_Edgesn g0_Edgesc w1_Twicep w1_Twicen w1_Twicec w1_Metric_Distp w1_Metric_Distn w1_Metric_Distc w1_Metric_Duals_Yp w1_Metric_Duals_Yn w1_Metric_Duals_Yc w1_Metric_Duals_Setsp w1_Metric_Duals_Setsn w1_Metric_Duals_Setsc w1_Otherp w1_Othern w1_Otherc E H K :=
  callW_of T0_ok P0_mixed (A := compasslaw12_VouchEvenSound.A) (fn := Go.Proofs.Try.f11) Go.Proofs.Try.func11 rfl compasslaw12_VouchEvenSound.ok rfl h
theorem compasslaw12_VouchEvenSound.nok : nodesOk compasslaw12_VouchEvenSound.code [] = true := by kernel_rfl
def compasslaw12_VouchEvenSound.run_t  (g0_Nodes : Int) (g0_Edgesp : Option Addr) (g0_Edgesn : Nat) (g0_Edgesc : Nat) (w1_Twicep : Option Addr) (w1_Twicen : Nat) (w1_Twicec : Nat) (w1_Metric_Distp : Option Addr) (w1_Metric_Distn : Nat) (w1_Metric_Distc : Nat) (w1_Metric_Duals_Yp : Option Addr) (w1_Metric_Duals_Yn : Nat) (w1_Metric_Duals_Yc : Nat) (w1_Metric_Duals_Setsp : Option Addr) (w1_Metric_Duals_Setsn : Nat) (w1_Metric_Duals_Setsc : Nat) (w1_Otherp : Option Addr) (w1_Othern : Nat) (w1_Otherc : Nat)  (E : Value → Hp → Prop) (H : Hp) (K : Bool → Hp → Prop) : Prop :=
  nw H ⟨[.int .i64 g0_Nodes, .slice g0_Edgesp g0_Edgesn g0_Edgesc], 24⟩ fun b_1 H_1 =>
  nw H_1 ⟨[.slice w1_Twicep w1_Twicen w1_Twicec, .slice w1_Metric_Distp w1_Metric_Distn w1_Metric_Distc, .slice w1_Metric_Duals_Yp w1_Metric_Duals_Yn w1_Metric_Duals_Yc, .slice w1_Metric_Duals_Setsp w1_Metric_Duals_Setsn w1_Metric_Duals_Setsc, .slice w1_Otherp w1_Othern w1_Otherc], 62⟩ fun b_2 H_2 =>
  compasslaw12_awake.call  E H_2 fun r_1 H_3 =>
  bcase ((!r_1)) (
  K false H_3)
  (ldI .i64 (H_3.get b_1 0) fun x_1 =>
  ldS (H_3.get b_1 1) fun x_2p x_2n x_2c =>
  ldS (H_3.get b_2 0) fun x_3p x_3n x_3c =>
  ldS (H_3.get b_2 1) fun x_4p x_4n x_4c =>
  ldS (H_3.get b_2 2) fun x_5p x_5n x_5c =>
  ldS (H_3.get b_2 3) fun x_6p x_6n x_6c =>
  vouch_Doubled.call x_1 x_2p x_2n x_2c x_3p x_3n x_3c x_4p x_4n x_4c x_5p x_5n x_5c x_6p x_6n x_6c E H_3 fun r_2 r_3 H_4 =>
  bcase (!decide ((r_3 : Int) = 0)) (
  K (decide ((r_2 : Int) = 0)) H_4)
  (ldI .i64 (H_4.get b_1 0) fun x_7 =>
  ldS (H_4.get b_1 1) fun x_8p x_8n x_8c =>
  ldI .i64 (H_4.get b_1 0) fun x_9 =>
  ldS (H_4.get b_1 1) fun x_10p x_10n x_10c =>
  compassref12_All.call x_9 x_10p x_10n x_10c E H_4 fun r_4p r_4n r_4c H_5 =>
  (ldI .i64 (H_5.get b_1 0) fun x_17 =>
  ldS (H_5.get b_1 1) fun x_18p x_18n x_18c =>
  Value.agg ⟨[.int .i64 x_17, .slice x_18p x_18n x_18c]⟩ = Value.agg ⟨[.int .i64 x_7, .slice x_8p x_8n x_8c]⟩) ∧
  compassref12_Cost.call x_7 x_8p x_8n x_8c r_4p r_4n r_4c E H_5 fun r_5 H_6 =>
  ldI .i64 (H_6.get b_1 0) fun x_11 =>
  ldS (H_6.get b_1 1) fun x_12p x_12n x_12c =>
  ldS (H_6.get b_2 4) fun x_13p x_13n x_13c =>
  compassref12_Evens.call x_11 x_12p x_12n x_12c x_13p x_13n x_13c E H_6 fun r_6 H_7 =>
  bcase ((!r_6)) (
  K true H_7)
  (ldI .i64 (H_7.get b_1 0) fun x_14 =>
  ldS (H_7.get b_1 1) fun x_15p x_15n x_15c =>
  ldS (H_7.get b_2 4) fun x_16p x_16n x_16c =>
  compassref12_Cost.call x_14 x_15p x_15n x_15c x_16p x_16n x_16c E H_7 fun r_7 H_8 =>
  K (decide ((r_2 : Int) ≤ (IntKind.wrap .i64 (r_5 + r_7)))) H_8)))
theorem compasslaw12_VouchEvenSound.run_eq {g0_Nodes : Int} {g0_Edgesp : Option Addr} {g0_Edgesn : Nat} {g0_Edgesc : Nat} {w1_Twicep : Option Addr} {w1_Twicen : Nat} {w1_Twicec : Nat} {w1_Metric_Distp : Option Addr} {w1_Metric_Distn : Nat} {w1_Metric_Distc : Nat} {w1_Metric_Duals_Yp : Option Addr} {w1_Metric_Duals_Yn : Nat} {w1_Metric_Duals_Yc : Nat} {w1_Metric_Duals_Setsp : Option Addr} {w1_Metric_Duals_Setsn : Nat} {w1_Metric_Duals_Setsc : Nat} {w1_Otherp : Option Addr} {w1_Othern : Nat} {w1_Otherc : Nat} { E : Value → Hp → Prop} {H : Hp} {K : Bool → Hp → Prop} (h : compasslaw12_VouchEvenSound.run_t  g0_Nodes g0_Edgesp g0_Edgesn g0_Edgesc w1_Twicep w1_Twicen w1_Twicec w1_Metric_Distp w1_Metric_Distn w1_Metric_Distc w1_Metric_Duals_Yp w1_Metric_Duals_Yn w1_Metric_Duals_Yc w1_Metric_Duals_Setsp w1_Metric_Duals_Setsn w1_Metric_Duals_Setsc w1_Otherp w1_Othern w1_Otherc  E H K) : compasslaw12_VouchEvenSound.run g0_Nodes g0_Edgesp g0_Edgesn g0_Edgesc w1_Twicep w1_Twicen w1_Twicec w1_Metric_Distp w1_Metric_Distn w1_Metric_Distc w1_Metric_Duals_Yp w1_Metric_Duals_Yn w1_Metric_Duals_Yc w1_Metric_Duals_Setsp w1_Metric_Duals_Setsn w1_Metric_Duals_Setsc w1_Otherp w1_Othern w1_Otherc  E H K := by
  have k1 : ∀ G : List Nat → Fr → Hp → Prop, nodeR P0 T0 compasslaw12_VouchEvenSound.A [] G compasslaw12_VouchEvenSound.code [] [] (compasslaw12_VouchEvenSound.rq E K) (argF 0 [.agg ⟨[.int .i64 g0_Nodes, .slice g0_Edgesp g0_Edgesn g0_Edgesc]⟩, .agg ⟨[.slice w1_Twicep w1_Twicen w1_Twicec, .slice w1_Metric_Distp w1_Metric_Distn w1_Metric_Distc, .slice w1_Metric_Duals_Yp w1_Metric_Duals_Yn w1_Metric_Duals_Yc, .slice w1_Metric_Duals_Setsp w1_Metric_Duals_Setsn w1_Metric_Duals_Setsc, .slice w1_Otherp w1_Othern w1_Otherc]⟩]) H = compasslaw12_VouchEvenSound.run_t  g0_Nodes g0_Edgesp g0_Edgesn g0_Edgesc w1_Twicep w1_Twicen w1_Twicec w1_Metric_Distp w1_Metric_Distn w1_Metric_Distc w1_Metric_Duals_Yp w1_Metric_Duals_Yn w1_Metric_Duals_Yc w1_Metric_Duals_Setsp w1_Metric_Duals_Setsn w1_Metric_Duals_Setsc w1_Otherp w1_Othern w1_Otherc  E H K := fun G => by kernel_rfl
  exact nodeR_imp compasslaw12_VouchEvenSound.nok rfl ((k1 _).mpr h)
end Go.Mz
