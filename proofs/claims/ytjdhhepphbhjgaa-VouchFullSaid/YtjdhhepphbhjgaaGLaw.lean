/-
  The shallow texts of functions (Law), each with a kernel-checked equation to the translated code. It proves nothing of the program by itself.
-/
import Derived.Test.YtjdhhepphbhjgaaTab
set_option linter.unusedVariables false
set_option maxRecDepth 100000
namespace Go.Mz
/-! ### compass/compasslaw12.awake (16) -/
noncomputable def compasslaw12_awake.A : An := { live := [(0, []), (1, []), (2, [1]), (3, [1, 2, 3]), (4, [1, 2, 3, 4, 5]), (5, [1, 2, 3, 4, 5, 6, 7]), (6, [1, 2, 3, 4, 5, 6, 7, 8, 9]), (7, [1, 2, 3, 4, 5, 6, 7, 8, 9, 10, 11]), (8, [1, 2, 3, 4, 5, 6, 7, 8, 9, 10, 11, 12, 13]), (9, [1, 2, 3, 4, 5, 6, 7, 8, 9, 10, 11, 12, 13, 14, 15])], ord := [], stb := [], pre := [] }
noncomputable def compasslaw12_awake.code : Code := bodyOf Go.Proofs.Try.f16
theorem compasslaw12_awake.ok : okCode compasslaw12_awake.A 138 compasslaw12_awake.code = true := by kernel_rfl
def compasslaw12_awake.rq (E : Value → Hp → Prop) (K : Bool → Hp → Prop) : Ex → Fr → Hp → Prop := retQ T0 [.tmp 0] [4] (fun r H => ldR (.one false [.bool]) r fun u => K (asB u) H) E
def compasslaw12_awake.run  (E : Value → Hp → Prop) (H : Hp) (K : Bool → Hp → Prop) : Prop := nodeM P0 T0 compasslaw12_awake.A compasslaw12_awake.code [] [] (compasslaw12_awake.rq E K) (argF 0 []) H
theorem compasslaw12_awake.of {E : Value → Hp → Prop} {H : Hp} {K : Bool → Hp → Prop} (h : compasslaw12_awake.run E H K) : compasslaw12_awake.call E H K :=
  callW_of T0_ok P0_mixed (A := compasslaw12_awake.A) (fn := Go.Proofs.Try.f16) Go.Proofs.Try.func16 rfl compasslaw12_awake.ok rfl h
theorem compasslaw12_awake.nok : nodesOk compasslaw12_awake.code [] = true := by kernel_rfl
def compasslaw12_awake.run_t    (E : Value → Hp → Prop) (H : Hp) (K : Bool → Hp → Prop) : Prop :=
  nw H ⟨[.int .i64 0, .int .i64 1, .int .i64 0, .int .i64 2], 84⟩ fun b_1 H_1 =>
  nw H_1 ⟨[.int .i64 0, .slice none 0 0], 24⟩ fun b_2 H_2 =>
  stC H_2 b_2 0 [.int .i64 2, .slice (some ⟨b_1, 0, none⟩) 1 1] fun H_3 =>
  ldI .i64 (H_3.get b_2 0) fun x_1 =>
  ldS (H_3.get b_2 1) fun x_2p x_2n x_2c =>
  nw H_3 ⟨[.int .i64 0], 3⟩ fun b_3 H_4 =>
  nw H_4 ⟨[.int .i64 1], 3⟩ fun b_4 H_5 =>
  vouch_Covered.call x_1 x_2p x_2n x_2c (some ⟨b_3, 0, none⟩) 1 1 (some ⟨b_4, 0, none⟩) 1 1 E H_5 fun r_1 r_2 H_6 =>
  ldI .i64 (H_6.get b_2 0) fun x_3 =>
  ldS (H_6.get b_2 1) fun x_4p x_4n x_4c =>
  nw H_6 ⟨[.int .i64 0], 3⟩ fun b_5 H_7 =>
  nw H_7 ⟨[.int .i64 2, .int .i64 0], 2⟩ fun b_6 H_8 =>
  vouch_Heaviest.call x_3 x_4p x_4n x_4c (some ⟨b_5, 0, none⟩) 1 1 (some ⟨b_6, 0, none⟩) 2 2 E H_8 fun r_3 r_4 H_9 =>
  ldI .i64 (H_9.get b_2 0) fun x_5 =>
  ldS (H_9.get b_2 1) fun x_6p x_6n x_6c =>
  nw H_9 ⟨[.int .i64 0], 3⟩ fun b_7 H_10 =>
  vouch_Largest.call x_5 x_6p x_6n x_6c (some ⟨b_7, 0, none⟩) 1 1 none 0 0 E H_10 fun r_5 r_6 H_11 =>
  ldI .i64 (H_11.get b_2 0) fun x_7 =>
  ldS (H_11.get b_2 1) fun x_8p x_8n x_8c =>
  nw H_11 ⟨[.int .i64 0], 3⟩ fun b_8 H_12 =>
  nw H_12 ⟨[.int .i64 3, .int .i64 1], 2⟩ fun b_9 H_13 =>
  vouch_Cheapest.call x_7 x_8p x_8n x_8c (some ⟨b_8, 0, none⟩) 1 1 (some ⟨b_9, 0, none⟩) 2 2 none 0 0 E H_13 fun r_7 r_8 H_14 =>
  ldI .i64 (H_14.get b_2 0) fun x_9 =>
  ldS (H_14.get b_2 1) fun x_10p x_10n x_10c =>
  nw H_14 ⟨[.int .i64 1, .int .i64 1], 3⟩ fun b_10 H_15 =>
  vouch_Gadget.call x_9 x_10p x_10n x_10c (some ⟨b_10, 0, none⟩) 2 2 E H_15 fun r_9_Nodes r_9_Edgesp r_9_Edgesn r_9_Edgesc r_10 H_16 =>
  nw H_16 ⟨[.int .i64 0, .slice none 0 0], 24⟩ fun b_11 H_17 =>
  stC H_17 b_11 0 [.int .i64 r_9_Nodes, .slice r_9_Edgesp r_9_Edgesn r_9_Edgesc] fun H_18 =>
  ldI .i64 (H_18.get b_2 0) fun x_11 =>
  ldS (H_18.get b_2 1) fun x_12p x_12n x_12c =>
  nw H_18 ⟨[.int .i64 1, .int .i64 1], 3⟩ fun b_12 H_19 =>
  nw H_19 ⟨[.int .i64 0], 3⟩ fun b_13 H_20 =>
  vouch_Many.call x_11 x_12p x_12n x_12c (some ⟨b_12, 0, none⟩) 2 2 (some ⟨b_13, 0, none⟩) 1 1 none 0 0 E H_20 fun r_11 r_12 H_21 =>
  ldI .i64 (H_21.get b_2 0) fun x_13 =>
  ldS (H_21.get b_2 1) fun x_14p x_14n x_14c =>
  nw H_21 ⟨[.int .i64 0], 3⟩ fun b_14 H_22 =>
  nw H_22 ⟨[.int .i64 0, .int .i64 2], 2⟩ fun b_15 H_23 =>
  nw H_23 ⟨[.int .i64 2, .int .i64 0], 2⟩ fun b_16 H_24 =>
  nw H_24 ⟨[.slice (some ⟨b_15, 0, none⟩) 2 2, .slice (some ⟨b_16, 0, none⟩) 2 2], 35⟩ fun b_17 H_25 =>
  nw H_25 ⟨[.int .i64 2, .int .i64 2], 2⟩ fun b_18 H_26 =>
  vouch_Doubled.call x_13 x_14p x_14n x_14c (some ⟨b_14, 0, none⟩) 1 1 (some ⟨b_17, 0, none⟩) 2 2 (some ⟨b_18, 0, none⟩) 2 2 none 0 0 E H_26 fun r_13 r_14 H_27 =>
  bcase (decide ((r_1 : Int) = 1)) (
  bcase (decide ((r_2 : Int) = 0)) (
  bcase (decide ((r_3 : Int) = 2)) (
  bcase (decide ((r_4 : Int) = 0)) (
  bcase (decide ((r_5 : Int) = 1)) (
  bcase (decide ((r_6 : Int) = 0)) (
  bcase (decide ((r_7 : Int) = 2)) (
  bcase (decide ((r_8 : Int) = 0)) (
  ldI .i64 (H_27.get b_11 0) fun x_15 =>
  bcase (decide ((x_15 : Int) = 4)) (
  ldS (H_27.get b_11 1) fun x_16p x_16n x_16c =>
  bcase (decide (((x_16n : Int) : Int) = 3)) (
  bcase (decide ((r_10 : Int) = 0)) (
  bcase (decide ((r_11 : Int) = 1)) (
  bcase (decide ((r_12 : Int) = 0)) (
  bcase (decide ((r_13 : Int) = 4)) (
  bcase (decide ((r_14 : Int) = 0)) (
  ldI .i64 (H_27.get b_2 0) fun x_17 =>
  ldS (H_27.get b_2 1) fun x_18p x_18n x_18c =>
  vouch_NoPerfect.call x_17 x_18p x_18n x_18c none 0 0 E H_27 fun r_15 H_28 =>
  K (decide ((r_15 : Int) = 221)) H_28)
  (K false H_27))
  (K false H_27))
  (K false H_27))
  (K false H_27))
  (K false H_27))
  (K false H_27))
  (K false H_27))
  (K false H_27))
  (K false H_27))
  (K false H_27))
  (K false H_27))
  (K false H_27))
  (K false H_27))
  (K false H_27))
  (K false H_27)
theorem compasslaw12_awake.run_eq { E : Value → Hp → Prop} {H : Hp} {K : Bool → Hp → Prop} (h : compasslaw12_awake.run_t    E H K) : compasslaw12_awake.run   E H K := by
  have k1 : ∀ G : List Nat → Fr → Hp → Prop, nodeR P0 T0 compasslaw12_awake.A [] G compasslaw12_awake.code [] [] (compasslaw12_awake.rq E K) (argF 0 []) H = compasslaw12_awake.run_t    E H K := fun G => by kernel_rfl
  exact nodeR_imp compasslaw12_awake.nok rfl ((k1 _).mpr h)
end Go.Mz
