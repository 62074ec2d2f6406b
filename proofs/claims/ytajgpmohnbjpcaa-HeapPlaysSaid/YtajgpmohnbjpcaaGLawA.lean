/-
  The shallow texts of functions (LawA), each with a kernel-checked equation to the translated code. It proves nothing of the program by itself.
-/
import Derived.Test.YtajgpmohnbjpcaaTab
set_option linter.unusedVariables false
set_option maxRecDepth 100000
namespace Go.Mz
/-! ### compass/compasslaw05.awake (14) -/
noncomputable def compasslaw05_awake.A : An := { live := [(0, []), (1, []), (2, []), (3, [1]), (4, [1]), (5, [1]), (6, [1, 2, 3]), (7, []), (8, [1, 2]), (9, [1, 2, 4, 5, 6]), (10, []), (11, [])], ord := [], stb := [], pre := [] }
noncomputable def compasslaw05_awake.code : Code := bodyOf Go.Proofs.Try.f14
theorem compasslaw05_awake.ok : okCode compasslaw05_awake.A 63 compasslaw05_awake.code = true := by kernel_rfl
def compasslaw05_awake.rq (E : Value → Hp → Prop) (K : Bool → Hp → Prop) : Ex → Fr → Hp → Prop := retQ T0 [.tmp 0] [4] (fun r H => ldR (.one false [.bool]) r fun u => K (asB u) H) E
def compasslaw05_awake.run  (E : Value → Hp → Prop) (H : Hp) (K : Bool → Hp → Prop) : Prop := nodeM P0 T0 compasslaw05_awake.A compasslaw05_awake.code [] [] (compasslaw05_awake.rq E K) (argF 0 []) H
theorem compasslaw05_awake.of {E : Value → Hp → Prop} {H : Hp} {K : Bool → Hp → Prop} (h : compasslaw05_awake.run E H K) : compasslaw05_awake.call E H K :=
  callW_of T0_ok P0_mixed (A := compasslaw05_awake.A) (fn := Go.Proofs.Try.f14) Go.Proofs.Try.func14 rfl compasslaw05_awake.ok rfl h
noncomputable def compasslaw05_awake.f1 (kind1 : Int) : Fr := [(1, .int .i64 kind1)]
def compasslaw05_awake.l1 (kind1 : Int)  (E : Value → Hp → Prop) (H : Hp) (K : Bool → Hp → Prop) : Prop := nodeM P0 T0 compasslaw05_awake.A compasslaw05_awake.code [1, 1, 0, 1, 0] [] (compasslaw05_awake.rq E K) (compasslaw05_awake.f1 kind1) H
def compasslaw05_awake.b1 (kind1 : Int)  (X1 : Fr → Hp → Prop) (E : Value → Hp → Prop) (H : Hp) (K : Bool → Hp → Prop) : Prop := nodeM P0 T0 compasslaw05_awake.A compasslaw05_awake.code [1, 1, 0, 1, 0, 0] [X1] (compasslaw05_awake.rq E K) (compasslaw05_awake.f1 kind1) H
theorem compasslaw05_awake.l1_rule { E : Value → Hp → Prop} {K : Bool → Hp → Prop} (I : Int → Hp → Prop) (μ : Int → Hp → Nat)
    (h : ∀ kind1 H, I kind1 H → ∀ X : Fr → Hp → Prop, (∀ kind1' H', I kind1' H' → μ kind1' H' < μ kind1 H → X (compasslaw05_awake.f1 kind1') H') → compasslaw05_awake.b1 kind1  X E H K)
    {kind1 : Int} {H : Hp} (hI : I kind1 H) : compasslaw05_awake.l1 kind1  E H K :=
  loop_rule (S := Int) (fun s => compasslaw05_awake.f1 s) (fun s H => I s H) (fun s H => μ s H) (fun s H hI X hX => h s H hI X fun kind1' H' hI' hlt => hX kind1' H' hI' hlt) (s := kind1) rfl hI
theorem compasslaw05_awake.nok : nodesOk compasslaw05_awake.code [[0, 1, 0, 1, 1]] = true := by kernel_rfl
def compasslaw05_awake.run_t (l1 : Int → Hp → Prop)   (E : Value → Hp → Prop) (H : Hp) (K : Bool → Hp → Prop) : Prop :=
  l1 1 H
theorem compasslaw05_awake.run_eq { E : Value → Hp → Prop} {H : Hp} {K : Bool → Hp → Prop} (h : compasslaw05_awake.run_t (fun kind1 H => compasslaw05_awake.l1 kind1  E H K)   E H K) : compasslaw05_awake.run   E H K := by
  have k1 : ∀ G : List Nat → Fr → Hp → Prop, nodeR P0 T0 compasslaw05_awake.A [[0, 1, 0, 1, 1]] G compasslaw05_awake.code [] [] (compasslaw05_awake.rq E K) (argF 0 []) H = compasslaw05_awake.run_t (fun kind1 H => G [0, 1, 0, 1, 1] [(1, .int .i64 kind1)] H)   E H K := fun G => by kernel_rfl
  have k2 : compasslaw05_awake.run_t (fun kind1 H => compasslaw05_awake.l1 kind1  E H K)   E H K = compasslaw05_awake.run_t (fun kind1 H => (fun q F H => nodeM P0 T0 compasslaw05_awake.A compasslaw05_awake.code q.reverse [] (compasslaw05_awake.rq E K) F H) [0, 1, 0, 1, 1] [(1, .int .i64 kind1)] H)   E H K := by kernel_rfl
  exact nodeR_imp compasslaw05_awake.nok rfl ((k1 _).mpr (k2.mp h))
def compasslaw05_awake.b1_t  (kind1 : Int) (X1 : Fr → Hp → Prop) (E : Value → Hp → Prop) (H : Hp) (K : Bool → Hp → Prop) : Prop :=
  bcase (decide ((kind1 : Int) ≤ 4)) (
  heaps_New.call kind1 2 E H fun r_1 r_2 H_1 =>
  bcase (Option.isNone r_1) (
  K false H_1)
  (bcase (!decide ((r_2 : Int) = 0)) (
  K false H_1)
  (heaps_Queue_Push.call r_1 0 7 E H_1 fun r_3 H_2 =>
  bcase (!decide ((r_3 : Int) = 0)) (
  K false H_2)
  (heaps_Queue_Push.call r_1 1 9 E H_2 fun r_4 H_3 =>
  bcase (!decide ((r_4 : Int) = 0)) (
  K false H_3)
  (heaps_Queue_Lower.call r_1 1 5 E H_3 fun r_5 H_4 =>
  bcase (!decide ((r_5 : Int) = 0)) (
  K false H_4)
  (heaps_Queue_Len.call r_1 E H_4 fun r_6 H_5 =>
  bcase (!decide ((r_6 : Int) = 2)) (
  K false H_5)
  (heaps_Queue_Pop.call r_1 E H_5 fun r_7 r_8 r_9 H_6 =>
  bcase (!decide ((r_7 : Int) = 1)) (
  K false H_6)
  (bcase (!decide ((r_8 : Int) = 5)) (
  K false H_6)
  (bcase (!decide ((r_9 : Int) = 0)) (
  K false H_6)
  (heaps_Queue_Len.call r_1 E H_6 fun r_10 H_7 =>
  bcase (!decide ((r_10 : Int) = 1)) (
  K false H_7)
  (X1 (compasslaw05_awake.f1 (IntKind.wrap .i64 (kind1 + 1))) H_7)))))))))))
  (K true H)
theorem compasslaw05_awake.b1_eq {kind1 : Int} {X1 : Fr → Hp → Prop} { E : Value → Hp → Prop} {H : Hp} {K : Bool → Hp → Prop} (h : compasslaw05_awake.b1_t  kind1 X1 E H K) : compasslaw05_awake.b1 kind1 X1 E H K := by
  have k1 : ∀ G : List Nat → Fr → Hp → Prop, nodeR P0 T0 compasslaw05_awake.A [[0, 1, 0, 1, 1]] G compasslaw05_awake.code [1, 1, 0, 1, 0, 0] [X1] (compasslaw05_awake.rq E K) (compasslaw05_awake.f1 kind1) H = compasslaw05_awake.b1_t  kind1 X1 E H K := fun G => by kernel_rfl
  exact nodeR_imp compasslaw05_awake.nok rfl ((k1 _).mpr h)
/-! ### compass/compasslaw05.step (21) -/
noncomputable def compasslaw05_step.A : An := { live := [(0, [0, 1, 2]), (1, [0, 4, 5, 6]), (2, [0, 4, 5, 6, 28]), (3, [0, 4, 5, 6]), (4, [0, 5, 6, 8, 9]), (5, [0, 4, 5, 6, 28]), (6, [0, 4, 5, 6]), (7, [0, 5, 6, 10, 11]), (8, [0, 4, 5, 6, 28]), (9, [0, 4, 6]), (10, [0, 6, 12, 13, 14]), (11, [6, 12, 13, 14, 15, 16, 17]), (12, [0, 4, 5, 6, 28]), (13, [0, 4, 6]), (14, [0, 4, 6, 18, 19]), (15, [4, 6, 18, 19, 20, 21, 22]), (16, [0, 4, 5, 6, 28]), (17, [0, 4, 5, 6]), (18, [0, 4, 5, 6, 23, 24]), (19, [4, 6, 23, 24, 25, 26]), (20, [4, 6])], ord := [(4, [0, 1, 2, 3, 4, 5, 7, 6, 8, 9, 10]), (7, [0, 1, 2, 3, 4, 5, 7, 6, 8, 9, 10])], stb := [(4, [(6, [0])]), (7, [(6, [0])])], pre := [(4, [[], [], [], [2], [], [4], [1, 2, 3, 4, 5], [], [1, 2, 3, 4, 5, 6, 7], [0, 1, 2, 3, 4, 5, 6], [0, 1, 2, 3, 4, 5, 6, 7, 8, 9]]), (7, [[], [], [], [2], [], [4], [1, 2, 3, 4, 5], [], [1, 2, 3, 4, 5, 6, 7], [0, 1, 2, 3, 4, 5, 6], [0, 1, 2, 3, 4, 5, 6, 7, 8, 9]])] }
noncomputable def compasslaw05_step.code : Code := bodyOf Go.Proofs.Try.f21
theorem compasslaw05_step.ok : okCode compasslaw05_step.A 154 compasslaw05_step.code = true := by kernel_rfl
def compasslaw05_step.rq (E : Value → Hp → Prop) (K : Int → Int → (Option Addr) → Nat → Nat → Int → Bool → Hp → Prop) : Ex → Fr → Hp → Prop := retQ T0 [.cell 6 40, .tmp 7] [40, 4] (fun r H => ldR (.tup [(true, [.i .i64, .i .i64, .sl, .i .i64]), (false, [.bool])]) r fun u => K (asI (cellV (tupV u 0) 0)) (asI (cellV (tupV u 0) 1)) (asS1 (cellV (tupV u 0) 2)) (asS2 (cellV (tupV u 0) 2)) (asS3 (cellV (tupV u 0) 2)) (asI (cellV (tupV u 0) 3)) (asB (tupV u 1)) H) E
def compasslaw05_step.run (q0 : Option Addr) (w1_Kind : Int) (w1_N : Int) (w1_Itemsp : Option Addr) (w1_Itemsn : Nat) (w1_Itemsc : Nat) (w1_Last : Int) (o2_Kind : Int) (o2_Handle : Int) (o2_Key : Int) (E : Value → Hp → Prop) (H : Hp) (K : Int → Int → (Option Addr) → Nat → Nat → Int → Bool → Hp → Prop) : Prop := nodeM P0 T0 compasslaw05_step.A compasslaw05_step.code [] [] (compasslaw05_step.rq E K) (argF 0 [.pointer q0, .agg ⟨[.int .i64 w1_Kind, .int .i64 w1_N, .slice w1_Itemsp w1_Itemsn w1_Itemsc, .int .i64 w1_Last]⟩, .agg ⟨[.int .i64 o2_Kind, .int .i64 o2_Handle, .int .i64 o2_Key]⟩]) H
theorem compasslaw05_step.of {q0 : Option Addr} {w1_Kind : Int} {w1_N : Int} {w1_Itemsp : Option Addr} {w1_Itemsn : Nat} {w1_Itemsc : Nat} {w1_Last : Int} {o2_Kind : Int} {o2_Handle : Int} {o2_Key : Int} {E : Value → Hp → Prop} {H : Hp} {K : Int → Int → (Option Addr) → Nat → Nat → Int → Bool → Hp → Prop} (h : compasslaw05_step.run q0 w1_Kind w1_N w1_Itemsp w1_Itemsn w1_Itemsc w1_Last o2_Kind o2_Handle o2_Key E H K) : compasslaw05_step.call q0 w1_Kind w1_N w1_Itemsp w1_Itemsn w1_Itemsc w1_Last o2_Kind o2_Handle o2_Key E H K :=
  callW_of T0_ok P0_mixed (A := compasslaw05_step.A) (fn := Go.Proofs.Try.f21) Go.Proofs.Try.func21 rfl compasslaw05_step.ok rfl h
theorem compasslaw05_step.nok : nodesOk compasslaw05_step.code [] = true := by kernel_rfl
def compasslaw05_step.run_t  (q0 : Option Addr) (w1_Kind : Int) (w1_N : Int) (w1_Itemsp : Option Addr) (w1_Itemsn : Nat) (w1_Itemsc : Nat) (w1_Last : Int) (o2_Kind : Int) (o2_Handle : Int) (o2_Key : Int)  (E : Value → Hp → Prop) (H : Hp) (K : Int → Int → (Option Addr) → Nat → Nat → Int → Bool → Hp → Prop) : Prop :=
  nw H ⟨[.int .i64 w1_Kind, .int .i64 w1_N, .slice w1_Itemsp w1_Itemsn w1_Itemsc, .int .i64 w1_Last], 40⟩ fun b_1 H_1 =>
  nw H_1 ⟨[.int .i64 o2_Kind, .int .i64 o2_Handle, .int .i64 o2_Key], 36⟩ fun b_2 H_2 =>
  nw H_2 ⟨[.int .i64 0, .int .i64 0, .slice none 0 0, .int .i64 0], 40⟩ fun b_3 H_3 =>
  ldI .i64 (H_3.get b_2 0) fun x_1 =>
  bcase (decide ((x_1 : Int) = 0)) (
  ldI .i64 (H_3.get b_1 0) fun x_2 =>
  ldI .i64 (H_3.get b_1 1) fun x_3 =>
  ldS (H_3.get b_1 2) fun x_4p x_4n x_4c =>
  ldI .i64 (H_3.get b_1 3) fun x_5 =>
  ldI .i64 (H_3.get b_2 1) fun x_6 =>
  ldI .i64 (H_3.get b_2 2) fun x_7 =>
  compassref05_Push.call x_2 x_3 x_4p x_4n x_4c x_5 x_6 x_7 E H_3 fun r_1_Kind r_1_N r_1_Itemsp r_1_Itemsn r_1_Itemsc r_1_Last r_2 H_4 =>
  nw H_4 ⟨[.int .i64 0, .int .i64 0, .slice none 0 0, .int .i64 0], 40⟩ fun b_4 H_5 =>
  stC H_5 b_4 0 [.int .i64 r_1_Kind, .int .i64 r_1_N, .slice r_1_Itemsp r_1_Itemsn r_1_Itemsc, .int .i64 r_1_Last] fun H_6 =>
  ldI .i64 (H_6.get b_4 0) fun x_8 =>
  ldI .i64 (H_6.get b_4 1) fun x_9 =>
  ldS (H_6.get b_4 2) fun x_10p x_10n x_10c =>
  ldI .i64 (H_6.get b_4 3) fun x_11 =>
  ldI .i64 (H_6.get b_2 1) fun x_12 =>
  ldI .i64 (H_6.get b_2 2) fun x_13 =>
  heaps_Queue_Push.call q0 x_12 x_13 E H_6 fun r_3 H_7 =>
  (ldI .i64 (H_7.get b_4 0) fun x_18 =>
  ldI .i64 (H_7.get b_4 1) fun x_19 =>
  ldS (H_7.get b_4 2) fun x_20p x_20n x_20c =>
  ldI .i64 (H_7.get b_4 3) fun x_21 =>
  Value.agg ⟨[.int .i64 x_18, .int .i64 x_19, .slice x_20p x_20n x_20c, .int .i64 x_21]⟩ = Value.agg ⟨[.int .i64 x_8, .int .i64 x_9, .slice x_10p x_10n x_10c, .int .i64 x_11]⟩) ∧
  stC H_7 b_3 0 [.int .i64 x_8, .int .i64 x_9, .slice x_10p x_10n x_10c, .int .i64 x_11] fun H_8 =>
  ldI .i64 (H_8.get b_3 0) fun x_14 =>
  ldI .i64 (H_8.get b_3 1) fun x_15 =>
  ldS (H_8.get b_3 2) fun x_16p x_16n x_16c =>
  ldI .i64 (H_8.get b_3 3) fun x_17 =>
  K x_14 x_15 x_16p x_16n x_16c x_17 (decide ((r_3 : Int) = r_2)) H_8)
  (bcase (decide ((x_1 : Int) = 1)) (
  ldI .i64 (H_3.get b_1 0) fun x_22 =>
  ldI .i64 (H_3.get b_1 1) fun x_23 =>
  ldS (H_3.get b_1 2) fun x_24p x_24n x_24c =>
  ldI .i64 (H_3.get b_1 3) fun x_25 =>
  ldI .i64 (H_3.get b_2 1) fun x_26 =>
  ldI .i64 (H_3.get b_2 2) fun x_27 =>
  compassref05_Lower.call x_22 x_23 x_24p x_24n x_24c x_25 x_26 x_27 E H_3 fun r_4_Kind r_4_N r_4_Itemsp r_4_Itemsn r_4_Itemsc r_4_Last r_5 H_9 =>
  nw H_9 ⟨[.int .i64 0, .int .i64 0, .slice none 0 0, .int .i64 0], 40⟩ fun b_5 H_10 =>
  stC H_10 b_5 0 [.int .i64 r_4_Kind, .int .i64 r_4_N, .slice r_4_Itemsp r_4_Itemsn r_4_Itemsc, .int .i64 r_4_Last] fun H_11 =>
  ldI .i64 (H_11.get b_5 0) fun x_28 =>
  ldI .i64 (H_11.get b_5 1) fun x_29 =>
  ldS (H_11.get b_5 2) fun x_30p x_30n x_30c =>
  ldI .i64 (H_11.get b_5 3) fun x_31 =>
  ldI .i64 (H_11.get b_2 1) fun x_32 =>
  ldI .i64 (H_11.get b_2 2) fun x_33 =>
  heaps_Queue_Lower.call q0 x_32 x_33 E H_11 fun r_6 H_12 =>
  (ldI .i64 (H_12.get b_5 0) fun x_38 =>
  ldI .i64 (H_12.get b_5 1) fun x_39 =>
  ldS (H_12.get b_5 2) fun x_40p x_40n x_40c =>
  ldI .i64 (H_12.get b_5 3) fun x_41 =>
  Value.agg ⟨[.int .i64 x_38, .int .i64 x_39, .slice x_40p x_40n x_40c, .int .i64 x_41]⟩ = Value.agg ⟨[.int .i64 x_28, .int .i64 x_29, .slice x_30p x_30n x_30c, .int .i64 x_31]⟩) ∧
  stC H_12 b_3 0 [.int .i64 x_28, .int .i64 x_29, .slice x_30p x_30n x_30c, .int .i64 x_31] fun H_13 =>
  ldI .i64 (H_13.get b_3 0) fun x_34 =>
  ldI .i64 (H_13.get b_3 1) fun x_35 =>
  ldS (H_13.get b_3 2) fun x_36p x_36n x_36c =>
  ldI .i64 (H_13.get b_3 3) fun x_37 =>
  K x_34 x_35 x_36p x_36n x_36c x_37 (decide ((r_6 : Int) = r_5)) H_13)
  (bcase (decide ((x_1 : Int) = 2)) (
  ldI .i64 (H_3.get b_1 0) fun x_42 =>
  ldI .i64 (H_3.get b_1 1) fun x_43 =>
  ldS (H_3.get b_1 2) fun x_44p x_44n x_44c =>
  ldI .i64 (H_3.get b_1 3) fun x_45 =>
  compassref05_Pop.call x_42 x_43 x_44p x_44n x_44c x_45 E H_3 fun r_7_Kind r_7_N r_7_Itemsp r_7_Itemsn r_7_Itemsc r_7_Last r_8_Handle r_8_Key r_9 H_14 =>
  nw H_14 ⟨[.int .i64 0, .int .i64 0, .slice none 0 0, .int .i64 0], 40⟩ fun b_6 H_15 =>
  nw H_15 ⟨[.int .i64 0, .int .i64 0], 107⟩ fun b_7 H_16 =>
  stC H_16 b_6 0 [.int .i64 r_7_Kind, .int .i64 r_7_N, .slice r_7_Itemsp r_7_Itemsn r_7_Itemsc, .int .i64 r_7_Last] fun H_17 =>
  stC H_17 b_7 0 [.int .i64 r_8_Handle, .int .i64 r_8_Key] fun H_18 =>
  heaps_Queue_Pop.call q0 E H_18 fun r_10 r_11 r_12 H_19 =>
  ldI .i64 (H_19.get b_6 0) fun x_46 =>
  ldI .i64 (H_19.get b_6 1) fun x_47 =>
  ldS (H_19.get b_6 2) fun x_48p x_48n x_48c =>
  ldI .i64 (H_19.get b_6 3) fun x_49 =>
  ldI .i64 (H_19.get b_7 0) fun x_50 =>
  bcase (decide ((r_10 : Int) = x_50)) (
  ldI .i64 (H_19.get b_7 1) fun x_51 =>
  bcase (decide ((r_11 : Int) = x_51)) (
  stC H_19 b_3 0 [.int .i64 x_46, .int .i64 x_47, .slice x_48p x_48n x_48c, .int .i64 x_49] fun H_20 =>
  ldI .i64 (H_20.get b_3 0) fun x_52 =>
  ldI .i64 (H_20.get b_3 1) fun x_53 =>
  ldS (H_20.get b_3 2) fun x_54p x_54n x_54c =>
  ldI .i64 (H_20.get b_3 3) fun x_55 =>
  K x_52 x_53 x_54p x_54n x_54c x_55 (decide ((r_12 : Int) = r_9)) H_20)
  (stC H_19 b_3 0 [.int .i64 x_46, .int .i64 x_47, .slice x_48p x_48n x_48c, .int .i64 x_49] fun H_21 =>
  ldI .i64 (H_21.get b_3 0) fun x_56 =>
  ldI .i64 (H_21.get b_3 1) fun x_57 =>
  ldS (H_21.get b_3 2) fun x_58p x_58n x_58c =>
  ldI .i64 (H_21.get b_3 3) fun x_59 =>
  K x_56 x_57 x_58p x_58n x_58c x_59 false H_21))
  (stC H_19 b_3 0 [.int .i64 x_46, .int .i64 x_47, .slice x_48p x_48n x_48c, .int .i64 x_49] fun H_22 =>
  ldI .i64 (H_22.get b_3 0) fun x_60 =>
  ldI .i64 (H_22.get b_3 1) fun x_61 =>
  ldS (H_22.get b_3 2) fun x_62p x_62n x_62c =>
  ldI .i64 (H_22.get b_3 3) fun x_63 =>
  K x_60 x_61 x_62p x_62n x_62c x_63 false H_22))
  (bcase (decide ((x_1 : Int) = 3)) (
  ldI .i64 (H_3.get b_1 0) fun x_64 =>
  ldI .i64 (H_3.get b_1 1) fun x_65 =>
  ldS (H_3.get b_1 2) fun x_66p x_66n x_66c =>
  ldI .i64 (H_3.get b_1 3) fun x_67 =>
  compassref05_Top.call x_64 x_65 x_66p x_66n x_66c x_67 E H_3 fun r_13_Handle r_13_Key r_14 H_23 =>
  nw H_23 ⟨[.int .i64 0, .int .i64 0], 107⟩ fun b_8 H_24 =>
  stC H_24 b_8 0 [.int .i64 r_13_Handle, .int .i64 r_13_Key] fun H_25 =>
  heaps_Queue_Top.call q0 E H_25 fun r_15 r_16 r_17 H_26 =>
  ldI .i64 (H_26.get b_1 0) fun x_68 =>
  ldI .i64 (H_26.get b_1 1) fun x_69 =>
  ldS (H_26.get b_1 2) fun x_70p x_70n x_70c =>
  ldI .i64 (H_26.get b_1 3) fun x_71 =>
  ldI .i64 (H_26.get b_8 0) fun x_72 =>
  bcase (decide ((r_15 : Int) = x_72)) (
  ldI .i64 (H_26.get b_8 1) fun x_73 =>
  bcase (decide ((r_16 : Int) = x_73)) (
  stC H_26 b_3 0 [.int .i64 x_68, .int .i64 x_69, .slice x_70p x_70n x_70c, .int .i64 x_71] fun H_27 =>
  ldI .i64 (H_27.get b_3 0) fun x_74 =>
  ldI .i64 (H_27.get b_3 1) fun x_75 =>
  ldS (H_27.get b_3 2) fun x_76p x_76n x_76c =>
  ldI .i64 (H_27.get b_3 3) fun x_77 =>
  K x_74 x_75 x_76p x_76n x_76c x_77 (decide ((r_17 : Int) = r_14)) H_27)
  (stC H_26 b_3 0 [.int .i64 x_68, .int .i64 x_69, .slice x_70p x_70n x_70c, .int .i64 x_71] fun H_28 =>
  ldI .i64 (H_28.get b_3 0) fun x_78 =>
  ldI .i64 (H_28.get b_3 1) fun x_79 =>
  ldS (H_28.get b_3 2) fun x_80p x_80n x_80c =>
  ldI .i64 (H_28.get b_3 3) fun x_81 =>
  K x_78 x_79 x_80p x_80n x_80c x_81 false H_28))
  (stC H_26 b_3 0 [.int .i64 x_68, .int .i64 x_69, .slice x_70p x_70n x_70c, .int .i64 x_71] fun H_29 =>
  ldI .i64 (H_29.get b_3 0) fun x_82 =>
  ldI .i64 (H_29.get b_3 1) fun x_83 =>
  ldS (H_29.get b_3 2) fun x_84p x_84n x_84c =>
  ldI .i64 (H_29.get b_3 3) fun x_85 =>
  K x_82 x_83 x_84p x_84n x_84c x_85 false H_29))
  (bcase (decide ((x_1 : Int) = 4)) (
  ldI .i64 (H_3.get b_1 0) fun x_86 =>
  ldI .i64 (H_3.get b_1 1) fun x_87 =>
  ldS (H_3.get b_1 2) fun x_88p x_88n x_88c =>
  ldI .i64 (H_3.get b_1 3) fun x_89 =>
  ldI .i64 (H_3.get b_2 1) fun x_90 =>
  compassref05_Key.call x_86 x_87 x_88p x_88n x_88c x_89 x_90 E H_3 fun r_18 r_19 H_30 =>
  ldI .i64 (H_30.get b_2 1) fun x_91 =>
  heaps_Queue_Key.call q0 x_91 E H_30 fun r_20 r_21 H_31 =>
  ldI .i64 (H_31.get b_1 0) fun x_92 =>
  ldI .i64 (H_31.get b_1 1) fun x_93 =>
  ldS (H_31.get b_1 2) fun x_94p x_94n x_94c =>
  ldI .i64 (H_31.get b_1 3) fun x_95 =>
  bcase (decide ((r_20 : Int) = r_18)) (
  stC H_31 b_3 0 [.int .i64 x_92, .int .i64 x_93, .slice x_94p x_94n x_94c, .int .i64 x_95] fun H_32 =>
  ldI .i64 (H_32.get b_3 0) fun x_96 =>
  ldI .i64 (H_32.get b_3 1) fun x_97 =>
  ldS (H_32.get b_3 2) fun x_98p x_98n x_98c =>
  ldI .i64 (H_32.get b_3 3) fun x_99 =>
  K x_96 x_97 x_98p x_98n x_98c x_99 (decide ((r_21 : Int) = r_19)) H_32)
  (stC H_31 b_3 0 [.int .i64 x_92, .int .i64 x_93, .slice x_94p x_94n x_94c, .int .i64 x_95] fun H_33 =>
  ldI .i64 (H_33.get b_3 0) fun x_100 =>
  ldI .i64 (H_33.get b_3 1) fun x_101 =>
  ldS (H_33.get b_3 2) fun x_102p x_102n x_102c =>
  ldI .i64 (H_33.get b_3 3) fun x_103 =>
  K x_100 x_101 x_102p x_102n x_102c x_103 false H_33))
  (ldI .i64 (H_3.get b_1 0) fun x_104 =>
  ldI .i64 (H_3.get b_1 1) fun x_105 =>
  ldS (H_3.get b_1 2) fun x_106p x_106n x_106c =>
  ldI .i64 (H_3.get b_1 3) fun x_107 =>
  stC H_3 b_3 0 [.int .i64 x_104, .int .i64 x_105, .slice x_106p x_106n x_106c, .int .i64 x_107] fun H_34 =>
  ldI .i64 (H_34.get b_3 0) fun x_108 =>
  ldI .i64 (H_34.get b_3 1) fun x_109 =>
  ldS (H_34.get b_3 2) fun x_110p x_110n x_110c =>
  ldI .i64 (H_34.get b_3 3) fun x_111 =>
  K x_108 x_109 x_110p x_110n x_110c x_111 true H_34)))))
theorem compasslaw05_step.run_eq {q0 : Option Addr} {w1_Kind : Int} {w1_N : Int} {w1_Itemsp : Option Addr} {w1_Itemsn : Nat} {w1_Itemsc : Nat} {w1_Last : Int} {o2_Kind : Int} {o2_Handle : Int} {o2_Key : Int} { E : Value → Hp → Prop} {H : Hp} {K : Int → Int → (Option Addr) → Nat → Nat → Int → Bool → Hp → Prop} (h : compasslaw05_step.run_t  q0 w1_Kind w1_N w1_Itemsp w1_Itemsn w1_Itemsc w1_Last o2_Kind o2_Handle o2_Key  E H K) : compasslaw05_step.run q0 w1_Kind w1_N w1_Itemsp w1_Itemsn w1_Itemsc w1_Last o2_Kind o2_Handle o2_Key  E H K := by
  have k1 : ∀ G : List Nat → Fr → Hp → Prop, nodeR P0 T0 compasslaw05_step.A [] G compasslaw05_step.code [] [] (compasslaw05_step.rq E K) (argF 0 [.pointer q0, .agg ⟨[.int .i64 w1_Kind, .int .i64 w1_N, .slice w1_Itemsp w1_Itemsn w1_Itemsc, .int .i64 w1_Last]⟩, .agg ⟨[.int .i64 o2_Kind, .int .i64 o2_Handle, .int .i64 o2_Key]⟩]) H = compasslaw05_step.run_t  q0 w1_Kind w1_N w1_Itemsp w1_Itemsn w1_Itemsc w1_Last o2_Kind o2_Handle o2_Key  E H K := fun G => by kernel_rfl
  exact nodeR_imp compasslaw05_step.nok rfl ((k1 _).mpr h)
/-! ### compass/compasslaw05.drained (22) -/
noncomputable def compasslaw05_drained.A : An := { live := [(0, [0, 1]), (1, [0, 3]), (2, [0, 3, 5]), (3, [0, 3]), (4, []), (5, [0, 3]), (6, [3, 5])], ord := [(3, [0, 2, 3, 4, 1, 5])], stb := [(3, [(1, [3])])], pre := [(3, [[], [0], [], [2], [2, 3], [0, 1, 2, 3, 4]])] }
noncomputable def compasslaw05_drained.code : Code := bodyOf Go.Proofs.Try.f22
theorem compasslaw05_drained.ok : okCode compasslaw05_drained.A 32 compasslaw05_drained.code = true := by kernel_rfl
def compasslaw05_drained.rq (E : Value → Hp → Prop) (K : Bool → Hp → Prop) : Ex → Fr → Hp → Prop := retQ T0 [.tmp 4] [4] (fun r H => ldR (.one false [.bool]) r fun u => K (asB u) H) E
def compasslaw05_drained.run (q0 : Option Addr) (w1_Kind : Int) (w1_N : Int) (w1_Itemsp : Option Addr) (w1_Itemsn : Nat) (w1_Itemsc : Nat) (w1_Last : Int) (E : Value → Hp → Prop) (H : Hp) (K : Bool → Hp → Prop) : Prop := nodeM P0 T0 compasslaw05_drained.A compasslaw05_drained.code [] [] (compasslaw05_drained.rq E K) (argF 0 [.pointer q0, .agg ⟨[.int .i64 w1_Kind, .int .i64 w1_N, .slice w1_Itemsp w1_Itemsn w1_Itemsc, .int .i64 w1_Last]⟩]) H
theorem compasslaw05_drained.of {q0 : Option Addr} {w1_Kind : Int} {w1_N : Int} {w1_Itemsp : Option Addr} {w1_Itemsn : Nat} {w1_Itemsc : Nat} {w1_Last : Int} {E : Value → Hp → Prop} {H : Hp} {K : Bool → Hp → Prop} (h : compasslaw05_drained.run q0 w1_Kind w1_N w1_Itemsp w1_Itemsn w1_Itemsc w1_Last E H K) : compasslaw05_drained.call q0 w1_Kind w1_N w1_Itemsp w1_Itemsn w1_Itemsc w1_Last E H K :=
  callW_of T0_ok P0_mixed (A := compasslaw05_drained.A) (fn := Go.Proofs.Try.f22) Go.Proofs.Try.func22 rfl compasslaw05_drained.ok rfl h
noncomputable def compasslaw05_drained.f1 (q0 : Option Addr) (w3 : Nat) (ok5 : Bool) : Fr := [(0, .pointer q0), (3, .pointer (some ⟨w3, 0, none⟩)), (5, .bool ok5)]
def compasslaw05_drained.j1 (w3 : Nat) (ok5 : Bool)  (E : Value → Hp → Prop) (H : Hp) (K : Bool → Hp → Prop) : Prop := nodeM P0 T0 compasslaw05_drained.A compasslaw05_drained.code [1, 1, 1] [] (compasslaw05_drained.rq E K) [(3, .pointer (some ⟨w3, 0, none⟩)), (5, .bool ok5)] H
def compasslaw05_drained.l1 (q0 : Option Addr) (w3 : Nat) (ok5 : Bool)  (E : Value → Hp → Prop) (H : Hp) (K : Bool → Hp → Prop) : Prop := nodeM P0 T0 compasslaw05_drained.A compasslaw05_drained.code [1, 1, 0, 0] [] (compasslaw05_drained.rq E K) (compasslaw05_drained.f1 q0 w3 ok5) H
def compasslaw05_drained.b1 (q0 : Option Addr) (w3 : Nat) (ok5 : Bool)  (X1 : Fr → Hp → Prop) (E : Value → Hp → Prop) (H : Hp) (K : Bool → Hp → Prop) : Prop := nodeM P0 T0 compasslaw05_drained.A compasslaw05_drained.code [1, 1, 0, 0, 0] [X1] (compasslaw05_drained.rq E K) (compasslaw05_drained.f1 q0 w3 ok5) H
theorem compasslaw05_drained.l1_rule { E : Value → Hp → Prop} {K : Bool → Hp → Prop} (I : (Option Addr) → Nat → Bool → Hp → Prop) (μ : (Option Addr) → Nat → Bool → Hp → Nat)
    (h : ∀ q0 w3 ok5 H, I q0 w3 ok5 H → ∀ X : Fr → Hp → Prop, (∀ q0' w3' ok5' H', I q0' w3' ok5' H' → μ q0' w3' ok5' H' < μ q0 w3 ok5 H → X (compasslaw05_drained.f1 q0' w3' ok5') H') → compasslaw05_drained.b1 q0 w3 ok5  X E H K)
    {q0 : Option Addr} {w3 : Nat} {ok5 : Bool} {H : Hp} (hI : I q0 w3 ok5 H) : compasslaw05_drained.l1 q0 w3 ok5  E H K :=
  loop_rule (S := (Option Addr) × Nat × Bool) (fun s => compasslaw05_drained.f1 (s.1) (s.2.1) (s.2.2)) (fun s H => I (s.1) (s.2.1) (s.2.2) H) (fun s H => μ (s.1) (s.2.1) (s.2.2) H) (fun s H hI X hX => h (s.1) (s.2.1) (s.2.2) H hI X fun q0' w3' ok5' H' hI' hlt => hX (q0', w3', ok5') H' hI' hlt) (s := (q0, w3, ok5)) rfl hI
theorem compasslaw05_drained.nok : nodesOk compasslaw05_drained.code [[0, 0, 1, 1], [1, 1, 1]] = true := by kernel_rfl
def compasslaw05_drained.run_t (l1 : (Option Addr) → Nat → Bool → Hp → Prop) (q0 : Option Addr) (w1_Kind : Int) (w1_N : Int) (w1_Itemsp : Option Addr) (w1_Itemsn : Nat) (w1_Itemsc : Nat) (w1_Last : Int)  (E : Value → Hp → Prop) (H : Hp) (K : Bool → Hp → Prop) : Prop :=
  nw H ⟨[.int .i64 w1_Kind, .int .i64 w1_N, .slice w1_Itemsp w1_Itemsn w1_Itemsc, .int .i64 w1_Last], 40⟩ fun b_1 H_1 =>
  l1 q0 b_1 true H_1
theorem compasslaw05_drained.run_eq {q0 : Option Addr} {w1_Kind : Int} {w1_N : Int} {w1_Itemsp : Option Addr} {w1_Itemsn : Nat} {w1_Itemsc : Nat} {w1_Last : Int} { E : Value → Hp → Prop} {H : Hp} {K : Bool → Hp → Prop} (h : compasslaw05_drained.run_t (fun q0 w3 ok5 H => compasslaw05_drained.l1 q0 w3 ok5  E H K) q0 w1_Kind w1_N w1_Itemsp w1_Itemsn w1_Itemsc w1_Last  E H K) : compasslaw05_drained.run q0 w1_Kind w1_N w1_Itemsp w1_Itemsn w1_Itemsc w1_Last  E H K := by
  have k1 : ∀ G : List Nat → Fr → Hp → Prop, nodeR P0 T0 compasslaw05_drained.A [[0, 0, 1, 1], [1, 1, 1]] G compasslaw05_drained.code [] [] (compasslaw05_drained.rq E K) (argF 0 [.pointer q0, .agg ⟨[.int .i64 w1_Kind, .int .i64 w1_N, .slice w1_Itemsp w1_Itemsn w1_Itemsc, .int .i64 w1_Last]⟩]) H = compasslaw05_drained.run_t (fun q0 w3 ok5 H => G [0, 0, 1, 1] [(0, .pointer q0), (3, .pointer (some ⟨w3, 0, none⟩)), (5, .bool ok5)] H) q0 w1_Kind w1_N w1_Itemsp w1_Itemsn w1_Itemsc w1_Last  E H K := fun G => by kernel_rfl
  have k2 : compasslaw05_drained.run_t (fun q0 w3 ok5 H => compasslaw05_drained.l1 q0 w3 ok5  E H K) q0 w1_Kind w1_N w1_Itemsp w1_Itemsn w1_Itemsc w1_Last  E H K = compasslaw05_drained.run_t (fun q0 w3 ok5 H => (fun q F H => nodeM P0 T0 compasslaw05_drained.A compasslaw05_drained.code q.reverse [] (compasslaw05_drained.rq E K) F H) [0, 0, 1, 1] [(0, .pointer q0), (3, .pointer (some ⟨w3, 0, none⟩)), (5, .bool ok5)] H) q0 w1_Kind w1_N w1_Itemsp w1_Itemsn w1_Itemsc w1_Last  E H K := by kernel_rfl
  exact nodeR_imp compasslaw05_drained.nok rfl ((k1 _).mpr (k2.mp h))
def compasslaw05_drained.j1_t  (w3 : Nat) (ok5 : Bool)  (E : Value → Hp → Prop) (H : Hp) (K : Bool → Hp → Prop) : Prop :=
  bcase (ok5) (
  ldS (H.get w3 2) fun x_1p x_1n x_1c =>
  K (decide (((x_1n : Int) : Int) = 0)) H)
  (K false H)
theorem compasslaw05_drained.j1_eq {w3 : Nat} {ok5 : Bool} { E : Value → Hp → Prop} {H : Hp} {K : Bool → Hp → Prop} (h : compasslaw05_drained.j1_t  w3 ok5  E H K) : compasslaw05_drained.j1 w3 ok5  E H K := by
  have k1 : ∀ G : List Nat → Fr → Hp → Prop, nodeR P0 T0 compasslaw05_drained.A [[0, 0, 1, 1], [1, 1, 1]] G compasslaw05_drained.code [1, 1, 1] [] (compasslaw05_drained.rq E K) [(3, .pointer (some ⟨w3, 0, none⟩)), (5, .bool ok5)] H = compasslaw05_drained.j1_t  w3 ok5  E H K := fun G => by kernel_rfl
  exact nodeR_imp compasslaw05_drained.nok rfl ((k1 _).mpr h)
def compasslaw05_drained.b1_t (j1 : Nat → Bool → Hp → Prop) (q0 : Option Addr) (w3 : Nat) (ok5 : Bool) (X1 : Fr → Hp → Prop) (E : Value → Hp → Prop) (H : Hp) (K : Bool → Hp → Prop) : Prop :=
  heaps_Queue_Len.call q0 E H fun r_1 H_1 =>
  bcase (decide ((0 : Int) < r_1)) (
  bcase (ok5) (
  ldS (H_1.get w3 2) fun x_1p x_1n x_1c =>
  heaps_Queue_Len.call q0 E H_1 fun r_2 H_2 =>
  (ldS (H_2.get w3 2) fun x_6p x_6n x_6c =>
  Value.slice x_6p x_6n x_6c = Value.slice x_1p x_1n x_1c) ∧
  bcase (!decide ((r_2 : Int) = (x_1n : Int))) (
  K false H_2)
  (ldI .i64 (H_2.get w3 0) fun x_2 =>
  ldI .i64 (H_2.get w3 1) fun x_3 =>
  ldS (H_2.get w3 2) fun x_4p x_4n x_4c =>
  ldI .i64 (H_2.get w3 3) fun x_5 =>
  compasslaw05_step.call q0 x_2 x_3 x_4p x_4n x_4c x_5 2 0 0 E H_2 fun r_3_Kind r_3_N r_3_Itemsp r_3_Itemsn r_3_Itemsc r_3_Last r_4 H_3 =>
  stC H_3 w3 0 [.int .i64 r_3_Kind, .int .i64 r_3_N, .slice r_3_Itemsp r_3_Itemsn r_3_Itemsc, .int .i64 r_3_Last] fun H_4 =>
  X1 (compasslaw05_drained.f1 q0 w3 r_4) H_4))
  (j1 w3 ok5 H_1))
  (j1 w3 ok5 H_1)
theorem compasslaw05_drained.b1_eq {q0 : Option Addr} {w3 : Nat} {ok5 : Bool} {X1 : Fr → Hp → Prop} { E : Value → Hp → Prop} {H : Hp} {K : Bool → Hp → Prop} (h : compasslaw05_drained.b1_t (fun w3 ok5 H => compasslaw05_drained.j1 w3 ok5  E H K) q0 w3 ok5 X1 E H K) : compasslaw05_drained.b1 q0 w3 ok5 X1 E H K := by
  have k1 : ∀ G : List Nat → Fr → Hp → Prop, nodeR P0 T0 compasslaw05_drained.A [[0, 0, 1, 1], [1, 1, 1]] G compasslaw05_drained.code [1, 1, 0, 0, 0] [X1] (compasslaw05_drained.rq E K) (compasslaw05_drained.f1 q0 w3 ok5) H = compasslaw05_drained.b1_t (fun w3 ok5 H => G [1, 1, 1] [(3, .pointer (some ⟨w3, 0, none⟩)), (5, .bool ok5)] H) q0 w3 ok5 X1 E H K := fun G => by kernel_rfl
  have k2 : compasslaw05_drained.b1_t (fun w3 ok5 H => compasslaw05_drained.j1 w3 ok5  E H K) q0 w3 ok5 X1 E H K = compasslaw05_drained.b1_t (fun w3 ok5 H => (fun q F H => nodeM P0 T0 compasslaw05_drained.A compasslaw05_drained.code q.reverse [X1] (compasslaw05_drained.rq E K) F H) [1, 1, 1] [(3, .pointer (some ⟨w3, 0, none⟩)), (5, .bool ok5)] H) q0 w3 ok5 X1 E H K := by kernel_rfl
  exact nodeR_imp compasslaw05_drained.nok rfl ((k1 _).mpr (k2.mp h))
end Go.Mz
