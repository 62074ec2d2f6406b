/-
  The shallow texts of functions (Hep), each with a kernel-checked equation to the translated code. It proves nothing of the program by itself.
-/
import Derived.Test.YthcehonpfnmpiaaGreatTab
set_option linter.unusedVariables false
set_option maxRecDepth 100000
namespace Go.Mz
/-! ### compass/heaps.New (34) -/
noncomputable def heaps_New.A : An := { live := [(0, [0, 1]), (1, [0, 1]), (2, []), (3, [0, 1]), (4, []), (5, [0, 1]), (6, [0, 1, 6]), (7, [1, 6, 27]), (8, [1, 6]), (9, [1, 6, 27]), (10, [1, 6]), (11, [1, 6, 27]), (12, [1, 6]), (13, [6, 27]), (14, [6]), (15, [6])], ord := [(5, [0, 1, 2, 3, 4, 5, 6, 7, 8]), (8, [0, 1, 2, 3, 4, 5, 6, 7, 8, 9, 10, 11]), (10, [0, 1, 2, 3, 4, 5, 6, 7, 8, 9, 10, 11]), (12, [0, 1, 2, 3, 4, 5, 6, 7, 8, 9, 10, 11])], stb := [], pre := [(5, [[], [], [1], [], [3], [1, 2, 3, 4], [0, 1, 2, 3, 4, 5], [0, 1, 2, 3, 4, 5, 6], [0, 1, 2, 3, 4, 5, 6, 7]]), (8, [[], [], [1], [1, 2], [], [4], [1, 2, 3, 4, 5], [1, 2, 3, 4, 5, 6], [1, 2, 3, 4, 5, 6, 7], [0, 1, 2, 3, 4, 5, 6, 7, 8], [0, 1, 2, 3, 4, 5, 6, 7, 8, 9], [0, 1, 2, 3, 4, 5, 6, 7, 8, 9, 10]]), (10, [[], [], [1], [1, 2], [], [4], [1, 2, 3, 4, 5], [1, 2, 3, 4, 5, 6], [1, 2, 3, 4, 5, 6, 7], [0, 1, 2, 3, 4, 5, 6, 7, 8], [0, 1, 2, 3, 4, 5, 6, 7, 8, 9], [0, 1, 2, 3, 4, 5, 6, 7, 8, 9, 10]]), (12, [[], [], [1], [1, 2], [], [4], [1, 2, 3, 4, 5], [1, 2, 3, 4, 5, 6], [1, 2, 3, 4, 5, 6, 7], [0, 1, 2, 3, 4, 5, 6, 7, 8], [0, 1, 2, 3, 4, 5, 6, 7, 8, 9], [0, 1, 2, 3, 4, 5, 6, 7, 8, 9, 10]])] }
noncomputable def heaps_New.code : Code := bodyOf Go.Proofs.Tryz.f34
theorem heaps_New.ok : okCode heaps_New.A 77 heaps_New.code = true := by kernel_rfl
def heaps_New.rq (E : Value → Hp → Prop) (K : (Option Addr) → Int → Hp → Prop) : Ex → Fr → Hp → Prop := retQ T0 [.tmp 4, .tmp 5] [67, 27] (fun r H => ldR (.tup [(false, [.ptr]), (false, [.i .i64])]) r fun u => K (asP (tupV u 0)) (asI (tupV u 1)) H) E
def heaps_New.run (ki0 : Int) (n1 : Int) (E : Value → Hp → Prop) (H : Hp) (K : (Option Addr) → Int → Hp → Prop) : Prop := nodeM P0 T0 heaps_New.A heaps_New.code [] [] (heaps_New.rq E K) (argF 0 [.int .i64 ki0, .int .i64 n1]) H
theorem heaps_New.of {ki0 : Int} {n1 : Int} {E : Value → Hp → Prop} {H : Hp} {K : (Option Addr) → Int → Hp → Prop} (h : heaps_New.run ki0 n1 E H K) : heaps_New.call ki0 n1 E H K :=
  callW_of T0_ok P0_mixed (A := heaps_New.A) (fn := Go.Proofs.Tryz.f34) Go.Proofs.Tryz.func34 rfl heaps_New.ok rfl h
theorem heaps_New.nok : nodesOk heaps_New.code [] = true := by kernel_rfl
def heaps_New.run_t  (ki0 : Int) (n1 : Int)  (E : Value → Hp → Prop) (H : Hp) (K : (Option Addr) → Int → Hp → Prop) : Prop :=
  bcase (decide ((ki0 : Int) < 1)) (
  K none 50 H)
  (bcase (decide ((4 : Int) < ki0)) (
  K none 50 H)
  (bcase (decide ((n1 : Int) < 0)) (
  K none 3 H)
  (bcase (decide ((1024 : Int) < n1)) (
  K none 3 H)
  (mkS n1 n1 2 [.i .i64] 8 H fun b_1 H_1 =>
  mkS n1 n1 4 [.bool] 1 H_1 fun b_2 H_2 =>
  IfcV Value.nilIface ∧
  nw H_2 ⟨[.slice (some ⟨b_1, 0, none⟩) n1.toNat n1.toNat, .slice (some ⟨b_2, 0, none⟩) n1.toNat n1.toNat, Value.nilIface, .int .i64 0, .int .i64 ki0, .int .i64 0], 98⟩ fun b_3 H_3 =>
  bcase (decide ((ki0 : Int) = 1)) (
  mkS n1 n1 3 [.i .i64] 8 H_3 fun b_4 H_4 =>
  nw H_4 ⟨[.pointer (some ⟨b_3, 0, none⟩), .slice none 0 0, .slice (some ⟨b_4, 0, none⟩) n1.toNat n1.toNat], 102⟩ fun b_5 H_5 =>
  IfcV (Value.iface 99 (.pointer (some ⟨b_5, 0, none⟩))) ∧
  stC H_5 b_3 2 [Value.iface 99 (.pointer (some ⟨b_5, 0, none⟩))] fun H_6 =>
  K (some ⟨b_3, 0, none⟩) 0 H_6)
  (bcase (decide ((ki0 : Int) = 2)) (
  mkS n1 n1 165 [.i .i64, .i .i64, .i .i64] 24 H_3 fun b_6 H_7 =>
  nw H_7 ⟨[.pointer (some ⟨b_3, 0, none⟩), .int .i64 (-1), .slice (some ⟨b_6, 0, none⟩) n1.toNat n1.toNat], 106⟩ fun b_7 H_8 =>
  IfcV (Value.iface 103 (.pointer (some ⟨b_7, 0, none⟩))) ∧
  stC H_8 b_3 2 [Value.iface 103 (.pointer (some ⟨b_7, 0, none⟩))] fun H_9 =>
  K (some ⟨b_3, 0, none⟩) 0 H_9)
  (bcase (decide ((ki0 : Int) = 3)) (
  mkS n1 n1 167 [.i .i64, .i .i64, .i .i64, .i .i64, .i .i64, .bool] 48 H_3 fun b_8 H_10 =>
  nw H_10 ⟨[.pointer (some ⟨b_3, 0, none⟩), .int .i64 (-1), .slice (some ⟨b_8, 0, none⟩) n1.toNat n1.toNat], 110⟩ fun b_9 H_11 =>
  IfcV (Value.iface 107 (.pointer (some ⟨b_9, 0, none⟩))) ∧
  stC H_11 b_3 2 [Value.iface 107 (.pointer (some ⟨b_9, 0, none⟩))] fun H_12 =>
  K (some ⟨b_3, 0, none⟩) 0 H_12)
  (bcase (decide ((ki0 : Int) = 4)) (
  nw H_3 ⟨[.pointer (some ⟨b_3, 0, none⟩), .int .i64 0, .slice none 0 0, .slice none 0 0, .slice none 0 0, .slice none 0 0, .slice none 0 0, .slice none 0 0, .slice none 0 0, .slice none 0 0, .slice none 0 0, .slice none 0 0, .slice none 0 0, .slice none 0 0, .slice none 0 0, .slice none 0 0, .slice none 0 0, .slice none 0 0, .slice none 0 0, .slice none 0 0, .slice none 0 0, .slice none 0 0, .slice none 0 0, .slice none 0 0, .slice none 0 0, .slice none 0 0, .slice none 0 0, .slice none 0 0, .slice none 0 0, .slice none 0 0, .slice none 0 0, .slice none 0 0, .slice none 0 0, .slice none 0 0, .slice none 0 0, .slice none 0 0, .slice none 0 0, .slice none 0 0, .slice none 0 0, .slice none 0 0, .slice none 0 0, .slice none 0 0, .slice none 0 0, .slice none 0 0, .slice none 0 0, .slice none 0 0, .slice none 0 0, .slice none 0 0, .slice none 0 0, .slice none 0 0, .slice none 0 0, .slice none 0 0, .slice none 0 0, .slice none 0 0, .slice none 0 0, .slice none 0 0, .slice none 0 0, .slice none 0 0, .slice none 0 0, .slice none 0 0, .slice none 0 0, .slice none 0 0, .slice none 0 0, .slice none 0 0, .slice none 0 0, .slice none 0 0, .slice none 0 0], 114⟩ fun b_10 H_13 =>
  IfcV (Value.iface 111 (.pointer (some ⟨b_10, 0, none⟩))) ∧
  stC H_13 b_3 2 [Value.iface 111 (.pointer (some ⟨b_10, 0, none⟩))] fun H_14 =>
  K (some ⟨b_3, 0, none⟩) 0 H_14)
  (K (some ⟨b_3, 0, none⟩) 0 H_3))))))))
theorem heaps_New.run_eq {ki0 : Int} {n1 : Int} { E : Value → Hp → Prop} {H : Hp} {K : (Option Addr) → Int → Hp → Prop} (h : heaps_New.run_t  ki0 n1  E H K) : heaps_New.run ki0 n1  E H K := by
  exact nodeR_imp2 (fun _ => heaps_New.run_t  ki0 n1  E H K) heaps_New.nok rfl (fun G => by kernel_rfl) h
/-! ### (*compass/heaps.Queue).Push (35) -/
noncomputable def heaps_Queue_Push.A : An := { live := [(0, [0, 1, 2]), (1, [0, 1, 2]), (2, []), (3, [0, 1, 2]), (4, []), (5, [0, 1, 2]), (6, []), (7, [0, 1, 2]), (8, [0, 1]), (9, [0, 1]), (10, [])], ord := [(7, [0, 1, 2, 3, 4, 5, 6, 7, 8, 9, 10, 11, 12, 13, 14, 15, 16])], stb := [], pre := [(7, [[], [0], [0, 1], [0, 1, 2], [0, 1, 2, 3], [], [], [6], [6, 7], [6, 7, 8], [6, 7, 8, 9], [], [], [0, 1, 2, 3, 4, 5, 6, 7, 8, 9, 10, 12], [0, 1, 2, 3, 4, 5, 6, 7, 8, 9, 10, 12, 13], [0, 1, 2, 3, 4, 5, 6, 7, 8, 9, 10, 11, 12, 13, 14], [0, 1, 2, 3, 4, 5, 6, 7, 8, 9, 10, 11, 12, 13, 14, 15]])] }
noncomputable def heaps_Queue_Push.code : Code := bodyOf Go.Proofs.Tryz.f35
theorem heaps_Queue_Push.ok : okCode heaps_Queue_Push.A 61 heaps_Queue_Push.code = true := by kernel_rfl
def heaps_Queue_Push.rq (E : Value → Hp → Prop) (K : Int → Hp → Prop) : Ex → Fr → Hp → Prop := retQ T0 [.tmp 6] [27] (fun r H => ldR (.one false [.i .i64]) r fun u => K (asI u) H) E
def heaps_Queue_Push.run (q0 : Option Addr) (h1 : Int) (ke2 : Int) (E : Value → Hp → Prop) (H : Hp) (K : Int → Hp → Prop) : Prop := nodeM P0 T0 heaps_Queue_Push.A heaps_Queue_Push.code [] [] (heaps_Queue_Push.rq E K) (argF 0 [.pointer q0, .int .i64 h1, .int .i64 ke2]) H
theorem heaps_Queue_Push.of {q0 : Option Addr} {h1 : Int} {ke2 : Int} {E : Value → Hp → Prop} {H : Hp} {K : Int → Hp → Prop} (h : heaps_Queue_Push.run q0 h1 ke2 E H K) : heaps_Queue_Push.call q0 h1 ke2 E H K :=
  callW_of T0_ok P0_mixed (A := heaps_Queue_Push.A) (fn := Go.Proofs.Tryz.f35) Go.Proofs.Tryz.func35 rfl heaps_Queue_Push.ok rfl h
theorem heaps_Queue_Push.nok : nodesOk heaps_Queue_Push.code [] = true := by kernel_rfl
def heaps_Queue_Push.run_t  (q0 : Option Addr) (h1 : Int) (ke2 : Int)  (E : Value → Hp → Prop) (H : Hp) (K : Int → Hp → Prop) : Prop :=
  bcase (decide ((h1 : Int) < 0)) (
  K 30 H)
  (nn q0 fun b_1 o_1 =>
  ldS (H.get b_1 (o_1 + 1)) fun x_1p x_1n x_1c =>
  bcase (decide (((x_1n : Int) : Int) ≤ h1)) (
  K 30 H)
  (nn q0 fun b_2 o_2 =>
  ldS (H.get b_2 (o_2 + 1)) fun x_2p x_2n x_2c =>
  ix x_2p x_2n h1 1 fun b_3 o_3 =>
  ldB (H.get b_3 o_3) fun x_3 =>
  bcase (x_3) (
  K 51 H)
  (heaps_Queue_low.call q0 ke2 E H fun r_1 H_1 =>
  bcase (r_1) (
  K 80 H_1)
  (nn q0 fun b_4 o_4 =>
  ldS (H_1.get b_4 o_4) fun x_4p x_4n x_4c =>
  nn q0 fun b_5 o_5 =>
  ldS (H_1.get b_5 (o_5 + 1)) fun x_5p x_5n x_5c =>
  ix x_4p x_4n h1 1 fun b_6 o_6 =>
  stC H_1 b_6 o_6 [.int .i64 ke2] fun H_2 =>
  ix x_5p x_5n h1 1 fun b_7 o_7 =>
  stC H_2 b_7 o_7 [.bool true] fun H_3 =>
  nn q0 fun b_8 o_8 =>
  ldI .i64 (H_3.get b_8 (o_8 + 3)) fun x_6 =>
  nn q0 fun b_9 o_9 =>
  stC H_3 b_9 (o_9 + 3) [.int .i64 (IntKind.wrap .i64 (x_6 + 1))] fun H_4 =>
  nn q0 fun b_10 o_10 =>
  ldV (H_4.get b_10 (o_10 + 2)) fun x_7 =>
  icall P0 T0 x_7 "compass/heaps.push" [Value.int .i64 h1] (.tup []) E H_4 fun u_1 H_5 =>
  K 0 H_5))))
theorem heaps_Queue_Push.run_eq {q0 : Option Addr} {h1 : Int} {ke2 : Int} { E : Value → Hp → Prop} {H : Hp} {K : Int → Hp → Prop} (h : heaps_Queue_Push.run_t  q0 h1 ke2  E H K) : heaps_Queue_Push.run q0 h1 ke2  E H K := by
  exact nodeR_imp2 (fun _ => heaps_Queue_Push.run_t  q0 h1 ke2  E H K) heaps_Queue_Push.nok rfl (fun G => by kernel_rfl) h
/-! ### (*compass/heaps.Queue).Len (36) -/
noncomputable def heaps_Queue_Len.A : An := { live := [(0, [0]), (1, [0])], ord := [], stb := [], pre := [] }
noncomputable def heaps_Queue_Len.code : Code := bodyOf Go.Proofs.Tryz.f36
theorem heaps_Queue_Len.ok : okCode heaps_Queue_Len.A 7 heaps_Queue_Len.code = true := by kernel_rfl
def heaps_Queue_Len.rq (E : Value → Hp → Prop) (K : Int → Hp → Prop) : Ex → Fr → Hp → Prop := retQ T0 [.tmp 2] [3] (fun r H => ldR (.one false [.i .i64]) r fun u => K (asI u) H) E
def heaps_Queue_Len.run (q0 : Option Addr) (E : Value → Hp → Prop) (H : Hp) (K : Int → Hp → Prop) : Prop := nodeM P0 T0 heaps_Queue_Len.A heaps_Queue_Len.code [] [] (heaps_Queue_Len.rq E K) (argF 0 [.pointer q0]) H
theorem heaps_Queue_Len.of {q0 : Option Addr} {E : Value → Hp → Prop} {H : Hp} {K : Int → Hp → Prop} (h : heaps_Queue_Len.run q0 E H K) : heaps_Queue_Len.call q0 E H K :=
  callW_of T0_ok P0_mixed (A := heaps_Queue_Len.A) (fn := Go.Proofs.Tryz.f36) Go.Proofs.Tryz.func36 rfl heaps_Queue_Len.ok rfl h
theorem heaps_Queue_Len.nok : nodesOk heaps_Queue_Len.code [] = true := by kernel_rfl
def heaps_Queue_Len.run_t  (q0 : Option Addr)  (E : Value → Hp → Prop) (H : Hp) (K : Int → Hp → Prop) : Prop :=
  nn q0 fun b_1 o_1 =>
  ldI .i64 (H.get b_1 (o_1 + 3)) fun x_1 =>
  K x_1 H
theorem heaps_Queue_Len.run_eq {q0 : Option Addr} { E : Value → Hp → Prop} {H : Hp} {K : Int → Hp → Prop} (h : heaps_Queue_Len.run_t  q0  E H K) : heaps_Queue_Len.run q0  E H K := by
  exact nodeR_imp2 (fun _ => heaps_Queue_Len.run_t  q0  E H K) heaps_Queue_Len.nok rfl (fun G => by kernel_rfl) h
/-! ### (*compass/heaps.Queue).Pop (37) -/
noncomputable def heaps_Queue_Pop.A : An := { live := [(0, [0]), (1, [0]), (2, [0, 5, 6, 7]), (3, [0, 5, 6, 7]), (4, [0, 5, 6, 7]), (5, [0, 5, 6, 7]), (6, [0, 5, 6, 7]), (7, [5, 6, 7])], ord := [], stb := [], pre := [] }
noncomputable def heaps_Queue_Pop.code : Code := bodyOf Go.Proofs.Tryz.f37
theorem heaps_Queue_Pop.ok : okCode heaps_Queue_Pop.A 42 heaps_Queue_Pop.code = true := by kernel_rfl
def heaps_Queue_Pop.rq (E : Value → Hp → Prop) (K : Int → Int → Int → Hp → Prop) : Ex → Fr → Hp → Prop := retQ T0 [.tmp 2, .tmp 3, .tmp 4] [3, 2, 27] (fun r H => ldR (.tup [(false, [.i .i64]), (false, [.i .i64]), (false, [.i .i64])]) r fun u => K (asI (tupV u 0)) (asI (tupV u 1)) (asI (tupV u 2)) H) E
def heaps_Queue_Pop.run (q0 : Option Addr) (E : Value → Hp → Prop) (H : Hp) (K : Int → Int → Int → Hp → Prop) : Prop := nodeM P0 T0 heaps_Queue_Pop.A heaps_Queue_Pop.code [] [] (heaps_Queue_Pop.rq E K) (argF 0 [.pointer q0]) H
theorem heaps_Queue_Pop.of {q0 : Option Addr} {E : Value → Hp → Prop} {H : Hp} {K : Int → Int → Int → Hp → Prop} (h : heaps_Queue_Pop.run q0 E H K) : heaps_Queue_Pop.call q0 E H K :=
  callW_of T0_ok P0_mixed (A := heaps_Queue_Pop.A) (fn := Go.Proofs.Tryz.f37) Go.Proofs.Tryz.func37 rfl heaps_Queue_Pop.ok rfl h
def heaps_Queue_Pop.j1 (h5 : Int) (ke6 : Int) (e7 : Int)  (E : Value → Hp → Prop) (H : Hp) (K : Int → Int → Int → Hp → Prop) : Prop := nodeM P0 T0 heaps_Queue_Pop.A heaps_Queue_Pop.code [1, 1, 1] [] (heaps_Queue_Pop.rq E K) [(5, .int .i64 h5), (6, .int .i64 ke6), (7, .int .i64 e7)] H
theorem heaps_Queue_Pop.nok : nodesOk heaps_Queue_Pop.code [[1, 1, 1]] = true := by kernel_rfl
def heaps_Queue_Pop.run_t (j1 : Int → Int → Int → Hp → Prop) (q0 : Option Addr)  (E : Value → Hp → Prop) (H : Hp) (K : Int → Int → Int → Hp → Prop) : Prop :=
  heaps_Queue_Top.call q0 E H fun r_1 r_2 r_3 H_1 =>
  bcase (decide ((r_3 : Int) = 0)) (
  nn q0 fun b_1 o_1 =>
  ldV (H_1.get b_1 (o_1 + 2)) fun x_1 =>
  icall P0 T0 x_1 "compass/heaps.pop" [] (.tup []) E H_1 fun u_1 H_2 =>
  nn q0 fun b_2 o_2 =>
  ldS (H_2.get b_2 (o_2 + 1)) fun x_2p x_2n x_2c =>
  ix x_2p x_2n r_1 1 fun b_3 o_3 =>
  stC H_2 b_3 o_3 [.bool false] fun H_3 =>
  nn q0 fun b_4 o_4 =>
  ldI .i64 (H_3.get b_4 (o_4 + 3)) fun x_3 =>
  nn q0 fun b_5 o_5 =>
  stC H_3 b_5 (o_5 + 3) [.int .i64 (IntKind.wrap .i64 (x_3 - 1))] fun H_4 =>
  nn q0 fun b_6 o_6 =>
  stC H_4 b_6 (o_6 + 5) [.int .i64 r_2] fun H_5 =>
  j1 r_1 r_2 r_3 H_5)
  (j1 r_1 r_2 r_3 H_1)
theorem heaps_Queue_Pop.run_eq {q0 : Option Addr} { E : Value → Hp → Prop} {H : Hp} {K : Int → Int → Int → Hp → Prop} (h : heaps_Queue_Pop.run_t (fun h5 ke6 e7 H => heaps_Queue_Pop.j1 h5 ke6 e7  E H K) q0  E H K) : heaps_Queue_Pop.run q0  E H K := by
  exact nodeR_imp2 (fun G => heaps_Queue_Pop.run_t (fun h5 ke6 e7 H => G [1, 1, 1] [(5, .int .i64 h5), (6, .int .i64 ke6), (7, .int .i64 e7)] H) q0  E H K) heaps_Queue_Pop.nok rfl (fun G => by kernel_rfl) (Eq.mp (by kernel_rfl) h)
def heaps_Queue_Pop.j1_t  (h5 : Int) (ke6 : Int) (e7 : Int)  (E : Value → Hp → Prop) (H : Hp) (K : Int → Int → Int → Hp → Prop) : Prop :=
  K h5 ke6 e7 H
theorem heaps_Queue_Pop.j1_eq {h5 : Int} {ke6 : Int} {e7 : Int} { E : Value → Hp → Prop} {H : Hp} {K : Int → Int → Int → Hp → Prop} (h : heaps_Queue_Pop.j1_t  h5 ke6 e7  E H K) : heaps_Queue_Pop.j1 h5 ke6 e7  E H K := by
  exact nodeR_imp2 (fun _ => heaps_Queue_Pop.j1_t  h5 ke6 e7  E H K) heaps_Queue_Pop.nok rfl (fun G => by kernel_rfl) h
/-! ### (*compass/heaps.Queue).Key (38) -/
noncomputable def heaps_Queue_Key.A : An := { live := [(0, [0, 1]), (1, [0, 1]), (2, []), (3, [0, 1]), (4, []), (5, [0, 1])], ord := [], stb := [], pre := [] }
noncomputable def heaps_Queue_Key.code : Code := bodyOf Go.Proofs.Tryz.f38
theorem heaps_Queue_Key.ok : okCode heaps_Queue_Key.A 37 heaps_Queue_Key.code = true := by kernel_rfl
def heaps_Queue_Key.rq (E : Value → Hp → Prop) (K : Int → Int → Hp → Prop) : Ex → Fr → Hp → Prop := retQ T0 [.tmp 4, .tmp 5] [2, 27] (fun r H => ldR (.tup [(false, [.i .i64]), (false, [.i .i64])]) r fun u => K (asI (tupV u 0)) (asI (tupV u 1)) H) E
def heaps_Queue_Key.run (q0 : Option Addr) (h1 : Int) (E : Value → Hp → Prop) (H : Hp) (K : Int → Int → Hp → Prop) : Prop := nodeM P0 T0 heaps_Queue_Key.A heaps_Queue_Key.code [] [] (heaps_Queue_Key.rq E K) (argF 0 [.pointer q0, .int .i64 h1]) H
theorem heaps_Queue_Key.of {q0 : Option Addr} {h1 : Int} {E : Value → Hp → Prop} {H : Hp} {K : Int → Int → Hp → Prop} (h : heaps_Queue_Key.run q0 h1 E H K) : heaps_Queue_Key.call q0 h1 E H K :=
  callW_of T0_ok P0_mixed (A := heaps_Queue_Key.A) (fn := Go.Proofs.Tryz.f38) Go.Proofs.Tryz.func38 rfl heaps_Queue_Key.ok rfl h
theorem heaps_Queue_Key.nok : nodesOk heaps_Queue_Key.code [] = true := by kernel_rfl
def heaps_Queue_Key.run_t  (q0 : Option Addr) (h1 : Int)  (E : Value → Hp → Prop) (H : Hp) (K : Int → Int → Hp → Prop) : Prop :=
  bcase (decide ((h1 : Int) < 0)) (
  K 0 30 H)
  (nn q0 fun b_1 o_1 =>
  ldS (H.get b_1 (o_1 + 1)) fun x_1p x_1n x_1c =>
  bcase (decide (((x_1n : Int) : Int) ≤ h1)) (
  K 0 30 H)
  (nn q0 fun b_2 o_2 =>
  ldS (H.get b_2 (o_2 + 1)) fun x_2p x_2n x_2c =>
  ix x_2p x_2n h1 1 fun b_3 o_3 =>
  ldB (H.get b_3 o_3) fun x_3 =>
  bcase ((!x_3)) (
  K 0 2 H)
  (nn q0 fun b_4 o_4 =>
  ldS (H.get b_4 o_4) fun x_4p x_4n x_4c =>
  ix x_4p x_4n h1 1 fun b_5 o_5 =>
  ldI .i64 (H.get b_5 o_5) fun x_5 =>
  K x_5 0 H)))
theorem heaps_Queue_Key.run_eq {q0 : Option Addr} {h1 : Int} { E : Value → Hp → Prop} {H : Hp} {K : Int → Int → Hp → Prop} (h : heaps_Queue_Key.run_t  q0 h1  E H K) : heaps_Queue_Key.run q0 h1  E H K := by
  exact nodeR_imp2 (fun _ => heaps_Queue_Key.run_t  q0 h1  E H K) heaps_Queue_Key.nok rfl (fun G => by kernel_rfl) h
/-! ### (*compass/heaps.Queue).Lower (39) -/
noncomputable def heaps_Queue_Lower.A : An := { live := [(0, [0, 1, 2]), (1, [0, 1, 2]), (2, []), (3, [0, 1, 2]), (4, []), (5, [0, 1, 2]), (6, []), (7, [0, 1, 2]), (8, []), (9, [0, 1, 2]), (10, [0, 1, 2]), (11, [0, 1]), (12, [])], ord := [], stb := [], pre := [] }
noncomputable def heaps_Queue_Lower.code : Code := bodyOf Go.Proofs.Tryz.f39
theorem heaps_Queue_Lower.ok : okCode heaps_Queue_Lower.A 69 heaps_Queue_Lower.code = true := by kernel_rfl
def heaps_Queue_Lower.rq (E : Value → Hp → Prop) (K : Int → Hp → Prop) : Ex → Fr → Hp → Prop := retQ T0 [.tmp 6] [27] (fun r H => ldR (.one false [.i .i64]) r fun u => K (asI u) H) E
def heaps_Queue_Lower.run (q0 : Option Addr) (h1 : Int) (ke2 : Int) (E : Value → Hp → Prop) (H : Hp) (K : Int → Hp → Prop) : Prop := nodeM P0 T0 heaps_Queue_Lower.A heaps_Queue_Lower.code [] [] (heaps_Queue_Lower.rq E K) (argF 0 [.pointer q0, .int .i64 h1, .int .i64 ke2]) H
theorem heaps_Queue_Lower.of {q0 : Option Addr} {h1 : Int} {ke2 : Int} {E : Value → Hp → Prop} {H : Hp} {K : Int → Hp → Prop} (h : heaps_Queue_Lower.run q0 h1 ke2 E H K) : heaps_Queue_Lower.call q0 h1 ke2 E H K :=
  callW_of T0_ok P0_mixed (A := heaps_Queue_Lower.A) (fn := Go.Proofs.Tryz.f39) Go.Proofs.Tryz.func39 rfl heaps_Queue_Lower.ok rfl h
theorem heaps_Queue_Lower.nok : nodesOk heaps_Queue_Lower.code [] = true := by kernel_rfl
def heaps_Queue_Lower.run_t  (q0 : Option Addr) (h1 : Int) (ke2 : Int)  (E : Value → Hp → Prop) (H : Hp) (K : Int → Hp → Prop) : Prop :=
  bcase (decide ((h1 : Int) < 0)) (
  K 30 H)
  (nn q0 fun b_1 o_1 =>
  ldS (H.get b_1 (o_1 + 1)) fun x_1p x_1n x_1c =>
  bcase (decide (((x_1n : Int) : Int) ≤ h1)) (
  K 30 H)
  (nn q0 fun b_2 o_2 =>
  ldS (H.get b_2 (o_2 + 1)) fun x_2p x_2n x_2c =>
  ix x_2p x_2n h1 1 fun b_3 o_3 =>
  ldB (H.get b_3 o_3) fun x_3 =>
  bcase ((!x_3)) (
  K 2 H)
  (nn q0 fun b_4 o_4 =>
  ldS (H.get b_4 o_4) fun x_4p x_4n x_4c =>
  ix x_4p x_4n h1 1 fun b_5 o_5 =>
  ldI .i64 (H.get b_5 o_5) fun x_5 =>
  bcase (decide ((x_5 : Int) < ke2)) (
  K 52 H)
  (heaps_Queue_low.call q0 ke2 E H fun r_1 H_1 =>
  bcase (r_1) (
  K 80 H_1)
  (nn q0 fun b_6 o_6 =>
  ldS (H_1.get b_6 o_6) fun x_6p x_6n x_6c =>
  ix x_6p x_6n h1 1 fun b_7 o_7 =>
  ldI .i64 (H_1.get b_7 o_7) fun x_7 =>
  bcase (decide ((ke2 : Int) < x_7)) (
  nn q0 fun b_8 o_8 =>
  ldS (H_1.get b_8 o_8) fun x_8p x_8n x_8c =>
  ix x_8p x_8n h1 1 fun b_9 o_9 =>
  stC H_1 b_9 o_9 [.int .i64 ke2] fun H_2 =>
  nn q0 fun b_10 o_10 =>
  ldV (H_2.get b_10 (o_10 + 2)) fun x_9 =>
  icall P0 T0 x_9 "compass/heaps.lower" [Value.int .i64 h1] (.tup []) E H_2 fun u_1 H_3 =>
  K 0 H_3)
  (K 0 H_1))))))
theorem heaps_Queue_Lower.run_eq {q0 : Option Addr} {h1 : Int} {ke2 : Int} { E : Value → Hp → Prop} {H : Hp} {K : Int → Hp → Prop} (h : heaps_Queue_Lower.run_t  q0 h1 ke2  E H K) : heaps_Queue_Lower.run q0 h1 ke2  E H K := by
  exact nodeR_imp2 (fun _ => heaps_Queue_Lower.run_t  q0 h1 ke2  E H K) heaps_Queue_Lower.nok rfl (fun G => by kernel_rfl) h
/-! ### (*compass/heaps.Queue).low (51) -/
noncomputable def heaps_Queue_low.A : An := { live := [(0, [0, 1]), (1, [0, 1])], ord := [], stb := [], pre := [] }
noncomputable def heaps_Queue_low.code : Code := bodyOf Go.Proofs.Tryz.f51
theorem heaps_Queue_low.ok : okCode heaps_Queue_low.A 18 heaps_Queue_low.code = true := by kernel_rfl
def heaps_Queue_low.rq (E : Value → Hp → Prop) (K : Bool → Hp → Prop) : Ex → Fr → Hp → Prop := retQ T0 [.tmp 4] [4] (fun r H => ldR (.one false [.bool]) r fun u => K (asB u) H) E
def heaps_Queue_low.run (q0 : Option Addr) (ke1 : Int) (E : Value → Hp → Prop) (H : Hp) (K : Bool → Hp → Prop) : Prop := nodeM P0 T0 heaps_Queue_low.A heaps_Queue_low.code [] [] (heaps_Queue_low.rq E K) (argF 0 [.pointer q0, .int .i64 ke1]) H
theorem heaps_Queue_low.of {q0 : Option Addr} {ke1 : Int} {E : Value → Hp → Prop} {H : Hp} {K : Bool → Hp → Prop} (h : heaps_Queue_low.run q0 ke1 E H K) : heaps_Queue_low.call q0 ke1 E H K :=
  callW_of T0_ok P0_mixed (A := heaps_Queue_low.A) (fn := Go.Proofs.Tryz.f51) Go.Proofs.Tryz.func51 rfl heaps_Queue_low.ok rfl h
theorem heaps_Queue_low.nok : nodesOk heaps_Queue_low.code [] = true := by kernel_rfl
def heaps_Queue_low.run_t  (q0 : Option Addr) (ke1 : Int)  (E : Value → Hp → Prop) (H : Hp) (K : Bool → Hp → Prop) : Prop :=
  nn q0 fun b_1 o_1 =>
  ldI .i64 (H.get b_1 (o_1 + 4)) fun x_1 =>
  bcase (decide ((x_1 : Int) = 4)) (
  nn q0 fun b_2 o_2 =>
  ldI .i64 (H.get b_2 (o_2 + 5)) fun x_2 =>
  K (decide ((ke1 : Int) < x_2)) H)
  (K false H)
theorem heaps_Queue_low.run_eq {q0 : Option Addr} {ke1 : Int} { E : Value → Hp → Prop} {H : Hp} {K : Bool → Hp → Prop} (h : heaps_Queue_low.run_t  q0 ke1  E H K) : heaps_Queue_low.run q0 ke1  E H K := by
  exact nodeR_imp2 (fun _ => heaps_Queue_low.run_t  q0 ke1  E H K) heaps_Queue_low.nok rfl (fun G => by kernel_rfl) h
/-! ### (*compass/heaps.Queue).Top (52) -/
noncomputable def heaps_Queue_Top.A : An := { live := [(0, [0]), (1, [0]), (2, []), (3, [0]), (4, [0, 5])], ord := [(4, [0, 1, 2, 3, 4, 5, 6, 7, 8, 9, 10, 11])], stb := [], pre := [(4, [[], [], [1], [1, 2], [1, 2, 3], [1, 2, 3, 4], [], [1, 2, 3, 4, 5, 6], [1, 2, 3, 4, 5, 6, 7], [0], [0, 1, 2, 3, 4, 5, 6, 7, 8, 9], [0, 1, 2, 3, 4, 5, 6, 7, 8, 9, 10]])] }
noncomputable def heaps_Queue_Top.code : Code := bodyOf Go.Proofs.Tryz.f52
theorem heaps_Queue_Top.ok : okCode heaps_Queue_Top.A 25 heaps_Queue_Top.code = true := by kernel_rfl
def heaps_Queue_Top.rq (E : Value → Hp → Prop) (K : Int → Int → Int → Hp → Prop) : Ex → Fr → Hp → Prop := retQ T0 [.tmp 2, .tmp 3, .tmp 4] [3, 2, 27] (fun r H => ldR (.tup [(false, [.i .i64]), (false, [.i .i64]), (false, [.i .i64])]) r fun u => K (asI (tupV u 0)) (asI (tupV u 1)) (asI (tupV u 2)) H) E
def heaps_Queue_Top.run (q0 : Option Addr) (E : Value → Hp → Prop) (H : Hp) (K : Int → Int → Int → Hp → Prop) : Prop := nodeM P0 T0 heaps_Queue_Top.A heaps_Queue_Top.code [] [] (heaps_Queue_Top.rq E K) (argF 0 [.pointer q0]) H
theorem heaps_Queue_Top.of {q0 : Option Addr} {E : Value → Hp → Prop} {H : Hp} {K : Int → Int → Int → Hp → Prop} (h : heaps_Queue_Top.run q0 E H K) : heaps_Queue_Top.call q0 E H K :=
  callW_of T0_ok P0_mixed (A := heaps_Queue_Top.A) (fn := Go.Proofs.Tryz.f52) Go.Proofs.Tryz.func52 rfl heaps_Queue_Top.ok rfl h
theorem heaps_Queue_Top.nok : nodesOk heaps_Queue_Top.code [] = true := by kernel_rfl
def heaps_Queue_Top.run_t  (q0 : Option Addr)  (E : Value → Hp → Prop) (H : Hp) (K : Int → Int → Int → Hp → Prop) : Prop :=
  nn q0 fun b_1 o_1 =>
  ldI .i64 (H.get b_1 (o_1 + 3)) fun x_1 =>
  bcase (decide ((x_1 : Int) = 0)) (
  K 0 0 4 H)
  (nn q0 fun b_2 o_2 =>
  ldV (H.get b_2 (o_2 + 2)) fun x_2 =>
  icall P0 T0 x_2 "compass/heaps.top" [] (.one false [.i .i64]) E H fun u_1 H_1 =>
  nn q0 fun b_3 o_3 =>
  ldS (H_1.get b_3 o_3) fun x_3p x_3n x_3c =>
  ix x_3p x_3n (asI u_1) 1 fun b_4 o_4 =>
  ldI .i64 (H_1.get b_4 o_4) fun x_4 =>
  K (asI u_1) x_4 0 H_1)
theorem heaps_Queue_Top.run_eq {q0 : Option Addr} { E : Value → Hp → Prop} {H : Hp} {K : Int → Int → Int → Hp → Prop} (h : heaps_Queue_Top.run_t  q0  E H K) : heaps_Queue_Top.run q0  E H K := by
  exact nodeR_imp2 (fun _ => heaps_Queue_Top.run_t  q0  E H K) heaps_Queue_Top.nok rfl (fun G => by kernel_rfl) h
end Go.Mz
