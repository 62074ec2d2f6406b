/-
  The shallow texts of functions (Bin), each with a kernel-checked equation to the translated code. It proves nothing of the program by itself.
-/
import Derived.Test.YthcehonpfnmpiaaGreatTab
set_option linter.unusedVariables false
set_option maxRecDepth 100000
namespace Go.Mz
/-! ### (*compass/heaps.binary).lower (101) -/
/-! ### (*compass/heaps.binary).pop (102) -/
/-! ### (*compass/heaps.binary).push (103) -/
/-! ### (*compass/heaps.binary).top (104) -/
/-! ### (*compass/heaps.keyed).ahead (105) -/
noncomputable def heaps_keyed_ahead.A : An := { live := [(0, [0, 1, 2]), (1, [0, 1, 2])], ord := [(1, [0, 1, 2, 3, 4, 5, 6, 7, 8, 9, 10, 11, 12, 13, 14, 15, 16, 17, 18, 19, 20, 21, 22, 23, 24, 25, 26, 27, 28, 29, 30, 31, 32, 33, 34, 35, 36, 37])], stb := [], pre := [(1, [[], [0], [0, 1], [0, 1, 2], [], [0, 1, 2, 3, 4], [0, 1, 2, 3, 4, 5], [], [7], [7, 8], [7, 8, 9], [], [7, 8, 9, 10, 11], [7, 8, 9, 10, 11, 12], [0, 1, 2, 3, 4, 5, 6, 7, 8, 9, 10, 11, 12, 13], [0, 1, 2, 3, 4, 5, 6, 7, 8, 9, 10, 11, 12, 13, 14], [0, 1, 2, 3, 4, 5, 6, 7, 8, 9, 10, 11, 12, 13, 14, 15], [0, 1, 2, 3, 4, 5, 6, 7, 8, 9, 10, 11, 12, 13, 14, 15, 16], [0, 1, 2, 3, 4, 5, 6, 7, 8, 9, 10, 11, 12, 13, 14, 15, 16, 17], [0, 1, 2, 3, 4, 5, 6, 7, 8, 9, 10, 11, 12, 13, 14, 15, 16, 17, 18], [0, 1, 2, 3, 4, 5, 6, 7, 8, 9, 10, 11, 12, 13, 14, 15], [0, 1, 2, 3, 4, 5, 6, 7, 8, 9, 10, 11, 12, 13, 14, 15, 16, 17, 18, 19, 20], [0, 1, 2, 3, 4, 5, 6, 7, 8, 9, 10, 11, 12, 13, 14, 15, 16, 17, 18, 19, 20, 21], [0, 1, 2, 3, 4, 5, 6, 7, 8, 9, 10, 11, 12, 13, 14, 15], [0, 1, 2, 3, 4, 5, 6, 7, 8, 9, 10, 11, 12, 13, 14, 15, 23], [0, 1, 2, 3, 4, 5, 6, 7, 8, 9, 10, 11, 12, 13, 14, 15, 23, 24], [0, 1, 2, 3, 4, 5, 6, 7, 8, 9, 10, 11, 12, 13, 14, 15, 23, 24, 25], [0, 1, 2, 3, 4, 5, 6, 7, 8, 9, 10, 11, 12, 13, 14, 15], [0, 1, 2, 3, 4, 5, 6, 7, 8, 9, 10, 11, 12, 13, 14, 15, 23, 24, 25, 26, 27], [0, 1, 2, 3, 4, 5, 6, 7, 8, 9, 10, 11, 12, 13, 14, 15, 23, 24, 25, 26, 27, 28], [0, 1, 2, 3, 4, 5, 6, 7, 8, 9, 10, 11, 12, 13, 14, 15, 16, 17, 18, 19, 20, 21, 22, 23, 24, 25, 26, 27, 28, 29], [0, 1, 2, 3, 4, 5, 6, 7, 8, 9, 10, 11, 12, 13, 14, 15, 16, 17, 18, 19, 20, 21, 22, 23, 24, 25, 26, 27, 28, 29, 30], [0, 1, 2, 3, 4, 5, 6, 7, 8, 9, 10, 11, 12, 13, 14, 15, 16, 17, 18, 19, 20, 21, 22, 23, 24, 25, 26, 27, 28, 29, 30, 31], [0, 1, 2, 3, 4, 5, 6, 7, 8, 9, 10, 11, 12, 13, 14, 15, 16, 17, 18, 19, 20, 21, 22, 23, 24, 25, 26, 27, 28, 29, 30, 31], [0, 1, 2, 3, 4, 5, 6, 7, 8, 9, 10, 11, 12, 13, 14, 15, 16, 17, 18, 19, 20, 21, 22, 23, 24, 25, 26, 27, 28, 29, 30, 31, 32, 33], [0, 1, 2, 3, 4, 5, 6, 7, 8, 9, 10, 11, 12, 13, 14, 15, 16, 17, 18, 19, 20, 21, 22, 23, 24, 25, 26, 27, 28, 29, 30, 31, 32, 33, 34], [0, 1, 2, 3, 4, 5, 6, 7, 8, 9, 10, 11, 12, 13, 14, 15, 16, 17, 18, 19, 20, 21, 22, 23, 24, 25, 26, 27, 28, 29, 30, 31, 32, 33, 34, 35], [0, 1, 2, 3, 4, 5, 6, 7, 8, 9, 10, 11, 12, 13, 14, 15, 16, 17, 18, 19, 20, 21, 22, 23, 24, 25, 26, 27, 28, 29, 30, 31, 32, 33, 34, 35, 36]])] }
noncomputable def heaps_keyed_ahead.code : Code := bodyOf Go.Proofs.Tryz.f105
theorem heaps_keyed_ahead.ok : okCode heaps_keyed_ahead.A 44 heaps_keyed_ahead.code = true := by kernel_rfl
def heaps_keyed_ahead.rq (E : Value → Hp → Prop) (K : Bool → Hp → Prop) : Ex → Fr → Hp → Prop := retQ T0 [.tmp 6] [4] (fun r H => ldR (.one false [.bool]) r fun u => K (asB u) H) E
def heaps_keyed_ahead.run (k0 : Option Addr) (a1 : Int) (bb2 : Int) (E : Value → Hp → Prop) (H : Hp) (K : Bool → Hp → Prop) : Prop := nodeM P0 T0 heaps_keyed_ahead.A heaps_keyed_ahead.code [] [] (heaps_keyed_ahead.rq E K) (argF 0 [.pointer k0, .int .i64 a1, .int .i64 bb2]) H
theorem heaps_keyed_ahead.of {k0 : Option Addr} {a1 : Int} {bb2 : Int} {E : Value → Hp → Prop} {H : Hp} {K : Bool → Hp → Prop} (h : heaps_keyed_ahead.run k0 a1 bb2 E H K) : heaps_keyed_ahead.call k0 a1 bb2 E H K :=
  callW_of T0_ok P0_mixed (A := heaps_keyed_ahead.A) (fn := Go.Proofs.Tryz.f105) Go.Proofs.Tryz.func105 rfl heaps_keyed_ahead.ok rfl h
theorem heaps_keyed_ahead.nok : nodesOk heaps_keyed_ahead.code [] = true := by kernel_rfl
def heaps_keyed_ahead.run_t  (k0 : Option Addr) (a1 : Int) (bb2 : Int)  (E : Value → Hp → Prop) (H : Hp) (K : Bool → Hp → Prop) : Prop :=
  nn k0 fun b_1 o_1 =>
  ldS (H.get b_1 o_1) fun x_1p x_1n x_1c =>
  ix x_1p x_1n a1 1 fun b_2 o_2 =>
  ldI .i64 (H.get b_2 o_2) fun x_2 =>
  nn k0 fun b_3 o_3 =>
  ldS (H.get b_3 o_3) fun x_3p x_3n x_3c =>
  ix x_3p x_3n bb2 1 fun b_4 o_4 =>
  ldI .i64 (H.get b_4 o_4) fun x_4 =>
  bcase (decide ((x_2 : Int) < x_4)) (
  K true H)
  (nn k0 fun b_5 o_5 =>
  ldS (H.get b_5 o_5) fun x_5p x_5n x_5c =>
  ix x_5p x_5n a1 1 fun b_6 o_6 =>
  ldI .i64 (H.get b_6 o_6) fun x_6 =>
  nn k0 fun b_7 o_7 =>
  ldS (H.get b_7 o_7) fun x_7p x_7n x_7c =>
  ix x_7p x_7n bb2 1 fun b_8 o_8 =>
  ldI .i64 (H.get b_8 o_8) fun x_8 =>
  bcase (decide ((x_6 : Int) = x_8)) (
  K (decide ((a1 : Int) < bb2)) H)
  (K false H))
theorem heaps_keyed_ahead.run_eq {k0 : Option Addr} {a1 : Int} {bb2 : Int} { E : Value → Hp → Prop} {H : Hp} {K : Bool → Hp → Prop} (h : heaps_keyed_ahead.run_t  k0 a1 bb2  E H K) : heaps_keyed_ahead.run k0 a1 bb2  E H K := by
  exact nodeR_imp2 (fun _ => heaps_keyed_ahead.run_t  k0 a1 bb2  E H K) heaps_keyed_ahead.nok rfl (fun G => by kernel_rfl) h
/-! ### (*compass/heaps.binary).put (106) -/
noncomputable def heaps_binary_put.A : An := { live := [(0, [0, 1, 2])], ord := [(0, [0, 1, 2, 3, 4, 5, 6, 7, 8, 9, 10, 11, 12, 13, 14, 15])], stb := [], pre := [(0, [[], [0], [0, 1], [0, 1, 2], [], [], [5], [5, 6], [5, 6, 7], [], [], [], [0, 1, 2, 3, 4, 5, 6, 7, 8, 10], [0, 1, 2, 3, 4, 5, 6, 7, 8, 10, 12], [0, 1, 2, 3, 4, 5, 6, 7, 8, 9, 10, 11, 12, 13], [0, 1, 2, 3, 4, 5, 6, 7, 8, 9, 10, 11, 12, 13, 14]])] }
noncomputable def heaps_binary_put.code : Code := bodyOf Go.Proofs.Tryz.f106
theorem heaps_binary_put.ok : okCode heaps_binary_put.A 20 heaps_binary_put.code = true := by kernel_rfl
def heaps_binary_put.rq (E : Value → Hp → Prop) (K : Hp → Prop) : Ex → Fr → Hp → Prop := retQ T0 [] [] (fun r H => ldR (.tup []) r fun u => K  H) E
def heaps_binary_put.run (bb0 : Option Addr) (i1 : Int) (h2 : Int) (E : Value → Hp → Prop) (H : Hp) (K : Hp → Prop) : Prop := nodeM P0 T0 heaps_binary_put.A heaps_binary_put.code [] [] (heaps_binary_put.rq E K) (argF 0 [.pointer bb0, .int .i64 i1, .int .i64 h2]) H
theorem heaps_binary_put.of {bb0 : Option Addr} {i1 : Int} {h2 : Int} {E : Value → Hp → Prop} {H : Hp} {K : Hp → Prop} (h : heaps_binary_put.run bb0 i1 h2 E H K) : heaps_binary_put.call bb0 i1 h2 E H K :=
  callW_of T0_ok P0_mixed (A := heaps_binary_put.A) (fn := Go.Proofs.Tryz.f106) Go.Proofs.Tryz.func106 rfl heaps_binary_put.ok rfl h
theorem heaps_binary_put.nok : nodesOk heaps_binary_put.code [] = true := by kernel_rfl
def heaps_binary_put.run_t  (bb0 : Option Addr) (i1 : Int) (h2 : Int)  (E : Value → Hp → Prop) (H : Hp) (K : Hp → Prop) : Prop :=
  nn bb0 fun b_1 o_1 =>
  ldS (H.get b_1 (o_1 + 1)) fun x_1p x_1n x_1c =>
  nn bb0 fun b_2 o_2 =>
  ldS (H.get b_2 (o_2 + 2)) fun x_2p x_2n x_2c =>
  ix x_1p x_1n i1 1 fun b_3 o_3 =>
  stC H b_3 o_3 [.int .i64 h2] fun H_1 =>
  ix x_2p x_2n h2 1 fun b_4 o_4 =>
  stC H_1 b_4 o_4 [.int .i64 i1] fun H_2 =>
  K H_2
theorem heaps_binary_put.run_eq {bb0 : Option Addr} {i1 : Int} {h2 : Int} { E : Value → Hp → Prop} {H : Hp} {K : Hp → Prop} (h : heaps_binary_put.run_t  bb0 i1 h2  E H K) : heaps_binary_put.run bb0 i1 h2  E H K := by
  exact nodeR_imp2 (fun _ => heaps_binary_put.run_t  bb0 i1 h2  E H K) heaps_binary_put.nok rfl (fun G => by kernel_rfl) h
end Go.Mz
