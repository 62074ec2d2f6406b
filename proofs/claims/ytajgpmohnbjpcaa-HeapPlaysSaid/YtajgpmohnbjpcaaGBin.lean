/-
  The shallow texts of functions (Bin), each with a kernel-checked equation to the translated code. It proves nothing of the program by itself.
-/
import Derived.Test.YtajgpmohnbjpcaaTab
set_option linter.unusedVariables false
set_option maxRecDepth 100000
namespace Go.Mz
/-! ### (*compass/heaps.binary).lower (79) -/
noncomputable def heaps_binary_lower.A : An := { live := [(0, [0, 1]), (1, [0, 1, 4]), (2, [0, 1, 4]), (3, [0, 1, 4]), (4, [0, 1, 4])], ord := [(1, [0, 1, 2, 3, 4, 5, 6, 7, 8, 9, 10, 11, 12, 13, 14, 15, 16, 17, 18])], stb := [], pre := [(1, [[], [0], [0, 1], [0, 1, 2], [0, 1, 2, 3], [0, 1, 2, 3, 4], [0, 1, 2, 3, 4, 5], [0, 1, 2], [0, 1, 2], [0, 1, 2, 8], [0, 1, 2, 8, 9], [0, 1, 2, 8, 9, 10], [0, 1, 2], [0, 1, 2, 12], [0, 1, 2, 12, 13], [0, 1, 2, 8, 9, 10, 11, 12, 13, 14], [0, 1, 2, 8, 9, 10, 11, 12, 13, 14, 15], [0, 1, 2, 3, 4, 5, 6, 7, 8, 9, 10, 11, 12, 13, 14, 15, 16], [0, 1, 2, 3, 4, 5, 6, 7, 8, 9, 10, 11, 12, 13, 14, 15, 16, 17]])] }
noncomputable def heaps_binary_lower.code : Code := bodyOf Go.Proofs.Try.f79
theorem heaps_binary_lower.ok : okCode heaps_binary_lower.A 50 heaps_binary_lower.code = true := by kernel_rfl
def heaps_binary_lower.rq (E : Value → Hp → Prop) (K : Hp → Prop) : Ex → Fr → Hp → Prop := retQ T0 [] [] (fun r H => ldR (.tup []) r fun u => K  H) E
def heaps_binary_lower.run (b0 : Option Addr) (h1 : Int) (E : Value → Hp → Prop) (H : Hp) (K : Hp → Prop) : Prop := nodeM P0 T0 heaps_binary_lower.A heaps_binary_lower.code [] [] (heaps_binary_lower.rq E K) (argF 0 [.pointer b0, .int .i64 h1]) H
theorem heaps_binary_lower.of {b0 : Option Addr} {h1 : Int} {E : Value → Hp → Prop} {H : Hp} {K : Hp → Prop} (h : heaps_binary_lower.run b0 h1 E H K) : heaps_binary_lower.call b0 h1 E H K :=
  callW_of T0_ok P0_mixed (A := heaps_binary_lower.A) (fn := Go.Proofs.Try.f79) Go.Proofs.Try.func79 rfl heaps_binary_lower.ok rfl h
noncomputable def heaps_binary_lower.f1 (b0 : Option Addr) (h1 : Int) (i4 : Int) : Fr := [(0, .pointer b0), (1, .int .i64 h1), (4, .int .i64 i4)]
def heaps_binary_lower.j1 (b0 : Option Addr) (h1 : Int) (i4 : Int)  (E : Value → Hp → Prop) (H : Hp) (K : Hp → Prop) : Prop := nodeM P0 T0 heaps_binary_lower.A heaps_binary_lower.code [1, 1] [] (heaps_binary_lower.rq E K) [(0, .pointer b0), (1, .int .i64 h1), (4, .int .i64 i4)] H
def heaps_binary_lower.l1 (b0 : Option Addr) (h1 : Int) (i4 : Int)  (E : Value → Hp → Prop) (H : Hp) (K : Hp → Prop) : Prop := nodeM P0 T0 heaps_binary_lower.A heaps_binary_lower.code [1, 0, 0] [] (heaps_binary_lower.rq E K) (heaps_binary_lower.f1 b0 h1 i4) H
def heaps_binary_lower.b1 (b0 : Option Addr) (h1 : Int) (i4 : Int)  (X1 : Fr → Hp → Prop) (E : Value → Hp → Prop) (H : Hp) (K : Hp → Prop) : Prop := nodeM P0 T0 heaps_binary_lower.A heaps_binary_lower.code [1, 0, 0, 0] [X1] (heaps_binary_lower.rq E K) (heaps_binary_lower.f1 b0 h1 i4) H
theorem heaps_binary_lower.l1_rule { E : Value → Hp → Prop} {K : Hp → Prop} (I : (Option Addr) → Int → Int → Hp → Prop) (μ : (Option Addr) → Int → Int → Hp → Nat)
    (h : ∀ b0 h1 i4 H, I b0 h1 i4 H → ∀ X : Fr → Hp → Prop, (∀ b0' h1' i4' H', I b0' h1' i4' H' → μ b0' h1' i4' H' < μ b0 h1 i4 H → X (heaps_binary_lower.f1 b0' h1' i4') H') → heaps_binary_lower.b1 b0 h1 i4  X E H K)
    {b0 : Option Addr} {h1 : Int} {i4 : Int} {H : Hp} (hI : I b0 h1 i4 H) : heaps_binary_lower.l1 b0 h1 i4  E H K :=
  loop_rule (S := (Option Addr) × Int × Int) (fun s => heaps_binary_lower.f1 (s.1) (s.2.1) (s.2.2)) (fun s H => I (s.1) (s.2.1) (s.2.2) H) (fun s H => μ (s.1) (s.2.1) (s.2.2) H) (fun s H hI X hX => h (s.1) (s.2.1) (s.2.2) H hI X fun b0' h1' i4' H' hI' hlt => hX (b0', h1', i4') H' hI' hlt) (s := (b0, h1, i4)) rfl hI
theorem heaps_binary_lower.nok : nodesOk heaps_binary_lower.code [[0, 0, 1], [1, 1]] = true := by kernel_rfl
def heaps_binary_lower.run_t (l1 : (Option Addr) → Int → Int → Hp → Prop) (b0 : Option Addr) (h1 : Int)  (E : Value → Hp → Prop) (H : Hp) (K : Hp → Prop) : Prop :=
  nn b0 fun b_1 o_1 =>
  ldS (H.get b_1 (o_1 + 2)) fun x_1p x_1n x_1c =>
  ix x_1p x_1n h1 1 fun b_2 o_2 =>
  ldI .i64 (H.get b_2 o_2) fun x_2 =>
  l1 b0 h1 x_2 H
theorem heaps_binary_lower.run_eq {b0 : Option Addr} {h1 : Int} { E : Value → Hp → Prop} {H : Hp} {K : Hp → Prop} (h : heaps_binary_lower.run_t (fun b0 h1 i4 H => heaps_binary_lower.l1 b0 h1 i4  E H K) b0 h1  E H K) : heaps_binary_lower.run b0 h1  E H K := by
  have k1 : ∀ G : List Nat → Fr → Hp → Prop, nodeR P0 T0 heaps_binary_lower.A [[0, 0, 1], [1, 1]] G heaps_binary_lower.code [] [] (heaps_binary_lower.rq E K) (argF 0 [.pointer b0, .int .i64 h1]) H = heaps_binary_lower.run_t (fun b0 h1 i4 H => G [0, 0, 1] [(0, .pointer b0), (1, .int .i64 h1), (4, .int .i64 i4)] H) b0 h1  E H K := fun G => by kernel_rfl
  have k2 : heaps_binary_lower.run_t (fun b0 h1 i4 H => heaps_binary_lower.l1 b0 h1 i4  E H K) b0 h1  E H K = heaps_binary_lower.run_t (fun b0 h1 i4 H => (fun q F H => nodeM P0 T0 heaps_binary_lower.A heaps_binary_lower.code q.reverse [] (heaps_binary_lower.rq E K) F H) [0, 0, 1] [(0, .pointer b0), (1, .int .i64 h1), (4, .int .i64 i4)] H) b0 h1  E H K := by kernel_rfl
  exact nodeR_imp heaps_binary_lower.nok rfl ((k1 _).mpr (k2.mp h))
def heaps_binary_lower.j1_t  (b0 : Option Addr) (h1 : Int) (i4 : Int)  (E : Value → Hp → Prop) (H : Hp) (K : Hp → Prop) : Prop :=
  heaps_binary_put.call b0 i4 h1 E H fun H_1 =>
  K H_1
theorem heaps_binary_lower.j1_eq {b0 : Option Addr} {h1 : Int} {i4 : Int} { E : Value → Hp → Prop} {H : Hp} {K : Hp → Prop} (h : heaps_binary_lower.j1_t  b0 h1 i4  E H K) : heaps_binary_lower.j1 b0 h1 i4  E H K := by
  have k1 : ∀ G : List Nat → Fr → Hp → Prop, nodeR P0 T0 heaps_binary_lower.A [[0, 0, 1], [1, 1]] G heaps_binary_lower.code [1, 1] [] (heaps_binary_lower.rq E K) [(0, .pointer b0), (1, .int .i64 h1), (4, .int .i64 i4)] H = heaps_binary_lower.j1_t  b0 h1 i4  E H K := fun G => by kernel_rfl
  exact nodeR_imp heaps_binary_lower.nok rfl ((k1 _).mpr h)
def heaps_binary_lower.b1_t (j1 : (Option Addr) → Int → Int → Hp → Prop) (b0 : Option Addr) (h1 : Int) (i4 : Int) (X1 : Fr → Hp → Prop) (E : Value → Hp → Prop) (H : Hp) (K : Hp → Prop) : Prop :=
  bcase (decide ((0 : Int) < i4)) (
  nn b0 fun b_1 o_1 =>
  ldP (H.get b_1 o_1) fun x_1 =>
  nn b0 fun b_2 o_2 =>
  ldS (H.get b_2 (o_2 + 1)) fun x_2p x_2n x_2c =>
  2 ≠ (0 : Int) ∧
  ix x_2p x_2n (IntKind.wrap .i64 (Int.tdiv (IntKind.wrap .i64 (i4 - 1)) 2)) 1 fun b_3 o_3 =>
  ldI .i64 (H.get b_3 o_3) fun x_3 =>
  heaps_keyed_ahead.call x_1 h1 x_3 E H fun r_1 H_1 =>
  bcase (r_1) (
  nn b0 fun b_4 o_4 =>
  ldS (H_1.get b_4 (o_4 + 1)) fun x_4p x_4n x_4c =>
  2 ≠ (0 : Int) ∧
  ix x_4p x_4n (IntKind.wrap .i64 (Int.tdiv (IntKind.wrap .i64 (i4 - 1)) 2)) 1 fun b_5 o_5 =>
  ldI .i64 (H_1.get b_5 o_5) fun x_5 =>
  heaps_binary_put.call b0 i4 x_5 E H_1 fun H_2 =>
  2 ≠ (0 : Int) ∧
  X1 (heaps_binary_lower.f1 b0 h1 (IntKind.wrap .i64 (Int.tdiv (IntKind.wrap .i64 (i4 - 1)) 2))) H_2)
  (j1 b0 h1 i4 H_1))
  (j1 b0 h1 i4 H)
theorem heaps_binary_lower.b1_eq {b0 : Option Addr} {h1 : Int} {i4 : Int} {X1 : Fr → Hp → Prop} { E : Value → Hp → Prop} {H : Hp} {K : Hp → Prop} (h : heaps_binary_lower.b1_t (fun b0 h1 i4 H => heaps_binary_lower.j1 b0 h1 i4  E H K) b0 h1 i4 X1 E H K) : heaps_binary_lower.b1 b0 h1 i4 X1 E H K := by
  have k1 : ∀ G : List Nat → Fr → Hp → Prop, nodeR P0 T0 heaps_binary_lower.A [[0, 0, 1], [1, 1]] G heaps_binary_lower.code [1, 0, 0, 0] [X1] (heaps_binary_lower.rq E K) (heaps_binary_lower.f1 b0 h1 i4) H = heaps_binary_lower.b1_t (fun b0 h1 i4 H => G [1, 1] [(0, .pointer b0), (1, .int .i64 h1), (4, .int .i64 i4)] H) b0 h1 i4 X1 E H K := fun G => by kernel_rfl
  have k2 : heaps_binary_lower.b1_t (fun b0 h1 i4 H => heaps_binary_lower.j1 b0 h1 i4  E H K) b0 h1 i4 X1 E H K = heaps_binary_lower.b1_t (fun b0 h1 i4 H => (fun q F H => nodeM P0 T0 heaps_binary_lower.A heaps_binary_lower.code q.reverse [X1] (heaps_binary_lower.rq E K) F H) [1, 1] [(0, .pointer b0), (1, .int .i64 h1), (4, .int .i64 i4)] H) b0 h1 i4 X1 E H K := by kernel_rfl
  exact nodeR_imp heaps_binary_lower.nok rfl ((k1 _).mpr (k2.mp h))
/-! ### (*compass/heaps.binary).pop (80) -/
noncomputable def heaps_binary_pop.A : An := { live := [(0, [0]), (1, [0, 2]), (2, [0, 2]), (3, [0, 2, 3]), (4, [0, 2, 3]), (5, [0, 2, 3, 4]), (6, [0, 2, 3, 4, 5]), (7, [0, 2, 3, 4, 5]), (8, [0, 2, 3, 4, 5]), (9, [0, 2, 3, 4, 5]), (10, [0, 2, 3, 5]), (11, [0, 2, 4])], ord := [(0, [0, 1, 2, 3, 4, 5, 6, 7, 8, 9, 10, 11, 12]), (1, [0, 1, 2, 3, 4, 5, 6, 7, 8, 9, 10, 11, 12, 13, 14]), (6, [0, 1, 2, 3, 4, 5, 6, 7, 8, 9, 10, 11, 12, 13, 14, 15, 16, 17, 18, 19, 20, 21, 22, 23, 24, 25]), (8, [0, 1, 2, 3, 4, 5, 6, 7, 8, 9, 10, 11, 12, 13, 14, 15, 16, 17, 18])], stb := [], pre := [(0, [[], [0], [0, 1], [0, 1, 2], [], [4], [4, 5], [4, 5, 6], [4, 5, 6, 7], [4, 5, 6, 7, 8], [0, 1, 2, 3, 4, 5, 6, 7, 8, 9], [0, 1, 2, 3, 4, 5, 6, 7, 8, 9, 10], [0, 1, 2, 3, 4, 5, 6, 7, 8, 9, 10, 11]]), (1, [[], [], [1], [1, 2], [1, 2, 3], [], [5], [5, 6], [5, 6, 7], [5, 6, 7, 8], [5, 6, 7, 8, 9], [1, 2, 3, 4, 5, 6, 7, 8, 9, 10], [0, 1, 2, 3, 4, 5, 6, 7, 8, 9, 10, 11], [0, 1, 2, 3, 4, 5, 6, 7, 8, 9, 10, 11, 12], [0, 1, 2, 3, 4, 5, 6, 7, 8, 9, 10, 11, 12, 13]]), (6, [[], [0], [], [0, 1, 2], [0, 1, 2, 3], [0, 1, 2, 3, 4], [0, 1, 2, 3, 4, 5], [0, 1, 2, 3, 4, 5, 6], [0, 1, 2, 3, 4, 5, 6, 7], [0, 1, 2, 3, 4], [0, 1, 2, 3, 4, 9], [0, 1, 2, 3, 4, 9, 10], [0, 1, 2, 3, 4, 9, 10, 11], [0, 1, 2, 3, 4], [0, 1, 2, 3, 4, 13], [0, 1, 2, 3, 4, 9, 10, 11, 12, 13, 14], [0, 1, 2, 3, 4, 9, 10, 11, 12, 13, 14, 15], [0, 1, 2, 3, 4], [0, 1, 2, 3, 4, 17], [0, 1, 2, 3, 4, 17, 18], [0, 1, 2, 3, 4, 17, 18, 19], [0, 1, 2, 3, 4], [0, 1, 2, 3, 4, 17, 18, 19, 20, 21], [0, 1, 2, 3, 4, 17, 18, 19, 20, 21, 22], [0, 1, 2, 3, 4, 5, 6, 7, 8, 9, 10, 11, 12, 13, 14, 15, 16, 17, 18, 19, 20, 21, 22, 23], [0, 1, 2, 3, 4, 5, 6, 7, 8, 9, 10, 11, 12, 13, 14, 15, 16, 17, 18, 19, 20, 21, 22, 23, 24]]), (8, [[], [], [0, 1], [0, 1, 2], [0, 1, 2, 3], [0, 1, 2, 3, 4], [0, 1, 2, 3, 4, 5], [0, 1, 2, 3, 4, 5, 6], [0, 1, 2, 3], [0, 1, 2, 3, 8], [0, 1, 2, 3, 8, 9], [0, 1, 2, 3, 8, 9, 10], [0, 1, 2, 3], [0, 1, 2, 3, 8, 9, 10, 11, 12], [0, 1, 2, 3, 8, 9, 10, 11, 12, 13], [0, 1, 2, 3], [0, 1, 2, 3, 4, 5, 6, 7, 8, 9, 10, 11, 12, 13, 14, 15], [0, 1, 2, 3, 4, 5, 6, 7, 8, 9, 10, 11, 12, 13, 14, 15, 16], [0, 1, 2, 3, 4, 5, 6, 7, 8, 9, 10, 11, 12, 13, 14, 15, 16, 17]])] }
noncomputable def heaps_binary_pop.code : Code := bodyOf Go.Proofs.Try.f80
theorem heaps_binary_pop.ok : okCode heaps_binary_pop.A 104 heaps_binary_pop.code = true := by kernel_rfl
def heaps_binary_pop.rq (E : Value → Hp → Prop) (K : Hp → Prop) : Ex → Fr → Hp → Prop := retQ T0 [] [] (fun r H => ldR (.tup []) r fun u => K  H) E
def heaps_binary_pop.run (b0 : Option Addr) (E : Value → Hp → Prop) (H : Hp) (K : Hp → Prop) : Prop := nodeM P0 T0 heaps_binary_pop.A heaps_binary_pop.code [] [] (heaps_binary_pop.rq E K) (argF 0 [.pointer b0]) H
theorem heaps_binary_pop.of {b0 : Option Addr} {E : Value → Hp → Prop} {H : Hp} {K : Hp → Prop} (h : heaps_binary_pop.run b0 E H K) : heaps_binary_pop.call b0 E H K :=
  callW_of T0_ok P0_mixed (A := heaps_binary_pop.A) (fn := Go.Proofs.Try.f80) Go.Proofs.Try.func80 rfl heaps_binary_pop.ok rfl h
noncomputable def heaps_binary_pop.f1 (b0 : Option Addr) (h2 : Int) (n3 : Int) (i4 : Int) : Fr := [(0, .pointer b0), (2, .int .i64 h2), (3, .int .i64 n3), (4, .int .i64 i4)]
def heaps_binary_pop.j1 (b0 : Option Addr) (h2 : Int) (n3 : Int) (i4 : Int) (c5 : Int) (X1 : Fr → Hp → Prop) (E : Value → Hp → Prop) (H : Hp) (K : Hp → Prop) : Prop := nodeM P0 T0 heaps_binary_pop.A heaps_binary_pop.code [1, 1, 1, 1, 1, 0, 0, 0, 0, 1, 1] [X1] (heaps_binary_pop.rq E K) [(0, .pointer b0), (2, .int .i64 h2), (3, .int .i64 n3), (4, .int .i64 i4), (5, .int .i64 c5)] H
def heaps_binary_pop.j2 (b0 : Option Addr) (h2 : Int) (i4 : Int)  (E : Value → Hp → Prop) (H : Hp) (K : Hp → Prop) : Prop := nodeM P0 T0 heaps_binary_pop.A heaps_binary_pop.code [1, 1, 1, 1, 1, 1] [] (heaps_binary_pop.rq E K) [(0, .pointer b0), (2, .int .i64 h2), (4, .int .i64 i4)] H
def heaps_binary_pop.l1 (b0 : Option Addr) (h2 : Int) (n3 : Int) (i4 : Int)  (E : Value → Hp → Prop) (H : Hp) (K : Hp → Prop) : Prop := nodeM P0 T0 heaps_binary_pop.A heaps_binary_pop.code [1, 1, 1, 1, 1, 0, 0] [] (heaps_binary_pop.rq E K) (heaps_binary_pop.f1 b0 h2 n3 i4) H
def heaps_binary_pop.b1 (b0 : Option Addr) (h2 : Int) (n3 : Int) (i4 : Int)  (X1 : Fr → Hp → Prop) (E : Value → Hp → Prop) (H : Hp) (K : Hp → Prop) : Prop := nodeM P0 T0 heaps_binary_pop.A heaps_binary_pop.code [1, 1, 1, 1, 1, 0, 0, 0] [X1] (heaps_binary_pop.rq E K) (heaps_binary_pop.f1 b0 h2 n3 i4) H
theorem heaps_binary_pop.l1_rule { E : Value → Hp → Prop} {K : Hp → Prop} (I : (Option Addr) → Int → Int → Int → Hp → Prop) (μ : (Option Addr) → Int → Int → Int → Hp → Nat)
    (h : ∀ b0 h2 n3 i4 H, I b0 h2 n3 i4 H → ∀ X : Fr → Hp → Prop, (∀ b0' h2' n3' i4' H', I b0' h2' n3' i4' H' → μ b0' h2' n3' i4' H' < μ b0 h2 n3 i4 H → X (heaps_binary_pop.f1 b0' h2' n3' i4') H') → heaps_binary_pop.b1 b0 h2 n3 i4  X E H K)
    {b0 : Option Addr} {h2 : Int} {n3 : Int} {i4 : Int} {H : Hp} (hI : I b0 h2 n3 i4 H) : heaps_binary_pop.l1 b0 h2 n3 i4  E H K :=
  loop_rule (S := (Option Addr) × Int × Int × Int) (fun s => heaps_binary_pop.f1 (s.1) (s.2.1) (s.2.2.1) (s.2.2.2)) (fun s H => I (s.1) (s.2.1) (s.2.2.1) (s.2.2.2) H) (fun s H => μ (s.1) (s.2.1) (s.2.2.1) (s.2.2.2) H) (fun s H hI X hX => h (s.1) (s.2.1) (s.2.2.1) (s.2.2.2) H hI X fun b0' h2' n3' i4' H' hI' hlt => hX (b0', h2', n3', i4') H' hI' hlt) (s := (b0, h2, n3, i4)) rfl hI
theorem heaps_binary_pop.nok : nodesOk heaps_binary_pop.code [[0, 0, 1, 1, 1, 1, 1], [1, 1, 0, 0, 0, 0, 1, 1, 1, 1, 1], [1, 1, 1, 1, 1, 1]] = true := by kernel_rfl
def heaps_binary_pop.run_t (l1 : (Option Addr) → Int → Int → Int → Hp → Prop) (b0 : Option Addr)  (E : Value → Hp → Prop) (H : Hp) (K : Hp → Prop) : Prop :=
  nn b0 fun b_1 o_1 =>
  ldS (H.get b_1 (o_1 + 1)) fun x_1p x_1n x_1c =>
  nn b0 fun b_2 o_2 =>
  ldS (H.get b_2 (o_2 + 1)) fun x_2p x_2n x_2c =>
  ix x_1p x_1n (IntKind.wrap .i64 ((x_2n : Int) - 1)) 1 fun b_3 o_3 =>
  ldI .i64 (H.get b_3 o_3) fun x_3 =>
  nn b0 fun b_4 o_4 =>
  ldS (H.get b_4 (o_4 + 1)) fun x_4p x_4n x_4c =>
  nn b0 fun b_5 o_5 =>
  ldS (H.get b_5 (o_5 + 1)) fun x_5p x_5n x_5c =>
  ((0 : Int) ≤ (IntKind.wrap .i64 ((x_5n : Int) - 1)) ∧ (IntKind.wrap .i64 ((x_5n : Int) - 1)) ≤ (x_4c : Int)) ∧
  nn b0 fun b_6 o_6 =>
  stC H b_6 (o_6 + 1) [.slice (slp x_4p 0 x_4c 1) ((IntKind.wrap .i64 ((x_5n : Int) - 1)).toNat) x_4c] fun H_1 =>
  nn b0 fun b_7 o_7 =>
  ldS (H_1.get b_7 (o_7 + 1)) fun x_6p x_6n x_6c =>
  bcase (decide (((x_6n : Int) : Int) = 0)) (
  K H_1)
  (l1 b0 x_3 (x_6n : Int) 0 H_1)
theorem heaps_binary_pop.run_eq {b0 : Option Addr} { E : Value → Hp → Prop} {H : Hp} {K : Hp → Prop} (h : heaps_binary_pop.run_t (fun b0 h2 n3 i4 H => heaps_binary_pop.l1 b0 h2 n3 i4  E H K) b0  E H K) : heaps_binary_pop.run b0  E H K := by
  have k1 : ∀ G : List Nat → Fr → Hp → Prop, nodeR P0 T0 heaps_binary_pop.A [[0, 0, 1, 1, 1, 1, 1], [1, 1, 0, 0, 0, 0, 1, 1, 1, 1, 1], [1, 1, 1, 1, 1, 1]] G heaps_binary_pop.code [] [] (heaps_binary_pop.rq E K) (argF 0 [.pointer b0]) H = heaps_binary_pop.run_t (fun b0 h2 n3 i4 H => G [0, 0, 1, 1, 1, 1, 1] [(0, .pointer b0), (2, .int .i64 h2), (3, .int .i64 n3), (4, .int .i64 i4)] H) b0  E H K := fun G => by kernel_rfl
  have k2 : heaps_binary_pop.run_t (fun b0 h2 n3 i4 H => heaps_binary_pop.l1 b0 h2 n3 i4  E H K) b0  E H K = heaps_binary_pop.run_t (fun b0 h2 n3 i4 H => (fun q F H => nodeM P0 T0 heaps_binary_pop.A heaps_binary_pop.code q.reverse [] (heaps_binary_pop.rq E K) F H) [0, 0, 1, 1, 1, 1, 1] [(0, .pointer b0), (2, .int .i64 h2), (3, .int .i64 n3), (4, .int .i64 i4)] H) b0  E H K := by kernel_rfl
  exact nodeR_imp heaps_binary_pop.nok rfl ((k1 _).mpr (k2.mp h))
def heaps_binary_pop.j1_t (j2 : (Option Addr) → Int → Int → Hp → Prop) (b0 : Option Addr) (h2 : Int) (n3 : Int) (i4 : Int) (c5 : Int) (X1 : Fr → Hp → Prop) (E : Value → Hp → Prop) (H : Hp) (K : Hp → Prop) : Prop :=
  bcase (decide ((n3 : Int) ≤ c5)) (
  j2 b0 h2 i4 H)
  (nn b0 fun b_1 o_1 =>
  ldP (H.get b_1 o_1) fun x_1 =>
  nn b0 fun b_2 o_2 =>
  ldS (H.get b_2 (o_2 + 1)) fun x_2p x_2n x_2c =>
  ix x_2p x_2n c5 1 fun b_3 o_3 =>
  ldI .i64 (H.get b_3 o_3) fun x_3 =>
  heaps_keyed_ahead.call x_1 x_3 h2 E H fun r_1 H_1 =>
  bcase ((!r_1)) (
  j2 b0 h2 i4 H_1)
  (nn b0 fun b_4 o_4 =>
  ldS (H_1.get b_4 (o_4 + 1)) fun x_4p x_4n x_4c =>
  ix x_4p x_4n c5 1 fun b_5 o_5 =>
  ldI .i64 (H_1.get b_5 o_5) fun x_5 =>
  heaps_binary_put.call b0 i4 x_5 E H_1 fun H_2 =>
  X1 (heaps_binary_pop.f1 b0 h2 n3 c5) H_2))
theorem heaps_binary_pop.j1_eq {b0 : Option Addr} {h2 : Int} {n3 : Int} {i4 : Int} {c5 : Int} {X1 : Fr → Hp → Prop} { E : Value → Hp → Prop} {H : Hp} {K : Hp → Prop} (h : heaps_binary_pop.j1_t (fun b0 h2 i4 H => heaps_binary_pop.j2 b0 h2 i4  E H K) b0 h2 n3 i4 c5 X1 E H K) : heaps_binary_pop.j1 b0 h2 n3 i4 c5 X1 E H K := by
  have k1 : ∀ G : List Nat → Fr → Hp → Prop, nodeR P0 T0 heaps_binary_pop.A [[0, 0, 1, 1, 1, 1, 1], [1, 1, 0, 0, 0, 0, 1, 1, 1, 1, 1], [1, 1, 1, 1, 1, 1]] G heaps_binary_pop.code [1, 1, 1, 1, 1, 0, 0, 0, 0, 1, 1] [X1] (heaps_binary_pop.rq E K) [(0, .pointer b0), (2, .int .i64 h2), (3, .int .i64 n3), (4, .int .i64 i4), (5, .int .i64 c5)] H = heaps_binary_pop.j1_t (fun b0 h2 i4 H => G [1, 1, 1, 1, 1, 1] [(0, .pointer b0), (2, .int .i64 h2), (4, .int .i64 i4)] H) b0 h2 n3 i4 c5 X1 E H K := fun G => by kernel_rfl
  have k2 : heaps_binary_pop.j1_t (fun b0 h2 i4 H => heaps_binary_pop.j2 b0 h2 i4  E H K) b0 h2 n3 i4 c5 X1 E H K = heaps_binary_pop.j1_t (fun b0 h2 i4 H => (fun q F H => nodeM P0 T0 heaps_binary_pop.A heaps_binary_pop.code q.reverse [X1] (heaps_binary_pop.rq E K) F H) [1, 1, 1, 1, 1, 1] [(0, .pointer b0), (2, .int .i64 h2), (4, .int .i64 i4)] H) b0 h2 n3 i4 c5 X1 E H K := by kernel_rfl
  exact nodeR_imp heaps_binary_pop.nok rfl ((k1 _).mpr (k2.mp h))
def heaps_binary_pop.j2_t  (b0 : Option Addr) (h2 : Int) (i4 : Int)  (E : Value → Hp → Prop) (H : Hp) (K : Hp → Prop) : Prop :=
  heaps_binary_put.call b0 i4 h2 E H fun H_1 =>
  K H_1
theorem heaps_binary_pop.j2_eq {b0 : Option Addr} {h2 : Int} {i4 : Int} { E : Value → Hp → Prop} {H : Hp} {K : Hp → Prop} (h : heaps_binary_pop.j2_t  b0 h2 i4  E H K) : heaps_binary_pop.j2 b0 h2 i4  E H K := by
  have k1 : ∀ G : List Nat → Fr → Hp → Prop, nodeR P0 T0 heaps_binary_pop.A [[0, 0, 1, 1, 1, 1, 1], [1, 1, 0, 0, 0, 0, 1, 1, 1, 1, 1], [1, 1, 1, 1, 1, 1]] G heaps_binary_pop.code [1, 1, 1, 1, 1, 1] [] (heaps_binary_pop.rq E K) [(0, .pointer b0), (2, .int .i64 h2), (4, .int .i64 i4)] H = heaps_binary_pop.j2_t  b0 h2 i4  E H K := fun G => by kernel_rfl
  exact nodeR_imp heaps_binary_pop.nok rfl ((k1 _).mpr h)
def heaps_binary_pop.b1_t (j1 : (Option Addr) → Int → Int → Int → Int → Hp → Prop) (b0 : Option Addr) (h2 : Int) (n3 : Int) (i4 : Int) (X1 : Fr → Hp → Prop) (E : Value → Hp → Prop) (H : Hp) (K : Hp → Prop) : Prop :=
  bcase (decide (((IntKind.wrap .i64 ((IntKind.wrap .i64 ((IntKind.wrap .i64 (2 * i4)) + 1)) + 1)) : Int) < n3)) (
  nn b0 fun b_1 o_1 =>
  ldP (H.get b_1 o_1) fun x_1 =>
  nn b0 fun b_2 o_2 =>
  ldS (H.get b_2 (o_2 + 1)) fun x_2p x_2n x_2c =>
  ix x_2p x_2n (IntKind.wrap .i64 ((IntKind.wrap .i64 ((IntKind.wrap .i64 (2 * i4)) + 1)) + 1)) 1 fun b_3 o_3 =>
  ldI .i64 (H.get b_3 o_3) fun x_3 =>
  nn b0 fun b_4 o_4 =>
  ldS (H.get b_4 (o_4 + 1)) fun x_4p x_4n x_4c =>
  ix x_4p x_4n (IntKind.wrap .i64 ((IntKind.wrap .i64 (2 * i4)) + 1)) 1 fun b_5 o_5 =>
  ldI .i64 (H.get b_5 o_5) fun x_5 =>
  heaps_keyed_ahead.call x_1 x_3 x_5 E H fun r_1 H_1 =>
  bcase (r_1) (
  j1 b0 h2 n3 i4 (IntKind.wrap .i64 ((IntKind.wrap .i64 ((IntKind.wrap .i64 (2 * i4)) + 1)) + 1)) H_1)
  (j1 b0 h2 n3 i4 (IntKind.wrap .i64 ((IntKind.wrap .i64 (2 * i4)) + 1)) H_1))
  (j1 b0 h2 n3 i4 (IntKind.wrap .i64 ((IntKind.wrap .i64 (2 * i4)) + 1)) H)
theorem heaps_binary_pop.b1_eq {b0 : Option Addr} {h2 : Int} {n3 : Int} {i4 : Int} {X1 : Fr → Hp → Prop} { E : Value → Hp → Prop} {H : Hp} {K : Hp → Prop} (h : heaps_binary_pop.b1_t (fun b0 h2 n3 i4 c5 H => heaps_binary_pop.j1 b0 h2 n3 i4 c5 X1 E H K) b0 h2 n3 i4 X1 E H K) : heaps_binary_pop.b1 b0 h2 n3 i4 X1 E H K := by
  have k1 : ∀ G : List Nat → Fr → Hp → Prop, nodeR P0 T0 heaps_binary_pop.A [[0, 0, 1, 1, 1, 1, 1], [1, 1, 0, 0, 0, 0, 1, 1, 1, 1, 1], [1, 1, 1, 1, 1, 1]] G heaps_binary_pop.code [1, 1, 1, 1, 1, 0, 0, 0] [X1] (heaps_binary_pop.rq E K) (heaps_binary_pop.f1 b0 h2 n3 i4) H = heaps_binary_pop.b1_t (fun b0 h2 n3 i4 c5 H => G [1, 1, 0, 0, 0, 0, 1, 1, 1, 1, 1] [(0, .pointer b0), (2, .int .i64 h2), (3, .int .i64 n3), (4, .int .i64 i4), (5, .int .i64 c5)] H) b0 h2 n3 i4 X1 E H K := fun G => by kernel_rfl
  have k2 : heaps_binary_pop.b1_t (fun b0 h2 n3 i4 c5 H => heaps_binary_pop.j1 b0 h2 n3 i4 c5 X1 E H K) b0 h2 n3 i4 X1 E H K = heaps_binary_pop.b1_t (fun b0 h2 n3 i4 c5 H => (fun q F H => nodeM P0 T0 heaps_binary_pop.A heaps_binary_pop.code q.reverse [X1] (heaps_binary_pop.rq E K) F H) [1, 1, 0, 0, 0, 0, 1, 1, 1, 1, 1] [(0, .pointer b0), (2, .int .i64 h2), (3, .int .i64 n3), (4, .int .i64 i4), (5, .int .i64 c5)] H) b0 h2 n3 i4 X1 E H K := by kernel_rfl
  exact nodeR_imp heaps_binary_pop.nok rfl ((k1 _).mpr (k2.mp h))
/-! ### (*compass/heaps.binary).push (81) -/
noncomputable def heaps_binary_push.A : An := { live := [(0, [0, 1]), (1, [0, 1]), (2, [0, 1])], ord := [(1, [0, 1, 2, 3, 4, 5, 6, 7, 8, 9, 10, 11, 12])], stb := [], pre := [(1, [[], [0], [0, 1], [0, 1, 2], [], [], [5], [5, 6], [5, 6, 7], [5, 6, 7, 8], [5, 6, 7, 8, 9], [0, 1, 2, 3, 4, 5, 6, 7, 8, 9, 10], [0, 1, 2, 3, 4, 5, 6, 7, 8, 9, 10, 11]])] }
noncomputable def heaps_binary_push.code : Code := bodyOf Go.Proofs.Try.f81
theorem heaps_binary_push.ok : okCode heaps_binary_push.A 29 heaps_binary_push.code = true := by kernel_rfl
def heaps_binary_push.rq (E : Value → Hp → Prop) (K : Hp → Prop) : Ex → Fr → Hp → Prop := retQ T0 [] [] (fun r H => ldR (.tup []) r fun u => K  H) E
def heaps_binary_push.run (b0 : Option Addr) (h1 : Int) (E : Value → Hp → Prop) (H : Hp) (K : Hp → Prop) : Prop := nodeM P0 T0 heaps_binary_push.A heaps_binary_push.code [] [] (heaps_binary_push.rq E K) (argF 0 [.pointer b0, .int .i64 h1]) H
theorem heaps_binary_push.of {b0 : Option Addr} {h1 : Int} {E : Value → Hp → Prop} {H : Hp} {K : Hp → Prop} (h : heaps_binary_push.run b0 h1 E H K) : heaps_binary_push.call b0 h1 E H K :=
  callW_of T0_ok P0_mixed (A := heaps_binary_push.A) (fn := Go.Proofs.Try.f81) Go.Proofs.Try.func81 rfl heaps_binary_push.ok rfl h
theorem heaps_binary_push.nok : nodesOk heaps_binary_push.code [] = true := by kernel_rfl
def heaps_binary_push.run_t  (b0 : Option Addr) (h1 : Int)  (E : Value → Hp → Prop) (H : Hp) (K : Hp → Prop) : Prop :=
  nn b0 fun b_1 o_1 =>
  ldS (H.get b_1 (o_1 + 1)) fun x_1p x_1n x_1c =>
  nw H ⟨[.int .i64 h1], 3⟩ fun b_2 H_1 =>
  appM 3 [.i .i64] 8 x_1p x_1n x_1c (some ⟨b_2, 0, none⟩) 1 H_1 fun a_1p a_1n a_1c H_2 =>
  nn b0 fun b_3 o_2 =>
  stC H_2 b_3 (o_2 + 1) [.slice a_1p a_1n a_1c] fun H_3 =>
  nn b0 fun b_4 o_3 =>
  ldS (H_3.get b_4 (o_3 + 2)) fun x_2p x_2n x_2c =>
  nn b0 fun b_5 o_4 =>
  ldS (H_3.get b_5 (o_4 + 1)) fun x_3p x_3n x_3c =>
  ix x_2p x_2n h1 1 fun b_6 o_5 =>
  stC H_3 b_6 o_5 [.int .i64 (IntKind.wrap .i64 ((x_3n : Int) - 1))] fun H_4 =>
  heaps_binary_lower.call b0 h1 E H_4 fun H_5 =>
  K H_5
theorem heaps_binary_push.run_eq {b0 : Option Addr} {h1 : Int} { E : Value → Hp → Prop} {H : Hp} {K : Hp → Prop} (h : heaps_binary_push.run_t  b0 h1  E H K) : heaps_binary_push.run b0 h1  E H K := by
  have k1 : ∀ G : List Nat → Fr → Hp → Prop, nodeR P0 T0 heaps_binary_push.A [] G heaps_binary_push.code [] [] (heaps_binary_push.rq E K) (argF 0 [.pointer b0, .int .i64 h1]) H = heaps_binary_push.run_t  b0 h1  E H K := fun G => by kernel_rfl
  exact nodeR_imp heaps_binary_push.nok rfl ((k1 _).mpr h)
/-! ### (*compass/heaps.binary).top (82) -/
noncomputable def heaps_binary_top.A : An := { live := [(0, [0]), (1, [0])], ord := [], stb := [], pre := [] }
noncomputable def heaps_binary_top.code : Code := bodyOf Go.Proofs.Try.f82
theorem heaps_binary_top.ok : okCode heaps_binary_top.A 9 heaps_binary_top.code = true := by kernel_rfl
def heaps_binary_top.rq (E : Value → Hp → Prop) (K : Int → Hp → Prop) : Ex → Fr → Hp → Prop := retQ T0 [.tmp 2] [3] (fun r H => ldR (.one false [.i .i64]) r fun u => K (asI u) H) E
def heaps_binary_top.run (b0 : Option Addr) (E : Value → Hp → Prop) (H : Hp) (K : Int → Hp → Prop) : Prop := nodeM P0 T0 heaps_binary_top.A heaps_binary_top.code [] [] (heaps_binary_top.rq E K) (argF 0 [.pointer b0]) H
theorem heaps_binary_top.of {b0 : Option Addr} {E : Value → Hp → Prop} {H : Hp} {K : Int → Hp → Prop} (h : heaps_binary_top.run b0 E H K) : heaps_binary_top.call b0 E H K :=
  callW_of T0_ok P0_mixed (A := heaps_binary_top.A) (fn := Go.Proofs.Try.f82) Go.Proofs.Try.func82 rfl heaps_binary_top.ok rfl h
theorem heaps_binary_top.nok : nodesOk heaps_binary_top.code [] = true := by kernel_rfl
def heaps_binary_top.run_t  (b0 : Option Addr)  (E : Value → Hp → Prop) (H : Hp) (K : Int → Hp → Prop) : Prop :=
  nn b0 fun b_1 o_1 =>
  ldS (H.get b_1 (o_1 + 1)) fun x_1p x_1n x_1c =>
  ix x_1p x_1n 0 1 fun b_2 o_2 =>
  ldI .i64 (H.get b_2 o_2) fun x_2 =>
  K x_2 H
theorem heaps_binary_top.run_eq {b0 : Option Addr} { E : Value → Hp → Prop} {H : Hp} {K : Int → Hp → Prop} (h : heaps_binary_top.run_t  b0  E H K) : heaps_binary_top.run b0  E H K := by
  have k1 : ∀ G : List Nat → Fr → Hp → Prop, nodeR P0 T0 heaps_binary_top.A [] G heaps_binary_top.code [] [] (heaps_binary_top.rq E K) (argF 0 [.pointer b0]) H = heaps_binary_top.run_t  b0  E H K := fun G => by kernel_rfl
  exact nodeR_imp heaps_binary_top.nok rfl ((k1 _).mpr h)
/-! ### (*compass/heaps.keyed).ahead (83) -/
noncomputable def heaps_keyed_ahead.A : An := { live := [(0, [0, 1, 2]), (1, [0, 1, 2])], ord := [(1, [0, 1, 2, 3, 4, 5, 6, 7, 8, 9, 10, 11, 12, 13, 14, 15, 16, 17, 18, 19, 20, 21, 22, 23, 24, 25, 26, 27, 28, 29, 30, 31, 32, 33, 34, 35, 36, 37])], stb := [], pre := [(1, [[], [0], [0, 1], [0, 1, 2], [], [0, 1, 2, 3, 4], [0, 1, 2, 3, 4, 5], [], [7], [7, 8], [7, 8, 9], [], [7, 8, 9, 10, 11], [7, 8, 9, 10, 11, 12], [0, 1, 2, 3, 4, 5, 6, 7, 8, 9, 10, 11, 12, 13], [0, 1, 2, 3, 4, 5, 6, 7, 8, 9, 10, 11, 12, 13, 14], [0, 1, 2, 3, 4, 5, 6, 7, 8, 9, 10, 11, 12, 13, 14, 15], [0, 1, 2, 3, 4, 5, 6, 7, 8, 9, 10, 11, 12, 13, 14, 15, 16], [0, 1, 2, 3, 4, 5, 6, 7, 8, 9, 10, 11, 12, 13, 14, 15, 16, 17], [0, 1, 2, 3, 4, 5, 6, 7, 8, 9, 10, 11, 12, 13, 14, 15, 16, 17, 18], [0, 1, 2, 3, 4, 5, 6, 7, 8, 9, 10, 11, 12, 13, 14, 15], [0, 1, 2, 3, 4, 5, 6, 7, 8, 9, 10, 11, 12, 13, 14, 15, 16, 17, 18, 19, 20], [0, 1, 2, 3, 4, 5, 6, 7, 8, 9, 10, 11, 12, 13, 14, 15, 16, 17, 18, 19, 20, 21], [0, 1, 2, 3, 4, 5, 6, 7, 8, 9, 10, 11, 12, 13, 14, 15], [0, 1, 2, 3, 4, 5, 6, 7, 8, 9, 10, 11, 12, 13, 14, 15, 23], [0, 1, 2, 3, 4, 5, 6, 7, 8, 9, 10, 11, 12, 13, 14, 15, 23, 24], [0, 1, 2, 3, 4, 5, 6, 7, 8, 9, 10, 11, 12, 13, 14, 15, 23, 24, 25], [0, 1, 2, 3, 4, 5, 6, 7, 8, 9, 10, 11, 12, 13, 14, 15], [0, 1, 2, 3, 4, 5, 6, 7, 8, 9, 10, 11, 12, 13, 14, 15, 23, 24, 25, 26, 27], [0, 1, 2, 3, 4, 5, 6, 7, 8, 9, 10, 11, 12, 13, 14, 15, 23, 24, 25, 26, 27, 28], [0, 1, 2, 3, 4, 5, 6, 7, 8, 9, 10, 11, 12, 13, 14, 15, 16, 17, 18, 19, 20, 21, 22, 23, 24, 25, 26, 27, 28, 29], [0, 1, 2, 3, 4, 5, 6, 7, 8, 9, 10, 11, 12, 13, 14, 15, 16, 17, 18, 19, 20, 21, 22, 23, 24, 25, 26, 27, 28, 29, 30], [0, 1, 2, 3, 4, 5, 6, 7, 8, 9, 10, 11, 12, 13, 14, 15, 16, 17, 18, 19, 20, 21, 22, 23, 24, 25, 26, 27, 28, 29, 30, 31], [0, 1, 2, 3, 4, 5, 6, 7, 8, 9, 10, 11, 12, 13, 14, 15, 16, 17, 18, 19, 20, 21, 22, 23, 24, 25, 26, 27, 28, 29, 30, 31], [0, 1, 2, 3, 4, 5, 6, 7, 8, 9, 10, 11, 12, 13, 14, 15, 16, 17, 18, 19, 20, 21, 22, 23, 24, 25, 26, 27, 28, 29, 30, 31, 32, 33], [0, 1, 2, 3, 4, 5, 6, 7, 8, 9, 10, 11, 12, 13, 14, 15, 16, 17, 18, 19, 20, 21, 22, 23, 24, 25, 26, 27, 28, 29, 30, 31, 32, 33, 34], [0, 1, 2, 3, 4, 5, 6, 7, 8, 9, 10, 11, 12, 13, 14, 15, 16, 17, 18, 19, 20, 21, 22, 23, 24, 25, 26, 27, 28, 29, 30, 31, 32, 33, 34, 35], [0, 1, 2, 3, 4, 5, 6, 7, 8, 9, 10, 11, 12, 13, 14, 15, 16, 17, 18, 19, 20, 21, 22, 23, 24, 25, 26, 27, 28, 29, 30, 31, 32, 33, 34, 35, 36]])] }
noncomputable def heaps_keyed_ahead.code : Code := bodyOf Go.Proofs.Try.f83
theorem heaps_keyed_ahead.ok : okCode heaps_keyed_ahead.A 44 heaps_keyed_ahead.code = true := by kernel_rfl
def heaps_keyed_ahead.rq (E : Value → Hp → Prop) (K : Bool → Hp → Prop) : Ex → Fr → Hp → Prop := retQ T0 [.tmp 6] [4] (fun r H => ldR (.one false [.bool]) r fun u => K (asB u) H) E
def heaps_keyed_ahead.run (k0 : Option Addr) (a1 : Int) (b2 : Int) (E : Value → Hp → Prop) (H : Hp) (K : Bool → Hp → Prop) : Prop := nodeM P0 T0 heaps_keyed_ahead.A heaps_keyed_ahead.code [] [] (heaps_keyed_ahead.rq E K) (argF 0 [.pointer k0, .int .i64 a1, .int .i64 b2]) H
theorem heaps_keyed_ahead.of {k0 : Option Addr} {a1 : Int} {b2 : Int} {E : Value → Hp → Prop} {H : Hp} {K : Bool → Hp → Prop} (h : heaps_keyed_ahead.run k0 a1 b2 E H K) : heaps_keyed_ahead.call k0 a1 b2 E H K :=
  callW_of T0_ok P0_mixed (A := heaps_keyed_ahead.A) (fn := Go.Proofs.Try.f83) Go.Proofs.Try.func83 rfl heaps_keyed_ahead.ok rfl h
theorem heaps_keyed_ahead.nok : nodesOk heaps_keyed_ahead.code [] = true := by kernel_rfl
def heaps_keyed_ahead.run_t  (k0 : Option Addr) (a1 : Int) (b2 : Int)  (E : Value → Hp → Prop) (H : Hp) (K : Bool → Hp → Prop) : Prop :=
  nn k0 fun b_1 o_1 =>
  ldS (H.get b_1 o_1) fun x_1p x_1n x_1c =>
  ix x_1p x_1n a1 1 fun b_2 o_2 =>
  ldI .i64 (H.get b_2 o_2) fun x_2 =>
  nn k0 fun b_3 o_3 =>
  ldS (H.get b_3 o_3) fun x_3p x_3n x_3c =>
  ix x_3p x_3n b2 1 fun b_4 o_4 =>
  ldI .i64 (H.get b_4 o_4) fun x_4 =>
  bcase (decide ((x_2 : Int) < x_4)) (
  K true H)
  (nn k0 fun b_5 o_5 =>
  ldS (H.get b_5 o_5) fun x_5p x_5n x_5c =>
  ix x_5p x_5n a1 1 fun b_6 o_6 =>
  ldI .i64 (H.get b_6 o_6) fun x_6 =>
  nn k0 fun b_7 o_7 =>
  ldS (H.get b_7 o_7) fun x_7p x_7n x_7c =>
  ix x_7p x_7n b2 1 fun b_8 o_8 =>
  ldI .i64 (H.get b_8 o_8) fun x_8 =>
  bcase (decide ((x_6 : Int) = x_8)) (
  K (decide ((a1 : Int) < b2)) H)
  (K false H))
theorem heaps_keyed_ahead.run_eq {k0 : Option Addr} {a1 : Int} {b2 : Int} { E : Value → Hp → Prop} {H : Hp} {K : Bool → Hp → Prop} (h : heaps_keyed_ahead.run_t  k0 a1 b2  E H K) : heaps_keyed_ahead.run k0 a1 b2  E H K := by
  have k1 : ∀ G : List Nat → Fr → Hp → Prop, nodeR P0 T0 heaps_keyed_ahead.A [] G heaps_keyed_ahead.code [] [] (heaps_keyed_ahead.rq E K) (argF 0 [.pointer k0, .int .i64 a1, .int .i64 b2]) H = heaps_keyed_ahead.run_t  k0 a1 b2  E H K := fun G => by kernel_rfl
  exact nodeR_imp heaps_keyed_ahead.nok rfl ((k1 _).mpr h)
/-! ### (*compass/heaps.binary).put (84) -/
noncomputable def heaps_binary_put.A : An := { live := [(0, [0, 1, 2])], ord := [(0, [0, 1, 2, 3, 4, 5, 6, 7, 8, 9, 10, 11, 12, 13, 14, 15])], stb := [], pre := [(0, [[], [0], [0, 1], [0, 1, 2], [], [], [5], [5, 6], [5, 6, 7], [], [], [], [0, 1, 2, 3, 4, 5, 6, 7, 8, 10], [0, 1, 2, 3, 4, 5, 6, 7, 8, 10, 12], [0, 1, 2, 3, 4, 5, 6, 7, 8, 9, 10, 11, 12, 13], [0, 1, 2, 3, 4, 5, 6, 7, 8, 9, 10, 11, 12, 13, 14]])] }
noncomputable def heaps_binary_put.code : Code := bodyOf Go.Proofs.Try.f84
theorem heaps_binary_put.ok : okCode heaps_binary_put.A 20 heaps_binary_put.code = true := by kernel_rfl
def heaps_binary_put.rq (E : Value → Hp → Prop) (K : Hp → Prop) : Ex → Fr → Hp → Prop := retQ T0 [] [] (fun r H => ldR (.tup []) r fun u => K  H) E
def heaps_binary_put.run (b0 : Option Addr) (i1 : Int) (h2 : Int) (E : Value → Hp → Prop) (H : Hp) (K : Hp → Prop) : Prop := nodeM P0 T0 heaps_binary_put.A heaps_binary_put.code [] [] (heaps_binary_put.rq E K) (argF 0 [.pointer b0, .int .i64 i1, .int .i64 h2]) H
theorem heaps_binary_put.of {b0 : Option Addr} {i1 : Int} {h2 : Int} {E : Value → Hp → Prop} {H : Hp} {K : Hp → Prop} (h : heaps_binary_put.run b0 i1 h2 E H K) : heaps_binary_put.call b0 i1 h2 E H K :=
  callW_of T0_ok P0_mixed (A := heaps_binary_put.A) (fn := Go.Proofs.Try.f84) Go.Proofs.Try.func84 rfl heaps_binary_put.ok rfl h
theorem heaps_binary_put.nok : nodesOk heaps_binary_put.code [] = true := by kernel_rfl
def heaps_binary_put.run_t  (b0 : Option Addr) (i1 : Int) (h2 : Int)  (E : Value → Hp → Prop) (H : Hp) (K : Hp → Prop) : Prop :=
  nn b0 fun b_1 o_1 =>
  ldS (H.get b_1 (o_1 + 1)) fun x_1p x_1n x_1c =>
  nn b0 fun b_2 o_2 =>
  ldS (H.get b_2 (o_2 + 2)) fun x_2p x_2n x_2c =>
  ix x_1p x_1n i1 1 fun b_3 o_3 =>
  stC H b_3 o_3 [.int .i64 h2] fun H_1 =>
  ix x_2p x_2n h2 1 fun b_4 o_4 =>
  stC H_1 b_4 o_4 [.int .i64 i1] fun H_2 =>
  K H_2
theorem heaps_binary_put.run_eq {b0 : Option Addr} {i1 : Int} {h2 : Int} { E : Value → Hp → Prop} {H : Hp} {K : Hp → Prop} (h : heaps_binary_put.run_t  b0 i1 h2  E H K) : heaps_binary_put.run b0 i1 h2  E H K := by
  have k1 : ∀ G : List Nat → Fr → Hp → Prop, nodeR P0 T0 heaps_binary_put.A [] G heaps_binary_put.code [] [] (heaps_binary_put.rq E K) (argF 0 [.pointer b0, .int .i64 i1, .int .i64 h2]) H = heaps_binary_put.run_t  b0 i1 h2  E H K := fun G => by kernel_rfl
  exact nodeR_imp heaps_binary_put.nok rfl ((k1 _).mpr h)
end Go.Mz
