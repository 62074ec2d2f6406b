/-
  The shallow texts of functions (Rfc), each with a kernel-checked equation to the translated code. It proves nothing of the program by itself.
-/
import Derived.Test.YtajgpmohnbjpcaaTab
set_option linter.unusedVariables false
set_option maxRecDepth 100000
namespace Go.Mz
/-! ### compass/compassref04.Levels (32) -/
/-! ### compass/compassref03.Copy (39) -/
/-! ### compass/compassref03.Same (40) -/
/-! ### compass/compassref04.Wrong (49) -/
/-! ### compass/compassref04.Circle (54) -/
noncomputable def compassref04_Circle.A : An := { live := [(0, [0, 1]), (1, [1, 2]), (2, []), (3, [1, 2]), (4, [1, 2, 5]), (5, [1, 2, 5, 6]), (6, [1, 2, 5, 6]), (7, [1, 2, 5, 6]), (8, []), (9, [1, 2, 5, 6]), (10, [1, 2, 5, 6, 7]), (11, []), (12, [1, 2, 5, 6]), (13, [])], ord := [(7, [0, 1, 2, 3, 4, 5, 6, 7, 8, 9, 10, 11, 12, 13, 14]), (10, [0, 1, 2, 3, 4, 5, 6, 7, 8, 9, 10, 11, 12, 13, 14, 15, 16, 17, 18, 19, 20, 21, 22, 23, 24, 25, 26, 27, 28, 29, 30, 31, 32, 33, 34, 35, 36, 37, 38, 39, 40]), (12, [0, 1, 2, 3, 4, 5, 6, 7, 8, 9, 10, 11])], stb := [], pre := [(7, [[], [], [0, 1], [0, 1, 2], [0, 1, 2, 3], [0, 1, 2, 3, 4], [0, 1, 2, 3, 4, 5], [0, 1, 2, 3, 4, 5], [0, 1, 2, 3, 4, 5, 6, 7], [0, 1, 2, 3, 4, 5, 6, 7, 8], [0, 1, 2, 3, 4, 5], [0, 1, 2, 3, 4, 5, 10], [0, 1, 2, 3, 4, 5, 10, 11], [0, 1, 2, 3, 4, 5, 6, 7, 8, 9, 10, 11, 12], [0, 1, 2, 3, 4, 5, 6, 7, 8, 9, 10, 11, 12, 13]]), (10, [[], [0], [0, 1], [0, 1, 2], [0, 1, 2], [0, 1, 2, 4], [0, 1, 2, 4, 5], [0, 1, 2, 3, 4, 5, 6], [0, 1, 2, 3, 4, 5, 6, 7], [0, 1, 2, 3, 4, 5, 6, 7, 8], [0, 1, 2, 3, 4, 5, 6, 7, 8, 9], [0, 1, 2, 3, 4, 5, 6, 7, 8, 9, 10], [0, 1, 2, 3, 4, 5, 6, 7, 8, 9], [0, 1, 2, 3, 4, 5, 6, 7, 8, 9], [0, 1, 2, 3, 4, 5, 6, 7, 8, 9, 12, 13], [0, 1, 2, 3, 4, 5, 6, 7, 8, 9, 12, 13, 14], [0, 1, 2, 3, 4, 5, 6, 7, 8, 9, 10, 11, 12, 13, 14, 15], [0, 1, 2, 3, 4, 5, 6, 7, 8, 9, 10, 11, 12, 13, 14, 15, 16], [0, 1, 2, 3, 4, 5, 6, 7, 8, 9, 10, 11, 12, 13, 14, 15, 16, 17], [0, 1, 2, 3, 4, 5, 6, 7, 8, 9], [0, 1, 2, 3, 4, 5, 6, 7, 8, 9, 19], [0, 1, 2, 3, 4, 5, 6, 7, 8, 9], [0, 1, 2, 3, 4, 5, 6, 7, 8, 9, 19, 20, 21], [0, 1, 2, 3, 4, 5, 6, 7, 8, 9, 19, 20, 21, 22], [0, 1, 2, 3, 4, 5, 6, 7, 8, 9, 19, 20, 21, 22, 23], [0, 1, 2, 3, 4, 5, 6, 7, 8, 9, 10, 11, 12, 13, 14, 15, 16, 17, 18, 19, 20, 21, 22, 23, 24], [0, 1, 2, 3, 4, 5, 6, 7, 8, 9, 10, 11, 12, 13, 14, 15, 16, 17, 18, 19, 20, 21, 22, 23, 24, 25], [0, 1, 2, 3, 4, 5, 6, 7, 8, 9, 10, 11, 12, 13, 14, 15, 16, 17, 18, 19, 20, 21, 22, 23, 24, 25, 26], [0, 1, 2, 3, 4, 5, 6, 7, 8, 9, 10, 11, 12, 13, 14, 15, 16, 17, 18, 19, 20, 21, 22, 23, 24, 25, 26, 27], [0, 1, 2, 3, 4, 5, 6, 7, 8, 9, 10, 11, 12, 13, 14, 15, 16, 17, 18, 19, 20, 21, 22, 23, 24, 25, 26, 27], [0, 1, 2, 3, 4, 5, 6, 7, 8, 9, 10, 11, 12, 13, 14, 15, 16, 17, 18, 19, 20, 21, 22, 23, 24, 25, 26, 27, 29], [0, 1, 2, 3, 4, 5, 6, 7, 8, 9, 10, 11, 12, 13, 14, 15, 16, 17, 18, 19, 20, 21, 22, 23, 24, 25, 26, 27], [0, 1, 2, 3, 4, 5, 6, 7, 8, 9, 10, 11, 12, 13, 14, 15, 16, 17, 18, 19, 20, 21, 22, 23, 24, 25, 26, 27], [0, 1, 2, 3, 4, 5, 6, 7, 8, 9, 10, 11, 12, 13, 14, 15, 16, 17, 18, 19, 20, 21, 22, 23, 24, 25, 26, 27, 31, 32], [0, 1, 2, 3, 4, 5, 6, 7, 8, 9, 10, 11, 12, 13, 14, 15, 16, 17, 18, 19, 20, 21, 22, 23, 24, 25, 26, 27, 31, 32, 33], [0, 1, 2, 3, 4, 5, 6, 7, 8, 9, 10, 11, 12, 13, 14, 15, 16, 17, 18, 19, 20, 21, 22, 23, 24, 25, 26, 27, 29, 30, 31, 32, 33, 34], [0, 1, 2, 3, 4, 5, 6, 7, 8, 9, 10, 11, 12, 13, 14, 15, 16, 17, 18, 19, 20, 21, 22, 23, 24, 25, 26, 27, 29, 30, 31, 32, 33, 34, 35], [0, 1, 2, 3, 4, 5, 6, 7, 8, 9, 10, 11, 12, 13, 14, 15, 16, 17, 18, 19, 20, 21, 22, 23, 24, 25, 26, 27, 29, 30, 31, 32, 33, 34, 35, 36], [0, 1, 2, 3, 4, 5, 6, 7, 8, 9, 10, 11, 12, 13, 14, 15, 16, 17, 18, 19, 20, 21, 22, 23, 24, 25, 26, 27, 28, 29, 30, 31, 32, 33, 34, 35, 36, 37], [0, 1, 2, 3, 4, 5, 6, 7, 8, 9, 10, 11, 12, 13, 14, 15, 16, 17, 18, 19, 20, 21, 22, 23, 24, 25, 26, 27, 28, 29, 30, 31, 32, 33, 34, 35, 36, 37, 38], [0, 1, 2, 3, 4, 5, 6, 7, 8, 9, 10, 11, 12, 13, 14, 15, 16, 17, 18, 19, 20, 21, 22, 23, 24, 25, 26, 27, 28, 29, 30, 31, 32, 33, 34, 35, 36, 37, 38, 39]]), (12, [[], [], [1], [], [], [3, 4], [3, 4, 5], [1, 2, 3, 4, 5, 6], [1, 2, 3, 4, 5, 6, 7], [1, 2, 3, 4, 5, 6, 7, 8], [0, 1, 2, 3, 4, 5, 6, 7, 8, 9], [0, 1, 2, 3, 4, 5, 6, 7, 8, 9, 10]])] }
noncomputable def compassref04_Circle.code : Code := bodyOf Go.Proofs.Try.f54
theorem compassref04_Circle.ok : okCode compassref04_Circle.A 103 compassref04_Circle.code = true := by kernel_rfl
def compassref04_Circle.rq (E : Value → Hp → Prop) (K : Bool → Hp → Prop) : Ex → Fr → Hp → Prop := retQ T0 [.tmp 4] [4] (fun r H => ldR (.one false [.bool]) r fun u => K (asB u) H) E
def compassref04_Circle.run (g0_Nodes : Int) (g0_Edgesp : Option Addr) (g0_Edgesn : Nat) (g0_Edgesc : Nat) (list1p : Option Addr) (list1n : Nat) (list1c : Nat) (E : Value → Hp → Prop) (H : Hp) (K : Bool → Hp → Prop) : Prop := nodeM P0 T0 compassref04_Circle.A compassref04_Circle.code [] [] (compassref04_Circle.rq E K) (argF 0 [.agg ⟨[.int .i64 g0_Nodes, .slice g0_Edgesp g0_Edgesn g0_Edgesc]⟩, .slice list1p list1n list1c]) H
theorem compassref04_Circle.of {g0_Nodes : Int} {g0_Edgesp : Option Addr} {g0_Edgesn : Nat} {g0_Edgesc : Nat} {list1p : Option Addr} {list1n : Nat} {list1c : Nat} {E : Value → Hp → Prop} {H : Hp} {K : Bool → Hp → Prop} (h : compassref04_Circle.run g0_Nodes g0_Edgesp g0_Edgesn g0_Edgesc list1p list1n list1c E H K) : compassref04_Circle.call g0_Nodes g0_Edgesp g0_Edgesn g0_Edgesc list1p list1n list1c E H K :=
  callW_of T0_ok P0_mixed (A := compassref04_Circle.A) (fn := Go.Proofs.Try.f54) Go.Proofs.Try.func54 rfl compassref04_Circle.ok rfl h
noncomputable def compassref04_Circle.f1 (list1p : Option Addr) (list1n : Nat) (list1c : Nat) (g2 : Nat) (seen5p : Option Addr) (seen5n : Nat) (seen5c : Nat) (k6 : Int) : Fr := [(1, .slice list1p list1n list1c), (2, .pointer (some ⟨g2, 0, none⟩)), (5, .slice seen5p seen5n seen5c), (6, .int .i64 k6)]
def compassref04_Circle.l1 (list1p : Option Addr) (list1n : Nat) (list1c : Nat) (g2 : Nat) (seen5p : Option Addr) (seen5n : Nat) (seen5c : Nat) (k6 : Int)  (E : Value → Hp → Prop) (H : Hp) (K : Bool → Hp → Prop) : Prop := nodeM P0 T0 compassref04_Circle.A compassref04_Circle.code [1, 1, 1, 0, 1, 0] [] (compassref04_Circle.rq E K) (compassref04_Circle.f1 list1p list1n list1c g2 seen5p seen5n seen5c k6) H
def compassref04_Circle.b1 (list1p : Option Addr) (list1n : Nat) (list1c : Nat) (g2 : Nat) (seen5p : Option Addr) (seen5n : Nat) (seen5c : Nat) (k6 : Int)  (X1 : Fr → Hp → Prop) (E : Value → Hp → Prop) (H : Hp) (K : Bool → Hp → Prop) : Prop := nodeM P0 T0 compassref04_Circle.A compassref04_Circle.code [1, 1, 1, 0, 1, 0, 0] [X1] (compassref04_Circle.rq E K) (compassref04_Circle.f1 list1p list1n list1c g2 seen5p seen5n seen5c k6) H
theorem compassref04_Circle.l1_rule { E : Value → Hp → Prop} {K : Bool → Hp → Prop} (I : (Option Addr) → Nat → Nat → Nat → (Option Addr) → Nat → Nat → Int → Hp → Prop) (μ : (Option Addr) → Nat → Nat → Nat → (Option Addr) → Nat → Nat → Int → Hp → Nat)
    (h : ∀ list1p list1n list1c g2 seen5p seen5n seen5c k6 H, I list1p list1n list1c g2 seen5p seen5n seen5c k6 H → ∀ X : Fr → Hp → Prop, (∀ list1p' list1n' list1c' g2' seen5p' seen5n' seen5c' k6' H', I list1p' list1n' list1c' g2' seen5p' seen5n' seen5c' k6' H' → μ list1p' list1n' list1c' g2' seen5p' seen5n' seen5c' k6' H' < μ list1p list1n list1c g2 seen5p seen5n seen5c k6 H → X (compassref04_Circle.f1 list1p' list1n' list1c' g2' seen5p' seen5n' seen5c' k6') H') → compassref04_Circle.b1 list1p list1n list1c g2 seen5p seen5n seen5c k6  X E H K)
    {list1p : Option Addr} {list1n : Nat} {list1c : Nat} {g2 : Nat} {seen5p : Option Addr} {seen5n : Nat} {seen5c : Nat} {k6 : Int} {H : Hp} (hI : I list1p list1n list1c g2 seen5p seen5n seen5c k6 H) : compassref04_Circle.l1 list1p list1n list1c g2 seen5p seen5n seen5c k6  E H K :=
  loop_rule (S := (Option Addr) × Nat × Nat × Nat × (Option Addr) × Nat × Nat × Int) (fun s => compassref04_Circle.f1 (s.1) (s.2.1) (s.2.2.1) (s.2.2.2.1) (s.2.2.2.2.1) (s.2.2.2.2.2.1) (s.2.2.2.2.2.2.1) (s.2.2.2.2.2.2.2)) (fun s H => I (s.1) (s.2.1) (s.2.2.1) (s.2.2.2.1) (s.2.2.2.2.1) (s.2.2.2.2.2.1) (s.2.2.2.2.2.2.1) (s.2.2.2.2.2.2.2) H) (fun s H => μ (s.1) (s.2.1) (s.2.2.1) (s.2.2.2.1) (s.2.2.2.2.1) (s.2.2.2.2.2.1) (s.2.2.2.2.2.2.1) (s.2.2.2.2.2.2.2) H) (fun s H hI X hX => h (s.1) (s.2.1) (s.2.2.1) (s.2.2.2.1) (s.2.2.2.2.1) (s.2.2.2.2.2.1) (s.2.2.2.2.2.2.1) (s.2.2.2.2.2.2.2) H hI X fun list1p' list1n' list1c' g2' seen5p' seen5n' seen5c' k6' H' hI' hlt => hX (list1p', list1n', list1c', g2', seen5p', seen5n', seen5c', k6') H' hI' hlt) (s := (list1p, list1n, list1c, g2, seen5p, seen5n, seen5c, k6)) rfl hI
theorem compassref04_Circle.nok : nodesOk compassref04_Circle.code [[0, 1, 0, 1, 1, 1]] = true := by kernel_rfl
def compassref04_Circle.run_t (l1 : (Option Addr) → Nat → Nat → Nat → (Option Addr) → Nat → Nat → Int → Hp → Prop) (g0_Nodes : Int) (g0_Edgesp : Option Addr) (g0_Edgesn : Nat) (g0_Edgesc : Nat) (list1p : Option Addr) (list1n : Nat) (list1c : Nat)  (E : Value → Hp → Prop) (H : Hp) (K : Bool → Hp → Prop) : Prop :=
  nw H ⟨[.int .i64 g0_Nodes, .slice g0_Edgesp g0_Edgesn g0_Edgesc], 51⟩ fun b_1 H_1 =>
  bcase (decide (((list1n : Int) : Int) = 0)) (
  K false H_1)
  (ldS (H_1.get b_1 1) fun x_1p x_1n x_1c =>
  bcase (decide (((x_1n : Int) : Int) < (list1n : Int))) (
  K false H_1)
  (ldI .i64 (H_1.get b_1 0) fun x_2 =>
  mkS x_2 x_2 4 [.bool] 1 H_1 fun b_2 H_2 =>
  l1 list1p list1n list1c b_1 (some ⟨b_2, 0, none⟩) x_2.toNat x_2.toNat 0 H_2))
theorem compassref04_Circle.run_eq {g0_Nodes : Int} {g0_Edgesp : Option Addr} {g0_Edgesn : Nat} {g0_Edgesc : Nat} {list1p : Option Addr} {list1n : Nat} {list1c : Nat} { E : Value → Hp → Prop} {H : Hp} {K : Bool → Hp → Prop} (h : compassref04_Circle.run_t (fun list1p list1n list1c g2 seen5p seen5n seen5c k6 H => compassref04_Circle.l1 list1p list1n list1c g2 seen5p seen5n seen5c k6  E H K) g0_Nodes g0_Edgesp g0_Edgesn g0_Edgesc list1p list1n list1c  E H K) : compassref04_Circle.run g0_Nodes g0_Edgesp g0_Edgesn g0_Edgesc list1p list1n list1c  E H K := by
  have k1 : ∀ G : List Nat → Fr → Hp → Prop, nodeR P0 T0 compassref04_Circle.A [[0, 1, 0, 1, 1, 1]] G compassref04_Circle.code [] [] (compassref04_Circle.rq E K) (argF 0 [.agg ⟨[.int .i64 g0_Nodes, .slice g0_Edgesp g0_Edgesn g0_Edgesc]⟩, .slice list1p list1n list1c]) H = compassref04_Circle.run_t (fun list1p list1n list1c g2 seen5p seen5n seen5c k6 H => G [0, 1, 0, 1, 1, 1] [(1, .slice list1p list1n list1c), (2, .pointer (some ⟨g2, 0, none⟩)), (5, .slice seen5p seen5n seen5c), (6, .int .i64 k6)] H) g0_Nodes g0_Edgesp g0_Edgesn g0_Edgesc list1p list1n list1c  E H K := fun G => by kernel_rfl
  have k2 : compassref04_Circle.run_t (fun list1p list1n list1c g2 seen5p seen5n seen5c k6 H => compassref04_Circle.l1 list1p list1n list1c g2 seen5p seen5n seen5c k6  E H K) g0_Nodes g0_Edgesp g0_Edgesn g0_Edgesc list1p list1n list1c  E H K = compassref04_Circle.run_t (fun list1p list1n list1c g2 seen5p seen5n seen5c k6 H => (fun q F H => nodeM P0 T0 compassref04_Circle.A compassref04_Circle.code q.reverse [] (compassref04_Circle.rq E K) F H) [0, 1, 0, 1, 1, 1] [(1, .slice list1p list1n list1c), (2, .pointer (some ⟨g2, 0, none⟩)), (5, .slice seen5p seen5n seen5c), (6, .int .i64 k6)] H) g0_Nodes g0_Edgesp g0_Edgesn g0_Edgesc list1p list1n list1c  E H K := by kernel_rfl
  exact nodeR_imp compassref04_Circle.nok rfl ((k1 _).mpr (k2.mp h))
def compassref04_Circle.b1_t  (list1p : Option Addr) (list1n : Nat) (list1c : Nat) (g2 : Nat) (seen5p : Option Addr) (seen5n : Nat) (seen5c : Nat) (k6 : Int) (X1 : Fr → Hp → Prop) (E : Value → Hp → Prop) (H : Hp) (K : Bool → Hp → Prop) : Prop :=
  bcase (decide ((k6 : Int) < (list1n : Int))) (
  ix list1p list1n k6 1 fun b_1 o_1 =>
  ldI .i64 (H.get b_1 o_1) fun x_1 =>
  bcase (decide ((x_1 : Int) < 0)) (
  K false H)
  (ix list1p list1n k6 1 fun b_2 o_2 =>
  ldI .i64 (H.get b_2 o_2) fun x_2 =>
  ldS (H.get g2 1) fun x_3p x_3n x_3c =>
  bcase (decide (((x_3n : Int) : Int) ≤ x_2)) (
  K false H)
  ((list1n : Int) ≠ (0 : Int) ∧
  ix list1p list1n (Int.tmod (IntKind.wrap .i64 (k6 + 1)) (list1n : Int)) 1 fun b_3 o_3 =>
  ldI .i64 (H.get b_3 o_3) fun x_4 =>
  bcase (decide ((x_4 : Int) < 0)) (
  K false H)
  (ldS (H.get g2 1) fun x_5p x_5n x_5c =>
  bcase (decide (((x_5n : Int) : Int) ≤ x_4)) (
  K false H)
  (ldS (H.get g2 1) fun x_6p x_6n x_6c =>
  ix list1p list1n k6 1 fun b_4 o_4 =>
  ldI .i64 (H.get b_4 o_4) fun x_7 =>
  ix x_6p x_6n x_7 4 fun b_5 o_5 =>
  ldI .i64 (H.get b_5 (o_5 + 1)) fun x_8 =>
  ldS (H.get g2 1) fun x_9p x_9n x_9c =>
  ix x_9p x_9n x_4 4 fun b_6 o_6 =>
  ldI .i64 (H.get b_6 o_6) fun x_10 =>
  bcase (!decide ((x_8 : Int) = x_10)) (
  K false H)
  (ldS (H.get g2 1) fun x_11p x_11n x_11c =>
  ix list1p list1n k6 1 fun b_7 o_7 =>
  ldI .i64 (H.get b_7 o_7) fun x_12 =>
  ix x_11p x_11n x_12 4 fun b_8 o_8 =>
  ldI .i64 (H.get b_8 (o_8 + 1)) fun x_13 =>
  ix seen5p seen5n x_13 1 fun b_9 o_9 =>
  ldB (H.get b_9 o_9) fun x_14 =>
  bcase (x_14) (
  K false H)
  (ldS (H.get g2 1) fun x_15p x_15n x_15c =>
  ix list1p list1n k6 1 fun b_10 o_10 =>
  ldI .i64 (H.get b_10 o_10) fun x_16 =>
  ix x_15p x_15n x_16 4 fun b_11 o_11 =>
  ldI .i64 (H.get b_11 (o_11 + 1)) fun x_17 =>
  ix seen5p seen5n x_17 1 fun b_12 o_12 =>
  stC H b_12 o_12 [.bool true] fun H_1 =>
  X1 (compassref04_Circle.f1 list1p list1n list1c g2 seen5p seen5n seen5c (IntKind.wrap .i64 (k6 + 1))) H_1)))))))
  (K true H)
theorem compassref04_Circle.b1_eq {list1p : Option Addr} {list1n : Nat} {list1c : Nat} {g2 : Nat} {seen5p : Option Addr} {seen5n : Nat} {seen5c : Nat} {k6 : Int} {X1 : Fr → Hp → Prop} { E : Value → Hp → Prop} {H : Hp} {K : Bool → Hp → Prop} (h : compassref04_Circle.b1_t  list1p list1n list1c g2 seen5p seen5n seen5c k6 X1 E H K) : compassref04_Circle.b1 list1p list1n list1c g2 seen5p seen5n seen5c k6 X1 E H K := by
  have k1 : ∀ G : List Nat → Fr → Hp → Prop, nodeR P0 T0 compassref04_Circle.A [[0, 1, 0, 1, 1, 1]] G compassref04_Circle.code [1, 1, 1, 0, 1, 0, 0] [X1] (compassref04_Circle.rq E K) (compassref04_Circle.f1 list1p list1n list1c g2 seen5p seen5n seen5c k6) H = compassref04_Circle.b1_t  list1p list1n list1c g2 seen5p seen5n seen5c k6 X1 E H K := fun G => by kernel_rfl
  exact nodeR_imp compassref04_Circle.nok rfl ((k1 _).mpr h)
/-! ### compass/compassref03.Check (57) -/
/-! ### compass/compassref03.Bad (62) -/
end Go.Mz
