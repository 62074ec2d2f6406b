/-
  The shallow texts of functions (Fib), each with a kernel-checked equation to the translated code. It proves nothing of the program by itself.
-/
import Derived.Test.YtajgpmohnbjpcaaTab
set_option linter.unusedVariables false
set_option maxRecDepth 100000
namespace Go.Mz
/-! ### (*compass/heaps.fibonacci).lower (90) -/
noncomputable def heaps_fibonacci_lower.A : An := { live := [(0, [0, 1]), (1, [0, 1, 4]), (2, [0, 1]), (3, [0, 1]), (4, [0, 1])], ord := [(3, [0, 1, 2, 3, 4, 5, 6, 7, 8, 9])], stb := [], pre := [(3, [[], [0], [0, 1], [0, 1, 2], [], [], [5], [5, 6], [5, 6, 7], [0, 1, 2, 3, 4, 5, 6, 7, 8]])] }
noncomputable def heaps_fibonacci_lower.code : Code := bodyOf Go.Proofs.Try.f90
theorem heaps_fibonacci_lower.ok : okCode heaps_fibonacci_lower.A 41 heaps_fibonacci_lower.code = true := by kernel_rfl
def heaps_fibonacci_lower.rq (E : Value → Hp → Prop) (K : Hp → Prop) : Ex → Fr → Hp → Prop := retQ T0 [] [] (fun r H => ldR (.tup []) r fun u => K  H) E
def heaps_fibonacci_lower.run (f0 : Option Addr) (h1 : Int) (E : Value → Hp → Prop) (H : Hp) (K : Hp → Prop) : Prop := nodeM P0 T0 heaps_fibonacci_lower.A heaps_fibonacci_lower.code [] [] (heaps_fibonacci_lower.rq E K) (argF 0 [.pointer f0, .int .i64 h1]) H
theorem heaps_fibonacci_lower.of {f0 : Option Addr} {h1 : Int} {E : Value → Hp → Prop} {H : Hp} {K : Hp → Prop} (h : heaps_fibonacci_lower.run f0 h1 E H K) : heaps_fibonacci_lower.call f0 h1 E H K :=
  callW_of T0_ok P0_mixed (A := heaps_fibonacci_lower.A) (fn := Go.Proofs.Try.f90) Go.Proofs.Try.func90 rfl heaps_fibonacci_lower.ok rfl h
def heaps_fibonacci_lower.j1 (f0 : Option Addr) (h1 : Int)  (E : Value → Hp → Prop) (H : Hp) (K : Hp → Prop) : Prop := nodeM P0 T0 heaps_fibonacci_lower.A heaps_fibonacci_lower.code [1] [] (heaps_fibonacci_lower.rq E K) [(0, .pointer f0), (1, .int .i64 h1)] H
theorem heaps_fibonacci_lower.nok : nodesOk heaps_fibonacci_lower.code [[1]] = true := by kernel_rfl
def heaps_fibonacci_lower.run_t (j1 : (Option Addr) → Int → Hp → Prop) (f0 : Option Addr) (h1 : Int)  (E : Value → Hp → Prop) (H : Hp) (K : Hp → Prop) : Prop :=
  nn f0 fun b_1 o_1 =>
  ldS (H.get b_1 (o_1 + 2)) fun x_1p x_1n x_1c =>
  ix x_1p x_1n h1 6 fun b_2 o_2 =>
  ldI .i64 (H.get b_2 o_2) fun x_2 =>
  bcase (decide ((0 : Int) ≤ x_2)) (
  nn f0 fun b_3 o_3 =>
  ldP (H.get b_3 o_3) fun x_3 =>
  heaps_keyed_ahead.call x_3 h1 x_2 E H fun r_1 H_1 =>
  bcase (r_1) (
  heaps_fibonacci_cut.call f0 h1 E H_1 fun H_2 =>
  j1 f0 h1 H_2)
  (j1 f0 h1 H_1))
  (j1 f0 h1 H)
theorem heaps_fibonacci_lower.run_eq {f0 : Option Addr} {h1 : Int} { E : Value → Hp → Prop} {H : Hp} {K : Hp → Prop} (h : heaps_fibonacci_lower.run_t (fun f0 h1 H => heaps_fibonacci_lower.j1 f0 h1  E H K) f0 h1  E H K) : heaps_fibonacci_lower.run f0 h1  E H K := by
  have k1 : ∀ G : List Nat → Fr → Hp → Prop, nodeR P0 T0 heaps_fibonacci_lower.A [[1]] G heaps_fibonacci_lower.code [] [] (heaps_fibonacci_lower.rq E K) (argF 0 [.pointer f0, .int .i64 h1]) H = heaps_fibonacci_lower.run_t (fun f0 h1 H => G [1] [(0, .pointer f0), (1, .int .i64 h1)] H) f0 h1  E H K := fun G => by kernel_rfl
  have k2 : heaps_fibonacci_lower.run_t (fun f0 h1 H => heaps_fibonacci_lower.j1 f0 h1  E H K) f0 h1  E H K = heaps_fibonacci_lower.run_t (fun f0 h1 H => (fun q F H => nodeM P0 T0 heaps_fibonacci_lower.A heaps_fibonacci_lower.code q.reverse [] (heaps_fibonacci_lower.rq E K) F H) [1] [(0, .pointer f0), (1, .int .i64 h1)] H) f0 h1  E H K := by kernel_rfl
  exact nodeR_imp heaps_fibonacci_lower.nok rfl ((k1 _).mpr (k2.mp h))
def heaps_fibonacci_lower.j1_t  (f0 : Option Addr) (h1 : Int)  (E : Value → Hp → Prop) (H : Hp) (K : Hp → Prop) : Prop :=
  nn f0 fun b_1 o_1 =>
  ldP (H.get b_1 o_1) fun x_1 =>
  nn f0 fun b_2 o_2 =>
  ldI .i64 (H.get b_2 (o_2 + 1)) fun x_2 =>
  heaps_keyed_ahead.call x_1 h1 x_2 E H fun r_1 H_1 =>
  bcase (r_1) (
  nn f0 fun b_3 o_3 =>
  stC H_1 b_3 (o_3 + 1) [.int .i64 h1] fun H_2 =>
  K H_2)
  (K H_1)
theorem heaps_fibonacci_lower.j1_eq {f0 : Option Addr} {h1 : Int} { E : Value → Hp → Prop} {H : Hp} {K : Hp → Prop} (h : heaps_fibonacci_lower.j1_t  f0 h1  E H K) : heaps_fibonacci_lower.j1 f0 h1  E H K := by
  have k1 : ∀ G : List Nat → Fr → Hp → Prop, nodeR P0 T0 heaps_fibonacci_lower.A [[1]] G heaps_fibonacci_lower.code [1] [] (heaps_fibonacci_lower.rq E K) [(0, .pointer f0), (1, .int .i64 h1)] H = heaps_fibonacci_lower.j1_t  f0 h1  E H K := fun G => by kernel_rfl
  exact nodeR_imp heaps_fibonacci_lower.nok rfl ((k1 _).mpr h)
/-! ### (*compass/heaps.fibonacci).pop (91) -/
noncomputable def heaps_fibonacci_pop.A : An := { live := [(0, [0]), (1, [0, 2]), (2, [0, 2, 3]), (3, [0, 3, 31, 32, 33]), (4, [0, 3, 31, 32, 33]), (5, [0, 3, 5, 31, 32, 33]), (6, [0, 3, 5, 31, 32, 33]), (7, [0, 3, 5, 6, 31, 32, 33]), (8, [0, 3, 5, 6, 7, 31, 32, 33]), (9, [0, 3, 5, 6, 31, 32, 33]), (10, [0, 3, 5, 6, 7, 31, 32, 33]), (11, [0, 3, 5, 7, 31, 32, 33]), (12, [0, 3, 31, 32, 33]), (13, [0, 3]), (14, [0, 3]), (15, [0, 95, 96]), (16, [0, 95, 96]), (17, [0, 9, 95, 96]), (18, [0, 9, 95, 96]), (19, [0, 95, 96])], ord := [(0, [0, 1, 2, 3, 4, 5, 6, 7, 8, 9, 10, 11, 13, 14, 15, 16, 17, 12, 18, 19, 20, 21]), (5, [0, 1, 2, 3, 4, 5, 6, 7, 8, 9, 10, 11, 12, 13, 14, 15, 16, 17, 18, 19, 20, 21, 22, 23, 24, 25, 26, 27, 28, 29, 30, 31, 32, 33])], stb := [(0, [(12, [17])])], pre := [(0, [[], [], [1], [1, 2], [1, 2, 3], [], [5], [5, 6], [5, 6, 7], [1, 2, 3, 4, 5, 6, 7, 8], [1, 2, 3, 4, 5, 6, 7, 8, 9], [1, 2, 3, 4, 5, 6, 7, 8, 9, 10], [0, 1, 2, 3, 4, 5, 6, 7, 8, 9, 10, 11], [], [], [14], [14, 15], [14, 15, 16], [0, 1, 2, 3, 4, 5, 6, 7, 8, 9, 10, 11, 12, 13, 14, 15, 16, 17], [0, 1, 2, 3, 4, 5, 6, 7, 8, 9, 10, 11, 12, 13, 14, 15, 16, 17, 18], [0, 1, 2, 3, 4, 5, 6, 7, 8, 9, 10, 11, 12, 13, 14, 15, 16, 17, 18, 19], [0, 1, 2, 3, 4, 5, 6, 7, 8, 9, 10, 11, 12, 13, 14, 15, 16, 17, 18, 19, 20]]), (5, [[], [0], [0, 1], [0, 1, 2], [], [], [5], [5, 6], [5, 6, 7], [], [], [10], [10, 11], [10, 11, 12], [], [], [15], [15, 16], [15, 16, 17], [], [], [], [0, 1, 2, 3, 4, 5, 6, 7, 8, 10, 11, 12, 13, 15, 16, 17, 18, 20], [0, 1, 2, 3, 4, 5, 6, 7, 8, 10, 11, 12, 13, 15, 16, 17, 18, 20, 22], [0, 1, 2, 3, 4, 5, 6, 7, 8, 10, 11, 12, 13, 15, 16, 17, 18, 20, 22, 23], [0, 1, 2, 3, 4, 5, 6, 7, 8, 9, 10, 11, 12, 13, 15, 16, 17, 18, 20, 21, 22, 23, 24], [0, 1, 2, 3, 4, 5, 6, 7, 8, 9, 10, 11, 12, 13, 15, 16, 17, 18, 20, 21, 22, 23, 24, 25], [0, 1, 2, 3, 4, 5, 6, 7, 8, 9, 10, 11, 12, 13, 15, 16, 17, 18, 20, 21, 22, 23, 24, 25, 26], [0, 1, 2, 3, 4, 5, 6, 7, 8, 9, 10, 11, 12, 13, 14, 15, 16, 17, 18, 20, 21, 22, 23, 24, 25, 26, 27], [0, 1, 2, 3, 4, 5, 6, 7, 8, 9, 10, 11, 12, 13, 14, 15, 16, 17, 18, 20, 21, 22, 23, 24, 25, 26, 27, 28], [0, 1, 2, 3, 4, 5, 6, 7, 8, 9, 10, 11, 12, 13, 14, 15, 16, 17, 18, 20, 21, 22, 23, 24, 25, 26, 27, 28, 29], [0, 1, 2, 3, 4, 5, 6, 7, 8, 9, 10, 11, 12, 13, 14, 15, 16, 17, 18, 19, 20, 21, 22, 23, 24, 25, 26, 27, 28, 29, 30], [0, 1, 2, 3, 4, 5, 6, 7, 8, 9, 10, 11, 12, 13, 14, 15, 16, 17, 18, 19, 20, 21, 22, 23, 24, 25, 26, 27, 28, 29, 30, 31], [0, 1, 2, 3, 4, 5, 6, 7, 8, 9, 10, 11, 12, 13, 14, 15, 16, 17, 18, 19, 20, 21, 22, 23, 24, 25, 26, 27, 28, 29, 30, 31, 32]])] }
noncomputable def heaps_fibonacci_pop.code : Code := bodyOf Go.Proofs.Try.f91
theorem heaps_fibonacci_pop.ok : okCode heaps_fibonacci_pop.A 106 heaps_fibonacci_pop.code = true := by kernel_rfl
def heaps_fibonacci_pop.rq (E : Value → Hp → Prop) (K : Hp → Prop) : Ex → Fr → Hp → Prop := retQ T0 [] [] (fun r H => ldR (.tup []) r fun u => K  H) E
def heaps_fibonacci_pop.run (f0 : Option Addr) (E : Value → Hp → Prop) (H : Hp) (K : Hp → Prop) : Prop := nodeM P0 T0 heaps_fibonacci_pop.A heaps_fibonacci_pop.code [] [] (heaps_fibonacci_pop.rq E K) (argF 0 [.pointer f0]) H
theorem heaps_fibonacci_pop.of {f0 : Option Addr} {E : Value → Hp → Prop} {H : Hp} {K : Hp → Prop} (h : heaps_fibonacci_pop.run f0 E H K) : heaps_fibonacci_pop.call f0 E H K :=
  callW_of T0_ok P0_mixed (A := heaps_fibonacci_pop.A) (fn := Go.Proofs.Try.f91) Go.Proofs.Try.func91 rfl heaps_fibonacci_pop.ok rfl h
noncomputable def heaps_fibonacci_pop.f1 (f0 : Option Addr) (byDegree3 : Nat) (t31p : Option Addr) (t31n : Nat) (t31c : Nat) (t32 : Int) (t33 : Int) : Fr := [(0, .pointer f0), (3, .pointer (some ⟨byDegree3, 0, none⟩)), (31, .slice t31p t31n t31c), (32, .int .i64 t32), (33, .int .i64 t33)]
noncomputable def heaps_fibonacci_pop.f2 (f0 : Option Addr) (byDegree3 : Nat) (h5 : Int) (t31p : Option Addr) (t31n : Nat) (t31c : Nat) (t32 : Int) (t33 : Int) : Fr := [(0, .pointer f0), (3, .pointer (some ⟨byDegree3, 0, none⟩)), (5, .int .i64 h5), (31, .slice t31p t31n t31c), (32, .int .i64 t32), (33, .int .i64 t33)]
noncomputable def heaps_fibonacci_pop.f3 (f0 : Option Addr) (t95 : List Value) (t96 : Int) : Fr := [(0, .pointer f0), (95, .agg ⟨t95⟩), (96, .int .i64 t96)]
def heaps_fibonacci_pop.j1 (f0 : Option Addr) (byDegree3 : Nat) (t31p : Option Addr) (t31n : Nat) (t31c : Nat) (t32 : Int) (t33 : Int) (X1 : Fr → Hp → Prop) (E : Value → Hp → Prop) (H : Hp) (K : Hp → Prop) : Prop := nodeM P0 T0 heaps_fibonacci_pop.A heaps_fibonacci_pop.code [1, 1, 0, 1, 0, 0, 1, 1, 1] [X1] (heaps_fibonacci_pop.rq E K) [(0, .pointer f0), (3, .pointer (some ⟨byDegree3, 0, none⟩)), (31, .slice t31p t31n t31c), (32, .int .i64 t32), (33, .int .i64 t33)] H
def heaps_fibonacci_pop.j2 (f0 : Option Addr) (byDegree3 : Nat)  (E : Value → Hp → Prop) (H : Hp) (K : Hp → Prop) : Prop := nodeM P0 T0 heaps_fibonacci_pop.A heaps_fibonacci_pop.code [1, 1, 1] [] (heaps_fibonacci_pop.rq E K) [(0, .pointer f0), (3, .pointer (some ⟨byDegree3, 0, none⟩))] H
def heaps_fibonacci_pop.j3 (f0 : Option Addr) (t95 : List Value) (t96 : Int) (X1 : Fr → Hp → Prop) (E : Value → Hp → Prop) (H : Hp) (K : Hp → Prop) : Prop := nodeM P0 T0 heaps_fibonacci_pop.A heaps_fibonacci_pop.code [1, 1, 1, 1, 1, 0, 0, 1, 1, 1] [X1] (heaps_fibonacci_pop.rq E K) [(0, .pointer f0), (95, .agg ⟨t95⟩), (96, .int .i64 t96)] H
def heaps_fibonacci_pop.l1 (f0 : Option Addr) (byDegree3 : Nat) (t31p : Option Addr) (t31n : Nat) (t31c : Nat) (t32 : Int) (t33 : Int)  (E : Value → Hp → Prop) (H : Hp) (K : Hp → Prop) : Prop := nodeM P0 T0 heaps_fibonacci_pop.A heaps_fibonacci_pop.code [1, 1, 0, 1, 0] [] (heaps_fibonacci_pop.rq E K) (heaps_fibonacci_pop.f1 f0 byDegree3 t31p t31n t31c t32 t33) H
def heaps_fibonacci_pop.b1 (f0 : Option Addr) (byDegree3 : Nat) (t31p : Option Addr) (t31n : Nat) (t31c : Nat) (t32 : Int) (t33 : Int)  (X1 : Fr → Hp → Prop) (E : Value → Hp → Prop) (H : Hp) (K : Hp → Prop) : Prop := nodeM P0 T0 heaps_fibonacci_pop.A heaps_fibonacci_pop.code [1, 1, 0, 1, 0, 0] [X1] (heaps_fibonacci_pop.rq E K) (heaps_fibonacci_pop.f1 f0 byDegree3 t31p t31n t31c t32 t33) H
theorem heaps_fibonacci_pop.l1_rule { E : Value → Hp → Prop} {K : Hp → Prop} (I : (Option Addr) → Nat → (Option Addr) → Nat → Nat → Int → Int → Hp → Prop) (μ : (Option Addr) → Nat → (Option Addr) → Nat → Nat → Int → Int → Hp → Nat)
    (h : ∀ f0 byDegree3 t31p t31n t31c t32 t33 H, I f0 byDegree3 t31p t31n t31c t32 t33 H → ∀ X : Fr → Hp → Prop, (∀ f0' byDegree3' t31p' t31n' t31c' t32' t33' H', I f0' byDegree3' t31p' t31n' t31c' t32' t33' H' → μ f0' byDegree3' t31p' t31n' t31c' t32' t33' H' < μ f0 byDegree3 t31p t31n t31c t32 t33 H → X (heaps_fibonacci_pop.f1 f0' byDegree3' t31p' t31n' t31c' t32' t33') H') → heaps_fibonacci_pop.b1 f0 byDegree3 t31p t31n t31c t32 t33  X E H K)
    {f0 : Option Addr} {byDegree3 : Nat} {t31p : Option Addr} {t31n : Nat} {t31c : Nat} {t32 : Int} {t33 : Int} {H : Hp} (hI : I f0 byDegree3 t31p t31n t31c t32 t33 H) : heaps_fibonacci_pop.l1 f0 byDegree3 t31p t31n t31c t32 t33  E H K :=
  loop_rule (S := (Option Addr) × Nat × (Option Addr) × Nat × Nat × Int × Int) (fun s => heaps_fibonacci_pop.f1 (s.1) (s.2.1) (s.2.2.1) (s.2.2.2.1) (s.2.2.2.2.1) (s.2.2.2.2.2.1) (s.2.2.2.2.2.2)) (fun s H => I (s.1) (s.2.1) (s.2.2.1) (s.2.2.2.1) (s.2.2.2.2.1) (s.2.2.2.2.2.1) (s.2.2.2.2.2.2) H) (fun s H => μ (s.1) (s.2.1) (s.2.2.1) (s.2.2.2.1) (s.2.2.2.2.1) (s.2.2.2.2.2.1) (s.2.2.2.2.2.2) H) (fun s H hI X hX => h (s.1) (s.2.1) (s.2.2.1) (s.2.2.2.1) (s.2.2.2.2.1) (s.2.2.2.2.2.1) (s.2.2.2.2.2.2) H hI X fun f0' byDegree3' t31p' t31n' t31c' t32' t33' H' hI' hlt => hX (f0', byDegree3', t31p', t31n', t31c', t32', t33') H' hI' hlt) (s := (f0, byDegree3, t31p, t31n, t31c, t32, t33)) rfl hI
def heaps_fibonacci_pop.l2 (f0 : Option Addr) (byDegree3 : Nat) (h5 : Int) (t31p : Option Addr) (t31n : Nat) (t31c : Nat) (t32 : Int) (t33 : Int) (X1 : Fr → Hp → Prop) (E : Value → Hp → Prop) (H : Hp) (K : Hp → Prop) : Prop := nodeM P0 T0 heaps_fibonacci_pop.A heaps_fibonacci_pop.code [1, 1, 0, 1, 0, 0, 1, 1, 0, 0, 1, 1, 0] [X1] (heaps_fibonacci_pop.rq E K) (heaps_fibonacci_pop.f2 f0 byDegree3 h5 t31p t31n t31c t32 t33) H
def heaps_fibonacci_pop.b2 (f0 : Option Addr) (byDegree3 : Nat) (h5 : Int) (t31p : Option Addr) (t31n : Nat) (t31c : Nat) (t32 : Int) (t33 : Int) (X1 : Fr → Hp → Prop) (X2 : Fr → Hp → Prop) (E : Value → Hp → Prop) (H : Hp) (K : Hp → Prop) : Prop := nodeM P0 T0 heaps_fibonacci_pop.A heaps_fibonacci_pop.code [1, 1, 0, 1, 0, 0, 1, 1, 0, 0, 1, 1, 0, 0] [X1, X2] (heaps_fibonacci_pop.rq E K) (heaps_fibonacci_pop.f2 f0 byDegree3 h5 t31p t31n t31c t32 t33) H
theorem heaps_fibonacci_pop.l2_rule {X1 : Fr → Hp → Prop} { E : Value → Hp → Prop} {K : Hp → Prop} (I : (Option Addr) → Nat → Int → (Option Addr) → Nat → Nat → Int → Int → Hp → Prop) (μ : (Option Addr) → Nat → Int → (Option Addr) → Nat → Nat → Int → Int → Hp → Nat)
    (h : ∀ f0 byDegree3 h5 t31p t31n t31c t32 t33 H, I f0 byDegree3 h5 t31p t31n t31c t32 t33 H → ∀ X : Fr → Hp → Prop, (∀ f0' byDegree3' h5' t31p' t31n' t31c' t32' t33' H', I f0' byDegree3' h5' t31p' t31n' t31c' t32' t33' H' → μ f0' byDegree3' h5' t31p' t31n' t31c' t32' t33' H' < μ f0 byDegree3 h5 t31p t31n t31c t32 t33 H → X (heaps_fibonacci_pop.f2 f0' byDegree3' h5' t31p' t31n' t31c' t32' t33') H') → heaps_fibonacci_pop.b2 f0 byDegree3 h5 t31p t31n t31c t32 t33 X1 X E H K)
    {f0 : Option Addr} {byDegree3 : Nat} {h5 : Int} {t31p : Option Addr} {t31n : Nat} {t31c : Nat} {t32 : Int} {t33 : Int} {H : Hp} (hI : I f0 byDegree3 h5 t31p t31n t31c t32 t33 H) : heaps_fibonacci_pop.l2 f0 byDegree3 h5 t31p t31n t31c t32 t33 X1 E H K :=
  loop_rule (S := (Option Addr) × Nat × Int × (Option Addr) × Nat × Nat × Int × Int) (fun s => heaps_fibonacci_pop.f2 (s.1) (s.2.1) (s.2.2.1) (s.2.2.2.1) (s.2.2.2.2.1) (s.2.2.2.2.2.1) (s.2.2.2.2.2.2.1) (s.2.2.2.2.2.2.2)) (fun s H => I (s.1) (s.2.1) (s.2.2.1) (s.2.2.2.1) (s.2.2.2.2.1) (s.2.2.2.2.2.1) (s.2.2.2.2.2.2.1) (s.2.2.2.2.2.2.2) H) (fun s H => μ (s.1) (s.2.1) (s.2.2.1) (s.2.2.2.1) (s.2.2.2.2.1) (s.2.2.2.2.2.1) (s.2.2.2.2.2.2.1) (s.2.2.2.2.2.2.2) H) (fun s H hI X hX => h (s.1) (s.2.1) (s.2.2.1) (s.2.2.2.1) (s.2.2.2.2.1) (s.2.2.2.2.2.1) (s.2.2.2.2.2.2.1) (s.2.2.2.2.2.2.2) H hI X fun f0' byDegree3' h5' t31p' t31n' t31c' t32' t33' H' hI' hlt => hX (f0', byDegree3', h5', t31p', t31n', t31c', t32', t33') H' hI' hlt) (s := (f0, byDegree3, h5, t31p, t31n, t31c, t32, t33)) rfl hI
def heaps_fibonacci_pop.l3 (f0 : Option Addr) (t95 : List Value) (t96 : Int)  (E : Value → Hp → Prop) (H : Hp) (K : Hp → Prop) : Prop := nodeM P0 T0 heaps_fibonacci_pop.A heaps_fibonacci_pop.code [1, 1, 1, 1, 1, 0] [] (heaps_fibonacci_pop.rq E K) (heaps_fibonacci_pop.f3 f0 t95 t96) H
def heaps_fibonacci_pop.b3 (f0 : Option Addr) (t95 : List Value) (t96 : Int)  (X1 : Fr → Hp → Prop) (E : Value → Hp → Prop) (H : Hp) (K : Hp → Prop) : Prop := nodeM P0 T0 heaps_fibonacci_pop.A heaps_fibonacci_pop.code [1, 1, 1, 1, 1, 0, 0] [X1] (heaps_fibonacci_pop.rq E K) (heaps_fibonacci_pop.f3 f0 t95 t96) H
theorem heaps_fibonacci_pop.l3_rule { E : Value → Hp → Prop} {K : Hp → Prop} (I : (Option Addr) → (List Value) → Int → Hp → Prop) (μ : (Option Addr) → (List Value) → Int → Hp → Nat)
    (h : ∀ f0 t95 t96 H, I f0 t95 t96 H → ∀ X : Fr → Hp → Prop, (∀ f0' t95' t96' H', I f0' t95' t96' H' → μ f0' t95' t96' H' < μ f0 t95 t96 H → X (heaps_fibonacci_pop.f3 f0' t95' t96') H') → heaps_fibonacci_pop.b3 f0 t95 t96  X E H K)
    {f0 : Option Addr} {t95 : List Value} {t96 : Int} {H : Hp} (hI : I f0 t95 t96 H) : heaps_fibonacci_pop.l3 f0 t95 t96  E H K :=
  loop_rule (S := (Option Addr) × (List Value) × Int) (fun s => heaps_fibonacci_pop.f3 (s.1) (s.2.1) (s.2.2)) (fun s H => I (s.1) (s.2.1) (s.2.2) H) (fun s H => μ (s.1) (s.2.1) (s.2.2) H) (fun s H hI X hX => h (s.1) (s.2.1) (s.2.2) H hI X fun f0' t95' t96' H' hI' hlt => hX (f0', t95', t96') H' hI' hlt) (s := (f0, t95, t96)) rfl hI
theorem heaps_fibonacci_pop.nok : nodesOk heaps_fibonacci_pop.code [[0, 1, 0, 1, 1], [0, 1, 1, 0, 0, 1, 1, 0, 0, 1, 0, 1, 1], [1, 1, 1, 0, 0, 1, 0, 1, 1], [1, 1, 1], [0, 1, 1, 1, 1, 1], [1, 1, 1, 0, 0, 1, 1, 1, 1, 1]] = true := by kernel_rfl
def heaps_fibonacci_pop.run_t (l1 : (Option Addr) → Nat → (Option Addr) → Nat → Nat → Int → Int → Hp → Prop) (f0 : Option Addr)  (E : Value → Hp → Prop) (H : Hp) (K : Hp → Prop) : Prop :=
  nn f0 fun b_1 o_1 =>
  ldS (H.get b_1 (o_1 + 2)) fun x_1p x_1n x_1c =>
  nn f0 fun b_2 o_2 =>
  ldI .i64 (H.get b_2 (o_2 + 1)) fun x_2 =>
  ix x_1p x_1n x_2 6 fun b_3 o_3 =>
  ldI .i64 (H.get b_3 (o_3 + 1)) fun x_3 =>
  nn f0 fun b_4 o_4 =>
  ldI .i64 (H.get b_4 (o_4 + 1)) fun x_4 =>
  heaps_fibonacci_ring.call f0 x_3 E H fun r_1p r_1n r_1c H_1 =>
  (ldI .i64 (H_1.get b_4 (o_4 + 1)) fun x_5 =>
  Value.int .i64 x_5 = Value.int .i64 x_4) ∧
  heaps_fibonacci_ring.call f0 x_4 E H_1 fun r_2p r_2n r_2c H_2 =>
  ((0 : Int) ≤ 1 ∧ 1 ≤ (r_2n : Int)) ∧
  appM 3 [.i .i64] 8 r_1p r_1n r_1c (slp r_2p 1 r_2c 1) (r_2n - 1) H_2 fun a_1p a_1n a_1c H_3 =>
  nw H_3 ⟨List.replicate 64 (Value.int .i64 0), 157⟩ fun b_5 H_4 =>
  l1 f0 b_5 a_1p a_1n a_1c (a_1n : Int) 0 H_4
theorem heaps_fibonacci_pop.run_eq {f0 : Option Addr} { E : Value → Hp → Prop} {H : Hp} {K : Hp → Prop} (h : heaps_fibonacci_pop.run_t (fun f0 byDegree3 t31p t31n t31c t32 t33 H => heaps_fibonacci_pop.l1 f0 byDegree3 t31p t31n t31c t32 t33  E H K) f0  E H K) : heaps_fibonacci_pop.run f0  E H K := by
  have k1 : ∀ G : List Nat → Fr → Hp → Prop, nodeR P0 T0 heaps_fibonacci_pop.A [[0, 1, 0, 1, 1], [0, 1, 1, 0, 0, 1, 1, 0, 0, 1, 0, 1, 1], [1, 1, 1, 0, 0, 1, 0, 1, 1], [1, 1, 1], [0, 1, 1, 1, 1, 1], [1, 1, 1, 0, 0, 1, 1, 1, 1, 1]] G heaps_fibonacci_pop.code [] [] (heaps_fibonacci_pop.rq E K) (argF 0 [.pointer f0]) H = heaps_fibonacci_pop.run_t (fun f0 byDegree3 t31p t31n t31c t32 t33 H => G [0, 1, 0, 1, 1] [(0, .pointer f0), (3, .pointer (some ⟨byDegree3, 0, none⟩)), (31, .slice t31p t31n t31c), (32, .int .i64 t32), (33, .int .i64 t33)] H) f0  E H K := fun G => by kernel_rfl
  have k2 : heaps_fibonacci_pop.run_t (fun f0 byDegree3 t31p t31n t31c t32 t33 H => heaps_fibonacci_pop.l1 f0 byDegree3 t31p t31n t31c t32 t33  E H K) f0  E H K = heaps_fibonacci_pop.run_t (fun f0 byDegree3 t31p t31n t31c t32 t33 H => (fun q F H => nodeM P0 T0 heaps_fibonacci_pop.A heaps_fibonacci_pop.code q.reverse [] (heaps_fibonacci_pop.rq E K) F H) [0, 1, 0, 1, 1] [(0, .pointer f0), (3, .pointer (some ⟨byDegree3, 0, none⟩)), (31, .slice t31p t31n t31c), (32, .int .i64 t32), (33, .int .i64 t33)] H) f0  E H K := by kernel_rfl
  exact nodeR_imp heaps_fibonacci_pop.nok rfl ((k1 _).mpr (k2.mp h))
def heaps_fibonacci_pop.j1_t  (f0 : Option Addr) (byDegree3 : Nat) (t31p : Option Addr) (t31n : Nat) (t31c : Nat) (t32 : Int) (t33 : Int) (X1 : Fr → Hp → Prop) (E : Value → Hp → Prop) (H : Hp) (K : Hp → Prop) : Prop :=
  X1 (heaps_fibonacci_pop.f1 f0 byDegree3 t31p t31n t31c t32 (IntKind.wrap .i64 (t33 + 1))) H
theorem heaps_fibonacci_pop.j1_eq {f0 : Option Addr} {byDegree3 : Nat} {t31p : Option Addr} {t31n : Nat} {t31c : Nat} {t32 : Int} {t33 : Int} {X1 : Fr → Hp → Prop} { E : Value → Hp → Prop} {H : Hp} {K : Hp → Prop} (h : heaps_fibonacci_pop.j1_t  f0 byDegree3 t31p t31n t31c t32 t33 X1 E H K) : heaps_fibonacci_pop.j1 f0 byDegree3 t31p t31n t31c t32 t33 X1 E H K := by
  have k1 : ∀ G : List Nat → Fr → Hp → Prop, nodeR P0 T0 heaps_fibonacci_pop.A [[0, 1, 0, 1, 1], [0, 1, 1, 0, 0, 1, 1, 0, 0, 1, 0, 1, 1], [1, 1, 1, 0, 0, 1, 0, 1, 1], [1, 1, 1], [0, 1, 1, 1, 1, 1], [1, 1, 1, 0, 0, 1, 1, 1, 1, 1]] G heaps_fibonacci_pop.code [1, 1, 0, 1, 0, 0, 1, 1, 1] [X1] (heaps_fibonacci_pop.rq E K) [(0, .pointer f0), (3, .pointer (some ⟨byDegree3, 0, none⟩)), (31, .slice t31p t31n t31c), (32, .int .i64 t32), (33, .int .i64 t33)] H = heaps_fibonacci_pop.j1_t  f0 byDegree3 t31p t31n t31c t32 t33 X1 E H K := fun G => by kernel_rfl
  exact nodeR_imp heaps_fibonacci_pop.nok rfl ((k1 _).mpr h)
def heaps_fibonacci_pop.j2_t (l3 : (Option Addr) → (List Value) → Int → Hp → Prop) (f0 : Option Addr) (byDegree3 : Nat)  (E : Value → Hp → Prop) (H : Hp) (K : Hp → Prop) : Prop :=
  nn f0 fun b_1 o_1 =>
  stC H b_1 (o_1 + 1) [.int .i64 (-1)] fun H_1 =>
  lds (List.replicate 64 (.i .i64)) H_1 byDegree3 0 fun x_1 =>
  l3 f0 x_1 0 H_1
theorem heaps_fibonacci_pop.j2_eq {f0 : Option Addr} {byDegree3 : Nat} { E : Value → Hp → Prop} {H : Hp} {K : Hp → Prop} (h : heaps_fibonacci_pop.j2_t (fun f0 t95 t96 H => heaps_fibonacci_pop.l3 f0 t95 t96  E H K) f0 byDegree3  E H K) : heaps_fibonacci_pop.j2 f0 byDegree3  E H K := by
  have k1 : ∀ G : List Nat → Fr → Hp → Prop, nodeR P0 T0 heaps_fibonacci_pop.A [[0, 1, 0, 1, 1], [0, 1, 1, 0, 0, 1, 1, 0, 0, 1, 0, 1, 1], [1, 1, 1, 0, 0, 1, 0, 1, 1], [1, 1, 1], [0, 1, 1, 1, 1, 1], [1, 1, 1, 0, 0, 1, 1, 1, 1, 1]] G heaps_fibonacci_pop.code [1, 1, 1] [] (heaps_fibonacci_pop.rq E K) [(0, .pointer f0), (3, .pointer (some ⟨byDegree3, 0, none⟩))] H = heaps_fibonacci_pop.j2_t (fun f0 t95 t96 H => G [0, 1, 1, 1, 1, 1] [(0, .pointer f0), (95, .agg ⟨t95⟩), (96, .int .i64 t96)] H) f0 byDegree3  E H K := fun G => by kernel_rfl
  have k2 : heaps_fibonacci_pop.j2_t (fun f0 t95 t96 H => heaps_fibonacci_pop.l3 f0 t95 t96  E H K) f0 byDegree3  E H K = heaps_fibonacci_pop.j2_t (fun f0 t95 t96 H => (fun q F H => nodeM P0 T0 heaps_fibonacci_pop.A heaps_fibonacci_pop.code q.reverse [] (heaps_fibonacci_pop.rq E K) F H) [0, 1, 1, 1, 1, 1] [(0, .pointer f0), (95, .agg ⟨t95⟩), (96, .int .i64 t96)] H) f0 byDegree3  E H K := by kernel_rfl
  exact nodeR_imp heaps_fibonacci_pop.nok rfl ((k1 _).mpr (k2.mp h))
def heaps_fibonacci_pop.j3_t  (f0 : Option Addr) (t95 : List Value) (t96 : Int) (X1 : Fr → Hp → Prop) (E : Value → Hp → Prop) (H : Hp) (K : Hp → Prop) : Prop :=
  X1 (heaps_fibonacci_pop.f3 f0 t95 (IntKind.wrap .i64 (t96 + 1))) H
theorem heaps_fibonacci_pop.j3_eq {f0 : Option Addr} {t95 : List Value} {t96 : Int} {X1 : Fr → Hp → Prop} { E : Value → Hp → Prop} {H : Hp} {K : Hp → Prop} (h : heaps_fibonacci_pop.j3_t  f0 t95 t96 X1 E H K) : heaps_fibonacci_pop.j3 f0 t95 t96 X1 E H K := by
  have k1 : ∀ G : List Nat → Fr → Hp → Prop, nodeR P0 T0 heaps_fibonacci_pop.A [[0, 1, 0, 1, 1], [0, 1, 1, 0, 0, 1, 1, 0, 0, 1, 0, 1, 1], [1, 1, 1, 0, 0, 1, 0, 1, 1], [1, 1, 1], [0, 1, 1, 1, 1, 1], [1, 1, 1, 0, 0, 1, 1, 1, 1, 1]] G heaps_fibonacci_pop.code [1, 1, 1, 1, 1, 0, 0, 1, 1, 1] [X1] (heaps_fibonacci_pop.rq E K) [(0, .pointer f0), (95, .agg ⟨t95⟩), (96, .int .i64 t96)] H = heaps_fibonacci_pop.j3_t  f0 t95 t96 X1 E H K := fun G => by kernel_rfl
  exact nodeR_imp heaps_fibonacci_pop.nok rfl ((k1 _).mpr h)
def heaps_fibonacci_pop.b1_t (l2 : (Option Addr) → Nat → Int → (Option Addr) → Nat → Nat → Int → Int → Hp → Prop) (j2 : (Option Addr) → Nat → Hp → Prop) (f0 : Option Addr) (byDegree3 : Nat) (t31p : Option Addr) (t31n : Nat) (t31c : Nat) (t32 : Int) (t33 : Int) (X1 : Fr → Hp → Prop) (E : Value → Hp → Prop) (H : Hp) (K : Hp → Prop) : Prop :=
  bcase (decide ((t33 : Int) < t32)) (
  ix t31p t31n t33 1 fun b_1 o_1 =>
  ldI .i64 (H.get b_1 o_1) fun x_1 =>
  nn f0 fun b_2 o_2 =>
  ldS (H.get b_2 (o_2 + 2)) fun x_2p x_2n x_2c =>
  nn f0 fun b_3 o_3 =>
  ldS (H.get b_3 (o_3 + 2)) fun x_3p x_3n x_3c =>
  nn f0 fun b_4 o_4 =>
  ldS (H.get b_4 (o_4 + 2)) fun x_4p x_4n x_4c =>
  nn f0 fun b_5 o_5 =>
  ldS (H.get b_5 (o_5 + 2)) fun x_5p x_5n x_5c =>
  ix x_2p x_2n x_1 6 fun b_6 o_6 =>
  stC H b_6 (o_6 + 2) [.int .i64 x_1] fun H_1 =>
  ix x_3p x_3n x_1 6 fun b_7 o_7 =>
  stC H_1 b_7 (o_7 + 3) [.int .i64 x_1] fun H_2 =>
  ix x_4p x_4n x_1 6 fun b_8 o_8 =>
  stC H_2 b_8 o_8 [.int .i64 (-1)] fun H_3 =>
  ix x_5p x_5n x_1 6 fun b_9 o_9 =>
  stC H_3 b_9 (o_9 + 5) [.bool false] fun H_4 =>
  l2 f0 byDegree3 x_1 t31p t31n t31c t32 t33 H_4)
  (j2 f0 byDegree3 H)
theorem heaps_fibonacci_pop.b1_eq {f0 : Option Addr} {byDegree3 : Nat} {t31p : Option Addr} {t31n : Nat} {t31c : Nat} {t32 : Int} {t33 : Int} {X1 : Fr → Hp → Prop} { E : Value → Hp → Prop} {H : Hp} {K : Hp → Prop} (h : heaps_fibonacci_pop.b1_t (fun f0 byDegree3 h5 t31p t31n t31c t32 t33 H => heaps_fibonacci_pop.l2 f0 byDegree3 h5 t31p t31n t31c t32 t33 X1 E H K) (fun f0 byDegree3 H => heaps_fibonacci_pop.j2 f0 byDegree3  E H K) f0 byDegree3 t31p t31n t31c t32 t33 X1 E H K) : heaps_fibonacci_pop.b1 f0 byDegree3 t31p t31n t31c t32 t33 X1 E H K := by
  have k1 : ∀ G : List Nat → Fr → Hp → Prop, nodeR P0 T0 heaps_fibonacci_pop.A [[0, 1, 0, 1, 1], [0, 1, 1, 0, 0, 1, 1, 0, 0, 1, 0, 1, 1], [1, 1, 1, 0, 0, 1, 0, 1, 1], [1, 1, 1], [0, 1, 1, 1, 1, 1], [1, 1, 1, 0, 0, 1, 1, 1, 1, 1]] G heaps_fibonacci_pop.code [1, 1, 0, 1, 0, 0] [X1] (heaps_fibonacci_pop.rq E K) (heaps_fibonacci_pop.f1 f0 byDegree3 t31p t31n t31c t32 t33) H = heaps_fibonacci_pop.b1_t (fun f0 byDegree3 h5 t31p t31n t31c t32 t33 H => G [0, 1, 1, 0, 0, 1, 1, 0, 0, 1, 0, 1, 1] [(0, .pointer f0), (3, .pointer (some ⟨byDegree3, 0, none⟩)), (5, .int .i64 h5), (31, .slice t31p t31n t31c), (32, .int .i64 t32), (33, .int .i64 t33)] H) (fun f0 byDegree3 H => G [1, 1, 1] [(0, .pointer f0), (3, .pointer (some ⟨byDegree3, 0, none⟩))] H) f0 byDegree3 t31p t31n t31c t32 t33 X1 E H K := fun G => by kernel_rfl
  have k2 : heaps_fibonacci_pop.b1_t (fun f0 byDegree3 h5 t31p t31n t31c t32 t33 H => heaps_fibonacci_pop.l2 f0 byDegree3 h5 t31p t31n t31c t32 t33 X1 E H K) (fun f0 byDegree3 H => heaps_fibonacci_pop.j2 f0 byDegree3  E H K) f0 byDegree3 t31p t31n t31c t32 t33 X1 E H K = heaps_fibonacci_pop.b1_t (fun f0 byDegree3 h5 t31p t31n t31c t32 t33 H => (fun q F H => nodeM P0 T0 heaps_fibonacci_pop.A heaps_fibonacci_pop.code q.reverse [X1] (heaps_fibonacci_pop.rq E K) F H) [0, 1, 1, 0, 0, 1, 1, 0, 0, 1, 0, 1, 1] [(0, .pointer f0), (3, .pointer (some ⟨byDegree3, 0, none⟩)), (5, .int .i64 h5), (31, .slice t31p t31n t31c), (32, .int .i64 t32), (33, .int .i64 t33)] H) (fun f0 byDegree3 H => (fun q F H => nodeM P0 T0 heaps_fibonacci_pop.A heaps_fibonacci_pop.code q.reverse [X1] (heaps_fibonacci_pop.rq E K) F H) [1, 1, 1] [(0, .pointer f0), (3, .pointer (some ⟨byDegree3, 0, none⟩))] H) f0 byDegree3 t31p t31n t31c t32 t33 X1 E H K := by kernel_rfl
  exact nodeR_imp heaps_fibonacci_pop.nok rfl ((k1 _).mpr (k2.mp h))
def heaps_fibonacci_pop.b2_t (j1 : (Option Addr) → Nat → (Option Addr) → Nat → Nat → Int → Int → Hp → Prop) (f0 : Option Addr) (byDegree3 : Nat) (h5 : Int) (t31p : Option Addr) (t31n : Nat) (t31c : Nat) (t32 : Int) (t33 : Int) (X1 : Fr → Hp → Prop) (X2 : Fr → Hp → Prop) (E : Value → Hp → Prop) (H : Hp) (K : Hp → Prop) : Prop :=
  nn f0 fun b_1 o_1 =>
  ldS (H.get b_1 (o_1 + 2)) fun x_1p x_1n x_1c =>
  ix x_1p x_1n h5 6 fun b_2 o_2 =>
  ldI .i64 (H.get b_2 (o_2 + 4)) fun x_2 =>
  ix (some ⟨byDegree3, 0, none⟩) 64 x_2 1 fun b_3 o_3 =>
  ldI .i64 (H.get b_3 o_3) fun x_3 =>
  bcase (decide (((IntKind.wrap .i64 (x_3 - 1)) : Int) < 0)) (
  ix (some ⟨byDegree3, 0, none⟩) 64 x_2 1 fun b_4 o_4 =>
  stC H b_4 o_4 [.int .i64 (IntKind.wrap .i64 (h5 + 1))] fun H_1 =>
  j1 f0 byDegree3 t31p t31n t31c t32 t33 H_1)
  (ix (some ⟨byDegree3, 0, none⟩) 64 x_2 1 fun b_5 o_5 =>
  stC H b_5 o_5 [.int .i64 0] fun H_2 =>
  heaps_fibonacci_under.call f0 h5 (IntKind.wrap .i64 (x_3 - 1)) E H_2 fun r_1 H_3 =>
  X2 (heaps_fibonacci_pop.f2 f0 byDegree3 r_1 t31p t31n t31c t32 t33) H_3)
theorem heaps_fibonacci_pop.b2_eq {f0 : Option Addr} {byDegree3 : Nat} {h5 : Int} {t31p : Option Addr} {t31n : Nat} {t31c : Nat} {t32 : Int} {t33 : Int} {X1 X2 : Fr → Hp → Prop} { E : Value → Hp → Prop} {H : Hp} {K : Hp → Prop} (h : heaps_fibonacci_pop.b2_t (fun f0 byDegree3 t31p t31n t31c t32 t33 H => heaps_fibonacci_pop.j1 f0 byDegree3 t31p t31n t31c t32 t33 X1 E H K) f0 byDegree3 h5 t31p t31n t31c t32 t33 X1 X2 E H K) : heaps_fibonacci_pop.b2 f0 byDegree3 h5 t31p t31n t31c t32 t33 X1 X2 E H K := by
  have k1 : ∀ G : List Nat → Fr → Hp → Prop, nodeR P0 T0 heaps_fibonacci_pop.A [[0, 1, 0, 1, 1], [0, 1, 1, 0, 0, 1, 1, 0, 0, 1, 0, 1, 1], [1, 1, 1, 0, 0, 1, 0, 1, 1], [1, 1, 1], [0, 1, 1, 1, 1, 1], [1, 1, 1, 0, 0, 1, 1, 1, 1, 1]] G heaps_fibonacci_pop.code [1, 1, 0, 1, 0, 0, 1, 1, 0, 0, 1, 1, 0, 0] [X1, X2] (heaps_fibonacci_pop.rq E K) (heaps_fibonacci_pop.f2 f0 byDegree3 h5 t31p t31n t31c t32 t33) H = heaps_fibonacci_pop.b2_t (fun f0 byDegree3 t31p t31n t31c t32 t33 H => G [1, 1, 1, 0, 0, 1, 0, 1, 1] [(0, .pointer f0), (3, .pointer (some ⟨byDegree3, 0, none⟩)), (31, .slice t31p t31n t31c), (32, .int .i64 t32), (33, .int .i64 t33)] H) f0 byDegree3 h5 t31p t31n t31c t32 t33 X1 X2 E H K := fun G => by kernel_rfl
  have k2 : heaps_fibonacci_pop.b2_t (fun f0 byDegree3 t31p t31n t31c t32 t33 H => heaps_fibonacci_pop.j1 f0 byDegree3 t31p t31n t31c t32 t33 X1 E H K) f0 byDegree3 h5 t31p t31n t31c t32 t33 X1 X2 E H K = heaps_fibonacci_pop.b2_t (fun f0 byDegree3 t31p t31n t31c t32 t33 H => (fun q F H => nodeM P0 T0 heaps_fibonacci_pop.A heaps_fibonacci_pop.code q.reverse [X1, X2] (heaps_fibonacci_pop.rq E K) F H) [1, 1, 1, 0, 0, 1, 0, 1, 1] [(0, .pointer f0), (3, .pointer (some ⟨byDegree3, 0, none⟩)), (31, .slice t31p t31n t31c), (32, .int .i64 t32), (33, .int .i64 t33)] H) f0 byDegree3 h5 t31p t31n t31c t32 t33 X1 X2 E H K := by kernel_rfl
  exact nodeR_imp heaps_fibonacci_pop.nok rfl ((k1 _).mpr (k2.mp h))
def heaps_fibonacci_pop.b3_t (j3 : (Option Addr) → (List Value) → Int → Hp → Prop) (f0 : Option Addr) (t95 : List Value) (t96 : Int) (X1 : Fr → Hp → Prop) (E : Value → Hp → Prop) (H : Hp) (K : Hp → Prop) : Prop :=
  bcase (decide ((t96 : Int) < 64)) (
  ((0 : Int) ≤ t96 ∧ t96 < (64 : Int)) ∧
  ldI .i64 (t95[t96.toNat]?) fun x_1 =>
  bcase (decide ((0 : Int) < x_1)) (
  heaps_fibonacci_root.call f0 (IntKind.wrap .i64 (x_1 - 1)) E H fun H_1 =>
  j3 f0 t95 t96 H_1)
  (j3 f0 t95 t96 H))
  (K H)
theorem heaps_fibonacci_pop.b3_eq {f0 : Option Addr} {t95 : List Value} {t96 : Int} {X1 : Fr → Hp → Prop} { E : Value → Hp → Prop} {H : Hp} {K : Hp → Prop} (h : heaps_fibonacci_pop.b3_t (fun f0 t95 t96 H => heaps_fibonacci_pop.j3 f0 t95 t96 X1 E H K) f0 t95 t96 X1 E H K) : heaps_fibonacci_pop.b3 f0 t95 t96 X1 E H K := by
  have k1 : ∀ G : List Nat → Fr → Hp → Prop, nodeR P0 T0 heaps_fibonacci_pop.A [[0, 1, 0, 1, 1], [0, 1, 1, 0, 0, 1, 1, 0, 0, 1, 0, 1, 1], [1, 1, 1, 0, 0, 1, 0, 1, 1], [1, 1, 1], [0, 1, 1, 1, 1, 1], [1, 1, 1, 0, 0, 1, 1, 1, 1, 1]] G heaps_fibonacci_pop.code [1, 1, 1, 1, 1, 0, 0] [X1] (heaps_fibonacci_pop.rq E K) (heaps_fibonacci_pop.f3 f0 t95 t96) H = heaps_fibonacci_pop.b3_t (fun f0 t95 t96 H => G [1, 1, 1, 0, 0, 1, 1, 1, 1, 1] [(0, .pointer f0), (95, .agg ⟨t95⟩), (96, .int .i64 t96)] H) f0 t95 t96 X1 E H K := fun G => by kernel_rfl
  have k2 : heaps_fibonacci_pop.b3_t (fun f0 t95 t96 H => heaps_fibonacci_pop.j3 f0 t95 t96 X1 E H K) f0 t95 t96 X1 E H K = heaps_fibonacci_pop.b3_t (fun f0 t95 t96 H => (fun q F H => nodeM P0 T0 heaps_fibonacci_pop.A heaps_fibonacci_pop.code q.reverse [X1] (heaps_fibonacci_pop.rq E K) F H) [1, 1, 1, 0, 0, 1, 1, 1, 1, 1] [(0, .pointer f0), (95, .agg ⟨t95⟩), (96, .int .i64 t96)] H) f0 t95 t96 X1 E H K := by kernel_rfl
  exact nodeR_imp heaps_fibonacci_pop.nok rfl ((k1 _).mpr (k2.mp h))
/-! ### (*compass/heaps.fibonacci).push (92) -/
noncomputable def heaps_fibonacci_push.A : An := { live := [(0, [0, 1]), (1, [0, 1])], ord := [], stb := [], pre := [] }
noncomputable def heaps_fibonacci_push.code : Code := bodyOf Go.Proofs.Try.f92
theorem heaps_fibonacci_push.ok : okCode heaps_fibonacci_push.A 16 heaps_fibonacci_push.code = true := by kernel_rfl
def heaps_fibonacci_push.rq (E : Value → Hp → Prop) (K : Hp → Prop) : Ex → Fr → Hp → Prop := retQ T0 [] [] (fun r H => ldR (.tup []) r fun u => K  H) E
def heaps_fibonacci_push.run (f0 : Option Addr) (h1 : Int) (E : Value → Hp → Prop) (H : Hp) (K : Hp → Prop) : Prop := nodeM P0 T0 heaps_fibonacci_push.A heaps_fibonacci_push.code [] [] (heaps_fibonacci_push.rq E K) (argF 0 [.pointer f0, .int .i64 h1]) H
theorem heaps_fibonacci_push.of {f0 : Option Addr} {h1 : Int} {E : Value → Hp → Prop} {H : Hp} {K : Hp → Prop} (h : heaps_fibonacci_push.run f0 h1 E H K) : heaps_fibonacci_push.call f0 h1 E H K :=
  callW_of T0_ok P0_mixed (A := heaps_fibonacci_push.A) (fn := Go.Proofs.Try.f92) Go.Proofs.Try.func92 rfl heaps_fibonacci_push.ok rfl h
theorem heaps_fibonacci_push.nok : nodesOk heaps_fibonacci_push.code [] = true := by kernel_rfl
def heaps_fibonacci_push.run_t  (f0 : Option Addr) (h1 : Int)  (E : Value → Hp → Prop) (H : Hp) (K : Hp → Prop) : Prop :=
  nn f0 fun b_1 o_1 =>
  ldS (H.get b_1 (o_1 + 2)) fun x_1p x_1n x_1c =>
  ix x_1p x_1n h1 6 fun b_2 o_2 =>
  stC H b_2 o_2 [.int .i64 (-1), .int .i64 (-1), .int .i64 h1, .int .i64 h1, .int .i64 0, .bool false] fun H_1 =>
  heaps_fibonacci_root.call f0 h1 E H_1 fun H_2 =>
  K H_2
theorem heaps_fibonacci_push.run_eq {f0 : Option Addr} {h1 : Int} { E : Value → Hp → Prop} {H : Hp} {K : Hp → Prop} (h : heaps_fibonacci_push.run_t  f0 h1  E H K) : heaps_fibonacci_push.run f0 h1  E H K := by
  have k1 : ∀ G : List Nat → Fr → Hp → Prop, nodeR P0 T0 heaps_fibonacci_push.A [] G heaps_fibonacci_push.code [] [] (heaps_fibonacci_push.rq E K) (argF 0 [.pointer f0, .int .i64 h1]) H = heaps_fibonacci_push.run_t  f0 h1  E H K := fun G => by kernel_rfl
  exact nodeR_imp heaps_fibonacci_push.nok rfl ((k1 _).mpr h)
/-! ### (*compass/heaps.fibonacci).top (93) -/
noncomputable def heaps_fibonacci_top.A : An := { live := [(0, [0]), (1, [0])], ord := [], stb := [], pre := [] }
noncomputable def heaps_fibonacci_top.code : Code := bodyOf Go.Proofs.Try.f93
theorem heaps_fibonacci_top.ok : okCode heaps_fibonacci_top.A 7 heaps_fibonacci_top.code = true := by kernel_rfl
def heaps_fibonacci_top.rq (E : Value → Hp → Prop) (K : Int → Hp → Prop) : Ex → Fr → Hp → Prop := retQ T0 [.tmp 2] [3] (fun r H => ldR (.one false [.i .i64]) r fun u => K (asI u) H) E
def heaps_fibonacci_top.run (f0 : Option Addr) (E : Value → Hp → Prop) (H : Hp) (K : Int → Hp → Prop) : Prop := nodeM P0 T0 heaps_fibonacci_top.A heaps_fibonacci_top.code [] [] (heaps_fibonacci_top.rq E K) (argF 0 [.pointer f0]) H
theorem heaps_fibonacci_top.of {f0 : Option Addr} {E : Value → Hp → Prop} {H : Hp} {K : Int → Hp → Prop} (h : heaps_fibonacci_top.run f0 E H K) : heaps_fibonacci_top.call f0 E H K :=
  callW_of T0_ok P0_mixed (A := heaps_fibonacci_top.A) (fn := Go.Proofs.Try.f93) Go.Proofs.Try.func93 rfl heaps_fibonacci_top.ok rfl h
theorem heaps_fibonacci_top.nok : nodesOk heaps_fibonacci_top.code [] = true := by kernel_rfl
def heaps_fibonacci_top.run_t  (f0 : Option Addr)  (E : Value → Hp → Prop) (H : Hp) (K : Int → Hp → Prop) : Prop :=
  nn f0 fun b_1 o_1 =>
  ldI .i64 (H.get b_1 (o_1 + 1)) fun x_1 =>
  K x_1 H
theorem heaps_fibonacci_top.run_eq {f0 : Option Addr} { E : Value → Hp → Prop} {H : Hp} {K : Int → Hp → Prop} (h : heaps_fibonacci_top.run_t  f0  E H K) : heaps_fibonacci_top.run f0  E H K := by
  have k1 : ∀ G : List Nat → Fr → Hp → Prop, nodeR P0 T0 heaps_fibonacci_top.A [] G heaps_fibonacci_top.code [] [] (heaps_fibonacci_top.rq E K) (argF 0 [.pointer f0]) H = heaps_fibonacci_top.run_t  f0  E H K := fun G => by kernel_rfl
  exact nodeR_imp heaps_fibonacci_top.nok rfl ((k1 _).mpr h)
/-! ### (*compass/heaps.fibonacci).cut (94) -/
noncomputable def heaps_fibonacci_cut.A : An := { live := [(0, [0, 1]), (1, [0, 1, 4]), (2, [0, 1]), (3, [0, 1, 4]), (4, [0, 1, 4, 5]), (5, [0, 1, 4, 5]), (6, [0, 1, 4, 5]), (7, [0, 1, 4, 5]), (8, [0, 1, 4, 5]), (9, [0, 1, 4, 5]), (10, [0, 1, 4, 5]), (11, [0, 4, 5]), (12, [5]), (13, [0, 4])], ord := [], stb := [], pre := [] }
noncomputable def heaps_fibonacci_cut.code : Code := bodyOf Go.Proofs.Try.f94
theorem heaps_fibonacci_cut.ok : okCode heaps_fibonacci_cut.A 84 heaps_fibonacci_cut.code = true := by kernel_rfl
def heaps_fibonacci_cut.rq (E : Value → Hp → Prop) (K : Hp → Prop) : Ex → Fr → Hp → Prop := retQ T0 [] [] (fun r H => ldR (.tup []) r fun u => K  H) E
def heaps_fibonacci_cut.run (f0 : Option Addr) (h1 : Int) (E : Value → Hp → Prop) (H : Hp) (K : Hp → Prop) : Prop := nodeM P0 T0 heaps_fibonacci_cut.A heaps_fibonacci_cut.code [] [] (heaps_fibonacci_cut.rq E K) (argF 0 [.pointer f0, .int .i64 h1]) H
theorem heaps_fibonacci_cut.of {f0 : Option Addr} {h1 : Int} {E : Value → Hp → Prop} {H : Hp} {K : Hp → Prop} (h : heaps_fibonacci_cut.run f0 h1 E H K) : heaps_fibonacci_cut.call f0 h1 E H K :=
  callW_of T0_ok P0_mixed (A := heaps_fibonacci_cut.A) (fn := Go.Proofs.Try.f94) Go.Proofs.Try.func94 rfl heaps_fibonacci_cut.ok rfl h
noncomputable def heaps_fibonacci_cut.f1 (f0 : Option Addr) (h1 : Int) (p4 : Int) : Fr := [(0, .pointer f0), (1, .int .i64 h1), (4, .int .i64 p4)]
def heaps_fibonacci_cut.j1 (f0 : Option Addr) (h1 : Int) (p4 : Int) (x5 : Option Addr) (X1 : Fr → Hp → Prop) (E : Value → Hp → Prop) (H : Hp) (K : Hp → Prop) : Prop := nodeM P0 T0 heaps_fibonacci_cut.A heaps_fibonacci_cut.code [1, 0, 0, 1, 0, 0, 1, 1, 1] [X1] (heaps_fibonacci_cut.rq E K) [(0, .pointer f0), (1, .int .i64 h1), (4, .int .i64 p4), (5, .pointer x5)] H
def heaps_fibonacci_cut.l1 (f0 : Option Addr) (h1 : Int) (p4 : Int)  (E : Value → Hp → Prop) (H : Hp) (K : Hp → Prop) : Prop := nodeM P0 T0 heaps_fibonacci_cut.A heaps_fibonacci_cut.code [1, 0] [] (heaps_fibonacci_cut.rq E K) (heaps_fibonacci_cut.f1 f0 h1 p4) H
def heaps_fibonacci_cut.b1 (f0 : Option Addr) (h1 : Int) (p4 : Int)  (X1 : Fr → Hp → Prop) (E : Value → Hp → Prop) (H : Hp) (K : Hp → Prop) : Prop := nodeM P0 T0 heaps_fibonacci_cut.A heaps_fibonacci_cut.code [1, 0, 0] [X1] (heaps_fibonacci_cut.rq E K) (heaps_fibonacci_cut.f1 f0 h1 p4) H
theorem heaps_fibonacci_cut.l1_rule { E : Value → Hp → Prop} {K : Hp → Prop} (I : (Option Addr) → Int → Int → Hp → Prop) (μ : (Option Addr) → Int → Int → Hp → Nat)
    (h : ∀ f0 h1 p4 H, I f0 h1 p4 H → ∀ X : Fr → Hp → Prop, (∀ f0' h1' p4' H', I f0' h1' p4' H' → μ f0' h1' p4' H' < μ f0 h1 p4 H → X (heaps_fibonacci_cut.f1 f0' h1' p4') H') → heaps_fibonacci_cut.b1 f0 h1 p4  X E H K)
    {f0 : Option Addr} {h1 : Int} {p4 : Int} {H : Hp} (hI : I f0 h1 p4 H) : heaps_fibonacci_cut.l1 f0 h1 p4  E H K :=
  loop_rule (S := (Option Addr) × Int × Int) (fun s => heaps_fibonacci_cut.f1 (s.1) (s.2.1) (s.2.2)) (fun s H => I (s.1) (s.2.1) (s.2.2) H) (fun s H => μ (s.1) (s.2.1) (s.2.2) H) (fun s H hI X hX => h (s.1) (s.2.1) (s.2.2) H hI X fun f0' h1' p4' H' hI' hlt => hX (f0', h1', p4') H' hI' hlt) (s := (f0, h1, p4)) rfl hI
theorem heaps_fibonacci_cut.nok : nodesOk heaps_fibonacci_cut.code [[0, 1], [1, 1, 1, 0, 0, 1, 0, 0, 1]] = true := by kernel_rfl
def heaps_fibonacci_cut.run_t (l1 : (Option Addr) → Int → Int → Hp → Prop) (f0 : Option Addr) (h1 : Int)  (E : Value → Hp → Prop) (H : Hp) (K : Hp → Prop) : Prop :=
  nn f0 fun b_1 o_1 =>
  ldS (H.get b_1 (o_1 + 2)) fun x_1p x_1n x_1c =>
  ix x_1p x_1n h1 6 fun b_2 o_2 =>
  ldI .i64 (H.get b_2 o_2) fun x_2 =>
  l1 f0 h1 x_2 H
theorem heaps_fibonacci_cut.run_eq {f0 : Option Addr} {h1 : Int} { E : Value → Hp → Prop} {H : Hp} {K : Hp → Prop} (h : heaps_fibonacci_cut.run_t (fun f0 h1 p4 H => heaps_fibonacci_cut.l1 f0 h1 p4  E H K) f0 h1  E H K) : heaps_fibonacci_cut.run f0 h1  E H K := by
  have k1 : ∀ G : List Nat → Fr → Hp → Prop, nodeR P0 T0 heaps_fibonacci_cut.A [[0, 1], [1, 1, 1, 0, 0, 1, 0, 0, 1]] G heaps_fibonacci_cut.code [] [] (heaps_fibonacci_cut.rq E K) (argF 0 [.pointer f0, .int .i64 h1]) H = heaps_fibonacci_cut.run_t (fun f0 h1 p4 H => G [0, 1] [(0, .pointer f0), (1, .int .i64 h1), (4, .int .i64 p4)] H) f0 h1  E H K := fun G => by kernel_rfl
  have k2 : heaps_fibonacci_cut.run_t (fun f0 h1 p4 H => heaps_fibonacci_cut.l1 f0 h1 p4  E H K) f0 h1  E H K = heaps_fibonacci_cut.run_t (fun f0 h1 p4 H => (fun q F H => nodeM P0 T0 heaps_fibonacci_cut.A heaps_fibonacci_cut.code q.reverse [] (heaps_fibonacci_cut.rq E K) F H) [0, 1] [(0, .pointer f0), (1, .int .i64 h1), (4, .int .i64 p4)] H) f0 h1  E H K := by kernel_rfl
  exact nodeR_imp heaps_fibonacci_cut.nok rfl ((k1 _).mpr (k2.mp h))
def heaps_fibonacci_cut.j1_t  (f0 : Option Addr) (h1 : Int) (p4 : Int) (x5 : Option Addr) (X1 : Fr → Hp → Prop) (E : Value → Hp → Prop) (H : Hp) (K : Hp → Prop) : Prop :=
  heaps_fibonacci_leave.call f0 h1 E H fun H_1 =>
  heaps_fibonacci_root.call f0 h1 E H_1 fun H_2 =>
  nn x5 fun b_1 o_1 =>
  ldB (H_2.get b_1 (o_1 + 5)) fun x_1 =>
  bcase ((!x_1)) (
  nn x5 fun b_2 o_2 =>
  ldI .i64 (H_2.get b_2 o_2) fun x_2 =>
  nn x5 fun b_3 o_3 =>
  stC H_2 b_3 (o_3 + 5) [.bool (decide ((0 : Int) ≤ x_2))] fun H_3 =>
  K H_3)
  (nn f0 fun b_4 o_4 =>
  ldS (H_2.get b_4 (o_4 + 2)) fun x_3p x_3n x_3c =>
  ix x_3p x_3n p4 6 fun b_5 o_5 =>
  ldI .i64 (H_2.get b_5 o_5) fun x_4 =>
  X1 (heaps_fibonacci_cut.f1 f0 p4 x_4) H_2)
theorem heaps_fibonacci_cut.j1_eq {f0 : Option Addr} {h1 : Int} {p4 : Int} {x5 : Option Addr} {X1 : Fr → Hp → Prop} { E : Value → Hp → Prop} {H : Hp} {K : Hp → Prop} (h : heaps_fibonacci_cut.j1_t  f0 h1 p4 x5 X1 E H K) : heaps_fibonacci_cut.j1 f0 h1 p4 x5 X1 E H K := by
  have k1 : ∀ G : List Nat → Fr → Hp → Prop, nodeR P0 T0 heaps_fibonacci_cut.A [[0, 1], [1, 1, 1, 0, 0, 1, 0, 0, 1]] G heaps_fibonacci_cut.code [1, 0, 0, 1, 0, 0, 1, 1, 1] [X1] (heaps_fibonacci_cut.rq E K) [(0, .pointer f0), (1, .int .i64 h1), (4, .int .i64 p4), (5, .pointer x5)] H = heaps_fibonacci_cut.j1_t  f0 h1 p4 x5 X1 E H K := fun G => by kernel_rfl
  exact nodeR_imp heaps_fibonacci_cut.nok rfl ((k1 _).mpr h)
def heaps_fibonacci_cut.b1_t (j1 : (Option Addr) → Int → Int → (Option Addr) → Hp → Prop) (f0 : Option Addr) (h1 : Int) (p4 : Int) (X1 : Fr → Hp → Prop) (E : Value → Hp → Prop) (H : Hp) (K : Hp → Prop) : Prop :=
  bcase (decide ((0 : Int) ≤ p4)) (
  nn f0 fun b_1 o_1 =>
  ldS (H.get b_1 (o_1 + 2)) fun x_1p x_1n x_1c =>
  ix x_1p x_1n p4 6 fun b_2 o_2 =>
  ldI .i64 (H.get b_2 (o_2 + 4)) fun x_2 =>
  stC H b_2 (o_2 + 4) [.int .i64 (IntKind.wrap .i64 (x_2 - 1))] fun H_1 =>
  ldI .i64 (H_1.get b_2 (o_2 + 4)) fun x_3 =>
  bcase (decide ((x_3 : Int) = 0)) (
  stC H_1 b_2 (o_2 + 1) [.int .i64 (-1)] fun H_2 =>
  j1 f0 h1 p4 (some ⟨b_2, o_2, none⟩) H_2)
  (ldI .i64 (H_1.get b_2 (o_2 + 1)) fun x_4 =>
  bcase (decide ((x_4 : Int) = h1)) (
  nn f0 fun b_3 o_3 =>
  ldS (H_1.get b_3 (o_3 + 2)) fun x_5p x_5n x_5c =>
  ix x_5p x_5n h1 6 fun b_4 o_4 =>
  ldI .i64 (H_1.get b_4 (o_4 + 3)) fun x_6 =>
  stC H_1 b_2 (o_2 + 1) [.int .i64 x_6] fun H_3 =>
  j1 f0 h1 p4 (some ⟨b_2, o_2, none⟩) H_3)
  (j1 f0 h1 p4 (some ⟨b_2, o_2, none⟩) H_1)))
  (K H)
theorem heaps_fibonacci_cut.b1_eq {f0 : Option Addr} {h1 : Int} {p4 : Int} {X1 : Fr → Hp → Prop} { E : Value → Hp → Prop} {H : Hp} {K : Hp → Prop} (h : heaps_fibonacci_cut.b1_t (fun f0 h1 p4 x5 H => heaps_fibonacci_cut.j1 f0 h1 p4 x5 X1 E H K) f0 h1 p4 X1 E H K) : heaps_fibonacci_cut.b1 f0 h1 p4 X1 E H K := by
  have k1 : ∀ G : List Nat → Fr → Hp → Prop, nodeR P0 T0 heaps_fibonacci_cut.A [[0, 1], [1, 1, 1, 0, 0, 1, 0, 0, 1]] G heaps_fibonacci_cut.code [1, 0, 0] [X1] (heaps_fibonacci_cut.rq E K) (heaps_fibonacci_cut.f1 f0 h1 p4) H = heaps_fibonacci_cut.b1_t (fun f0 h1 p4 x5 H => G [1, 1, 1, 0, 0, 1, 0, 0, 1] [(0, .pointer f0), (1, .int .i64 h1), (4, .int .i64 p4), (5, .pointer x5)] H) f0 h1 p4 X1 E H K := fun G => by kernel_rfl
  have k2 : heaps_fibonacci_cut.b1_t (fun f0 h1 p4 x5 H => heaps_fibonacci_cut.j1 f0 h1 p4 x5 X1 E H K) f0 h1 p4 X1 E H K = heaps_fibonacci_cut.b1_t (fun f0 h1 p4 x5 H => (fun q F H => nodeM P0 T0 heaps_fibonacci_cut.A heaps_fibonacci_cut.code q.reverse [X1] (heaps_fibonacci_cut.rq E K) F H) [1, 1, 1, 0, 0, 1, 0, 0, 1] [(0, .pointer f0), (1, .int .i64 h1), (4, .int .i64 p4), (5, .pointer x5)] H) f0 h1 p4 X1 E H K := by kernel_rfl
  exact nodeR_imp heaps_fibonacci_cut.nok rfl ((k1 _).mpr (k2.mp h))
/-! ### (*compass/heaps.fibonacci).ring (95) -/
noncomputable def heaps_fibonacci_ring.A : An := { live := [(0, [0, 1]), (1, [0, 1]), (2, []), (3, [0, 1]), (4, [0, 1, 5]), (5, [0, 1, 5, 6]), (6, [0, 1, 5, 6]), (7, [0, 1, 5, 6]), (8, [5])], ord := [], stb := [], pre := [] }
noncomputable def heaps_fibonacci_ring.code : Code := bodyOf Go.Proofs.Try.f95
theorem heaps_fibonacci_ring.ok : okCode heaps_fibonacci_ring.A 35 heaps_fibonacci_ring.code = true := by kernel_rfl
def heaps_fibonacci_ring.rq (E : Value → Hp → Prop) (K : (Option Addr) → Nat → Nat → Hp → Prop) : Ex → Fr → Hp → Prop := retQ T0 [.tmp 4] [52] (fun r H => ldR (.one false [.sl]) r fun u => K (asS1 u) (asS2 u) (asS3 u) H) E
def heaps_fibonacci_ring.run (f0 : Option Addr) (h1 : Int) (E : Value → Hp → Prop) (H : Hp) (K : (Option Addr) → Nat → Nat → Hp → Prop) : Prop := nodeM P0 T0 heaps_fibonacci_ring.A heaps_fibonacci_ring.code [] [] (heaps_fibonacci_ring.rq E K) (argF 0 [.pointer f0, .int .i64 h1]) H
theorem heaps_fibonacci_ring.of {f0 : Option Addr} {h1 : Int} {E : Value → Hp → Prop} {H : Hp} {K : (Option Addr) → Nat → Nat → Hp → Prop} (h : heaps_fibonacci_ring.run f0 h1 E H K) : heaps_fibonacci_ring.call f0 h1 E H K :=
  callW_of T0_ok P0_mixed (A := heaps_fibonacci_ring.A) (fn := Go.Proofs.Try.f95) Go.Proofs.Try.func95 rfl heaps_fibonacci_ring.ok rfl h
noncomputable def heaps_fibonacci_ring.f1 (f0 : Option Addr) (h1 : Int) (out5p : Option Addr) (out5n : Nat) (out5c : Nat) (n6 : Int) : Fr := [(0, .pointer f0), (1, .int .i64 h1), (5, .slice out5p out5n out5c), (6, .int .i64 n6)]
def heaps_fibonacci_ring.l1 (f0 : Option Addr) (h1 : Int) (out5p : Option Addr) (out5n : Nat) (out5c : Nat) (n6 : Int)  (E : Value → Hp → Prop) (H : Hp) (K : (Option Addr) → Nat → Nat → Hp → Prop) : Prop := nodeM P0 T0 heaps_fibonacci_ring.A heaps_fibonacci_ring.code [1, 1, 1, 0, 1, 0] [] (heaps_fibonacci_ring.rq E K) (heaps_fibonacci_ring.f1 f0 h1 out5p out5n out5c n6) H
def heaps_fibonacci_ring.b1 (f0 : Option Addr) (h1 : Int) (out5p : Option Addr) (out5n : Nat) (out5c : Nat) (n6 : Int)  (X1 : Fr → Hp → Prop) (E : Value → Hp → Prop) (H : Hp) (K : (Option Addr) → Nat → Nat → Hp → Prop) : Prop := nodeM P0 T0 heaps_fibonacci_ring.A heaps_fibonacci_ring.code [1, 1, 1, 0, 1, 0, 0] [X1] (heaps_fibonacci_ring.rq E K) (heaps_fibonacci_ring.f1 f0 h1 out5p out5n out5c n6) H
theorem heaps_fibonacci_ring.l1_rule { E : Value → Hp → Prop} {K : (Option Addr) → Nat → Nat → Hp → Prop} (I : (Option Addr) → Int → (Option Addr) → Nat → Nat → Int → Hp → Prop) (μ : (Option Addr) → Int → (Option Addr) → Nat → Nat → Int → Hp → Nat)
    (h : ∀ f0 h1 out5p out5n out5c n6 H, I f0 h1 out5p out5n out5c n6 H → ∀ X : Fr → Hp → Prop, (∀ f0' h1' out5p' out5n' out5c' n6' H', I f0' h1' out5p' out5n' out5c' n6' H' → μ f0' h1' out5p' out5n' out5c' n6' H' < μ f0 h1 out5p out5n out5c n6 H → X (heaps_fibonacci_ring.f1 f0' h1' out5p' out5n' out5c' n6') H') → heaps_fibonacci_ring.b1 f0 h1 out5p out5n out5c n6  X E H K)
    {f0 : Option Addr} {h1 : Int} {out5p : Option Addr} {out5n : Nat} {out5c : Nat} {n6 : Int} {H : Hp} (hI : I f0 h1 out5p out5n out5c n6 H) : heaps_fibonacci_ring.l1 f0 h1 out5p out5n out5c n6  E H K :=
  loop_rule (S := (Option Addr) × Int × (Option Addr) × Nat × Nat × Int) (fun s => heaps_fibonacci_ring.f1 (s.1) (s.2.1) (s.2.2.1) (s.2.2.2.1) (s.2.2.2.2.1) (s.2.2.2.2.2)) (fun s H => I (s.1) (s.2.1) (s.2.2.1) (s.2.2.2.1) (s.2.2.2.2.1) (s.2.2.2.2.2) H) (fun s H => μ (s.1) (s.2.1) (s.2.2.1) (s.2.2.2.1) (s.2.2.2.2.1) (s.2.2.2.2.2) H) (fun s H hI X hX => h (s.1) (s.2.1) (s.2.2.1) (s.2.2.2.1) (s.2.2.2.2.1) (s.2.2.2.2.2) H hI X fun f0' h1' out5p' out5n' out5c' n6' H' hI' hlt => hX (f0', h1', out5p', out5n', out5c', n6') H' hI' hlt) (s := (f0, h1, out5p, out5n, out5c, n6)) rfl hI
theorem heaps_fibonacci_ring.nok : nodesOk heaps_fibonacci_ring.code [[0, 1, 0, 1, 1, 1]] = true := by kernel_rfl
def heaps_fibonacci_ring.run_t (l1 : (Option Addr) → Int → (Option Addr) → Nat → Nat → Int → Hp → Prop) (f0 : Option Addr) (h1 : Int)  (E : Value → Hp → Prop) (H : Hp) (K : (Option Addr) → Nat → Nat → Hp → Prop) : Prop :=
  bcase (decide ((h1 : Int) < 0)) (
  K none 0 0 H)
  (nw H ⟨[.int .i64 h1], 3⟩ fun b_1 H_1 =>
  nn f0 fun b_2 o_1 =>
  ldS (H_1.get b_2 (o_1 + 2)) fun x_1p x_1n x_1c =>
  ix x_1p x_1n h1 6 fun b_3 o_2 =>
  ldI .i64 (H_1.get b_3 (o_2 + 3)) fun x_2 =>
  l1 f0 h1 (some ⟨b_1, 0, none⟩) 1 1 x_2 H_1)
theorem heaps_fibonacci_ring.run_eq {f0 : Option Addr} {h1 : Int} { E : Value → Hp → Prop} {H : Hp} {K : (Option Addr) → Nat → Nat → Hp → Prop} (h : heaps_fibonacci_ring.run_t (fun f0 h1 out5p out5n out5c n6 H => heaps_fibonacci_ring.l1 f0 h1 out5p out5n out5c n6  E H K) f0 h1  E H K) : heaps_fibonacci_ring.run f0 h1  E H K := by
  have k1 : ∀ G : List Nat → Fr → Hp → Prop, nodeR P0 T0 heaps_fibonacci_ring.A [[0, 1, 0, 1, 1, 1]] G heaps_fibonacci_ring.code [] [] (heaps_fibonacci_ring.rq E K) (argF 0 [.pointer f0, .int .i64 h1]) H = heaps_fibonacci_ring.run_t (fun f0 h1 out5p out5n out5c n6 H => G [0, 1, 0, 1, 1, 1] [(0, .pointer f0), (1, .int .i64 h1), (5, .slice out5p out5n out5c), (6, .int .i64 n6)] H) f0 h1  E H K := fun G => by kernel_rfl
  have k2 : heaps_fibonacci_ring.run_t (fun f0 h1 out5p out5n out5c n6 H => heaps_fibonacci_ring.l1 f0 h1 out5p out5n out5c n6  E H K) f0 h1  E H K = heaps_fibonacci_ring.run_t (fun f0 h1 out5p out5n out5c n6 H => (fun q F H => nodeM P0 T0 heaps_fibonacci_ring.A heaps_fibonacci_ring.code q.reverse [] (heaps_fibonacci_ring.rq E K) F H) [0, 1, 0, 1, 1, 1] [(0, .pointer f0), (1, .int .i64 h1), (5, .slice out5p out5n out5c), (6, .int .i64 n6)] H) f0 h1  E H K := by kernel_rfl
  exact nodeR_imp heaps_fibonacci_ring.nok rfl ((k1 _).mpr (k2.mp h))
def heaps_fibonacci_ring.b1_t  (f0 : Option Addr) (h1 : Int) (out5p : Option Addr) (out5n : Nat) (out5c : Nat) (n6 : Int) (X1 : Fr → Hp → Prop) (E : Value → Hp → Prop) (H : Hp) (K : (Option Addr) → Nat → Nat → Hp → Prop) : Prop :=
  bcase (!decide ((n6 : Int) = h1)) (
  nw H ⟨[.int .i64 n6], 3⟩ fun b_1 H_1 =>
  appM 3 [.i .i64] 8 out5p out5n out5c (some ⟨b_1, 0, none⟩) 1 H_1 fun a_1p a_1n a_1c H_2 =>
  nn f0 fun b_2 o_1 =>
  ldS (H_2.get b_2 (o_1 + 2)) fun x_1p x_1n x_1c =>
  ix x_1p x_1n n6 6 fun b_3 o_2 =>
  ldI .i64 (H_2.get b_3 (o_2 + 3)) fun x_2 =>
  X1 (heaps_fibonacci_ring.f1 f0 h1 a_1p a_1n a_1c x_2) H_2)
  (K out5p out5n out5c H)
theorem heaps_fibonacci_ring.b1_eq {f0 : Option Addr} {h1 : Int} {out5p : Option Addr} {out5n : Nat} {out5c : Nat} {n6 : Int} {X1 : Fr → Hp → Prop} { E : Value → Hp → Prop} {H : Hp} {K : (Option Addr) → Nat → Nat → Hp → Prop} (h : heaps_fibonacci_ring.b1_t  f0 h1 out5p out5n out5c n6 X1 E H K) : heaps_fibonacci_ring.b1 f0 h1 out5p out5n out5c n6 X1 E H K := by
  have k1 : ∀ G : List Nat → Fr → Hp → Prop, nodeR P0 T0 heaps_fibonacci_ring.A [[0, 1, 0, 1, 1, 1]] G heaps_fibonacci_ring.code [1, 1, 1, 0, 1, 0, 0] [X1] (heaps_fibonacci_ring.rq E K) (heaps_fibonacci_ring.f1 f0 h1 out5p out5n out5c n6) H = heaps_fibonacci_ring.b1_t  f0 h1 out5p out5n out5c n6 X1 E H K := fun G => by kernel_rfl
  exact nodeR_imp heaps_fibonacci_ring.nok rfl ((k1 _).mpr h)
/-! ### (*compass/heaps.fibonacci).under (96) -/
noncomputable def heaps_fibonacci_under.A : An := { live := [(0, [0, 1, 2]), (1, [0, 1, 2]), (2, [0, 1, 2]), (3, [0, 1, 2]), (4, [0, 1, 2]), (5, [0, 1, 2, 7]), (6, [0, 1, 2, 7]), (7, [0, 1, 2]), (8, [0, 1]), (9, [1])], ord := [], stb := [], pre := [] }
noncomputable def heaps_fibonacci_under.code : Code := bodyOf Go.Proofs.Try.f96
theorem heaps_fibonacci_under.ok : okCode heaps_fibonacci_under.A 59 heaps_fibonacci_under.code = true := by kernel_rfl
def heaps_fibonacci_under.rq (E : Value → Hp → Prop) (K : Int → Hp → Prop) : Ex → Fr → Hp → Prop := retQ T0 [.tmp 6] [3] (fun r H => ldR (.one false [.i .i64]) r fun u => K (asI u) H) E
def heaps_fibonacci_under.run (f0 : Option Addr) (a1 : Int) (b2 : Int) (E : Value → Hp → Prop) (H : Hp) (K : Int → Hp → Prop) : Prop := nodeM P0 T0 heaps_fibonacci_under.A heaps_fibonacci_under.code [] [] (heaps_fibonacci_under.rq E K) (argF 0 [.pointer f0, .int .i64 a1, .int .i64 b2]) H
theorem heaps_fibonacci_under.of {f0 : Option Addr} {a1 : Int} {b2 : Int} {E : Value → Hp → Prop} {H : Hp} {K : Int → Hp → Prop} (h : heaps_fibonacci_under.run f0 a1 b2 E H K) : heaps_fibonacci_under.call f0 a1 b2 E H K :=
  callW_of T0_ok P0_mixed (A := heaps_fibonacci_under.A) (fn := Go.Proofs.Try.f96) Go.Proofs.Try.func96 rfl heaps_fibonacci_under.ok rfl h
def heaps_fibonacci_under.j1 (f0 : Option Addr) (a1 : Int) (b2 : Int)  (E : Value → Hp → Prop) (H : Hp) (K : Int → Hp → Prop) : Prop := nodeM P0 T0 heaps_fibonacci_under.A heaps_fibonacci_under.code [1, 1] [] (heaps_fibonacci_under.rq E K) [(0, .pointer f0), (1, .int .i64 a1), (2, .int .i64 b2)] H
def heaps_fibonacci_under.j2 (f0 : Option Addr) (a1 : Int)  (E : Value → Hp → Prop) (H : Hp) (K : Int → Hp → Prop) : Prop := nodeM P0 T0 heaps_fibonacci_under.A heaps_fibonacci_under.code [1, 1, 1, 1] [] (heaps_fibonacci_under.rq E K) [(0, .pointer f0), (1, .int .i64 a1)] H
theorem heaps_fibonacci_under.nok : nodesOk heaps_fibonacci_under.code [[1, 1], [1, 1, 1, 1]] = true := by kernel_rfl
def heaps_fibonacci_under.run_t (j1 : (Option Addr) → Int → Int → Hp → Prop) (f0 : Option Addr) (a1 : Int) (b2 : Int)  (E : Value → Hp → Prop) (H : Hp) (K : Int → Hp → Prop) : Prop :=
  nn f0 fun b_1 o_1 =>
  ldP (H.get b_1 o_1) fun x_1 =>
  heaps_keyed_ahead.call x_1 b2 a1 E H fun r_1 H_1 =>
  bcase (r_1) (
  j1 f0 b2 a1 H_1)
  (j1 f0 a1 b2 H_1)
theorem heaps_fibonacci_under.run_eq {f0 : Option Addr} {a1 : Int} {b2 : Int} { E : Value → Hp → Prop} {H : Hp} {K : Int → Hp → Prop} (h : heaps_fibonacci_under.run_t (fun f0 a1 b2 H => heaps_fibonacci_under.j1 f0 a1 b2  E H K) f0 a1 b2  E H K) : heaps_fibonacci_under.run f0 a1 b2  E H K := by
  have k1 : ∀ G : List Nat → Fr → Hp → Prop, nodeR P0 T0 heaps_fibonacci_under.A [[1, 1], [1, 1, 1, 1]] G heaps_fibonacci_under.code [] [] (heaps_fibonacci_under.rq E K) (argF 0 [.pointer f0, .int .i64 a1, .int .i64 b2]) H = heaps_fibonacci_under.run_t (fun f0 a1 b2 H => G [1, 1] [(0, .pointer f0), (1, .int .i64 a1), (2, .int .i64 b2)] H) f0 a1 b2  E H K := fun G => by kernel_rfl
  have k2 : heaps_fibonacci_under.run_t (fun f0 a1 b2 H => heaps_fibonacci_under.j1 f0 a1 b2  E H K) f0 a1 b2  E H K = heaps_fibonacci_under.run_t (fun f0 a1 b2 H => (fun q F H => nodeM P0 T0 heaps_fibonacci_under.A heaps_fibonacci_under.code q.reverse [] (heaps_fibonacci_under.rq E K) F H) [1, 1] [(0, .pointer f0), (1, .int .i64 a1), (2, .int .i64 b2)] H) f0 a1 b2  E H K := by kernel_rfl
  exact nodeR_imp heaps_fibonacci_under.nok rfl ((k1 _).mpr (k2.mp h))
def heaps_fibonacci_under.j1_t (j2 : (Option Addr) → Int → Hp → Prop) (f0 : Option Addr) (a1 : Int) (b2 : Int)  (E : Value → Hp → Prop) (H : Hp) (K : Int → Hp → Prop) : Prop :=
  nn f0 fun b_1 o_1 =>
  ldS (H.get b_1 (o_1 + 2)) fun x_1p x_1n x_1c =>
  ix x_1p x_1n b2 6 fun b_2 o_2 =>
  stC H b_2 o_2 [.int .i64 a1] fun H_1 =>
  nn f0 fun b_3 o_3 =>
  ldS (H_1.get b_3 (o_3 + 2)) fun x_2p x_2n x_2c =>
  ix x_2p x_2n a1 6 fun b_4 o_4 =>
  ldI .i64 (H_1.get b_4 (o_4 + 1)) fun x_3 =>
  bcase (decide ((0 : Int) ≤ x_3)) (
  heaps_fibonacci_join.call f0 b2 x_3 E H_1 fun H_2 =>
  j2 f0 a1 H_2)
  (nn f0 fun b_5 o_5 =>
  ldS (H_1.get b_5 (o_5 + 2)) fun x_4p x_4n x_4c =>
  ix x_4p x_4n a1 6 fun b_6 o_6 =>
  stC H_1 b_6 (o_6 + 1) [.int .i64 b2] fun H_3 =>
  j2 f0 a1 H_3)
theorem heaps_fibonacci_under.j1_eq {f0 : Option Addr} {a1 : Int} {b2 : Int} { E : Value → Hp → Prop} {H : Hp} {K : Int → Hp → Prop} (h : heaps_fibonacci_under.j1_t (fun f0 a1 H => heaps_fibonacci_under.j2 f0 a1  E H K) f0 a1 b2  E H K) : heaps_fibonacci_under.j1 f0 a1 b2  E H K := by
  have k1 : ∀ G : List Nat → Fr → Hp → Prop, nodeR P0 T0 heaps_fibonacci_under.A [[1, 1], [1, 1, 1, 1]] G heaps_fibonacci_under.code [1, 1] [] (heaps_fibonacci_under.rq E K) [(0, .pointer f0), (1, .int .i64 a1), (2, .int .i64 b2)] H = heaps_fibonacci_under.j1_t (fun f0 a1 H => G [1, 1, 1, 1] [(0, .pointer f0), (1, .int .i64 a1)] H) f0 a1 b2  E H K := fun G => by kernel_rfl
  have k2 : heaps_fibonacci_under.j1_t (fun f0 a1 H => heaps_fibonacci_under.j2 f0 a1  E H K) f0 a1 b2  E H K = heaps_fibonacci_under.j1_t (fun f0 a1 H => (fun q F H => nodeM P0 T0 heaps_fibonacci_under.A heaps_fibonacci_under.code q.reverse [] (heaps_fibonacci_under.rq E K) F H) [1, 1, 1, 1] [(0, .pointer f0), (1, .int .i64 a1)] H) f0 a1 b2  E H K := by kernel_rfl
  exact nodeR_imp heaps_fibonacci_under.nok rfl ((k1 _).mpr (k2.mp h))
def heaps_fibonacci_under.j2_t  (f0 : Option Addr) (a1 : Int)  (E : Value → Hp → Prop) (H : Hp) (K : Int → Hp → Prop) : Prop :=
  nn f0 fun b_1 o_1 =>
  ldS (H.get b_1 (o_1 + 2)) fun x_1p x_1n x_1c =>
  ix x_1p x_1n a1 6 fun b_2 o_2 =>
  ldI .i64 (H.get b_2 (o_2 + 4)) fun x_2 =>
  ix x_1p x_1n a1 6 fun b_3 o_3 =>
  stC H b_3 (o_3 + 4) [.int .i64 (IntKind.wrap .i64 (x_2 + 1))] fun H_1 =>
  K a1 H_1
theorem heaps_fibonacci_under.j2_eq {f0 : Option Addr} {a1 : Int} { E : Value → Hp → Prop} {H : Hp} {K : Int → Hp → Prop} (h : heaps_fibonacci_under.j2_t  f0 a1  E H K) : heaps_fibonacci_under.j2 f0 a1  E H K := by
  have k1 : ∀ G : List Nat → Fr → Hp → Prop, nodeR P0 T0 heaps_fibonacci_under.A [[1, 1], [1, 1, 1, 1]] G heaps_fibonacci_under.code [1, 1, 1, 1] [] (heaps_fibonacci_under.rq E K) [(0, .pointer f0), (1, .int .i64 a1)] H = heaps_fibonacci_under.j2_t  f0 a1  E H K := fun G => by kernel_rfl
  exact nodeR_imp heaps_fibonacci_under.nok rfl ((k1 _).mpr h)
/-! ### (*compass/heaps.fibonacci).root (97) -/
noncomputable def heaps_fibonacci_root.A : An := { live := [(0, [0, 1]), (1, [0, 1]), (2, [0, 1]), (3, [0, 1]), (4, [0, 1]), (5, [0, 1])], ord := [(0, [0, 1, 2, 3, 4, 5, 6, 7, 8, 9, 10, 11, 12, 13, 14, 15]), (4, [0, 1, 2, 3, 4, 5, 6, 7, 8, 9])], stb := [], pre := [(0, [[], [0], [0, 1], [0, 1, 2], [], [], [5], [5, 6], [5, 6, 7], [], [0, 1, 2, 3, 4, 5, 6, 7, 8], [0, 1, 2, 3, 4, 5, 6, 7, 8, 10], [0, 1, 2, 3, 4, 5, 6, 7, 8, 10, 11], [0, 1, 2, 3, 4, 5, 6, 7, 8, 9, 10, 11, 12], [0, 1, 2, 3, 4, 5, 6, 7, 8, 9, 10, 11, 12, 13], [0, 1, 2, 3, 4, 5, 6, 7, 8, 9, 10, 11, 12, 13, 14]]), (4, [[], [0], [0, 1], [0, 1, 2], [], [], [5], [5, 6], [5, 6, 7], [0, 1, 2, 3, 4, 5, 6, 7, 8]])] }
noncomputable def heaps_fibonacci_root.code : Code := bodyOf Go.Proofs.Try.f97
theorem heaps_fibonacci_root.ok : okCode heaps_fibonacci_root.A 48 heaps_fibonacci_root.code = true := by kernel_rfl
def heaps_fibonacci_root.rq (E : Value → Hp → Prop) (K : Hp → Prop) : Ex → Fr → Hp → Prop := retQ T0 [] [] (fun r H => ldR (.tup []) r fun u => K  H) E
def heaps_fibonacci_root.run (f0 : Option Addr) (h1 : Int) (E : Value → Hp → Prop) (H : Hp) (K : Hp → Prop) : Prop := nodeM P0 T0 heaps_fibonacci_root.A heaps_fibonacci_root.code [] [] (heaps_fibonacci_root.rq E K) (argF 0 [.pointer f0, .int .i64 h1]) H
theorem heaps_fibonacci_root.of {f0 : Option Addr} {h1 : Int} {E : Value → Hp → Prop} {H : Hp} {K : Hp → Prop} (h : heaps_fibonacci_root.run f0 h1 E H K) : heaps_fibonacci_root.call f0 h1 E H K :=
  callW_of T0_ok P0_mixed (A := heaps_fibonacci_root.A) (fn := Go.Proofs.Try.f97) Go.Proofs.Try.func97 rfl heaps_fibonacci_root.ok rfl h
theorem heaps_fibonacci_root.nok : nodesOk heaps_fibonacci_root.code [] = true := by kernel_rfl
def heaps_fibonacci_root.run_t  (f0 : Option Addr) (h1 : Int)  (E : Value → Hp → Prop) (H : Hp) (K : Hp → Prop) : Prop :=
  nn f0 fun b_1 o_1 =>
  ldS (H.get b_1 (o_1 + 2)) fun x_1p x_1n x_1c =>
  nn f0 fun b_2 o_2 =>
  ldS (H.get b_2 (o_2 + 2)) fun x_2p x_2n x_2c =>
  ix x_1p x_1n h1 6 fun b_3 o_3 =>
  stC H b_3 o_3 [.int .i64 (-1)] fun H_1 =>
  ix x_2p x_2n h1 6 fun b_4 o_4 =>
  stC H_1 b_4 (o_4 + 5) [.bool false] fun H_2 =>
  nn f0 fun b_5 o_5 =>
  ldI .i64 (H_2.get b_5 (o_5 + 1)) fun x_3 =>
  bcase (decide ((x_3 : Int) < 0)) (
  nn f0 fun b_6 o_6 =>
  stC H_2 b_6 (o_6 + 1) [.int .i64 h1] fun H_3 =>
  K H_3)
  (nn f0 fun b_7 o_7 =>
  ldI .i64 (H_2.get b_7 (o_7 + 1)) fun x_4 =>
  heaps_fibonacci_join.call f0 h1 x_4 E H_2 fun H_4 =>
  nn f0 fun b_8 o_8 =>
  ldP (H_4.get b_8 o_8) fun x_5 =>
  nn f0 fun b_9 o_9 =>
  ldI .i64 (H_4.get b_9 (o_9 + 1)) fun x_6 =>
  heaps_keyed_ahead.call x_5 h1 x_6 E H_4 fun r_1 H_5 =>
  bcase (r_1) (
  nn f0 fun b_10 o_10 =>
  stC H_5 b_10 (o_10 + 1) [.int .i64 h1] fun H_6 =>
  K H_6)
  (K H_5))
theorem heaps_fibonacci_root.run_eq {f0 : Option Addr} {h1 : Int} { E : Value → Hp → Prop} {H : Hp} {K : Hp → Prop} (h : heaps_fibonacci_root.run_t  f0 h1  E H K) : heaps_fibonacci_root.run f0 h1  E H K := by
  have k1 : ∀ G : List Nat → Fr → Hp → Prop, nodeR P0 T0 heaps_fibonacci_root.A [] G heaps_fibonacci_root.code [] [] (heaps_fibonacci_root.rq E K) (argF 0 [.pointer f0, .int .i64 h1]) H = heaps_fibonacci_root.run_t  f0 h1  E H K := fun G => by kernel_rfl
  exact nodeR_imp heaps_fibonacci_root.nok rfl ((k1 _).mpr h)
/-! ### (*compass/heaps.fibonacci).leave (98) -/
noncomputable def heaps_fibonacci_leave.A : An := { live := [(0, [0, 1]), (1, [0, 1, 4, 5]), (2, [0, 1])], ord := [(0, [0, 1, 2, 3, 4, 5, 6, 7, 8, 9, 10, 11, 12, 13, 14, 15, 16, 17]), (1, [0, 1, 2, 3, 4, 5, 6, 7, 8, 9, 10, 11, 12, 13, 14, 15, 16, 17]), (2, [0, 1, 2, 3, 4, 5, 6, 7, 8, 9, 10, 11, 12, 13, 14, 15, 16, 17])], stb := [], pre := [(0, [[], [0], [0, 1], [0, 1, 2], [], [0, 1, 2, 3, 4], [0, 1, 2, 3, 4, 5], [0, 1, 2, 3, 4, 5, 6], [], [8], [8, 9], [8, 9, 10], [], [8, 9, 10, 11, 12], [8, 9, 10, 11, 12, 13], [8, 9, 10, 11, 12, 13, 14], [0, 1, 2, 3, 4, 5, 6, 7], [0, 1, 2, 3, 4, 5, 6, 7, 8, 9, 10, 11, 12, 13, 14, 15, 16]]), (1, [[], [0], [0, 1], [0, 1, 2], [], [], [5], [5, 6], [5, 6, 7], [], [], [], [0, 1, 2, 3, 4, 5, 6, 7, 8, 10], [0, 1, 2, 3, 4, 5, 6, 7, 8, 10, 12], [0, 1, 2, 3, 4, 5, 6, 7, 8, 10, 12, 13], [0, 1, 2, 3, 4, 5, 6, 7, 8, 9, 10, 11, 12, 13, 14], [0, 1, 2, 3, 4, 5, 6, 7, 8, 9, 10, 11, 12, 13, 14, 15], [0, 1, 2, 3, 4, 5, 6, 7, 8, 9, 10, 11, 12, 13, 14, 15, 16]]), (2, [[], [0], [0, 1], [0, 1, 2], [], [], [5], [5, 6], [5, 6, 7], [], [], [], [0, 1, 2, 3, 4, 5, 6, 7, 8, 10], [0, 1, 2, 3, 4, 5, 6, 7, 8, 10, 12], [0, 1, 2, 3, 4, 5, 6, 7, 8, 10, 12, 13], [0, 1, 2, 3, 4, 5, 6, 7, 8, 9, 10, 11, 12, 13, 14], [0, 1, 2, 3, 4, 5, 6, 7, 8, 9, 10, 11, 12, 13, 14, 15], [0, 1, 2, 3, 4, 5, 6, 7, 8, 9, 10, 11, 12, 13, 14, 15, 16]])] }
noncomputable def heaps_fibonacci_leave.code : Code := bodyOf Go.Proofs.Try.f98
theorem heaps_fibonacci_leave.ok : okCode heaps_fibonacci_leave.A 54 heaps_fibonacci_leave.code = true := by kernel_rfl
def heaps_fibonacci_leave.rq (E : Value → Hp → Prop) (K : Hp → Prop) : Ex → Fr → Hp → Prop := retQ T0 [] [] (fun r H => ldR (.tup []) r fun u => K  H) E
def heaps_fibonacci_leave.run (f0 : Option Addr) (h1 : Int) (E : Value → Hp → Prop) (H : Hp) (K : Hp → Prop) : Prop := nodeM P0 T0 heaps_fibonacci_leave.A heaps_fibonacci_leave.code [] [] (heaps_fibonacci_leave.rq E K) (argF 0 [.pointer f0, .int .i64 h1]) H
theorem heaps_fibonacci_leave.of {f0 : Option Addr} {h1 : Int} {E : Value → Hp → Prop} {H : Hp} {K : Hp → Prop} (h : heaps_fibonacci_leave.run f0 h1 E H K) : heaps_fibonacci_leave.call f0 h1 E H K :=
  callW_of T0_ok P0_mixed (A := heaps_fibonacci_leave.A) (fn := Go.Proofs.Try.f98) Go.Proofs.Try.func98 rfl heaps_fibonacci_leave.ok rfl h
theorem heaps_fibonacci_leave.nok : nodesOk heaps_fibonacci_leave.code [] = true := by kernel_rfl
def heaps_fibonacci_leave.run_t  (f0 : Option Addr) (h1 : Int)  (E : Value → Hp → Prop) (H : Hp) (K : Hp → Prop) : Prop :=
  nn f0 fun b_1 o_1 =>
  ldS (H.get b_1 (o_1 + 2)) fun x_1p x_1n x_1c =>
  ix x_1p x_1n h1 6 fun b_2 o_2 =>
  ldI .i64 (H.get b_2 (o_2 + 2)) fun x_2 =>
  nn f0 fun b_3 o_3 =>
  ldS (H.get b_3 (o_3 + 2)) fun x_3p x_3n x_3c =>
  ix x_3p x_3n h1 6 fun b_4 o_4 =>
  ldI .i64 (H.get b_4 (o_4 + 3)) fun x_4 =>
  nn f0 fun b_5 o_5 =>
  ldS (H.get b_5 (o_5 + 2)) fun x_5p x_5n x_5c =>
  nn f0 fun b_6 o_6 =>
  ldS (H.get b_6 (o_6 + 2)) fun x_6p x_6n x_6c =>
  ix x_5p x_5n x_2 6 fun b_7 o_7 =>
  stC H b_7 (o_7 + 3) [.int .i64 x_4] fun H_1 =>
  ix x_6p x_6n x_4 6 fun b_8 o_8 =>
  stC H_1 b_8 (o_8 + 2) [.int .i64 x_2] fun H_2 =>
  nn f0 fun b_9 o_9 =>
  ldS (H_2.get b_9 (o_9 + 2)) fun x_7p x_7n x_7c =>
  nn f0 fun b_10 o_10 =>
  ldS (H_2.get b_10 (o_10 + 2)) fun x_8p x_8n x_8c =>
  ix x_7p x_7n h1 6 fun b_11 o_11 =>
  stC H_2 b_11 (o_11 + 2) [.int .i64 h1] fun H_3 =>
  ix x_8p x_8n h1 6 fun b_12 o_12 =>
  stC H_3 b_12 (o_12 + 3) [.int .i64 h1] fun H_4 =>
  K H_4
theorem heaps_fibonacci_leave.run_eq {f0 : Option Addr} {h1 : Int} { E : Value → Hp → Prop} {H : Hp} {K : Hp → Prop} (h : heaps_fibonacci_leave.run_t  f0 h1  E H K) : heaps_fibonacci_leave.run f0 h1  E H K := by
  have k1 : ∀ G : List Nat → Fr → Hp → Prop, nodeR P0 T0 heaps_fibonacci_leave.A [] G heaps_fibonacci_leave.code [] [] (heaps_fibonacci_leave.rq E K) (argF 0 [.pointer f0, .int .i64 h1]) H = heaps_fibonacci_leave.run_t  f0 h1  E H K := fun G => by kernel_rfl
  exact nodeR_imp heaps_fibonacci_leave.nok rfl ((k1 _).mpr h)
/-! ### (*compass/heaps.fibonacci).join (99) -/
noncomputable def heaps_fibonacci_join.A : An := { live := [(0, [0, 1, 2]), (1, [0, 1, 2, 6]), (2, [0, 1, 2, 6])], ord := [(1, [0, 1, 2, 3, 4, 5, 6, 7, 8, 9, 10, 11, 12, 13, 14, 15, 16, 17]), (2, [0, 1, 2, 3, 4, 5, 6, 7, 8, 9, 10, 11, 12, 13, 14, 15, 16, 17])], stb := [], pre := [(1, [[], [0], [0, 1], [0, 1, 2], [], [], [5], [5, 6], [5, 6, 7], [], [], [], [0, 1, 2, 3, 4, 5, 6, 7, 8, 10], [0, 1, 2, 3, 4, 5, 6, 7, 8, 10, 12], [0, 1, 2, 3, 4, 5, 6, 7, 8, 10, 12, 13], [0, 1, 2, 3, 4, 5, 6, 7, 8, 9, 10, 11, 12, 13, 14], [0, 1, 2, 3, 4, 5, 6, 7, 8, 9, 10, 11, 12, 13, 14, 15], [0, 1, 2, 3, 4, 5, 6, 7, 8, 9, 10, 11, 12, 13, 14, 15, 16]]), (2, [[], [0], [0, 1], [0, 1, 2], [], [], [5], [5, 6], [5, 6, 7], [], [], [], [0, 1, 2, 3, 4, 5, 6, 7, 8, 10], [0, 1, 2, 3, 4, 5, 6, 7, 8, 10, 12], [0, 1, 2, 3, 4, 5, 6, 7, 8, 10, 12, 13], [0, 1, 2, 3, 4, 5, 6, 7, 8, 9, 10, 11, 12, 13, 14], [0, 1, 2, 3, 4, 5, 6, 7, 8, 9, 10, 11, 12, 13, 14, 15], [0, 1, 2, 3, 4, 5, 6, 7, 8, 9, 10, 11, 12, 13, 14, 15, 16]])] }
noncomputable def heaps_fibonacci_join.code : Code := bodyOf Go.Proofs.Try.f99
theorem heaps_fibonacci_join.ok : okCode heaps_fibonacci_join.A 47 heaps_fibonacci_join.code = true := by kernel_rfl
def heaps_fibonacci_join.rq (E : Value → Hp → Prop) (K : Hp → Prop) : Ex → Fr → Hp → Prop := retQ T0 [] [] (fun r H => ldR (.tup []) r fun u => K  H) E
def heaps_fibonacci_join.run (f0 : Option Addr) (h1 : Int) (at2 : Int) (E : Value → Hp → Prop) (H : Hp) (K : Hp → Prop) : Prop := nodeM P0 T0 heaps_fibonacci_join.A heaps_fibonacci_join.code [] [] (heaps_fibonacci_join.rq E K) (argF 0 [.pointer f0, .int .i64 h1, .int .i64 at2]) H
theorem heaps_fibonacci_join.of {f0 : Option Addr} {h1 : Int} {at2 : Int} {E : Value → Hp → Prop} {H : Hp} {K : Hp → Prop} (h : heaps_fibonacci_join.run f0 h1 at2 E H K) : heaps_fibonacci_join.call f0 h1 at2 E H K :=
  callW_of T0_ok P0_mixed (A := heaps_fibonacci_join.A) (fn := Go.Proofs.Try.f99) Go.Proofs.Try.func99 rfl heaps_fibonacci_join.ok rfl h
theorem heaps_fibonacci_join.nok : nodesOk heaps_fibonacci_join.code [] = true := by kernel_rfl
def heaps_fibonacci_join.run_t  (f0 : Option Addr) (h1 : Int) (at2 : Int)  (E : Value → Hp → Prop) (H : Hp) (K : Hp → Prop) : Prop :=
  nn f0 fun b_1 o_1 =>
  ldS (H.get b_1 (o_1 + 2)) fun x_1p x_1n x_1c =>
  ix x_1p x_1n at2 6 fun b_2 o_2 =>
  ldI .i64 (H.get b_2 (o_2 + 3)) fun x_2 =>
  nn f0 fun b_3 o_3 =>
  ldS (H.get b_3 (o_3 + 2)) fun x_3p x_3n x_3c =>
  nn f0 fun b_4 o_4 =>
  ldS (H.get b_4 (o_4 + 2)) fun x_4p x_4n x_4c =>
  ix x_3p x_3n h1 6 fun b_5 o_5 =>
  stC H b_5 (o_5 + 2) [.int .i64 at2] fun H_1 =>
  ix x_4p x_4n h1 6 fun b_6 o_6 =>
  stC H_1 b_6 (o_6 + 3) [.int .i64 x_2] fun H_2 =>
  nn f0 fun b_7 o_7 =>
  ldS (H_2.get b_7 (o_7 + 2)) fun x_5p x_5n x_5c =>
  nn f0 fun b_8 o_8 =>
  ldS (H_2.get b_8 (o_8 + 2)) fun x_6p x_6n x_6c =>
  ix x_5p x_5n at2 6 fun b_9 o_9 =>
  stC H_2 b_9 (o_9 + 3) [.int .i64 h1] fun H_3 =>
  ix x_6p x_6n x_2 6 fun b_10 o_10 =>
  stC H_3 b_10 (o_10 + 2) [.int .i64 h1] fun H_4 =>
  K H_4
theorem heaps_fibonacci_join.run_eq {f0 : Option Addr} {h1 : Int} {at2 : Int} { E : Value → Hp → Prop} {H : Hp} {K : Hp → Prop} (h : heaps_fibonacci_join.run_t  f0 h1 at2  E H K) : heaps_fibonacci_join.run f0 h1 at2  E H K := by
  have k1 : ∀ G : List Nat → Fr → Hp → Prop, nodeR P0 T0 heaps_fibonacci_join.A [] G heaps_fibonacci_join.code [] [] (heaps_fibonacci_join.rq E K) (argF 0 [.pointer f0, .int .i64 h1, .int .i64 at2]) H = heaps_fibonacci_join.run_t  f0 h1 at2  E H K := fun G => by kernel_rfl
  exact nodeR_imp heaps_fibonacci_join.nok rfl ((k1 _).mpr h)
end Go.Mz
