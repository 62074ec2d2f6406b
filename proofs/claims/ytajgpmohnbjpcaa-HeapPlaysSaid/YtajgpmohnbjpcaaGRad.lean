/-
  The shallow texts of functions (Rad), each with a kernel-checked equation to the translated code. It proves nothing of the program by itself.
-/
import Derived.Test.YtajgpmohnbjpcaaTab
set_option linter.unusedVariables false
set_option maxRecDepth 100000
namespace Go.Mz
/-! ### (*compass/heaps.radix).lower (100) -/
noncomputable def heaps_radix_lower.A : An := { live := [(0, [0, 1]), (1, [0, 1, 7]), (2, [0, 1, 7]), (3, [0, 1, 4, 7]), (4, [0, 1, 4, 7, 15, 16, 17]), (5, [0, 1, 4, 7, 15, 16, 17]), (6, [0, 1, 4, 5, 6, 7, 15, 16, 17]), (7, [0, 1, 4, 5]), (8, [0, 1, 4, 7, 15, 16, 17]), (9, [0, 1, 7]), (10, [0, 1])], ord := [(7, [0, 1, 2, 3, 4, 5, 6, 7, 8, 9, 10, 11, 12, 13, 14, 15, 16, 17, 18, 20, 21, 19, 22, 23])], stb := [], pre := [(7, [[], [], [], [], [2], [2, 4], [2, 3, 4, 5], [2, 3, 4, 5, 6], [], [2, 3, 4, 5, 6, 7, 8], [], [], [10], [10, 12], [10, 11, 12, 13], [10, 11, 12, 13, 14], [], [16], [10, 11, 12, 13, 14, 15, 16, 17], [2, 3, 4, 5, 6, 7, 8, 9, 10, 11, 12, 13, 14, 15, 16, 17, 18], [0], [0, 20], [0, 1, 2, 3, 4, 5, 6, 7, 8, 9, 10, 11, 12, 13, 14, 15, 16, 17, 18, 19, 20, 21], [0, 1, 2, 3, 4, 5, 6, 7, 8, 9, 10, 11, 12, 13, 14, 15, 16, 17, 18, 19, 20, 21, 22]])] }
noncomputable def heaps_radix_lower.code : Code := bodyOf Go.Proofs.Try.f100
theorem heaps_radix_lower.ok : okCode heaps_radix_lower.A 53 heaps_radix_lower.code = true := by kernel_rfl
def heaps_radix_lower.rq (E : Value → Hp → Prop) (K : Hp → Prop) : Ex → Fr → Hp → Prop := retQ T0 [] [] (fun r H => ldR (.tup []) r fun u => K  H) E
def heaps_radix_lower.run (r0 : Option Addr) (h1 : Int) (E : Value → Hp → Prop) (H : Hp) (K : Hp → Prop) : Prop := nodeM P0 T0 heaps_radix_lower.A heaps_radix_lower.code [] [] (heaps_radix_lower.rq E K) (argF 0 [.pointer r0, .int .i64 h1]) H
theorem heaps_radix_lower.of {r0 : Option Addr} {h1 : Int} {E : Value → Hp → Prop} {H : Hp} {K : Hp → Prop} (h : heaps_radix_lower.run r0 h1 E H K) : heaps_radix_lower.call r0 h1 E H K :=
  callW_of T0_ok P0_mixed (A := heaps_radix_lower.A) (fn := Go.Proofs.Try.f100) Go.Proofs.Try.func100 rfl heaps_radix_lower.ok rfl h
noncomputable def heaps_radix_lower.f1 (r0 : Option Addr) (h1 : Int) (t7 : Int) : Fr := [(0, .pointer r0), (1, .int .i64 h1), (7, .int .i64 t7)]
noncomputable def heaps_radix_lower.f2 (r0 : Option Addr) (h1 : Int) (b4 : Int) (t7 : Int) (t15p : Option Addr) (t15n : Nat) (t15c : Nat) (t16 : Int) (t17 : Int) : Fr := [(0, .pointer r0), (1, .int .i64 h1), (4, .int .i64 b4), (7, .int .i64 t7), (15, .slice t15p t15n t15c), (16, .int .i64 t16), (17, .int .i64 t17)]
def heaps_radix_lower.j1 (r0 : Option Addr) (h1 : Int) (t7 : Int) (X1 : Fr → Hp → Prop) (E : Value → Hp → Prop) (H : Hp) (K : Hp → Prop) : Prop := nodeM P0 T0 heaps_radix_lower.A heaps_radix_lower.code [0, 1, 0, 1, 0, 0, 1, 1, 1] [X1] (heaps_radix_lower.rq E K) [(0, .pointer r0), (1, .int .i64 h1), (7, .int .i64 t7)] H
def heaps_radix_lower.j2 (r0 : Option Addr) (h1 : Int)  (E : Value → Hp → Prop) (H : Hp) (K : Hp → Prop) : Prop := nodeM P0 T0 heaps_radix_lower.A heaps_radix_lower.code [0, 1, 1] [] (heaps_radix_lower.rq E K) [(0, .pointer r0), (1, .int .i64 h1)] H
def heaps_radix_lower.l1 (r0 : Option Addr) (h1 : Int) (t7 : Int)  (E : Value → Hp → Prop) (H : Hp) (K : Hp → Prop) : Prop := nodeM P0 T0 heaps_radix_lower.A heaps_radix_lower.code [0, 1, 0, 1, 0] [] (heaps_radix_lower.rq E K) (heaps_radix_lower.f1 r0 h1 t7) H
def heaps_radix_lower.b1 (r0 : Option Addr) (h1 : Int) (t7 : Int)  (X1 : Fr → Hp → Prop) (E : Value → Hp → Prop) (H : Hp) (K : Hp → Prop) : Prop := nodeM P0 T0 heaps_radix_lower.A heaps_radix_lower.code [0, 1, 0, 1, 0, 0] [X1] (heaps_radix_lower.rq E K) (heaps_radix_lower.f1 r0 h1 t7) H
theorem heaps_radix_lower.l1_rule { E : Value → Hp → Prop} {K : Hp → Prop} (I : (Option Addr) → Int → Int → Hp → Prop) (μ : (Option Addr) → Int → Int → Hp → Nat)
    (h : ∀ r0 h1 t7 H, I r0 h1 t7 H → ∀ X : Fr → Hp → Prop, (∀ r0' h1' t7' H', I r0' h1' t7' H' → μ r0' h1' t7' H' < μ r0 h1 t7 H → X (heaps_radix_lower.f1 r0' h1' t7') H') → heaps_radix_lower.b1 r0 h1 t7  X E H K)
    {r0 : Option Addr} {h1 : Int} {t7 : Int} {H : Hp} (hI : I r0 h1 t7 H) : heaps_radix_lower.l1 r0 h1 t7  E H K :=
  loop_rule (S := (Option Addr) × Int × Int) (fun s => heaps_radix_lower.f1 (s.1) (s.2.1) (s.2.2)) (fun s H => I (s.1) (s.2.1) (s.2.2) H) (fun s H => μ (s.1) (s.2.1) (s.2.2) H) (fun s H hI X hX => h (s.1) (s.2.1) (s.2.2) H hI X fun r0' h1' t7' H' hI' hlt => hX (r0', h1', t7') H' hI' hlt) (s := (r0, h1, t7)) rfl hI
def heaps_radix_lower.l2 (r0 : Option Addr) (h1 : Int) (b4 : Int) (t7 : Int) (t15p : Option Addr) (t15n : Nat) (t15c : Nat) (t16 : Int) (t17 : Int) (X1 : Fr → Hp → Prop) (E : Value → Hp → Prop) (H : Hp) (K : Hp → Prop) : Prop := nodeM P0 T0 heaps_radix_lower.A heaps_radix_lower.code [0, 1, 0, 1, 0, 0, 1, 1, 0, 0, 1, 1, 0] [X1] (heaps_radix_lower.rq E K) (heaps_radix_lower.f2 r0 h1 b4 t7 t15p t15n t15c t16 t17) H
def heaps_radix_lower.b2 (r0 : Option Addr) (h1 : Int) (b4 : Int) (t7 : Int) (t15p : Option Addr) (t15n : Nat) (t15c : Nat) (t16 : Int) (t17 : Int) (X1 : Fr → Hp → Prop) (X2 : Fr → Hp → Prop) (E : Value → Hp → Prop) (H : Hp) (K : Hp → Prop) : Prop := nodeM P0 T0 heaps_radix_lower.A heaps_radix_lower.code [0, 1, 0, 1, 0, 0, 1, 1, 0, 0, 1, 1, 0, 0] [X1, X2] (heaps_radix_lower.rq E K) (heaps_radix_lower.f2 r0 h1 b4 t7 t15p t15n t15c t16 t17) H
theorem heaps_radix_lower.l2_rule {X1 : Fr → Hp → Prop} { E : Value → Hp → Prop} {K : Hp → Prop} (I : (Option Addr) → Int → Int → Int → (Option Addr) → Nat → Nat → Int → Int → Hp → Prop) (μ : (Option Addr) → Int → Int → Int → (Option Addr) → Nat → Nat → Int → Int → Hp → Nat)
    (h : ∀ r0 h1 b4 t7 t15p t15n t15c t16 t17 H, I r0 h1 b4 t7 t15p t15n t15c t16 t17 H → ∀ X : Fr → Hp → Prop, (∀ r0' h1' b4' t7' t15p' t15n' t15c' t16' t17' H', I r0' h1' b4' t7' t15p' t15n' t15c' t16' t17' H' → μ r0' h1' b4' t7' t15p' t15n' t15c' t16' t17' H' < μ r0 h1 b4 t7 t15p t15n t15c t16 t17 H → X (heaps_radix_lower.f2 r0' h1' b4' t7' t15p' t15n' t15c' t16' t17') H') → heaps_radix_lower.b2 r0 h1 b4 t7 t15p t15n t15c t16 t17 X1 X E H K)
    {r0 : Option Addr} {h1 : Int} {b4 : Int} {t7 : Int} {t15p : Option Addr} {t15n : Nat} {t15c : Nat} {t16 : Int} {t17 : Int} {H : Hp} (hI : I r0 h1 b4 t7 t15p t15n t15c t16 t17 H) : heaps_radix_lower.l2 r0 h1 b4 t7 t15p t15n t15c t16 t17 X1 E H K :=
  loop_rule (S := (Option Addr) × Int × Int × Int × (Option Addr) × Nat × Nat × Int × Int) (fun s => heaps_radix_lower.f2 (s.1) (s.2.1) (s.2.2.1) (s.2.2.2.1) (s.2.2.2.2.1) (s.2.2.2.2.2.1) (s.2.2.2.2.2.2.1) (s.2.2.2.2.2.2.2.1) (s.2.2.2.2.2.2.2.2)) (fun s H => I (s.1) (s.2.1) (s.2.2.1) (s.2.2.2.1) (s.2.2.2.2.1) (s.2.2.2.2.2.1) (s.2.2.2.2.2.2.1) (s.2.2.2.2.2.2.2.1) (s.2.2.2.2.2.2.2.2) H) (fun s H => μ (s.1) (s.2.1) (s.2.2.1) (s.2.2.2.1) (s.2.2.2.2.1) (s.2.2.2.2.2.1) (s.2.2.2.2.2.2.1) (s.2.2.2.2.2.2.2.1) (s.2.2.2.2.2.2.2.2) H) (fun s H hI X hX => h (s.1) (s.2.1) (s.2.2.1) (s.2.2.2.1) (s.2.2.2.2.1) (s.2.2.2.2.2.1) (s.2.2.2.2.2.2.1) (s.2.2.2.2.2.2.2.1) (s.2.2.2.2.2.2.2.2) H hI X fun r0' h1' b4' t7' t15p' t15n' t15c' t16' t17' H' hI' hlt => hX (r0', h1', b4', t7', t15p', t15n', t15c', t16', t17') H' hI' hlt) (s := (r0, h1, b4, t7, t15p, t15n, t15c, t16, t17)) rfl hI
theorem heaps_radix_lower.nok : nodesOk heaps_radix_lower.code [[0, 1, 0, 1, 0], [0, 1, 1, 0, 0, 1, 1, 0, 0, 1, 0, 1, 0], [1, 1, 1, 0, 0, 1, 0, 1, 0], [1, 1, 0]] = true := by kernel_rfl
def heaps_radix_lower.run_t (l1 : (Option Addr) → Int → Int → Hp → Prop) (r0 : Option Addr) (h1 : Int)  (E : Value → Hp → Prop) (H : Hp) (K : Hp → Prop) : Prop :=
  l1 r0 h1 0 H
theorem heaps_radix_lower.run_eq {r0 : Option Addr} {h1 : Int} { E : Value → Hp → Prop} {H : Hp} {K : Hp → Prop} (h : heaps_radix_lower.run_t (fun r0 h1 t7 H => heaps_radix_lower.l1 r0 h1 t7  E H K) r0 h1  E H K) : heaps_radix_lower.run r0 h1  E H K := by
  have k1 : ∀ G : List Nat → Fr → Hp → Prop, nodeR P0 T0 heaps_radix_lower.A [[0, 1, 0, 1, 0], [0, 1, 1, 0, 0, 1, 1, 0, 0, 1, 0, 1, 0], [1, 1, 1, 0, 0, 1, 0, 1, 0], [1, 1, 0]] G heaps_radix_lower.code [] [] (heaps_radix_lower.rq E K) (argF 0 [.pointer r0, .int .i64 h1]) H = heaps_radix_lower.run_t (fun r0 h1 t7 H => G [0, 1, 0, 1, 0] [(0, .pointer r0), (1, .int .i64 h1), (7, .int .i64 t7)] H) r0 h1  E H K := fun G => by kernel_rfl
  have k2 : heaps_radix_lower.run_t (fun r0 h1 t7 H => heaps_radix_lower.l1 r0 h1 t7  E H K) r0 h1  E H K = heaps_radix_lower.run_t (fun r0 h1 t7 H => (fun q F H => nodeM P0 T0 heaps_radix_lower.A heaps_radix_lower.code q.reverse [] (heaps_radix_lower.rq E K) F H) [0, 1, 0, 1, 0] [(0, .pointer r0), (1, .int .i64 h1), (7, .int .i64 t7)] H) r0 h1  E H K := by kernel_rfl
  exact nodeR_imp heaps_radix_lower.nok rfl ((k1 _).mpr (k2.mp h))
def heaps_radix_lower.j1_t  (r0 : Option Addr) (h1 : Int) (t7 : Int) (X1 : Fr → Hp → Prop) (E : Value → Hp → Prop) (H : Hp) (K : Hp → Prop) : Prop :=
  X1 (heaps_radix_lower.f1 r0 h1 (IntKind.wrap .i64 (t7 + 1))) H
theorem heaps_radix_lower.j1_eq {r0 : Option Addr} {h1 : Int} {t7 : Int} {X1 : Fr → Hp → Prop} { E : Value → Hp → Prop} {H : Hp} {K : Hp → Prop} (h : heaps_radix_lower.j1_t  r0 h1 t7 X1 E H K) : heaps_radix_lower.j1 r0 h1 t7 X1 E H K := by
  have k1 : ∀ G : List Nat → Fr → Hp → Prop, nodeR P0 T0 heaps_radix_lower.A [[0, 1, 0, 1, 0], [0, 1, 1, 0, 0, 1, 1, 0, 0, 1, 0, 1, 0], [1, 1, 1, 0, 0, 1, 0, 1, 0], [1, 1, 0]] G heaps_radix_lower.code [0, 1, 0, 1, 0, 0, 1, 1, 1] [X1] (heaps_radix_lower.rq E K) [(0, .pointer r0), (1, .int .i64 h1), (7, .int .i64 t7)] H = heaps_radix_lower.j1_t  r0 h1 t7 X1 E H K := fun G => by kernel_rfl
  exact nodeR_imp heaps_radix_lower.nok rfl ((k1 _).mpr h)
def heaps_radix_lower.j2_t  (r0 : Option Addr) (h1 : Int)  (E : Value → Hp → Prop) (H : Hp) (K : Hp → Prop) : Prop :=
  heaps_radix_push.call r0 h1 E H fun H_1 =>
  K H_1
theorem heaps_radix_lower.j2_eq {r0 : Option Addr} {h1 : Int} { E : Value → Hp → Prop} {H : Hp} {K : Hp → Prop} (h : heaps_radix_lower.j2_t  r0 h1  E H K) : heaps_radix_lower.j2 r0 h1  E H K := by
  have k1 : ∀ G : List Nat → Fr → Hp → Prop, nodeR P0 T0 heaps_radix_lower.A [[0, 1, 0, 1, 0], [0, 1, 1, 0, 0, 1, 1, 0, 0, 1, 0, 1, 0], [1, 1, 1, 0, 0, 1, 0, 1, 0], [1, 1, 0]] G heaps_radix_lower.code [0, 1, 1] [] (heaps_radix_lower.rq E K) [(0, .pointer r0), (1, .int .i64 h1)] H = heaps_radix_lower.j2_t  r0 h1  E H K := fun G => by kernel_rfl
  exact nodeR_imp heaps_radix_lower.nok rfl ((k1 _).mpr h)
def heaps_radix_lower.b1_t (l2 : (Option Addr) → Int → Int → Int → (Option Addr) → Nat → Nat → Int → Int → Hp → Prop) (j2 : (Option Addr) → Int → Hp → Prop) (r0 : Option Addr) (h1 : Int) (t7 : Int) (X1 : Fr → Hp → Prop) (E : Value → Hp → Prop) (H : Hp) (K : Hp → Prop) : Prop :=
  bcase (decide ((t7 : Int) < 65)) (
  nn r0 fun b_1 o_1 =>
  ix (some ⟨b_1, (o_1 + 2), none⟩) 65 t7 1 fun b_2 o_2 =>
  ldS (H.get b_2 o_2) fun x_1p x_1n x_1c =>
  l2 r0 h1 t7 t7 x_1p x_1n x_1c (x_1n : Int) 0 H)
  (j2 r0 h1 H)
theorem heaps_radix_lower.b1_eq {r0 : Option Addr} {h1 : Int} {t7 : Int} {X1 : Fr → Hp → Prop} { E : Value → Hp → Prop} {H : Hp} {K : Hp → Prop} (h : heaps_radix_lower.b1_t (fun r0 h1 b4 t7 t15p t15n t15c t16 t17 H => heaps_radix_lower.l2 r0 h1 b4 t7 t15p t15n t15c t16 t17 X1 E H K) (fun r0 h1 H => heaps_radix_lower.j2 r0 h1  E H K) r0 h1 t7 X1 E H K) : heaps_radix_lower.b1 r0 h1 t7 X1 E H K := by
  have k1 : ∀ G : List Nat → Fr → Hp → Prop, nodeR P0 T0 heaps_radix_lower.A [[0, 1, 0, 1, 0], [0, 1, 1, 0, 0, 1, 1, 0, 0, 1, 0, 1, 0], [1, 1, 1, 0, 0, 1, 0, 1, 0], [1, 1, 0]] G heaps_radix_lower.code [0, 1, 0, 1, 0, 0] [X1] (heaps_radix_lower.rq E K) (heaps_radix_lower.f1 r0 h1 t7) H = heaps_radix_lower.b1_t (fun r0 h1 b4 t7 t15p t15n t15c t16 t17 H => G [0, 1, 1, 0, 0, 1, 1, 0, 0, 1, 0, 1, 0] [(0, .pointer r0), (1, .int .i64 h1), (4, .int .i64 b4), (7, .int .i64 t7), (15, .slice t15p t15n t15c), (16, .int .i64 t16), (17, .int .i64 t17)] H) (fun r0 h1 H => G [1, 1, 0] [(0, .pointer r0), (1, .int .i64 h1)] H) r0 h1 t7 X1 E H K := fun G => by kernel_rfl
  have k2 : heaps_radix_lower.b1_t (fun r0 h1 b4 t7 t15p t15n t15c t16 t17 H => heaps_radix_lower.l2 r0 h1 b4 t7 t15p t15n t15c t16 t17 X1 E H K) (fun r0 h1 H => heaps_radix_lower.j2 r0 h1  E H K) r0 h1 t7 X1 E H K = heaps_radix_lower.b1_t (fun r0 h1 b4 t7 t15p t15n t15c t16 t17 H => (fun q F H => nodeM P0 T0 heaps_radix_lower.A heaps_radix_lower.code q.reverse [X1] (heaps_radix_lower.rq E K) F H) [0, 1, 1, 0, 0, 1, 1, 0, 0, 1, 0, 1, 0] [(0, .pointer r0), (1, .int .i64 h1), (4, .int .i64 b4), (7, .int .i64 t7), (15, .slice t15p t15n t15c), (16, .int .i64 t16), (17, .int .i64 t17)] H) (fun r0 h1 H => (fun q F H => nodeM P0 T0 heaps_radix_lower.A heaps_radix_lower.code q.reverse [X1] (heaps_radix_lower.rq E K) F H) [1, 1, 0] [(0, .pointer r0), (1, .int .i64 h1)] H) r0 h1 t7 X1 E H K := by kernel_rfl
  exact nodeR_imp heaps_radix_lower.nok rfl ((k1 _).mpr (k2.mp h))
def heaps_radix_lower.b2_t (j1 : (Option Addr) → Int → Int → Hp → Prop) (j2 : (Option Addr) → Int → Hp → Prop) (r0 : Option Addr) (h1 : Int) (b4 : Int) (t7 : Int) (t15p : Option Addr) (t15n : Nat) (t15c : Nat) (t16 : Int) (t17 : Int) (X1 : Fr → Hp → Prop) (X2 : Fr → Hp → Prop) (E : Value → Hp → Prop) (H : Hp) (K : Hp → Prop) : Prop :=
  bcase (decide ((t17 : Int) < t16)) (
  ix t15p t15n t17 1 fun b_1 o_1 =>
  ldI .i64 (H.get b_1 o_1) fun x_1 =>
  bcase (decide ((x_1 : Int) = h1)) (
  nn r0 fun b_2 o_2 =>
  ix (some ⟨b_2, (o_2 + 2), none⟩) 65 b4 1 fun b_3 o_3 =>
  ldS (H.get b_3 o_3) fun x_2p x_2n x_2c =>
  ((0 : Int) ≤ t17 ∧ t17 ≤ (x_2c : Int)) ∧
  nn r0 fun b_4 o_4 =>
  ix (some ⟨b_4, (o_4 + 2), none⟩) 65 b4 1 fun b_5 o_5 =>
  ldS (H.get b_5 o_5) fun x_3p x_3n x_3c =>
  ((0 : Int) ≤ (IntKind.wrap .i64 (t17 + 1)) ∧ (IntKind.wrap .i64 (t17 + 1)) ≤ (x_3n : Int)) ∧
  nn r0 fun b_6 o_6 =>
  appM 3 [.i .i64] 8 (slp x_2p 0 x_2c 1) t17.toNat x_2c (slp x_3p ((IntKind.wrap .i64 (t17 + 1)).toNat) x_3c 1) (x_3n - (IntKind.wrap .i64 (t17 + 1)).toNat) H fun a_1p a_1n a_1c H_1 =>
  ix (some ⟨b_6, (o_6 + 2), none⟩) 65 b4 1 fun b_7 o_7 =>
  stC H_1 b_7 o_7 [.slice a_1p a_1n a_1c] fun H_2 =>
  j2 r0 h1 H_2)
  (X2 (heaps_radix_lower.f2 r0 h1 b4 t7 t15p t15n t15c t16 (IntKind.wrap .i64 (t17 + 1))) H))
  (j1 r0 h1 t7 H)
theorem heaps_radix_lower.b2_eq {r0 : Option Addr} {h1 : Int} {b4 : Int} {t7 : Int} {t15p : Option Addr} {t15n : Nat} {t15c : Nat} {t16 : Int} {t17 : Int} {X1 X2 : Fr → Hp → Prop} { E : Value → Hp → Prop} {H : Hp} {K : Hp → Prop} (h : heaps_radix_lower.b2_t (fun r0 h1 t7 H => heaps_radix_lower.j1 r0 h1 t7 X1 E H K) (fun r0 h1 H => heaps_radix_lower.j2 r0 h1  E H K) r0 h1 b4 t7 t15p t15n t15c t16 t17 X1 X2 E H K) : heaps_radix_lower.b2 r0 h1 b4 t7 t15p t15n t15c t16 t17 X1 X2 E H K := by
  have k1 : ∀ G : List Nat → Fr → Hp → Prop, nodeR P0 T0 heaps_radix_lower.A [[0, 1, 0, 1, 0], [0, 1, 1, 0, 0, 1, 1, 0, 0, 1, 0, 1, 0], [1, 1, 1, 0, 0, 1, 0, 1, 0], [1, 1, 0]] G heaps_radix_lower.code [0, 1, 0, 1, 0, 0, 1, 1, 0, 0, 1, 1, 0, 0] [X1, X2] (heaps_radix_lower.rq E K) (heaps_radix_lower.f2 r0 h1 b4 t7 t15p t15n t15c t16 t17) H = heaps_radix_lower.b2_t (fun r0 h1 t7 H => G [1, 1, 1, 0, 0, 1, 0, 1, 0] [(0, .pointer r0), (1, .int .i64 h1), (7, .int .i64 t7)] H) (fun r0 h1 H => G [1, 1, 0] [(0, .pointer r0), (1, .int .i64 h1)] H) r0 h1 b4 t7 t15p t15n t15c t16 t17 X1 X2 E H K := fun G => by kernel_rfl
  have k2 : heaps_radix_lower.b2_t (fun r0 h1 t7 H => heaps_radix_lower.j1 r0 h1 t7 X1 E H K) (fun r0 h1 H => heaps_radix_lower.j2 r0 h1  E H K) r0 h1 b4 t7 t15p t15n t15c t16 t17 X1 X2 E H K = heaps_radix_lower.b2_t (fun r0 h1 t7 H => (fun q F H => nodeM P0 T0 heaps_radix_lower.A heaps_radix_lower.code q.reverse [X1, X2] (heaps_radix_lower.rq E K) F H) [1, 1, 1, 0, 0, 1, 0, 1, 0] [(0, .pointer r0), (1, .int .i64 h1), (7, .int .i64 t7)] H) (fun r0 h1 H => (fun q F H => nodeM P0 T0 heaps_radix_lower.A heaps_radix_lower.code q.reverse [X1, X2] (heaps_radix_lower.rq E K) F H) [1, 1, 0] [(0, .pointer r0), (1, .int .i64 h1)] H) r0 h1 b4 t7 t15p t15n t15c t16 t17 X1 X2 E H K := by kernel_rfl
  exact nodeR_imp heaps_radix_lower.nok rfl ((k1 _).mpr (k2.mp h))
/-! ### (*compass/heaps.radix).pop (101) -/
noncomputable def heaps_radix_pop.A : An := { live := [(0, [0]), (1, [0, 2, 3]), (2, [0, 2, 3, 4]), (3, [0, 2, 4]), (4, [0, 4]), (5, [0, 59, 60, 61]), (6, [0, 59, 60, 61]), (7, [0, 6, 59, 60, 61]), (8, [0, 59, 60, 61])], ord := [(1, [0, 1, 2, 3, 4, 5, 6, 7, 8, 10, 11, 12, 13, 14, 15, 16, 17, 18, 9, 19, 20]), (2, [0, 1, 2, 3, 4, 5, 6, 7, 8, 9, 10, 11, 12, 13, 14, 15, 16, 17, 18, 19, 20, 21, 22])], stb := [(1, [(9, [15])])], pre := [(1, [[], [], [], [1], [1, 3], [1, 2, 3, 4], [1, 2, 3, 4, 5], [], [1, 2, 3, 4, 5, 6, 7], [0, 1, 2, 3, 4, 5, 6, 7, 8], [], [], [10], [10, 12], [10, 11, 12, 13], [10, 11, 12, 13, 14], [], [16], [10, 11, 12, 13, 14, 15, 16, 17], [0, 1, 2, 3, 4, 5, 6, 7, 8, 9, 10, 11, 12, 13, 14, 15, 16, 17, 18], [0, 1, 2, 3, 4, 5, 6, 7, 8, 9, 10, 11, 12, 13, 14, 15, 16, 17, 18, 19]]), (2, [[], [], [1], [1, 2], [1, 2, 3], [1, 2, 3, 4], [1, 2, 3, 4, 5], [1, 2, 3, 4, 5, 6], [1, 2, 3, 4, 5, 6, 7], [], [], [9], [9, 11], [9, 10, 11, 12], [9, 10, 11, 12, 13], [], [9, 10, 11, 12, 13, 14, 15], [9, 10, 11, 12, 13, 14, 15, 16], [1, 2, 3, 4, 5, 6, 7, 8, 9, 10, 11, 12, 13, 14, 15, 16, 17], [1, 2, 3, 4, 5, 6, 7, 8, 9, 10, 11, 12, 13, 14, 15, 16, 17, 18], [0, 1, 2, 3, 4, 5, 6, 7, 8, 9, 10, 11, 12, 13, 14, 15, 16, 17, 18, 19], [0, 1, 2, 3, 4, 5, 6, 7, 8, 9, 10, 11, 12, 13, 14, 15, 16, 17, 18, 19, 20], [0, 1, 2, 3, 4, 5, 6, 7, 8, 9, 10, 11, 12, 13, 14, 15, 16, 17, 18, 19, 20, 21]])] }
noncomputable def heaps_radix_pop.code : Code := bodyOf Go.Proofs.Try.f101
theorem heaps_radix_pop.ok : okCode heaps_radix_pop.A 69 heaps_radix_pop.code = true := by kernel_rfl
def heaps_radix_pop.rq (E : Value → Hp → Prop) (K : Hp → Prop) : Ex → Fr → Hp → Prop := retQ T0 [] [] (fun r H => ldR (.tup []) r fun u => K  H) E
def heaps_radix_pop.run (r0 : Option Addr) (E : Value → Hp → Prop) (H : Hp) (K : Hp → Prop) : Prop := nodeM P0 T0 heaps_radix_pop.A heaps_radix_pop.code [] [] (heaps_radix_pop.rq E K) (argF 0 [.pointer r0]) H
theorem heaps_radix_pop.of {r0 : Option Addr} {E : Value → Hp → Prop} {H : Hp} {K : Hp → Prop} (h : heaps_radix_pop.run r0 E H K) : heaps_radix_pop.call r0 E H K :=
  callW_of T0_ok P0_mixed (A := heaps_radix_pop.A) (fn := Go.Proofs.Try.f101) Go.Proofs.Try.func101 rfl heaps_radix_pop.ok rfl h
noncomputable def heaps_radix_pop.f1 (r0 : Option Addr) (t59p : Option Addr) (t59n : Nat) (t59c : Nat) (t60 : Int) (t61 : Int) : Fr := [(0, .pointer r0), (59, .slice t59p t59n t59c), (60, .int .i64 t60), (61, .int .i64 t61)]
def heaps_radix_pop.l1 (r0 : Option Addr) (t59p : Option Addr) (t59n : Nat) (t59c : Nat) (t60 : Int) (t61 : Int)  (E : Value → Hp → Prop) (H : Hp) (K : Hp → Prop) : Prop := nodeM P0 T0 heaps_radix_pop.A heaps_radix_pop.code [1, 1, 1, 1, 1, 0] [] (heaps_radix_pop.rq E K) (heaps_radix_pop.f1 r0 t59p t59n t59c t60 t61) H
def heaps_radix_pop.b1 (r0 : Option Addr) (t59p : Option Addr) (t59n : Nat) (t59c : Nat) (t60 : Int) (t61 : Int)  (X1 : Fr → Hp → Prop) (E : Value → Hp → Prop) (H : Hp) (K : Hp → Prop) : Prop := nodeM P0 T0 heaps_radix_pop.A heaps_radix_pop.code [1, 1, 1, 1, 1, 0, 0] [X1] (heaps_radix_pop.rq E K) (heaps_radix_pop.f1 r0 t59p t59n t59c t60 t61) H
theorem heaps_radix_pop.l1_rule { E : Value → Hp → Prop} {K : Hp → Prop} (I : (Option Addr) → (Option Addr) → Nat → Nat → Int → Int → Hp → Prop) (μ : (Option Addr) → (Option Addr) → Nat → Nat → Int → Int → Hp → Nat)
    (h : ∀ r0 t59p t59n t59c t60 t61 H, I r0 t59p t59n t59c t60 t61 H → ∀ X : Fr → Hp → Prop, (∀ r0' t59p' t59n' t59c' t60' t61' H', I r0' t59p' t59n' t59c' t60' t61' H' → μ r0' t59p' t59n' t59c' t60' t61' H' < μ r0 t59p t59n t59c t60 t61 H → X (heaps_radix_pop.f1 r0' t59p' t59n' t59c' t60' t61') H') → heaps_radix_pop.b1 r0 t59p t59n t59c t60 t61  X E H K)
    {r0 : Option Addr} {t59p : Option Addr} {t59n : Nat} {t59c : Nat} {t60 : Int} {t61 : Int} {H : Hp} (hI : I r0 t59p t59n t59c t60 t61 H) : heaps_radix_pop.l1 r0 t59p t59n t59c t60 t61  E H K :=
  loop_rule (S := (Option Addr) × (Option Addr) × Nat × Nat × Int × Int) (fun s => heaps_radix_pop.f1 (s.1) (s.2.1) (s.2.2.1) (s.2.2.2.1) (s.2.2.2.2.1) (s.2.2.2.2.2)) (fun s H => I (s.1) (s.2.1) (s.2.2.1) (s.2.2.2.1) (s.2.2.2.2.1) (s.2.2.2.2.2) H) (fun s H => μ (s.1) (s.2.1) (s.2.2.1) (s.2.2.2.1) (s.2.2.2.2.1) (s.2.2.2.2.2) H) (fun s H hI X hX => h (s.1) (s.2.1) (s.2.2.1) (s.2.2.2.1) (s.2.2.2.2.1) (s.2.2.2.2.2) H hI X fun r0' t59p' t59n' t59c' t60' t61' H' hI' hlt => hX (r0', t59p', t59n', t59c', t60', t61') H' hI' hlt) (s := (r0, t59p, t59n, t59c, t60, t61)) rfl hI
theorem heaps_radix_pop.nok : nodesOk heaps_radix_pop.code [[0, 1, 1, 1, 1, 1]] = true := by kernel_rfl
def heaps_radix_pop.run_t (l1 : (Option Addr) → (Option Addr) → Nat → Nat → Int → Int → Hp → Prop) (r0 : Option Addr)  (E : Value → Hp → Prop) (H : Hp) (K : Hp → Prop) : Prop :=
  heaps_radix_best.call r0 E H fun r_1 r_2 H_1 =>
  nw H_1 ⟨[], 3⟩ fun b_1 H_2 =>
  nn r0 fun b_2 o_1 =>
  ix (some ⟨b_2, (o_1 + 2), none⟩) 65 r_1 1 fun b_3 o_2 =>
  ldS (H_2.get b_3 o_2) fun x_1p x_1n x_1c =>
  ((0 : Int) ≤ r_2 ∧ r_2 ≤ (x_1c : Int)) ∧
  nn r0 fun b_4 o_3 =>
  ix (some ⟨b_4, (o_3 + 2), none⟩) 65 r_1 1 fun b_5 o_4 =>
  ldS (H_2.get b_5 o_4) fun x_2p x_2n x_2c =>
  ((0 : Int) ≤ (IntKind.wrap .i64 (r_2 + 1)) ∧ (IntKind.wrap .i64 (r_2 + 1)) ≤ (x_2n : Int)) ∧
  appM 3 [.i .i64] 8 (some ⟨b_1, 0, none⟩) 0 0 (slp x_1p 0 x_1c 1) r_2.toNat H_2 fun a_1p a_1n a_1c H_3 =>
  (ldS (H_3.get b_5 o_4) fun x_8p x_8n x_8c =>
  Value.slice x_8p x_8n x_8c = Value.slice x_2p x_2n x_2c) ∧
  appM 3 [.i .i64] 8 a_1p a_1n a_1c (slp x_2p ((IntKind.wrap .i64 (r_2 + 1)).toNat) x_2c 1) (x_2n - (IntKind.wrap .i64 (r_2 + 1)).toNat) H_3 fun a_2p a_2n a_2c H_4 =>
  nn r0 fun b_6 o_5 =>
  ldP (H_4.get b_6 o_5) fun x_3 =>
  nn x_3 fun b_7 o_6 =>
  ldS (H_4.get b_7 o_6) fun x_4p x_4n x_4c =>
  nn r0 fun b_8 o_7 =>
  ix (some ⟨b_8, (o_7 + 2), none⟩) 65 r_1 1 fun b_9 o_8 =>
  ldS (H_4.get b_9 o_8) fun x_5p x_5n x_5c =>
  ix x_5p x_5n r_2 1 fun b_10 o_9 =>
  ldI .i64 (H_4.get b_10 o_9) fun x_6 =>
  ix x_4p x_4n x_6 1 fun b_11 o_10 =>
  ldI .i64 (H_4.get b_11 o_10) fun x_7 =>
  nn r0 fun b_12 o_11 =>
  stC H_4 b_12 (o_11 + 1) [.int .i64 x_7] fun H_5 =>
  nn r0 fun b_13 o_12 =>
  ix (some ⟨b_13, (o_12 + 2), none⟩) 65 r_1 1 fun b_14 o_13 =>
  stC H_5 b_14 o_13 [.slice none 0 0] fun H_6 =>
  l1 r0 a_2p a_2n a_2c (a_2n : Int) 0 H_6
theorem heaps_radix_pop.run_eq {r0 : Option Addr} { E : Value → Hp → Prop} {H : Hp} {K : Hp → Prop} (h : heaps_radix_pop.run_t (fun r0 t59p t59n t59c t60 t61 H => heaps_radix_pop.l1 r0 t59p t59n t59c t60 t61  E H K) r0  E H K) : heaps_radix_pop.run r0  E H K := by
  have k1 : ∀ G : List Nat → Fr → Hp → Prop, nodeR P0 T0 heaps_radix_pop.A [[0, 1, 1, 1, 1, 1]] G heaps_radix_pop.code [] [] (heaps_radix_pop.rq E K) (argF 0 [.pointer r0]) H = heaps_radix_pop.run_t (fun r0 t59p t59n t59c t60 t61 H => G [0, 1, 1, 1, 1, 1] [(0, .pointer r0), (59, .slice t59p t59n t59c), (60, .int .i64 t60), (61, .int .i64 t61)] H) r0  E H K := fun G => by kernel_rfl
  have k2 : heaps_radix_pop.run_t (fun r0 t59p t59n t59c t60 t61 H => heaps_radix_pop.l1 r0 t59p t59n t59c t60 t61  E H K) r0  E H K = heaps_radix_pop.run_t (fun r0 t59p t59n t59c t60 t61 H => (fun q F H => nodeM P0 T0 heaps_radix_pop.A heaps_radix_pop.code q.reverse [] (heaps_radix_pop.rq E K) F H) [0, 1, 1, 1, 1, 1] [(0, .pointer r0), (59, .slice t59p t59n t59c), (60, .int .i64 t60), (61, .int .i64 t61)] H) r0  E H K := by kernel_rfl
  exact nodeR_imp heaps_radix_pop.nok rfl ((k1 _).mpr (k2.mp h))
def heaps_radix_pop.b1_t  (r0 : Option Addr) (t59p : Option Addr) (t59n : Nat) (t59c : Nat) (t60 : Int) (t61 : Int) (X1 : Fr → Hp → Prop) (E : Value → Hp → Prop) (H : Hp) (K : Hp → Prop) : Prop :=
  bcase (decide ((t61 : Int) < t60)) (
  ix t59p t59n t61 1 fun b_1 o_1 =>
  ldI .i64 (H.get b_1 o_1) fun x_1 =>
  heaps_radix_push.call r0 x_1 E H fun H_1 =>
  X1 (heaps_radix_pop.f1 r0 t59p t59n t59c t60 (IntKind.wrap .i64 (t61 + 1))) H_1)
  (K H)
theorem heaps_radix_pop.b1_eq {r0 : Option Addr} {t59p : Option Addr} {t59n : Nat} {t59c : Nat} {t60 : Int} {t61 : Int} {X1 : Fr → Hp → Prop} { E : Value → Hp → Prop} {H : Hp} {K : Hp → Prop} (h : heaps_radix_pop.b1_t  r0 t59p t59n t59c t60 t61 X1 E H K) : heaps_radix_pop.b1 r0 t59p t59n t59c t60 t61 X1 E H K := by
  have k1 : ∀ G : List Nat → Fr → Hp → Prop, nodeR P0 T0 heaps_radix_pop.A [[0, 1, 1, 1, 1, 1]] G heaps_radix_pop.code [1, 1, 1, 1, 1, 0, 0] [X1] (heaps_radix_pop.rq E K) (heaps_radix_pop.f1 r0 t59p t59n t59c t60 t61) H = heaps_radix_pop.b1_t  r0 t59p t59n t59c t60 t61 X1 E H K := fun G => by kernel_rfl
  exact nodeR_imp heaps_radix_pop.nok rfl ((k1 _).mpr h)
/-! ### (*compass/heaps.radix).push (102) -/
noncomputable def heaps_radix_push.A : An := { live := [(0, [0, 1])], ord := [(0, [0, 1, 2, 4, 5, 6, 8, 9, 12, 15, 16, 3, 7, 10, 11, 13, 14, 17, 18])], stb := [], pre := [(0, [[], [], [], [1, 2], [], [], [], [1, 2, 3, 5, 6], [4], [4, 8], [1, 2, 3, 4, 5, 6, 7, 8, 9], [1, 2, 3, 4, 5, 6, 7, 8, 9, 10], [], [12], [1, 2, 3, 4, 5, 6, 7, 8, 9, 10, 11, 12, 13], [0], [0, 15], [0, 1, 2, 3, 4, 5, 6, 7, 8, 9, 10, 11, 12, 13, 14, 15, 16], [0, 1, 2, 3, 4, 5, 6, 7, 8, 9, 10, 11, 12, 13, 14, 15, 16, 17]])], alt := [(0, .one 13 [3, 7] [0, 1, 2, 4, 5, 6, 8, 9, 12, 15, 16, 3, 7, 10, 11] [14, 17, 18])] }
noncomputable def heaps_radix_push.code : Code := bodyOf Go.Proofs.Try.f102
theorem heaps_radix_push.ok : okCode heaps_radix_push.A 22 heaps_radix_push.code = true := by kernel_rfl
def heaps_radix_push.rq (E : Value → Hp → Prop) (K : Hp → Prop) : Ex → Fr → Hp → Prop := retQ T0 [] [] (fun r H => ldR (.tup []) r fun u => K  H) E
def heaps_radix_push.run (r0 : Option Addr) (h1 : Int) (E : Value → Hp → Prop) (H : Hp) (K : Hp → Prop) : Prop := nodeM P0 T0 heaps_radix_push.A heaps_radix_push.code [] [] (heaps_radix_push.rq E K) (argF 0 [.pointer r0, .int .i64 h1]) H
theorem heaps_radix_push.of {r0 : Option Addr} {h1 : Int} {E : Value → Hp → Prop} {H : Hp} {K : Hp → Prop} (h : heaps_radix_push.run r0 h1 E H K) : heaps_radix_push.call r0 h1 E H K :=
  callW_of T0_ok P0_mixed (A := heaps_radix_push.A) (fn := Go.Proofs.Try.f102) Go.Proofs.Try.func102 rfl heaps_radix_push.ok rfl h
theorem heaps_radix_push.nok : nodesOk heaps_radix_push.code [] = true := by kernel_rfl
def heaps_radix_push.run_t  (r0 : Option Addr) (h1 : Int)  (E : Value → Hp → Prop) (H : Hp) (K : Hp → Prop) : Prop :=
  nn r0 fun b_1 o_1 =>
  nn r0 fun b_2 o_2 =>
  (
  nw H ⟨[.int .i64 h1], 3⟩ fun b_3 H_1 =>
  heaps_radix_place.call r0 h1 E H_1 fun r_1 H_2 =>
  heaps_radix_place.call r0 h1 E H_2 fun r_2 H_3 =>
  ix (some ⟨b_1, (o_1 + 2), none⟩) 65 r_2 1 fun b_4 o_3 =>
  ldS (H_3.get b_4 o_3) fun x_1p x_1n x_1c =>
  appM 3 [.i .i64] 8 x_1p x_1n x_1c (some ⟨b_3, 0, none⟩) 1 H_3 fun a_1p a_1n a_1c H_4 =>
  ix (some ⟨b_2, (o_2 + 2), none⟩) 65 r_1 1 fun b_5 o_4 =>
  stC H_4 b_5 o_4 [.slice a_1p a_1n a_1c] fun H_5 =>
  K H_5) ∧
  heaps_radix_place.call r0 h1 E H fun r_3 H_6 =>
  (
  nw H_6 ⟨[.int .i64 h1], 3⟩ fun b_6 H_7 =>
  heaps_radix_place.call r0 h1 E H_7 fun r_4 H_8 =>
  ix (some ⟨b_1, (o_1 + 2), none⟩) 65 r_4 1 fun b_7 o_5 =>
  ldS (H_8.get b_7 o_5) fun x_2p x_2n x_2c =>
  appM 3 [.i .i64] 8 x_2p x_2n x_2c (some ⟨b_6, 0, none⟩) 1 H_8 fun a_2p a_2n a_2c H_9 =>
  ix (some ⟨b_2, (o_2 + 2), none⟩) 65 r_3 1 fun b_8 o_6 =>
  stC H_9 b_8 o_6 [.slice a_2p a_2n a_2c] fun H_10 =>
  K H_10) ∧
  heaps_radix_place.call r0 h1 E H_6 fun r_5 H_11 =>
  ix (some ⟨b_1, (o_1 + 2), none⟩) 65 r_5 1 fun b_9 o_7 =>
  ldS (H_11.get b_9 o_7) fun x_3p x_3n x_3c =>
  nw H_11 ⟨[.int .i64 h1], 3⟩ fun b_10 H_12 =>
  appM 3 [.i .i64] 8 x_3p x_3n x_3c (some ⟨b_10, 0, none⟩) 1 H_12 fun a_3p a_3n a_3c H_13 =>
  ix (some ⟨b_2, (o_2 + 2), none⟩) 65 r_3 1 fun b_11 o_8 =>
  stC H_13 b_11 o_8 [.slice a_3p a_3n a_3c] fun H_14 =>
  K H_14
theorem heaps_radix_push.run_eq {r0 : Option Addr} {h1 : Int} { E : Value → Hp → Prop} {H : Hp} {K : Hp → Prop} (h : heaps_radix_push.run_t  r0 h1  E H K) : heaps_radix_push.run r0 h1  E H K := by
  have k1 : ∀ G : List Nat → Fr → Hp → Prop, nodeR P0 T0 heaps_radix_push.A [] G heaps_radix_push.code [] [] (heaps_radix_push.rq E K) (argF 0 [.pointer r0, .int .i64 h1]) H = heaps_radix_push.run_t  r0 h1  E H K := fun G => by kernel_rfl
  exact nodeR_imp heaps_radix_push.nok rfl ((k1 _).mpr h)
/-! ### (*compass/heaps.radix).top (103) -/
noncomputable def heaps_radix_top.A : An := { live := [(0, [0]), (1, [0]), (2, [0, 3, 4])], ord := [], stb := [], pre := [] }
noncomputable def heaps_radix_top.code : Code := bodyOf Go.Proofs.Try.f103
theorem heaps_radix_top.ok : okCode heaps_radix_top.A 19 heaps_radix_top.code = true := by kernel_rfl
def heaps_radix_top.rq (E : Value → Hp → Prop) (K : Int → Hp → Prop) : Ex → Fr → Hp → Prop := retQ T0 [.tmp 2] [3] (fun r H => ldR (.one false [.i .i64]) r fun u => K (asI u) H) E
def heaps_radix_top.run (r0 : Option Addr) (E : Value → Hp → Prop) (H : Hp) (K : Int → Hp → Prop) : Prop := nodeM P0 T0 heaps_radix_top.A heaps_radix_top.code [] [] (heaps_radix_top.rq E K) (argF 0 [.pointer r0]) H
theorem heaps_radix_top.of {r0 : Option Addr} {E : Value → Hp → Prop} {H : Hp} {K : Int → Hp → Prop} (h : heaps_radix_top.run r0 E H K) : heaps_radix_top.call r0 E H K :=
  callW_of T0_ok P0_mixed (A := heaps_radix_top.A) (fn := Go.Proofs.Try.f103) Go.Proofs.Try.func103 rfl heaps_radix_top.ok rfl h
theorem heaps_radix_top.nok : nodesOk heaps_radix_top.code [] = true := by kernel_rfl
def heaps_radix_top.run_t  (r0 : Option Addr)  (E : Value → Hp → Prop) (H : Hp) (K : Int → Hp → Prop) : Prop :=
  heaps_radix_best.call r0 E H fun r_1 r_2 H_1 =>
  nn r0 fun b_1 o_1 =>
  ix (some ⟨b_1, (o_1 + 2), none⟩) 65 r_1 1 fun b_2 o_2 =>
  ldS (H_1.get b_2 o_2) fun x_1p x_1n x_1c =>
  ix x_1p x_1n r_2 1 fun b_3 o_3 =>
  ldI .i64 (H_1.get b_3 o_3) fun x_2 =>
  K x_2 H_1
theorem heaps_radix_top.run_eq {r0 : Option Addr} { E : Value → Hp → Prop} {H : Hp} {K : Int → Hp → Prop} (h : heaps_radix_top.run_t  r0  E H K) : heaps_radix_top.run r0  E H K := by
  have k1 : ∀ G : List Nat → Fr → Hp → Prop, nodeR P0 T0 heaps_radix_top.A [] G heaps_radix_top.code [] [] (heaps_radix_top.rq E K) (argF 0 [.pointer r0]) H = heaps_radix_top.run_t  r0  E H K := fun G => by kernel_rfl
  exact nodeR_imp heaps_radix_top.nok rfl ((k1 _).mpr h)
/-! ### (*compass/heaps.radix).best (104) -/
noncomputable def heaps_radix_best.A : An := { live := [(0, [0]), (1, [0]), (2, [0, 4]), (3, [0, 4]), (4, [0, 4]), (5, [0, 4, 5]), (6, [0, 4, 5, 23, 24, 25]), (7, [0, 4, 5, 23, 24, 25]), (8, [0, 4, 5, 6, 7, 23, 24, 25]), (9, [0, 4, 6, 23, 24, 25]), (10, [0, 4, 5, 23, 24, 25]), (11, [4, 5])], ord := [(8, [0, 1, 2, 3, 4, 5, 6, 7, 8, 9, 10, 11, 12, 13, 14, 15, 16])], stb := [], pre := [(8, [[], [0], [0, 1], [0, 1, 2], [0, 1, 2, 3], [0, 1, 2, 3, 4], [], [], [], [7], [7, 9], [7, 8, 9, 10], [7, 8, 9, 10, 11], [], [7, 8, 9, 10, 11, 12, 13], [7, 8, 9, 10, 11, 12, 13, 14], [0, 1, 2, 3, 4, 5, 6, 7, 8, 9, 10, 11, 12, 13, 14, 15]])] }
noncomputable def heaps_radix_best.code : Code := bodyOf Go.Proofs.Try.f104
theorem heaps_radix_best.ok : okCode heaps_radix_best.A 51 heaps_radix_best.code = true := by kernel_rfl
def heaps_radix_best.rq (E : Value → Hp → Prop) (K : Int → Int → Hp → Prop) : Ex → Fr → Hp → Prop := retQ T0 [.tmp 2, .tmp 3] [3, 3] (fun r H => ldR (.tup [(false, [.i .i64]), (false, [.i .i64])]) r fun u => K (asI (tupV u 0)) (asI (tupV u 1)) H) E
def heaps_radix_best.run (r0 : Option Addr) (E : Value → Hp → Prop) (H : Hp) (K : Int → Int → Hp → Prop) : Prop := nodeM P0 T0 heaps_radix_best.A heaps_radix_best.code [] [] (heaps_radix_best.rq E K) (argF 0 [.pointer r0]) H
theorem heaps_radix_best.of {r0 : Option Addr} {E : Value → Hp → Prop} {H : Hp} {K : Int → Int → Hp → Prop} (h : heaps_radix_best.run r0 E H K) : heaps_radix_best.call r0 E H K :=
  callW_of T0_ok P0_mixed (A := heaps_radix_best.A) (fn := Go.Proofs.Try.f104) Go.Proofs.Try.func104 rfl heaps_radix_best.ok rfl h
noncomputable def heaps_radix_best.f1 (r0 : Option Addr) (b4 : Int) : Fr := [(0, .pointer r0), (4, .int .i64 b4)]
noncomputable def heaps_radix_best.f2 (r0 : Option Addr) (b4 : Int) (at5 : Int) (t23p : Option Addr) (t23n : Nat) (t23c : Nat) (t24 : Int) (t25 : Int) : Fr := [(0, .pointer r0), (4, .int .i64 b4), (5, .int .i64 at5), (23, .slice t23p t23n t23c), (24, .int .i64 t24), (25, .int .i64 t25)]
def heaps_radix_best.j1 (r0 : Option Addr) (b4 : Int)  (E : Value → Hp → Prop) (H : Hp) (K : Int → Int → Hp → Prop) : Prop := nodeM P0 T0 heaps_radix_best.A heaps_radix_best.code [1, 1, 1] [] (heaps_radix_best.rq E K) [(0, .pointer r0), (4, .int .i64 b4)] H
def heaps_radix_best.j2 (r0 : Option Addr) (b4 : Int) (at5 : Int) (t23p : Option Addr) (t23n : Nat) (t23c : Nat) (t24 : Int) (t25 : Int) (X1 : Fr → Hp → Prop) (E : Value → Hp → Prop) (H : Hp) (K : Int → Int → Hp → Prop) : Prop := nodeM P0 T0 heaps_radix_best.A heaps_radix_best.code [1, 1, 1, 1, 0, 1, 0, 0, 1, 1, 1] [X1] (heaps_radix_best.rq E K) [(0, .pointer r0), (4, .int .i64 b4), (5, .int .i64 at5), (23, .slice t23p t23n t23c), (24, .int .i64 t24), (25, .int .i64 t25)] H
def heaps_radix_best.l1 (r0 : Option Addr) (b4 : Int)  (E : Value → Hp → Prop) (H : Hp) (K : Int → Int → Hp → Prop) : Prop := nodeM P0 T0 heaps_radix_best.A heaps_radix_best.code [1, 1, 0, 0] [] (heaps_radix_best.rq E K) (heaps_radix_best.f1 r0 b4) H
def heaps_radix_best.b1 (r0 : Option Addr) (b4 : Int)  (X1 : Fr → Hp → Prop) (E : Value → Hp → Prop) (H : Hp) (K : Int → Int → Hp → Prop) : Prop := nodeM P0 T0 heaps_radix_best.A heaps_radix_best.code [1, 1, 0, 0, 0] [X1] (heaps_radix_best.rq E K) (heaps_radix_best.f1 r0 b4) H
theorem heaps_radix_best.l1_rule { E : Value → Hp → Prop} {K : Int → Int → Hp → Prop} (I : (Option Addr) → Int → Hp → Prop) (μ : (Option Addr) → Int → Hp → Nat)
    (h : ∀ r0 b4 H, I r0 b4 H → ∀ X : Fr → Hp → Prop, (∀ r0' b4' H', I r0' b4' H' → μ r0' b4' H' < μ r0 b4 H → X (heaps_radix_best.f1 r0' b4') H') → heaps_radix_best.b1 r0 b4  X E H K)
    {r0 : Option Addr} {b4 : Int} {H : Hp} (hI : I r0 b4 H) : heaps_radix_best.l1 r0 b4  E H K :=
  loop_rule (S := (Option Addr) × Int) (fun s => heaps_radix_best.f1 (s.1) (s.2)) (fun s H => I (s.1) (s.2) H) (fun s H => μ (s.1) (s.2) H) (fun s H hI X hX => h (s.1) (s.2) H hI X fun r0' b4' H' hI' hlt => hX (r0', b4') H' hI' hlt) (s := (r0, b4)) rfl hI
def heaps_radix_best.l2 (r0 : Option Addr) (b4 : Int) (at5 : Int) (t23p : Option Addr) (t23n : Nat) (t23c : Nat) (t24 : Int) (t25 : Int)  (E : Value → Hp → Prop) (H : Hp) (K : Int → Int → Hp → Prop) : Prop := nodeM P0 T0 heaps_radix_best.A heaps_radix_best.code [1, 1, 1, 1, 0, 1, 0] [] (heaps_radix_best.rq E K) (heaps_radix_best.f2 r0 b4 at5 t23p t23n t23c t24 t25) H
def heaps_radix_best.b2 (r0 : Option Addr) (b4 : Int) (at5 : Int) (t23p : Option Addr) (t23n : Nat) (t23c : Nat) (t24 : Int) (t25 : Int)  (X1 : Fr → Hp → Prop) (E : Value → Hp → Prop) (H : Hp) (K : Int → Int → Hp → Prop) : Prop := nodeM P0 T0 heaps_radix_best.A heaps_radix_best.code [1, 1, 1, 1, 0, 1, 0, 0] [X1] (heaps_radix_best.rq E K) (heaps_radix_best.f2 r0 b4 at5 t23p t23n t23c t24 t25) H
theorem heaps_radix_best.l2_rule { E : Value → Hp → Prop} {K : Int → Int → Hp → Prop} (I : (Option Addr) → Int → Int → (Option Addr) → Nat → Nat → Int → Int → Hp → Prop) (μ : (Option Addr) → Int → Int → (Option Addr) → Nat → Nat → Int → Int → Hp → Nat)
    (h : ∀ r0 b4 at5 t23p t23n t23c t24 t25 H, I r0 b4 at5 t23p t23n t23c t24 t25 H → ∀ X : Fr → Hp → Prop, (∀ r0' b4' at5' t23p' t23n' t23c' t24' t25' H', I r0' b4' at5' t23p' t23n' t23c' t24' t25' H' → μ r0' b4' at5' t23p' t23n' t23c' t24' t25' H' < μ r0 b4 at5 t23p t23n t23c t24 t25 H → X (heaps_radix_best.f2 r0' b4' at5' t23p' t23n' t23c' t24' t25') H') → heaps_radix_best.b2 r0 b4 at5 t23p t23n t23c t24 t25  X E H K)
    {r0 : Option Addr} {b4 : Int} {at5 : Int} {t23p : Option Addr} {t23n : Nat} {t23c : Nat} {t24 : Int} {t25 : Int} {H : Hp} (hI : I r0 b4 at5 t23p t23n t23c t24 t25 H) : heaps_radix_best.l2 r0 b4 at5 t23p t23n t23c t24 t25  E H K :=
  loop_rule (S := (Option Addr) × Int × Int × (Option Addr) × Nat × Nat × Int × Int) (fun s => heaps_radix_best.f2 (s.1) (s.2.1) (s.2.2.1) (s.2.2.2.1) (s.2.2.2.2.1) (s.2.2.2.2.2.1) (s.2.2.2.2.2.2.1) (s.2.2.2.2.2.2.2)) (fun s H => I (s.1) (s.2.1) (s.2.2.1) (s.2.2.2.1) (s.2.2.2.2.1) (s.2.2.2.2.2.1) (s.2.2.2.2.2.2.1) (s.2.2.2.2.2.2.2) H) (fun s H => μ (s.1) (s.2.1) (s.2.2.1) (s.2.2.2.1) (s.2.2.2.2.1) (s.2.2.2.2.2.1) (s.2.2.2.2.2.2.1) (s.2.2.2.2.2.2.2) H) (fun s H hI X hX => h (s.1) (s.2.1) (s.2.2.1) (s.2.2.2.1) (s.2.2.2.2.1) (s.2.2.2.2.2.1) (s.2.2.2.2.2.2.1) (s.2.2.2.2.2.2.2) H hI X fun r0' b4' at5' t23p' t23n' t23c' t24' t25' H' hI' hlt => hX (r0', b4', at5', t23p', t23n', t23c', t24', t25') H' hI' hlt) (s := (r0, b4, at5, t23p, t23n, t23c, t24, t25)) rfl hI
theorem heaps_radix_best.nok : nodesOk heaps_radix_best.code [[0, 0, 1, 1], [1, 1, 1], [0, 1, 0, 1, 1, 1, 1], [1, 1, 1, 0, 0, 1, 0, 1, 1, 1, 1]] = true := by kernel_rfl
def heaps_radix_best.run_t (l1 : (Option Addr) → Int → Hp → Prop) (r0 : Option Addr)  (E : Value → Hp → Prop) (H : Hp) (K : Int → Int → Hp → Prop) : Prop :=
  l1 r0 0 H
theorem heaps_radix_best.run_eq {r0 : Option Addr} { E : Value → Hp → Prop} {H : Hp} {K : Int → Int → Hp → Prop} (h : heaps_radix_best.run_t (fun r0 b4 H => heaps_radix_best.l1 r0 b4  E H K) r0  E H K) : heaps_radix_best.run r0  E H K := by
  have k1 : ∀ G : List Nat → Fr → Hp → Prop, nodeR P0 T0 heaps_radix_best.A [[0, 0, 1, 1], [1, 1, 1], [0, 1, 0, 1, 1, 1, 1], [1, 1, 1, 0, 0, 1, 0, 1, 1, 1, 1]] G heaps_radix_best.code [] [] (heaps_radix_best.rq E K) (argF 0 [.pointer r0]) H = heaps_radix_best.run_t (fun r0 b4 H => G [0, 0, 1, 1] [(0, .pointer r0), (4, .int .i64 b4)] H) r0  E H K := fun G => by kernel_rfl
  have k2 : heaps_radix_best.run_t (fun r0 b4 H => heaps_radix_best.l1 r0 b4  E H K) r0  E H K = heaps_radix_best.run_t (fun r0 b4 H => (fun q F H => nodeM P0 T0 heaps_radix_best.A heaps_radix_best.code q.reverse [] (heaps_radix_best.rq E K) F H) [0, 0, 1, 1] [(0, .pointer r0), (4, .int .i64 b4)] H) r0  E H K := by kernel_rfl
  exact nodeR_imp heaps_radix_best.nok rfl ((k1 _).mpr (k2.mp h))
def heaps_radix_best.j1_t (l2 : (Option Addr) → Int → Int → (Option Addr) → Nat → Nat → Int → Int → Hp → Prop) (r0 : Option Addr) (b4 : Int)  (E : Value → Hp → Prop) (H : Hp) (K : Int → Int → Hp → Prop) : Prop :=
  nn r0 fun b_1 o_1 =>
  ix (some ⟨b_1, (o_1 + 2), none⟩) 65 b4 1 fun b_2 o_2 =>
  ldS (H.get b_2 o_2) fun x_1p x_1n x_1c =>
  l2 r0 b4 0 x_1p x_1n x_1c (x_1n : Int) 0 H
theorem heaps_radix_best.j1_eq {r0 : Option Addr} {b4 : Int} { E : Value → Hp → Prop} {H : Hp} {K : Int → Int → Hp → Prop} (h : heaps_radix_best.j1_t (fun r0 b4 at5 t23p t23n t23c t24 t25 H => heaps_radix_best.l2 r0 b4 at5 t23p t23n t23c t24 t25  E H K) r0 b4  E H K) : heaps_radix_best.j1 r0 b4  E H K := by
  have k1 : ∀ G : List Nat → Fr → Hp → Prop, nodeR P0 T0 heaps_radix_best.A [[0, 0, 1, 1], [1, 1, 1], [0, 1, 0, 1, 1, 1, 1], [1, 1, 1, 0, 0, 1, 0, 1, 1, 1, 1]] G heaps_radix_best.code [1, 1, 1] [] (heaps_radix_best.rq E K) [(0, .pointer r0), (4, .int .i64 b4)] H = heaps_radix_best.j1_t (fun r0 b4 at5 t23p t23n t23c t24 t25 H => G [0, 1, 0, 1, 1, 1, 1] [(0, .pointer r0), (4, .int .i64 b4), (5, .int .i64 at5), (23, .slice t23p t23n t23c), (24, .int .i64 t24), (25, .int .i64 t25)] H) r0 b4  E H K := fun G => by kernel_rfl
  have k2 : heaps_radix_best.j1_t (fun r0 b4 at5 t23p t23n t23c t24 t25 H => heaps_radix_best.l2 r0 b4 at5 t23p t23n t23c t24 t25  E H K) r0 b4  E H K = heaps_radix_best.j1_t (fun r0 b4 at5 t23p t23n t23c t24 t25 H => (fun q F H => nodeM P0 T0 heaps_radix_best.A heaps_radix_best.code q.reverse [] (heaps_radix_best.rq E K) F H) [0, 1, 0, 1, 1, 1, 1] [(0, .pointer r0), (4, .int .i64 b4), (5, .int .i64 at5), (23, .slice t23p t23n t23c), (24, .int .i64 t24), (25, .int .i64 t25)] H) r0 b4  E H K := by kernel_rfl
  exact nodeR_imp heaps_radix_best.nok rfl ((k1 _).mpr (k2.mp h))
def heaps_radix_best.j2_t  (r0 : Option Addr) (b4 : Int) (at5 : Int) (t23p : Option Addr) (t23n : Nat) (t23c : Nat) (t24 : Int) (t25 : Int) (X1 : Fr → Hp → Prop) (E : Value → Hp → Prop) (H : Hp) (K : Int → Int → Hp → Prop) : Prop :=
  X1 (heaps_radix_best.f2 r0 b4 at5 t23p t23n t23c t24 (IntKind.wrap .i64 (t25 + 1))) H
theorem heaps_radix_best.j2_eq {r0 : Option Addr} {b4 : Int} {at5 : Int} {t23p : Option Addr} {t23n : Nat} {t23c : Nat} {t24 : Int} {t25 : Int} {X1 : Fr → Hp → Prop} { E : Value → Hp → Prop} {H : Hp} {K : Int → Int → Hp → Prop} (h : heaps_radix_best.j2_t  r0 b4 at5 t23p t23n t23c t24 t25 X1 E H K) : heaps_radix_best.j2 r0 b4 at5 t23p t23n t23c t24 t25 X1 E H K := by
  have k1 : ∀ G : List Nat → Fr → Hp → Prop, nodeR P0 T0 heaps_radix_best.A [[0, 0, 1, 1], [1, 1, 1], [0, 1, 0, 1, 1, 1, 1], [1, 1, 1, 0, 0, 1, 0, 1, 1, 1, 1]] G heaps_radix_best.code [1, 1, 1, 1, 0, 1, 0, 0, 1, 1, 1] [X1] (heaps_radix_best.rq E K) [(0, .pointer r0), (4, .int .i64 b4), (5, .int .i64 at5), (23, .slice t23p t23n t23c), (24, .int .i64 t24), (25, .int .i64 t25)] H = heaps_radix_best.j2_t  r0 b4 at5 t23p t23n t23c t24 t25 X1 E H K := fun G => by kernel_rfl
  exact nodeR_imp heaps_radix_best.nok rfl ((k1 _).mpr h)
def heaps_radix_best.b1_t (j1 : (Option Addr) → Int → Hp → Prop) (r0 : Option Addr) (b4 : Int) (X1 : Fr → Hp → Prop) (E : Value → Hp → Prop) (H : Hp) (K : Int → Int → Hp → Prop) : Prop :=
  nn r0 fun b_1 o_1 =>
  ix (some ⟨b_1, (o_1 + 2), none⟩) 65 b4 1 fun b_2 o_2 =>
  ldS (H.get b_2 o_2) fun x_1p x_1n x_1c =>
  bcase (decide (((x_1n : Int) : Int) = 0)) (
  X1 (heaps_radix_best.f1 r0 (IntKind.wrap .i64 (b4 + 1))) H)
  (j1 r0 b4 H)
theorem heaps_radix_best.b1_eq {r0 : Option Addr} {b4 : Int} {X1 : Fr → Hp → Prop} { E : Value → Hp → Prop} {H : Hp} {K : Int → Int → Hp → Prop} (h : heaps_radix_best.b1_t (fun r0 b4 H => heaps_radix_best.j1 r0 b4  E H K) r0 b4 X1 E H K) : heaps_radix_best.b1 r0 b4 X1 E H K := by
  have k1 : ∀ G : List Nat → Fr → Hp → Prop, nodeR P0 T0 heaps_radix_best.A [[0, 0, 1, 1], [1, 1, 1], [0, 1, 0, 1, 1, 1, 1], [1, 1, 1, 0, 0, 1, 0, 1, 1, 1, 1]] G heaps_radix_best.code [1, 1, 0, 0, 0] [X1] (heaps_radix_best.rq E K) (heaps_radix_best.f1 r0 b4) H = heaps_radix_best.b1_t (fun r0 b4 H => G [1, 1, 1] [(0, .pointer r0), (4, .int .i64 b4)] H) r0 b4 X1 E H K := fun G => by kernel_rfl
  have k2 : heaps_radix_best.b1_t (fun r0 b4 H => heaps_radix_best.j1 r0 b4  E H K) r0 b4 X1 E H K = heaps_radix_best.b1_t (fun r0 b4 H => (fun q F H => nodeM P0 T0 heaps_radix_best.A heaps_radix_best.code q.reverse [X1] (heaps_radix_best.rq E K) F H) [1, 1, 1] [(0, .pointer r0), (4, .int .i64 b4)] H) r0 b4 X1 E H K := by kernel_rfl
  exact nodeR_imp heaps_radix_best.nok rfl ((k1 _).mpr (k2.mp h))
def heaps_radix_best.b2_t (j2 : (Option Addr) → Int → Int → (Option Addr) → Nat → Nat → Int → Int → Hp → Prop) (r0 : Option Addr) (b4 : Int) (at5 : Int) (t23p : Option Addr) (t23n : Nat) (t23c : Nat) (t24 : Int) (t25 : Int) (X1 : Fr → Hp → Prop) (E : Value → Hp → Prop) (H : Hp) (K : Int → Int → Hp → Prop) : Prop :=
  bcase (decide ((t25 : Int) < t24)) (
  ix t23p t23n t25 1 fun b_1 o_1 =>
  ldI .i64 (H.get b_1 o_1) fun x_1 =>
  nn r0 fun b_2 o_2 =>
  ldP (H.get b_2 o_2) fun x_2 =>
  nn x_2 fun b_3 o_3 =>
  nn r0 fun b_4 o_4 =>
  ix (some ⟨b_4, (o_4 + 2), none⟩) 65 b4 1 fun b_5 o_5 =>
  ldS (H.get b_5 o_5) fun x_3p x_3n x_3c =>
  ix x_3p x_3n at5 1 fun b_6 o_6 =>
  ldI .i64 (H.get b_6 o_6) fun x_4 =>
  heaps_keyed_ahead.call (some ⟨b_3, o_3, none⟩) x_1 x_4 E H fun r_1 H_1 =>
  bcase (r_1) (
  j2 r0 b4 t25 t23p t23n t23c t24 t25 H_1)
  (j2 r0 b4 at5 t23p t23n t23c t24 t25 H_1))
  (K b4 at5 H)
theorem heaps_radix_best.b2_eq {r0 : Option Addr} {b4 : Int} {at5 : Int} {t23p : Option Addr} {t23n : Nat} {t23c : Nat} {t24 : Int} {t25 : Int} {X1 : Fr → Hp → Prop} { E : Value → Hp → Prop} {H : Hp} {K : Int → Int → Hp → Prop} (h : heaps_radix_best.b2_t (fun r0 b4 at5 t23p t23n t23c t24 t25 H => heaps_radix_best.j2 r0 b4 at5 t23p t23n t23c t24 t25 X1 E H K) r0 b4 at5 t23p t23n t23c t24 t25 X1 E H K) : heaps_radix_best.b2 r0 b4 at5 t23p t23n t23c t24 t25 X1 E H K := by
  have k1 : ∀ G : List Nat → Fr → Hp → Prop, nodeR P0 T0 heaps_radix_best.A [[0, 0, 1, 1], [1, 1, 1], [0, 1, 0, 1, 1, 1, 1], [1, 1, 1, 0, 0, 1, 0, 1, 1, 1, 1]] G heaps_radix_best.code [1, 1, 1, 1, 0, 1, 0, 0] [X1] (heaps_radix_best.rq E K) (heaps_radix_best.f2 r0 b4 at5 t23p t23n t23c t24 t25) H = heaps_radix_best.b2_t (fun r0 b4 at5 t23p t23n t23c t24 t25 H => G [1, 1, 1, 0, 0, 1, 0, 1, 1, 1, 1] [(0, .pointer r0), (4, .int .i64 b4), (5, .int .i64 at5), (23, .slice t23p t23n t23c), (24, .int .i64 t24), (25, .int .i64 t25)] H) r0 b4 at5 t23p t23n t23c t24 t25 X1 E H K := fun G => by kernel_rfl
  have k2 : heaps_radix_best.b2_t (fun r0 b4 at5 t23p t23n t23c t24 t25 H => heaps_radix_best.j2 r0 b4 at5 t23p t23n t23c t24 t25 X1 E H K) r0 b4 at5 t23p t23n t23c t24 t25 X1 E H K = heaps_radix_best.b2_t (fun r0 b4 at5 t23p t23n t23c t24 t25 H => (fun q F H => nodeM P0 T0 heaps_radix_best.A heaps_radix_best.code q.reverse [X1] (heaps_radix_best.rq E K) F H) [1, 1, 1, 0, 0, 1, 0, 1, 1, 1, 1] [(0, .pointer r0), (4, .int .i64 b4), (5, .int .i64 at5), (23, .slice t23p t23n t23c), (24, .int .i64 t24), (25, .int .i64 t25)] H) r0 b4 at5 t23p t23n t23c t24 t25 X1 E H K := by kernel_rfl
  exact nodeR_imp heaps_radix_best.nok rfl ((k1 _).mpr (k2.mp h))
/-! ### (*compass/heaps.radix).place (105) -/
noncomputable def heaps_radix_place.A : An := { live := [(0, [0, 1]), (1, [0, 1])], ord := [(1, [0, 1, 2, 3, 4, 5, 6, 7, 8, 9, 10, 11, 12, 13, 14, 15, 16, 17, 18])], stb := [], pre := [(1, [[], [0], [0, 1], [0, 1, 2], [0, 1, 2, 3], [0, 1, 2, 3, 4], [0, 1, 2, 3, 4, 5], [0, 1, 2, 3, 4, 5, 6], [], [0, 1, 2, 3, 4, 5, 6, 7, 8], [0, 1, 2, 3, 4, 5, 6, 7, 8, 9], [], [11], [11, 12], [11, 12, 13], [0, 1, 2, 3, 4, 5, 6, 7, 8, 9, 10, 11, 12, 13, 14], [0, 1, 2, 3, 4, 5, 6, 7, 8, 9, 10, 11, 12, 13, 14, 15], [0, 1, 2, 3, 4, 5, 6, 7, 8, 9, 10, 11, 12, 13, 14, 15, 16], [0, 1, 2, 3, 4, 5, 6, 7, 8, 9, 10, 11, 12, 13, 14, 15, 16, 17]])] }
noncomputable def heaps_radix_place.code : Code := bodyOf Go.Proofs.Try.f105
theorem heaps_radix_place.ok : okCode heaps_radix_place.A 23 heaps_radix_place.code = true := by kernel_rfl
def heaps_radix_place.rq (E : Value → Hp → Prop) (K : Int → Hp → Prop) : Ex → Fr → Hp → Prop := retQ T0 [.tmp 4] [3] (fun r H => ldR (.one false [.i .i64]) r fun u => K (asI u) H) E
def heaps_radix_place.run (r0 : Option Addr) (h1 : Int) (E : Value → Hp → Prop) (H : Hp) (K : Int → Hp → Prop) : Prop := nodeM P0 T0 heaps_radix_place.A heaps_radix_place.code [] [] (heaps_radix_place.rq E K) (argF 0 [.pointer r0, .int .i64 h1]) H
theorem heaps_radix_place.of {r0 : Option Addr} {h1 : Int} {E : Value → Hp → Prop} {H : Hp} {K : Int → Hp → Prop} (h : heaps_radix_place.run r0 h1 E H K) : heaps_radix_place.call r0 h1 E H K :=
  callW_of T0_ok P0_mixed (A := heaps_radix_place.A) (fn := Go.Proofs.Try.f105) Go.Proofs.Try.func105 rfl heaps_radix_place.ok rfl h
theorem heaps_radix_place.nok : nodesOk heaps_radix_place.code [] = true := by kernel_rfl
def heaps_radix_place.run_t  (r0 : Option Addr) (h1 : Int)  (E : Value → Hp → Prop) (H : Hp) (K : Int → Hp → Prop) : Prop :=
  nn r0 fun b_1 o_1 =>
  ldP (H.get b_1 o_1) fun x_1 =>
  nn x_1 fun b_2 o_2 =>
  ldS (H.get b_2 o_2) fun x_2p x_2n x_2c =>
  ix x_2p x_2n h1 1 fun b_3 o_3 =>
  ldI .i64 (H.get b_3 o_3) fun x_3 =>
  nn r0 fun b_4 o_4 =>
  ldI .i64 (H.get b_4 (o_4 + 1)) fun x_4 =>
  bits_Len64.call (IntKind.wrap .u64 (IntKind.wrap .i64 (((BitVec.ofInt (IntKind.bits .i64) x_3 ^^^ BitVec.ofInt (IntKind.bits .i64) x_4).toNat : Int)))) E H fun r_1 H_1 =>
  K r_1 H_1
theorem heaps_radix_place.run_eq {r0 : Option Addr} {h1 : Int} { E : Value → Hp → Prop} {H : Hp} {K : Int → Hp → Prop} (h : heaps_radix_place.run_t  r0 h1  E H K) : heaps_radix_place.run r0 h1  E H K := by
  have k1 : ∀ G : List Nat → Fr → Hp → Prop, nodeR P0 T0 heaps_radix_place.A [] G heaps_radix_place.code [] [] (heaps_radix_place.rq E K) (argF 0 [.pointer r0, .int .i64 h1]) H = heaps_radix_place.run_t  r0 h1  E H K := fun G => by kernel_rfl
  exact nodeR_imp heaps_radix_place.nok rfl ((k1 _).mpr h)
/-! ### math/bits.Len64 (106) -/
noncomputable def bits_Len64.A : An := { live := [(0, [0]), (1, [0, 2]), (2, [0]), (3, [0]), (4, [0, 2]), (5, [0, 2]), (6, [0, 2]), (7, [0, 2]), (8, [0, 2]), (9, [0, 2]), (10, [0, 2])], ord := [], stb := [], pre := [] }
noncomputable def bits_Len64.code : Code := bodyOf Go.Proofs.Try.f106
theorem bits_Len64.ok : okCode bits_Len64.A 25 bits_Len64.code = true := by kernel_rfl
def bits_Len64.rq (E : Value → Hp → Prop) (K : Int → Hp → Prop) : Ex → Fr → Hp → Prop := retQ T0 [.tmp 2] [3] (fun r H => ldR (.one false [.i .i64]) r fun u => K (asI u) H) E
def bits_Len64.run (x0 : Int) (E : Value → Hp → Prop) (H : Hp) (K : Int → Hp → Prop) : Prop := nodeM P0 T0 bits_Len64.A bits_Len64.code [] [] (bits_Len64.rq E K) (argF 0 [.int .u64 x0]) H
theorem bits_Len64.of {x0 : Int} {E : Value → Hp → Prop} {H : Hp} {K : Int → Hp → Prop} (h : bits_Len64.run x0 E H K) : bits_Len64.call x0 E H K :=
  callW_of T0_ok P0_mixed (A := bits_Len64.A) (fn := Go.Proofs.Try.f106) Go.Proofs.Try.func106 rfl bits_Len64.ok rfl h
def bits_Len64.j1 (x0 : Int) (n2 : Int)  (E : Value → Hp → Prop) (H : Hp) (K : Int → Hp → Prop) : Prop := nodeM P0 T0 bits_Len64.A bits_Len64.code [1, 1] [] (bits_Len64.rq E K) [(0, .int .u64 x0), (2, .int .i64 n2)] H
def bits_Len64.j2 (x0 : Int) (n2 : Int)  (E : Value → Hp → Prop) (H : Hp) (K : Int → Hp → Prop) : Prop := nodeM P0 T0 bits_Len64.A bits_Len64.code [1, 1, 1] [] (bits_Len64.rq E K) [(0, .int .u64 x0), (2, .int .i64 n2)] H
def bits_Len64.j3 (x0 : Int) (n2 : Int)  (E : Value → Hp → Prop) (H : Hp) (K : Int → Hp → Prop) : Prop := nodeM P0 T0 bits_Len64.A bits_Len64.code [1, 1, 1, 1] [] (bits_Len64.rq E K) [(0, .int .u64 x0), (2, .int .i64 n2)] H
theorem bits_Len64.nok : nodesOk bits_Len64.code [[1, 1], [1, 1, 1], [1, 1, 1, 1]] = true := by kernel_rfl
def bits_Len64.run_t (j1 : Int → Int → Hp → Prop) (x0 : Int)  (E : Value → Hp → Prop) (H : Hp) (K : Int → Hp → Prop) : Prop :=
  bcase (decide ((4294967296 : Int) ≤ x0)) (
  (0 : Int) ≤ 32 ∧
  j1 (Int.fdiv x0 (2 ^ (min 32 (IntKind.bits .u64)))) 32 H)
  (j1 x0 0 H)
theorem bits_Len64.run_eq {x0 : Int} { E : Value → Hp → Prop} {H : Hp} {K : Int → Hp → Prop} (h : bits_Len64.run_t (fun x0 n2 H => bits_Len64.j1 x0 n2  E H K) x0  E H K) : bits_Len64.run x0  E H K := by
  have k1 : ∀ G : List Nat → Fr → Hp → Prop, nodeR P0 T0 bits_Len64.A [[1, 1], [1, 1, 1], [1, 1, 1, 1]] G bits_Len64.code [] [] (bits_Len64.rq E K) (argF 0 [.int .u64 x0]) H = bits_Len64.run_t (fun x0 n2 H => G [1, 1] [(0, .int .u64 x0), (2, .int .i64 n2)] H) x0  E H K := fun G => by kernel_rfl
  have k2 : bits_Len64.run_t (fun x0 n2 H => bits_Len64.j1 x0 n2  E H K) x0  E H K = bits_Len64.run_t (fun x0 n2 H => (fun q F H => nodeM P0 T0 bits_Len64.A bits_Len64.code q.reverse [] (bits_Len64.rq E K) F H) [1, 1] [(0, .int .u64 x0), (2, .int .i64 n2)] H) x0  E H K := by kernel_rfl
  exact nodeR_imp bits_Len64.nok rfl ((k1 _).mpr (k2.mp h))
def bits_Len64.j1_t (j2 : Int → Int → Hp → Prop) (x0 : Int) (n2 : Int)  (E : Value → Hp → Prop) (H : Hp) (K : Int → Hp → Prop) : Prop :=
  bcase (decide ((65536 : Int) ≤ x0)) (
  (0 : Int) ≤ 16 ∧
  j2 (Int.fdiv x0 (2 ^ (min 16 (IntKind.bits .u64)))) (IntKind.wrap .i64 (n2 + 16)) H)
  (j2 x0 n2 H)
theorem bits_Len64.j1_eq {x0 : Int} {n2 : Int} { E : Value → Hp → Prop} {H : Hp} {K : Int → Hp → Prop} (h : bits_Len64.j1_t (fun x0 n2 H => bits_Len64.j2 x0 n2  E H K) x0 n2  E H K) : bits_Len64.j1 x0 n2  E H K := by
  have k1 : ∀ G : List Nat → Fr → Hp → Prop, nodeR P0 T0 bits_Len64.A [[1, 1], [1, 1, 1], [1, 1, 1, 1]] G bits_Len64.code [1, 1] [] (bits_Len64.rq E K) [(0, .int .u64 x0), (2, .int .i64 n2)] H = bits_Len64.j1_t (fun x0 n2 H => G [1, 1, 1] [(0, .int .u64 x0), (2, .int .i64 n2)] H) x0 n2  E H K := fun G => by kernel_rfl
  have k2 : bits_Len64.j1_t (fun x0 n2 H => bits_Len64.j2 x0 n2  E H K) x0 n2  E H K = bits_Len64.j1_t (fun x0 n2 H => (fun q F H => nodeM P0 T0 bits_Len64.A bits_Len64.code q.reverse [] (bits_Len64.rq E K) F H) [1, 1, 1] [(0, .int .u64 x0), (2, .int .i64 n2)] H) x0 n2  E H K := by kernel_rfl
  exact nodeR_imp bits_Len64.nok rfl ((k1 _).mpr (k2.mp h))
def bits_Len64.j2_t (j3 : Int → Int → Hp → Prop) (x0 : Int) (n2 : Int)  (E : Value → Hp → Prop) (H : Hp) (K : Int → Hp → Prop) : Prop :=
  bcase (decide ((256 : Int) ≤ x0)) (
  (0 : Int) ≤ 8 ∧
  j3 (Int.fdiv x0 (2 ^ (min 8 (IntKind.bits .u64)))) (IntKind.wrap .i64 (n2 + 8)) H)
  (j3 x0 n2 H)
theorem bits_Len64.j2_eq {x0 : Int} {n2 : Int} { E : Value → Hp → Prop} {H : Hp} {K : Int → Hp → Prop} (h : bits_Len64.j2_t (fun x0 n2 H => bits_Len64.j3 x0 n2  E H K) x0 n2  E H K) : bits_Len64.j2 x0 n2  E H K := by
  have k1 : ∀ G : List Nat → Fr → Hp → Prop, nodeR P0 T0 bits_Len64.A [[1, 1], [1, 1, 1], [1, 1, 1, 1]] G bits_Len64.code [1, 1, 1] [] (bits_Len64.rq E K) [(0, .int .u64 x0), (2, .int .i64 n2)] H = bits_Len64.j2_t (fun x0 n2 H => G [1, 1, 1, 1] [(0, .int .u64 x0), (2, .int .i64 n2)] H) x0 n2  E H K := fun G => by kernel_rfl
  have k2 : bits_Len64.j2_t (fun x0 n2 H => bits_Len64.j3 x0 n2  E H K) x0 n2  E H K = bits_Len64.j2_t (fun x0 n2 H => (fun q F H => nodeM P0 T0 bits_Len64.A bits_Len64.code q.reverse [] (bits_Len64.rq E K) F H) [1, 1, 1, 1] [(0, .int .u64 x0), (2, .int .i64 n2)] H) x0 n2  E H K := by kernel_rfl
  exact nodeR_imp bits_Len64.nok rfl ((k1 _).mpr (k2.mp h))
def bits_Len64.j3_t  (x0 : Int) (n2 : Int)  (E : Value → Hp → Prop) (H : Hp) (K : Int → Hp → Prop) : Prop :=
  ((0 : Int) ≤ (IntKind.wrap .u8 x0) ∧ (IntKind.wrap .u8 x0) < (ByteArray.size (ByteArray.mk #[0, 1, 2, 2, 3, 3, 3, 3, 4, 4, 4, 4, 4, 4, 4, 4, 5, 5, 5, 5, 5, 5, 5, 5, 5, 5, 5, 5, 5, 5, 5, 5, 6, 6, 6, 6, 6, 6, 6, 6, 6, 6, 6, 6, 6, 6, 6, 6, 6, 6, 6, 6, 6, 6, 6, 6, 6, 6, 6, 6, 6, 6, 6, 6, 7, 7, 7, 7, 7, 7, 7, 7, 7, 7, 7, 7, 7, 7, 7, 7, 7, 7, 7, 7, 7, 7, 7, 7, 7, 7, 7, 7, 7, 7, 7, 7, 7, 7, 7, 7, 7, 7, 7, 7, 7, 7, 7, 7, 7, 7, 7, 7, 7, 7, 7, 7, 7, 7, 7, 7, 7, 7, 7, 7, 7, 7, 7, 7, 8, 8, 8, 8, 8, 8, 8, 8, 8, 8, 8, 8, 8, 8, 8, 8, 8, 8, 8, 8, 8, 8, 8, 8, 8, 8, 8, 8, 8, 8, 8, 8, 8, 8, 8, 8, 8, 8, 8, 8, 8, 8, 8, 8, 8, 8, 8, 8, 8, 8, 8, 8, 8, 8, 8, 8, 8, 8, 8, 8, 8, 8, 8, 8, 8, 8, 8, 8, 8, 8, 8, 8, 8, 8, 8, 8, 8, 8, 8, 8, 8, 8, 8, 8, 8, 8, 8, 8, 8, 8, 8, 8, 8, 8, 8, 8, 8, 8, 8, 8, 8, 8, 8, 8, 8, 8, 8, 8, 8, 8, 8, 8, 8, 8, 8, 8, 8, 8, 8, 8, 8, 8, 8, 8, 8, 8, 8, 8]) : Int)) ∧
  K (IntKind.wrap .i64 (n2 + (IntKind.wrap .i64 ((((ByteArray.mk #[0, 1, 2, 2, 3, 3, 3, 3, 4, 4, 4, 4, 4, 4, 4, 4, 5, 5, 5, 5, 5, 5, 5, 5, 5, 5, 5, 5, 5, 5, 5, 5, 6, 6, 6, 6, 6, 6, 6, 6, 6, 6, 6, 6, 6, 6, 6, 6, 6, 6, 6, 6, 6, 6, 6, 6, 6, 6, 6, 6, 6, 6, 6, 6, 7, 7, 7, 7, 7, 7, 7, 7, 7, 7, 7, 7, 7, 7, 7, 7, 7, 7, 7, 7, 7, 7, 7, 7, 7, 7, 7, 7, 7, 7, 7, 7, 7, 7, 7, 7, 7, 7, 7, 7, 7, 7, 7, 7, 7, 7, 7, 7, 7, 7, 7, 7, 7, 7, 7, 7, 7, 7, 7, 7, 7, 7, 7, 7, 8, 8, 8, 8, 8, 8, 8, 8, 8, 8, 8, 8, 8, 8, 8, 8, 8, 8, 8, 8, 8, 8, 8, 8, 8, 8, 8, 8, 8, 8, 8, 8, 8, 8, 8, 8, 8, 8, 8, 8, 8, 8, 8, 8, 8, 8, 8, 8, 8, 8, 8, 8, 8, 8, 8, 8, 8, 8, 8, 8, 8, 8, 8, 8, 8, 8, 8, 8, 8, 8, 8, 8, 8, 8, 8, 8, 8, 8, 8, 8, 8, 8, 8, 8, 8, 8, 8, 8, 8, 8, 8, 8, 8, 8, 8, 8, 8, 8, 8, 8, 8, 8, 8, 8, 8, 8, 8, 8, 8, 8, 8, 8, 8, 8, 8, 8, 8, 8, 8, 8, 8, 8, 8, 8, 8, 8, 8, 8]))[(IntKind.wrap .u8 x0).toNat]?.getD 0).toNat : Int)))) H
theorem bits_Len64.j3_eq {x0 : Int} {n2 : Int} { E : Value → Hp → Prop} {H : Hp} {K : Int → Hp → Prop} (h : bits_Len64.j3_t  x0 n2  E H K) : bits_Len64.j3 x0 n2  E H K := by
  have k1 : ∀ G : List Nat → Fr → Hp → Prop, nodeR P0 T0 bits_Len64.A [[1, 1], [1, 1, 1], [1, 1, 1, 1]] G bits_Len64.code [1, 1, 1, 1] [] (bits_Len64.rq E K) [(0, .int .u64 x0), (2, .int .i64 n2)] H = bits_Len64.j3_t  x0 n2  E H K := fun G => by kernel_rfl
  exact nodeR_imp bits_Len64.nok rfl ((k1 _).mpr h)
end Go.Mz
