/-
  The shallow texts of functions (LawW), each with a kernel-checked equation to the translated code. It proves nothing of the program by itself.
-/
import Derived.Test.YtajgpmohnbjpcaaTab
set_option linter.unusedVariables false
set_option maxRecDepth 100000
namespace Go.Mz
/-! ### compass/compasslaw05.HeapLowers (6) -/
noncomputable def compasslaw05_HeapLowers.A : An := { live := [(0, [0, 1, 2]), (1, [0, 1, 2]), (2, []), (3, [0, 1, 2]), (4, [0, 1, 2, 7, 8]), (5, [8]), (6, [0, 1, 2, 7]), (7, [0, 1, 2, 7, 9]), (8, [0, 2, 7, 9, 35, 36, 37]), (9, [0, 2, 7, 9, 35, 36, 37]), (10, [0, 2, 7, 9, 10, 11, 35, 36, 37]), (11, [0, 2, 7, 11, 35, 36, 37]), (12, [0, 2, 7, 9, 35, 36, 37]), (13, [0, 2, 7, 9]), (14, [0, 2, 7, 9, 12, 13]), (15, [2, 7, 12, 13]), (16, [0, 2, 7, 9, 12]), (17, []), (18, [0, 2, 7, 9]), (19, []), (20, [2, 7, 9]), (21, []), (22, [2, 7, 9]), (23, [2, 7, 9, 14, 15, 16]), (24, [2, 7, 9, 14, 15, 16, 17, 18, 19]), (25, [2, 9, 14, 15, 16, 17, 18, 19, 21])], ord := [], stb := [], pre := [] }
noncomputable def compasslaw05_HeapLowers.code : Code := bodyOf Go.Proofs.Try.f6
theorem compasslaw05_HeapLowers.ok : okCode compasslaw05_HeapLowers.A 146 compasslaw05_HeapLowers.code = true := by kernel_rfl
def compasslaw05_HeapLowers.rq (E : Value → Hp → Prop) (K : Bool → Hp → Prop) : Ex → Fr → Hp → Prop := retQ T0 [.tmp 6] [4] (fun r H => ldR (.one false [.bool]) r fun u => K (asB u) H) E
def compasslaw05_HeapLowers.run (kind0 : Int) (keys1p : Option Addr) (keys1n : Nat) (keys1c : Nat) (h2 : Int) (E : Value → Hp → Prop) (H : Hp) (K : Bool → Hp → Prop) : Prop := nodeM P0 T0 compasslaw05_HeapLowers.A compasslaw05_HeapLowers.code [] [] (compasslaw05_HeapLowers.rq E K) (argF 0 [.int .i64 kind0, .slice keys1p keys1n keys1c, .int .i64 h2]) H
theorem compasslaw05_HeapLowers.of {kind0 : Int} {keys1p : Option Addr} {keys1n : Nat} {keys1c : Nat} {h2 : Int} {E : Value → Hp → Prop} {H : Hp} {K : Bool → Hp → Prop} (h : compasslaw05_HeapLowers.run kind0 keys1p keys1n keys1c h2 E H K) : compasslaw05_HeapLowers.call kind0 keys1p keys1n keys1c h2 E H K :=
  callW_of T0_ok P0_mixed (A := compasslaw05_HeapLowers.A) (fn := Go.Proofs.Try.f6) Go.Proofs.Try.func6 rfl compasslaw05_HeapLowers.ok rfl h
noncomputable def compasslaw05_HeapLowers.f1 (kind0 : Int) (h2 : Int) (q7 : Option Addr) (least9 : Int) (t35p : Option Addr) (t35n : Nat) (t35c : Nat) (t36 : Int) (t37 : Int) : Fr := [(0, .int .i64 kind0), (2, .int .i64 h2), (7, .pointer q7), (9, .int .i64 least9), (35, .slice t35p t35n t35c), (36, .int .i64 t36), (37, .int .i64 t37)]
def compasslaw05_HeapLowers.j1 (kind0 : Int) (h2 : Int) (q7 : Option Addr) (least9 : Int) (t35p : Option Addr) (t35n : Nat) (t35c : Nat) (t36 : Int) (t37 : Int) (X1 : Fr → Hp → Prop) (E : Value → Hp → Prop) (H : Hp) (K : Bool → Hp → Prop) : Prop := nodeM P0 T0 compasslaw05_HeapLowers.A compasslaw05_HeapLowers.code [1, 1, 1, 1, 1, 0, 1, 0, 0, 1, 1, 1] [X1] (compasslaw05_HeapLowers.rq E K) [(0, .int .i64 kind0), (2, .int .i64 h2), (7, .pointer q7), (9, .int .i64 least9), (35, .slice t35p t35n t35c), (36, .int .i64 t36), (37, .int .i64 t37)] H
def compasslaw05_HeapLowers.j2 (kind0 : Int) (h2 : Int) (q7 : Option Addr) (least9 : Int)  (E : Value → Hp → Prop) (H : Hp) (K : Bool → Hp → Prop) : Prop := nodeM P0 T0 compasslaw05_HeapLowers.A compasslaw05_HeapLowers.code [1, 1, 1, 1, 1, 1] [] (compasslaw05_HeapLowers.rq E K) [(0, .int .i64 kind0), (2, .int .i64 h2), (7, .pointer q7), (9, .int .i64 least9)] H
def compasslaw05_HeapLowers.j3 (kind0 : Int) (h2 : Int) (q7 : Option Addr) (least9 : Int)  (E : Value → Hp → Prop) (H : Hp) (K : Bool → Hp → Prop) : Prop := nodeM P0 T0 compasslaw05_HeapLowers.A compasslaw05_HeapLowers.code [1, 1, 1, 1, 1, 1, 1, 1, 1] [] (compasslaw05_HeapLowers.rq E K) [(0, .int .i64 kind0), (2, .int .i64 h2), (7, .pointer q7), (9, .int .i64 least9)] H
def compasslaw05_HeapLowers.j4 (h2 : Int) (q7 : Option Addr) (least9 : Int)  (E : Value → Hp → Prop) (H : Hp) (K : Bool → Hp → Prop) : Prop := nodeM P0 T0 compasslaw05_HeapLowers.A compasslaw05_HeapLowers.code [1, 1, 1, 1, 1, 1, 1, 1, 1, 1] [] (compasslaw05_HeapLowers.rq E K) [(2, .int .i64 h2), (7, .pointer q7), (9, .int .i64 least9)] H
def compasslaw05_HeapLowers.l1 (kind0 : Int) (h2 : Int) (q7 : Option Addr) (least9 : Int) (t35p : Option Addr) (t35n : Nat) (t35c : Nat) (t36 : Int) (t37 : Int)  (E : Value → Hp → Prop) (H : Hp) (K : Bool → Hp → Prop) : Prop := nodeM P0 T0 compasslaw05_HeapLowers.A compasslaw05_HeapLowers.code [1, 1, 1, 1, 1, 0, 1, 0] [] (compasslaw05_HeapLowers.rq E K) (compasslaw05_HeapLowers.f1 kind0 h2 q7 least9 t35p t35n t35c t36 t37) H
def compasslaw05_HeapLowers.b1 (kind0 : Int) (h2 : Int) (q7 : Option Addr) (least9 : Int) (t35p : Option Addr) (t35n : Nat) (t35c : Nat) (t36 : Int) (t37 : Int)  (X1 : Fr → Hp → Prop) (E : Value → Hp → Prop) (H : Hp) (K : Bool → Hp → Prop) : Prop := nodeM P0 T0 compasslaw05_HeapLowers.A compasslaw05_HeapLowers.code [1, 1, 1, 1, 1, 0, 1, 0, 0] [X1] (compasslaw05_HeapLowers.rq E K) (compasslaw05_HeapLowers.f1 kind0 h2 q7 least9 t35p t35n t35c t36 t37) H
theorem compasslaw05_HeapLowers.l1_rule { E : Value → Hp → Prop} {K : Bool → Hp → Prop} (I : Int → Int → (Option Addr) → Int → (Option Addr) → Nat → Nat → Int → Int → Hp → Prop) (μ : Int → Int → (Option Addr) → Int → (Option Addr) → Nat → Nat → Int → Int → Hp → Nat)
    (h : ∀ kind0 h2 q7 least9 t35p t35n t35c t36 t37 H, I kind0 h2 q7 least9 t35p t35n t35c t36 t37 H → ∀ X : Fr → Hp → Prop, (∀ kind0' h2' q7' least9' t35p' t35n' t35c' t36' t37' H', I kind0' h2' q7' least9' t35p' t35n' t35c' t36' t37' H' → μ kind0' h2' q7' least9' t35p' t35n' t35c' t36' t37' H' < μ kind0 h2 q7 least9 t35p t35n t35c t36 t37 H → X (compasslaw05_HeapLowers.f1 kind0' h2' q7' least9' t35p' t35n' t35c' t36' t37') H') → compasslaw05_HeapLowers.b1 kind0 h2 q7 least9 t35p t35n t35c t36 t37  X E H K)
    {kind0 : Int} {h2 : Int} {q7 : Option Addr} {least9 : Int} {t35p : Option Addr} {t35n : Nat} {t35c : Nat} {t36 : Int} {t37 : Int} {H : Hp} (hI : I kind0 h2 q7 least9 t35p t35n t35c t36 t37 H) : compasslaw05_HeapLowers.l1 kind0 h2 q7 least9 t35p t35n t35c t36 t37  E H K :=
  loop_rule (S := Int × Int × (Option Addr) × Int × (Option Addr) × Nat × Nat × Int × Int) (fun s => compasslaw05_HeapLowers.f1 (s.1) (s.2.1) (s.2.2.1) (s.2.2.2.1) (s.2.2.2.2.1) (s.2.2.2.2.2.1) (s.2.2.2.2.2.2.1) (s.2.2.2.2.2.2.2.1) (s.2.2.2.2.2.2.2.2)) (fun s H => I (s.1) (s.2.1) (s.2.2.1) (s.2.2.2.1) (s.2.2.2.2.1) (s.2.2.2.2.2.1) (s.2.2.2.2.2.2.1) (s.2.2.2.2.2.2.2.1) (s.2.2.2.2.2.2.2.2) H) (fun s H => μ (s.1) (s.2.1) (s.2.2.1) (s.2.2.2.1) (s.2.2.2.2.1) (s.2.2.2.2.2.1) (s.2.2.2.2.2.2.1) (s.2.2.2.2.2.2.2.1) (s.2.2.2.2.2.2.2.2) H) (fun s H hI X hX => h (s.1) (s.2.1) (s.2.2.1) (s.2.2.2.1) (s.2.2.2.2.1) (s.2.2.2.2.2.1) (s.2.2.2.2.2.2.1) (s.2.2.2.2.2.2.2.1) (s.2.2.2.2.2.2.2.2) H hI X fun kind0' h2' q7' least9' t35p' t35n' t35c' t36' t37' H' hI' hlt => hX (kind0', h2', q7', least9', t35p', t35n', t35c', t36', t37') H' hI' hlt) (s := (kind0, h2, q7, least9, t35p, t35n, t35c, t36, t37)) rfl hI
theorem compasslaw05_HeapLowers.nok : nodesOk compasslaw05_HeapLowers.code [[0, 1, 0, 1, 1, 1, 1, 1], [1, 1, 1, 0, 0, 1, 0, 1, 1, 1, 1, 1], [1, 1, 1, 1, 1, 1], [1, 1, 1, 1, 1, 1, 1, 1, 1], [1, 1, 1, 1, 1, 1, 1, 1, 1, 1]] = true := by kernel_rfl
def compasslaw05_HeapLowers.run_t (l1 : Int → Int → (Option Addr) → Int → (Option Addr) → Nat → Nat → Int → Int → Hp → Prop) (kind0 : Int) (keys1p : Option Addr) (keys1n : Nat) (keys1c : Nat) (h2 : Int)  (E : Value → Hp → Prop) (H : Hp) (K : Bool → Hp → Prop) : Prop :=
  compasslaw05_awake.call  E H fun r_1 H_1 =>
  bcase ((!r_1)) (
  K false H_1)
  (heaps_New.call kind0 (keys1n : Int) E H_1 fun r_2 r_3 H_2 =>
  bcase (Option.isNone r_2) (
  K (!decide ((r_3 : Int) = 0)) H_2)
  (l1 kind0 h2 r_2 9223372036854775807 keys1p keys1n keys1c (keys1n : Int) 0 H_2))
theorem compasslaw05_HeapLowers.run_eq {kind0 : Int} {keys1p : Option Addr} {keys1n : Nat} {keys1c : Nat} {h2 : Int} { E : Value → Hp → Prop} {H : Hp} {K : Bool → Hp → Prop} (h : compasslaw05_HeapLowers.run_t (fun kind0 h2 q7 least9 t35p t35n t35c t36 t37 H => compasslaw05_HeapLowers.l1 kind0 h2 q7 least9 t35p t35n t35c t36 t37  E H K) kind0 keys1p keys1n keys1c h2  E H K) : compasslaw05_HeapLowers.run kind0 keys1p keys1n keys1c h2  E H K := by
  have k1 : ∀ G : List Nat → Fr → Hp → Prop, nodeR P0 T0 compasslaw05_HeapLowers.A [[0, 1, 0, 1, 1, 1, 1, 1], [1, 1, 1, 0, 0, 1, 0, 1, 1, 1, 1, 1], [1, 1, 1, 1, 1, 1], [1, 1, 1, 1, 1, 1, 1, 1, 1], [1, 1, 1, 1, 1, 1, 1, 1, 1, 1]] G compasslaw05_HeapLowers.code [] [] (compasslaw05_HeapLowers.rq E K) (argF 0 [.int .i64 kind0, .slice keys1p keys1n keys1c, .int .i64 h2]) H = compasslaw05_HeapLowers.run_t (fun kind0 h2 q7 least9 t35p t35n t35c t36 t37 H => G [0, 1, 0, 1, 1, 1, 1, 1] [(0, .int .i64 kind0), (2, .int .i64 h2), (7, .pointer q7), (9, .int .i64 least9), (35, .slice t35p t35n t35c), (36, .int .i64 t36), (37, .int .i64 t37)] H) kind0 keys1p keys1n keys1c h2  E H K := fun G => by kernel_rfl
  have k2 : compasslaw05_HeapLowers.run_t (fun kind0 h2 q7 least9 t35p t35n t35c t36 t37 H => compasslaw05_HeapLowers.l1 kind0 h2 q7 least9 t35p t35n t35c t36 t37  E H K) kind0 keys1p keys1n keys1c h2  E H K = compasslaw05_HeapLowers.run_t (fun kind0 h2 q7 least9 t35p t35n t35c t36 t37 H => (fun q F H => nodeM P0 T0 compasslaw05_HeapLowers.A compasslaw05_HeapLowers.code q.reverse [] (compasslaw05_HeapLowers.rq E K) F H) [0, 1, 0, 1, 1, 1, 1, 1] [(0, .int .i64 kind0), (2, .int .i64 h2), (7, .pointer q7), (9, .int .i64 least9), (35, .slice t35p t35n t35c), (36, .int .i64 t36), (37, .int .i64 t37)] H) kind0 keys1p keys1n keys1c h2  E H K := by kernel_rfl
  exact nodeR_imp compasslaw05_HeapLowers.nok rfl ((k1 _).mpr (k2.mp h))
def compasslaw05_HeapLowers.j1_t  (kind0 : Int) (h2 : Int) (q7 : Option Addr) (least9 : Int) (t35p : Option Addr) (t35n : Nat) (t35c : Nat) (t36 : Int) (t37 : Int) (X1 : Fr → Hp → Prop) (E : Value → Hp → Prop) (H : Hp) (K : Bool → Hp → Prop) : Prop :=
  X1 (compasslaw05_HeapLowers.f1 kind0 h2 q7 least9 t35p t35n t35c t36 (IntKind.wrap .i64 (t37 + 1))) H
theorem compasslaw05_HeapLowers.j1_eq {kind0 : Int} {h2 : Int} {q7 : Option Addr} {least9 : Int} {t35p : Option Addr} {t35n : Nat} {t35c : Nat} {t36 : Int} {t37 : Int} {X1 : Fr → Hp → Prop} { E : Value → Hp → Prop} {H : Hp} {K : Bool → Hp → Prop} (h : compasslaw05_HeapLowers.j1_t  kind0 h2 q7 least9 t35p t35n t35c t36 t37 X1 E H K) : compasslaw05_HeapLowers.j1 kind0 h2 q7 least9 t35p t35n t35c t36 t37 X1 E H K := by
  have k1 : ∀ G : List Nat → Fr → Hp → Prop, nodeR P0 T0 compasslaw05_HeapLowers.A [[0, 1, 0, 1, 1, 1, 1, 1], [1, 1, 1, 0, 0, 1, 0, 1, 1, 1, 1, 1], [1, 1, 1, 1, 1, 1], [1, 1, 1, 1, 1, 1, 1, 1, 1], [1, 1, 1, 1, 1, 1, 1, 1, 1, 1]] G compasslaw05_HeapLowers.code [1, 1, 1, 1, 1, 0, 1, 0, 0, 1, 1, 1] [X1] (compasslaw05_HeapLowers.rq E K) [(0, .int .i64 kind0), (2, .int .i64 h2), (7, .pointer q7), (9, .int .i64 least9), (35, .slice t35p t35n t35c), (36, .int .i64 t36), (37, .int .i64 t37)] H = compasslaw05_HeapLowers.j1_t  kind0 h2 q7 least9 t35p t35n t35c t36 t37 X1 E H K := fun G => by kernel_rfl
  exact nodeR_imp compasslaw05_HeapLowers.nok rfl ((k1 _).mpr h)
def compasslaw05_HeapLowers.j2_t (j3 : Int → Int → (Option Addr) → Int → Hp → Prop) (kind0 : Int) (h2 : Int) (q7 : Option Addr) (least9 : Int)  (E : Value → Hp → Prop) (H : Hp) (K : Bool → Hp → Prop) : Prop :=
  heaps_Queue_Key.call q7 h2 E H fun r_1 r_2 H_1 =>
  bcase (!decide ((r_2 : Int) = 0)) (
  bcase (decide ((r_1 : Int) = 0)) (
  heaps_Queue_Lower.call q7 h2 0 E H_1 fun r_3 H_2 =>
  K (decide ((r_3 : Int) = r_2)) H_2)
  (K false H_1))
  (bcase (decide ((r_1 : Int) < 9223372036854775807)) (
  heaps_Queue_Lower.call q7 h2 (IntKind.wrap .i64 (r_1 + 1)) E H_1 fun r_4 H_3 =>
  bcase (!decide ((r_4 : Int) = 52)) (
  K false H_3)
  (j3 kind0 h2 q7 least9 H_3))
  (j3 kind0 h2 q7 least9 H_1))
theorem compasslaw05_HeapLowers.j2_eq {kind0 : Int} {h2 : Int} {q7 : Option Addr} {least9 : Int} { E : Value → Hp → Prop} {H : Hp} {K : Bool → Hp → Prop} (h : compasslaw05_HeapLowers.j2_t (fun kind0 h2 q7 least9 H => compasslaw05_HeapLowers.j3 kind0 h2 q7 least9  E H K) kind0 h2 q7 least9  E H K) : compasslaw05_HeapLowers.j2 kind0 h2 q7 least9  E H K := by
  have k1 : ∀ G : List Nat → Fr → Hp → Prop, nodeR P0 T0 compasslaw05_HeapLowers.A [[0, 1, 0, 1, 1, 1, 1, 1], [1, 1, 1, 0, 0, 1, 0, 1, 1, 1, 1, 1], [1, 1, 1, 1, 1, 1], [1, 1, 1, 1, 1, 1, 1, 1, 1], [1, 1, 1, 1, 1, 1, 1, 1, 1, 1]] G compasslaw05_HeapLowers.code [1, 1, 1, 1, 1, 1] [] (compasslaw05_HeapLowers.rq E K) [(0, .int .i64 kind0), (2, .int .i64 h2), (7, .pointer q7), (9, .int .i64 least9)] H = compasslaw05_HeapLowers.j2_t (fun kind0 h2 q7 least9 H => G [1, 1, 1, 1, 1, 1, 1, 1, 1] [(0, .int .i64 kind0), (2, .int .i64 h2), (7, .pointer q7), (9, .int .i64 least9)] H) kind0 h2 q7 least9  E H K := fun G => by kernel_rfl
  have k2 : compasslaw05_HeapLowers.j2_t (fun kind0 h2 q7 least9 H => compasslaw05_HeapLowers.j3 kind0 h2 q7 least9  E H K) kind0 h2 q7 least9  E H K = compasslaw05_HeapLowers.j2_t (fun kind0 h2 q7 least9 H => (fun q F H => nodeM P0 T0 compasslaw05_HeapLowers.A compasslaw05_HeapLowers.code q.reverse [] (compasslaw05_HeapLowers.rq E K) F H) [1, 1, 1, 1, 1, 1, 1, 1, 1] [(0, .int .i64 kind0), (2, .int .i64 h2), (7, .pointer q7), (9, .int .i64 least9)] H) kind0 h2 q7 least9  E H K := by kernel_rfl
  exact nodeR_imp compasslaw05_HeapLowers.nok rfl ((k1 _).mpr (k2.mp h))
def compasslaw05_HeapLowers.j3_t (j4 : Int → (Option Addr) → Int → Hp → Prop) (kind0 : Int) (h2 : Int) (q7 : Option Addr) (least9 : Int)  (E : Value → Hp → Prop) (H : Hp) (K : Bool → Hp → Prop) : Prop :=
  bcase (decide ((kind0 : Int) = 4)) (
  bcase (decide ((least9 : Int) = 0)) (
  K true H)
  (bcase (decide ((least9 : Int) = (-9223372036854775808))) (
  K true H)
  (j4 h2 q7 least9 H)))
  (bcase (decide ((least9 : Int) = (-9223372036854775808))) (
  K true H)
  (j4 h2 q7 least9 H))
theorem compasslaw05_HeapLowers.j3_eq {kind0 : Int} {h2 : Int} {q7 : Option Addr} {least9 : Int} { E : Value → Hp → Prop} {H : Hp} {K : Bool → Hp → Prop} (h : compasslaw05_HeapLowers.j3_t (fun h2 q7 least9 H => compasslaw05_HeapLowers.j4 h2 q7 least9  E H K) kind0 h2 q7 least9  E H K) : compasslaw05_HeapLowers.j3 kind0 h2 q7 least9  E H K := by
  have k1 : ∀ G : List Nat → Fr → Hp → Prop, nodeR P0 T0 compasslaw05_HeapLowers.A [[0, 1, 0, 1, 1, 1, 1, 1], [1, 1, 1, 0, 0, 1, 0, 1, 1, 1, 1, 1], [1, 1, 1, 1, 1, 1], [1, 1, 1, 1, 1, 1, 1, 1, 1], [1, 1, 1, 1, 1, 1, 1, 1, 1, 1]] G compasslaw05_HeapLowers.code [1, 1, 1, 1, 1, 1, 1, 1, 1] [] (compasslaw05_HeapLowers.rq E K) [(0, .int .i64 kind0), (2, .int .i64 h2), (7, .pointer q7), (9, .int .i64 least9)] H = compasslaw05_HeapLowers.j3_t (fun h2 q7 least9 H => G [1, 1, 1, 1, 1, 1, 1, 1, 1, 1] [(2, .int .i64 h2), (7, .pointer q7), (9, .int .i64 least9)] H) kind0 h2 q7 least9  E H K := fun G => by kernel_rfl
  have k2 : compasslaw05_HeapLowers.j3_t (fun h2 q7 least9 H => compasslaw05_HeapLowers.j4 h2 q7 least9  E H K) kind0 h2 q7 least9  E H K = compasslaw05_HeapLowers.j3_t (fun h2 q7 least9 H => (fun q F H => nodeM P0 T0 compasslaw05_HeapLowers.A compasslaw05_HeapLowers.code q.reverse [] (compasslaw05_HeapLowers.rq E K) F H) [1, 1, 1, 1, 1, 1, 1, 1, 1, 1] [(2, .int .i64 h2), (7, .pointer q7), (9, .int .i64 least9)] H) kind0 h2 q7 least9  E H K := by kernel_rfl
  exact nodeR_imp compasslaw05_HeapLowers.nok rfl ((k1 _).mpr (k2.mp h))
def compasslaw05_HeapLowers.j4_t  (h2 : Int) (q7 : Option Addr) (least9 : Int)  (E : Value → Hp → Prop) (H : Hp) (K : Bool → Hp → Prop) : Prop :=
  heaps_Queue_Lower.call q7 h2 (IntKind.wrap .i64 (least9 - 1)) E H fun r_1 H_1 =>
  bcase (!decide ((r_1 : Int) = 0)) (
  K false H_1)
  (heaps_Queue_Top.call q7 E H_1 fun r_2 r_3 r_4 H_2 =>
  heaps_Queue_Pop.call q7 E H_2 fun r_5 r_6 r_7 H_3 =>
  heaps_Queue_Key.call q7 h2 E H_3 fun r_8 r_9 H_4 =>
  bcase (decide ((r_2 : Int) = h2)) (
  bcase (decide ((r_3 : Int) = (IntKind.wrap .i64 (least9 - 1)))) (
  bcase (decide ((r_4 : Int) = 0)) (
  bcase (decide ((r_5 : Int) = h2)) (
  bcase (decide ((r_6 : Int) = r_3)) (
  bcase (decide ((r_7 : Int) = 0)) (
  K (decide ((r_9 : Int) = 2)) H_4)
  (K false H_4))
  (K false H_4))
  (K false H_4))
  (K false H_4))
  (K false H_4))
  (K false H_4))
theorem compasslaw05_HeapLowers.j4_eq {h2 : Int} {q7 : Option Addr} {least9 : Int} { E : Value → Hp → Prop} {H : Hp} {K : Bool → Hp → Prop} (h : compasslaw05_HeapLowers.j4_t  h2 q7 least9  E H K) : compasslaw05_HeapLowers.j4 h2 q7 least9  E H K := by
  have k1 : ∀ G : List Nat → Fr → Hp → Prop, nodeR P0 T0 compasslaw05_HeapLowers.A [[0, 1, 0, 1, 1, 1, 1, 1], [1, 1, 1, 0, 0, 1, 0, 1, 1, 1, 1, 1], [1, 1, 1, 1, 1, 1], [1, 1, 1, 1, 1, 1, 1, 1, 1], [1, 1, 1, 1, 1, 1, 1, 1, 1, 1]] G compasslaw05_HeapLowers.code [1, 1, 1, 1, 1, 1, 1, 1, 1, 1] [] (compasslaw05_HeapLowers.rq E K) [(2, .int .i64 h2), (7, .pointer q7), (9, .int .i64 least9)] H = compasslaw05_HeapLowers.j4_t  h2 q7 least9  E H K := fun G => by kernel_rfl
  exact nodeR_imp compasslaw05_HeapLowers.nok rfl ((k1 _).mpr h)
def compasslaw05_HeapLowers.b1_t (j1 : Int → Int → (Option Addr) → Int → (Option Addr) → Nat → Nat → Int → Int → Hp → Prop) (j2 : Int → Int → (Option Addr) → Int → Hp → Prop) (kind0 : Int) (h2 : Int) (q7 : Option Addr) (least9 : Int) (t35p : Option Addr) (t35n : Nat) (t35c : Nat) (t36 : Int) (t37 : Int) (X1 : Fr → Hp → Prop) (E : Value → Hp → Prop) (H : Hp) (K : Bool → Hp → Prop) : Prop :=
  bcase (decide ((t37 : Int) < t36)) (
  ix t35p t35n t37 1 fun b_1 o_1 =>
  ldI .i64 (H.get b_1 o_1) fun x_1 =>
  heaps_Queue_Push.call q7 t37 x_1 E H fun r_1 H_1 =>
  bcase (decide ((r_1 : Int) = 0)) (
  bcase (decide ((x_1 : Int) < least9)) (
  j1 kind0 h2 q7 x_1 t35p t35n t35c t36 t37 H_1)
  (j1 kind0 h2 q7 least9 t35p t35n t35c t36 t37 H_1))
  (j1 kind0 h2 q7 least9 t35p t35n t35c t36 t37 H_1))
  (j2 kind0 h2 q7 least9 H)
theorem compasslaw05_HeapLowers.b1_eq {kind0 : Int} {h2 : Int} {q7 : Option Addr} {least9 : Int} {t35p : Option Addr} {t35n : Nat} {t35c : Nat} {t36 : Int} {t37 : Int} {X1 : Fr → Hp → Prop} { E : Value → Hp → Prop} {H : Hp} {K : Bool → Hp → Prop} (h : compasslaw05_HeapLowers.b1_t (fun kind0 h2 q7 least9 t35p t35n t35c t36 t37 H => compasslaw05_HeapLowers.j1 kind0 h2 q7 least9 t35p t35n t35c t36 t37 X1 E H K) (fun kind0 h2 q7 least9 H => compasslaw05_HeapLowers.j2 kind0 h2 q7 least9  E H K) kind0 h2 q7 least9 t35p t35n t35c t36 t37 X1 E H K) : compasslaw05_HeapLowers.b1 kind0 h2 q7 least9 t35p t35n t35c t36 t37 X1 E H K := by
  have k1 : ∀ G : List Nat → Fr → Hp → Prop, nodeR P0 T0 compasslaw05_HeapLowers.A [[0, 1, 0, 1, 1, 1, 1, 1], [1, 1, 1, 0, 0, 1, 0, 1, 1, 1, 1, 1], [1, 1, 1, 1, 1, 1], [1, 1, 1, 1, 1, 1, 1, 1, 1], [1, 1, 1, 1, 1, 1, 1, 1, 1, 1]] G compasslaw05_HeapLowers.code [1, 1, 1, 1, 1, 0, 1, 0, 0] [X1] (compasslaw05_HeapLowers.rq E K) (compasslaw05_HeapLowers.f1 kind0 h2 q7 least9 t35p t35n t35c t36 t37) H = compasslaw05_HeapLowers.b1_t (fun kind0 h2 q7 least9 t35p t35n t35c t36 t37 H => G [1, 1, 1, 0, 0, 1, 0, 1, 1, 1, 1, 1] [(0, .int .i64 kind0), (2, .int .i64 h2), (7, .pointer q7), (9, .int .i64 least9), (35, .slice t35p t35n t35c), (36, .int .i64 t36), (37, .int .i64 t37)] H) (fun kind0 h2 q7 least9 H => G [1, 1, 1, 1, 1, 1] [(0, .int .i64 kind0), (2, .int .i64 h2), (7, .pointer q7), (9, .int .i64 least9)] H) kind0 h2 q7 least9 t35p t35n t35c t36 t37 X1 E H K := fun G => by kernel_rfl
  have k2 : compasslaw05_HeapLowers.b1_t (fun kind0 h2 q7 least9 t35p t35n t35c t36 t37 H => compasslaw05_HeapLowers.j1 kind0 h2 q7 least9 t35p t35n t35c t36 t37 X1 E H K) (fun kind0 h2 q7 least9 H => compasslaw05_HeapLowers.j2 kind0 h2 q7 least9  E H K) kind0 h2 q7 least9 t35p t35n t35c t36 t37 X1 E H K = compasslaw05_HeapLowers.b1_t (fun kind0 h2 q7 least9 t35p t35n t35c t36 t37 H => (fun q F H => nodeM P0 T0 compasslaw05_HeapLowers.A compasslaw05_HeapLowers.code q.reverse [X1] (compasslaw05_HeapLowers.rq E K) F H) [1, 1, 1, 0, 0, 1, 0, 1, 1, 1, 1, 1] [(0, .int .i64 kind0), (2, .int .i64 h2), (7, .pointer q7), (9, .int .i64 least9), (35, .slice t35p t35n t35c), (36, .int .i64 t36), (37, .int .i64 t37)] H) (fun kind0 h2 q7 least9 H => (fun q F H => nodeM P0 T0 compasslaw05_HeapLowers.A compasslaw05_HeapLowers.code q.reverse [X1] (compasslaw05_HeapLowers.rq E K) F H) [1, 1, 1, 1, 1, 1] [(0, .int .i64 kind0), (2, .int .i64 h2), (7, .pointer q7), (9, .int .i64 least9)] H) kind0 h2 q7 least9 t35p t35n t35c t36 t37 X1 E H K := by kernel_rfl
  exact nodeR_imp compasslaw05_HeapLowers.nok rfl ((k1 _).mpr (k2.mp h))
end Go.Mz
