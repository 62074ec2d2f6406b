/-
  The shallow texts of functions (LawL), each with a kernel-checked equation to the translated code. It proves nothing of the program by itself.
-/
import Derived.Test.YtajgpmohnbjpcaaTab
set_option linter.unusedVariables false
set_option maxRecDepth 100000
namespace Go.Mz
/-! ### compass/compasslaw05.HeapAlike (4) -/
noncomputable def compasslaw05_HeapAlike.A : An := { live := [(0, [0, 1, 2]), (1, [0, 1, 2]), (2, []), (3, [0, 1, 2]), (4, [1, 2, 7, 8]), (5, [2, 7, 8, 9, 10]), (6, [7, 8, 9, 10]), (7, [2, 7, 9]), (8, [2, 7, 9, 11]), (9, [7, 9, 11, 57, 58, 59]), (10, [7, 9, 11, 57, 58, 59]), (11, [7, 9, 11, 13, 57, 58, 59]), (12, [7, 9, 11, 13, 14, 57, 58, 59]), (13, [7, 9, 11, 13, 57, 58, 59]), (14, [7, 9, 11, 13, 14, 57, 58, 59]), (15, [7, 9, 11, 13, 14, 57, 58, 59, 70]), (16, [7, 9, 11, 13, 14, 57, 58, 59]), (17, []), (18, [7, 9, 11, 13, 14, 57, 58, 59, 70]), (19, [7, 9, 11, 13, 14, 57, 58, 59]), (20, []), (21, [7, 9, 11, 57, 58, 59, 70]), (22, [7, 9, 11, 57, 58, 59]), (23, [7, 9, 11, 15, 16, 17, 57, 58, 59]), (24, [7, 9, 11, 15, 16, 17, 18, 19, 20, 57, 58, 59]), (25, []), (26, [7, 9, 11, 16, 17, 57, 58, 59]), (27, [7, 9, 16, 57, 58, 59]), (28, [7, 9, 11, 57, 58, 59]), (29, []), (30, [7, 9, 11, 57, 58, 59]), (31, [7, 9]), (32, [7, 9]), (33, [7, 9, 21, 22, 23]), (34, [7, 9, 21, 22, 23, 24, 25, 26]), (35, []), (36, [9])], ord := [(16, [0, 1, 2, 3, 5, 6, 7, 8, 4, 9, 10]), (19, [0, 1, 2, 3, 5, 6, 7, 8, 4, 9, 10])], stb := [(16, [(4, [7])]), (19, [(4, [7])])], pre := [(16, [[], [], [1], [], [0, 1, 2, 3], [], [], [6], [], [0, 1, 2, 3, 4, 5, 6, 7, 8], [0, 1, 2, 3, 4, 5, 6, 7, 8, 9]]), (19, [[], [], [1], [], [0, 1, 2, 3], [], [], [6], [], [0, 1, 2, 3, 4, 5, 6, 7, 8], [0, 1, 2, 3, 4, 5, 6, 7, 8, 9]])] }
noncomputable def compasslaw05_HeapAlike.code : Code := bodyOf Go.Proofs.Try.f4
theorem compasslaw05_HeapAlike.ok : okCode compasslaw05_HeapAlike.A 167 compasslaw05_HeapAlike.code = true := by kernel_rfl
def compasslaw05_HeapAlike.rq (E : Value → Hp → Prop) (K : Bool → Hp → Prop) : Ex → Fr → Hp → Prop := retQ T0 [.tmp 6] [4] (fun r H => ldR (.one false [.bool]) r fun u => K (asB u) H) E
def compasslaw05_HeapAlike.run (a0 : Int) (b1 : Int) (script2p : Option Addr) (script2n : Nat) (script2c : Nat) (E : Value → Hp → Prop) (H : Hp) (K : Bool → Hp → Prop) : Prop := nodeM P0 T0 compasslaw05_HeapAlike.A compasslaw05_HeapAlike.code [] [] (compasslaw05_HeapAlike.rq E K) (argF 0 [.int .i64 a0, .int .i64 b1, .slice script2p script2n script2c]) H
theorem compasslaw05_HeapAlike.of {a0 : Int} {b1 : Int} {script2p : Option Addr} {script2n : Nat} {script2c : Nat} {E : Value → Hp → Prop} {H : Hp} {K : Bool → Hp → Prop} (h : compasslaw05_HeapAlike.run a0 b1 script2p script2n script2c E H K) : compasslaw05_HeapAlike.call a0 b1 script2p script2n script2c E H K :=
  callW_of T0_ok P0_mixed (A := compasslaw05_HeapAlike.A) (fn := Go.Proofs.Try.f4) Go.Proofs.Try.func4 rfl compasslaw05_HeapAlike.ok rfl h
noncomputable def compasslaw05_HeapAlike.f1 (p7 : Option Addr) (q9 : Option Addr) (last11 : Int) (t57p : Option Addr) (t57n : Nat) (t57c : Nat) (t58 : Int) (t59 : Int) : Fr := [(7, .pointer p7), (9, .pointer q9), (11, .int .i64 last11), (57, .slice t57p t57n t57c), (58, .int .i64 t58), (59, .int .i64 t59)]
noncomputable def compasslaw05_HeapAlike.f2 (p7 : Option Addr) (q9 : Option Addr) : Fr := [(7, .pointer p7), (9, .pointer q9)]
def compasslaw05_HeapAlike.j1 (p7 : Option Addr) (e8 : Int) (q9 : Option Addr) (f10 : Int)  (E : Value → Hp → Prop) (H : Hp) (K : Bool → Hp → Prop) : Prop := nodeM P0 T0 compasslaw05_HeapAlike.A compasslaw05_HeapAlike.code [1, 1, 1, 1, 0, 1, 0] [] (compasslaw05_HeapAlike.rq E K) [(7, .pointer p7), (8, .int .i64 e8), (9, .pointer q9), (10, .int .i64 f10)] H
def compasslaw05_HeapAlike.j2 (p7 : Option Addr) (q9 : Option Addr) (last11 : Int) (o13 : Nat) (key14 : Int) (t57p : Option Addr) (t57n : Nat) (t57c : Nat) (t58 : Int) (t59 : Int) (X1 : Fr → Hp → Prop) (E : Value → Hp → Prop) (H : Hp) (K : Bool → Hp → Prop) : Prop := nodeM P0 T0 compasslaw05_HeapAlike.A compasslaw05_HeapAlike.code [1, 1, 1, 1, 1, 1, 0, 1, 0, 0, 1, 1, 0, 0, 1, 1, 1] [X1] (compasslaw05_HeapAlike.rq E K) [(7, .pointer p7), (9, .pointer q9), (11, .int .i64 last11), (13, .pointer (some ⟨o13, 0, none⟩)), (14, .int .i64 key14), (57, .slice t57p t57n t57c), (58, .int .i64 t58), (59, .int .i64 t59)] H
def compasslaw05_HeapAlike.j3 (p7 : Option Addr) (q9 : Option Addr) (last11 : Int) (t57p : Option Addr) (t57n : Nat) (t57c : Nat) (t58 : Int) (t59 : Int) (X1 : Fr → Hp → Prop) (E : Value → Hp → Prop) (H : Hp) (K : Bool → Hp → Prop) : Prop := nodeM P0 T0 compasslaw05_HeapAlike.A compasslaw05_HeapAlike.code [1, 1, 1, 1, 1, 1, 0, 1, 0, 0, 1, 1, 0, 0, 1, 1, 1, 1] [X1] (compasslaw05_HeapAlike.rq E K) [(7, .pointer p7), (9, .pointer q9), (11, .int .i64 last11), (57, .slice t57p t57n t57c), (58, .int .i64 t58), (59, .int .i64 t59)] H
def compasslaw05_HeapAlike.j4 (p7 : Option Addr) (q9 : Option Addr)  (E : Value → Hp → Prop) (H : Hp) (K : Bool → Hp → Prop) : Prop := nodeM P0 T0 compasslaw05_HeapAlike.A compasslaw05_HeapAlike.code [1, 1, 1, 1, 1, 1, 1] [] (compasslaw05_HeapAlike.rq E K) [(7, .pointer p7), (9, .pointer q9)] H
def compasslaw05_HeapAlike.j5 (q9 : Option Addr)  (E : Value → Hp → Prop) (H : Hp) (K : Bool → Hp → Prop) : Prop := nodeM P0 T0 compasslaw05_HeapAlike.A compasslaw05_HeapAlike.code [1, 1, 1, 1, 1, 1, 1, 1] [] (compasslaw05_HeapAlike.rq E K) [(9, .pointer q9)] H
def compasslaw05_HeapAlike.l1 (p7 : Option Addr) (q9 : Option Addr) (last11 : Int) (t57p : Option Addr) (t57n : Nat) (t57c : Nat) (t58 : Int) (t59 : Int)  (E : Value → Hp → Prop) (H : Hp) (K : Bool → Hp → Prop) : Prop := nodeM P0 T0 compasslaw05_HeapAlike.A compasslaw05_HeapAlike.code [1, 1, 1, 1, 1, 1, 0, 1, 0] [] (compasslaw05_HeapAlike.rq E K) (compasslaw05_HeapAlike.f1 p7 q9 last11 t57p t57n t57c t58 t59) H
def compasslaw05_HeapAlike.b1 (p7 : Option Addr) (q9 : Option Addr) (last11 : Int) (t57p : Option Addr) (t57n : Nat) (t57c : Nat) (t58 : Int) (t59 : Int)  (X1 : Fr → Hp → Prop) (E : Value → Hp → Prop) (H : Hp) (K : Bool → Hp → Prop) : Prop := nodeM P0 T0 compasslaw05_HeapAlike.A compasslaw05_HeapAlike.code [1, 1, 1, 1, 1, 1, 0, 1, 0, 0] [X1] (compasslaw05_HeapAlike.rq E K) (compasslaw05_HeapAlike.f1 p7 q9 last11 t57p t57n t57c t58 t59) H
theorem compasslaw05_HeapAlike.l1_rule { E : Value → Hp → Prop} {K : Bool → Hp → Prop} (I : (Option Addr) → (Option Addr) → Int → (Option Addr) → Nat → Nat → Int → Int → Hp → Prop) (μ : (Option Addr) → (Option Addr) → Int → (Option Addr) → Nat → Nat → Int → Int → Hp → Nat)
    (h : ∀ p7 q9 last11 t57p t57n t57c t58 t59 H, I p7 q9 last11 t57p t57n t57c t58 t59 H → ∀ X : Fr → Hp → Prop, (∀ p7' q9' last11' t57p' t57n' t57c' t58' t59' H', I p7' q9' last11' t57p' t57n' t57c' t58' t59' H' → μ p7' q9' last11' t57p' t57n' t57c' t58' t59' H' < μ p7 q9 last11 t57p t57n t57c t58 t59 H → X (compasslaw05_HeapAlike.f1 p7' q9' last11' t57p' t57n' t57c' t58' t59') H') → compasslaw05_HeapAlike.b1 p7 q9 last11 t57p t57n t57c t58 t59  X E H K)
    {p7 : Option Addr} {q9 : Option Addr} {last11 : Int} {t57p : Option Addr} {t57n : Nat} {t57c : Nat} {t58 : Int} {t59 : Int} {H : Hp} (hI : I p7 q9 last11 t57p t57n t57c t58 t59 H) : compasslaw05_HeapAlike.l1 p7 q9 last11 t57p t57n t57c t58 t59  E H K :=
  loop_rule (S := (Option Addr) × (Option Addr) × Int × (Option Addr) × Nat × Nat × Int × Int) (fun s => compasslaw05_HeapAlike.f1 (s.1) (s.2.1) (s.2.2.1) (s.2.2.2.1) (s.2.2.2.2.1) (s.2.2.2.2.2.1) (s.2.2.2.2.2.2.1) (s.2.2.2.2.2.2.2)) (fun s H => I (s.1) (s.2.1) (s.2.2.1) (s.2.2.2.1) (s.2.2.2.2.1) (s.2.2.2.2.2.1) (s.2.2.2.2.2.2.1) (s.2.2.2.2.2.2.2) H) (fun s H => μ (s.1) (s.2.1) (s.2.2.1) (s.2.2.2.1) (s.2.2.2.2.1) (s.2.2.2.2.2.1) (s.2.2.2.2.2.2.1) (s.2.2.2.2.2.2.2) H) (fun s H hI X hX => h (s.1) (s.2.1) (s.2.2.1) (s.2.2.2.1) (s.2.2.2.2.1) (s.2.2.2.2.2.1) (s.2.2.2.2.2.2.1) (s.2.2.2.2.2.2.2) H hI X fun p7' q9' last11' t57p' t57n' t57c' t58' t59' H' hI' hlt => hX (p7', q9', last11', t57p', t57n', t57c', t58', t59') H' hI' hlt) (s := (p7, q9, last11, t57p, t57n, t57c, t58, t59)) rfl hI
def compasslaw05_HeapAlike.l2 (p7 : Option Addr) (q9 : Option Addr)  (E : Value → Hp → Prop) (H : Hp) (K : Bool → Hp → Prop) : Prop := nodeM P0 T0 compasslaw05_HeapAlike.A compasslaw05_HeapAlike.code [1, 1, 1, 1, 1, 1, 1, 0, 0] [] (compasslaw05_HeapAlike.rq E K) (compasslaw05_HeapAlike.f2 p7 q9) H
def compasslaw05_HeapAlike.b2 (p7 : Option Addr) (q9 : Option Addr)  (X1 : Fr → Hp → Prop) (E : Value → Hp → Prop) (H : Hp) (K : Bool → Hp → Prop) : Prop := nodeM P0 T0 compasslaw05_HeapAlike.A compasslaw05_HeapAlike.code [1, 1, 1, 1, 1, 1, 1, 0, 0, 0] [X1] (compasslaw05_HeapAlike.rq E K) (compasslaw05_HeapAlike.f2 p7 q9) H
theorem compasslaw05_HeapAlike.l2_rule { E : Value → Hp → Prop} {K : Bool → Hp → Prop} (I : (Option Addr) → (Option Addr) → Hp → Prop) (μ : (Option Addr) → (Option Addr) → Hp → Nat)
    (h : ∀ p7 q9 H, I p7 q9 H → ∀ X : Fr → Hp → Prop, (∀ p7' q9' H', I p7' q9' H' → μ p7' q9' H' < μ p7 q9 H → X (compasslaw05_HeapAlike.f2 p7' q9') H') → compasslaw05_HeapAlike.b2 p7 q9  X E H K)
    {p7 : Option Addr} {q9 : Option Addr} {H : Hp} (hI : I p7 q9 H) : compasslaw05_HeapAlike.l2 p7 q9  E H K :=
  loop_rule (S := (Option Addr) × (Option Addr)) (fun s => compasslaw05_HeapAlike.f2 (s.1) (s.2)) (fun s H => I (s.1) (s.2) H) (fun s H => μ (s.1) (s.2) H) (fun s H hI X hX => h (s.1) (s.2) H hI X fun p7' q9' H' hI' hlt => hX (p7', q9') H' hI' hlt) (s := (p7, q9)) rfl hI
theorem compasslaw05_HeapAlike.nok : nodesOk compasslaw05_HeapAlike.code [[0, 1, 0, 1, 1, 1, 1], [0, 1, 0, 1, 1, 1, 1, 1, 1], [1, 1, 1, 0, 0, 1, 1, 0, 0, 1, 0, 1, 1, 1, 1, 1, 1], [1, 1, 1, 1, 0, 0, 1, 1, 0, 0, 1, 0, 1, 1, 1, 1, 1, 1], [1, 1, 1, 1, 1, 1, 1], [0, 0, 1, 1, 1, 1, 1, 1, 1], [1, 1, 1, 1, 1, 1, 1, 1]] = true := by kernel_rfl
def compasslaw05_HeapAlike.run_t (j1 : (Option Addr) → Int → (Option Addr) → Int → Hp → Prop) (l1 : (Option Addr) → (Option Addr) → Int → (Option Addr) → Nat → Nat → Int → Int → Hp → Prop) (a0 : Int) (b1 : Int) (script2p : Option Addr) (script2n : Nat) (script2c : Nat)  (E : Value → Hp → Prop) (H : Hp) (K : Bool → Hp → Prop) : Prop :=
  compasslaw05_awake.call  E H fun r_1 H_1 =>
  bcase ((!r_1)) (
  K false H_1)
  (heaps_New.call a0 16 E H_1 fun r_2 r_3 H_2 =>
  heaps_New.call b1 16 E H_2 fun r_4 r_5 H_3 =>
  bcase (Option.isNone r_2) (
  j1 r_2 r_3 r_4 r_5 H_3)
  (bcase (Option.isNone r_4) (
  j1 r_2 r_3 r_4 r_5 H_3)
  (l1 r_2 r_4 0 script2p script2n script2c (script2n : Int) 0 H_3)))
theorem compasslaw05_HeapAlike.run_eq {a0 : Int} {b1 : Int} {script2p : Option Addr} {script2n : Nat} {script2c : Nat} { E : Value → Hp → Prop} {H : Hp} {K : Bool → Hp → Prop} (h : compasslaw05_HeapAlike.run_t (fun p7 e8 q9 f10 H => compasslaw05_HeapAlike.j1 p7 e8 q9 f10  E H K) (fun p7 q9 last11 t57p t57n t57c t58 t59 H => compasslaw05_HeapAlike.l1 p7 q9 last11 t57p t57n t57c t58 t59  E H K) a0 b1 script2p script2n script2c  E H K) : compasslaw05_HeapAlike.run a0 b1 script2p script2n script2c  E H K := by
  have k1 : ∀ G : List Nat → Fr → Hp → Prop, nodeR P0 T0 compasslaw05_HeapAlike.A [[0, 1, 0, 1, 1, 1, 1], [0, 1, 0, 1, 1, 1, 1, 1, 1], [1, 1, 1, 0, 0, 1, 1, 0, 0, 1, 0, 1, 1, 1, 1, 1, 1], [1, 1, 1, 1, 0, 0, 1, 1, 0, 0, 1, 0, 1, 1, 1, 1, 1, 1], [1, 1, 1, 1, 1, 1, 1], [0, 0, 1, 1, 1, 1, 1, 1, 1], [1, 1, 1, 1, 1, 1, 1, 1]] G compasslaw05_HeapAlike.code [] [] (compasslaw05_HeapAlike.rq E K) (argF 0 [.int .i64 a0, .int .i64 b1, .slice script2p script2n script2c]) H = compasslaw05_HeapAlike.run_t (fun p7 e8 q9 f10 H => G [0, 1, 0, 1, 1, 1, 1] [(7, .pointer p7), (8, .int .i64 e8), (9, .pointer q9), (10, .int .i64 f10)] H) (fun p7 q9 last11 t57p t57n t57c t58 t59 H => G [0, 1, 0, 1, 1, 1, 1, 1, 1] [(7, .pointer p7), (9, .pointer q9), (11, .int .i64 last11), (57, .slice t57p t57n t57c), (58, .int .i64 t58), (59, .int .i64 t59)] H) a0 b1 script2p script2n script2c  E H K := fun G => by kernel_rfl
  have k2 : compasslaw05_HeapAlike.run_t (fun p7 e8 q9 f10 H => compasslaw05_HeapAlike.j1 p7 e8 q9 f10  E H K) (fun p7 q9 last11 t57p t57n t57c t58 t59 H => compasslaw05_HeapAlike.l1 p7 q9 last11 t57p t57n t57c t58 t59  E H K) a0 b1 script2p script2n script2c  E H K = compasslaw05_HeapAlike.run_t (fun p7 e8 q9 f10 H => (fun q F H => nodeM P0 T0 compasslaw05_HeapAlike.A compasslaw05_HeapAlike.code q.reverse [] (compasslaw05_HeapAlike.rq E K) F H) [0, 1, 0, 1, 1, 1, 1] [(7, .pointer p7), (8, .int .i64 e8), (9, .pointer q9), (10, .int .i64 f10)] H) (fun p7 q9 last11 t57p t57n t57c t58 t59 H => (fun q F H => nodeM P0 T0 compasslaw05_HeapAlike.A compasslaw05_HeapAlike.code q.reverse [] (compasslaw05_HeapAlike.rq E K) F H) [0, 1, 0, 1, 1, 1, 1, 1, 1] [(7, .pointer p7), (9, .pointer q9), (11, .int .i64 last11), (57, .slice t57p t57n t57c), (58, .int .i64 t58), (59, .int .i64 t59)] H) a0 b1 script2p script2n script2c  E H K := by kernel_rfl
  exact nodeR_imp compasslaw05_HeapAlike.nok rfl ((k1 _).mpr (k2.mp h))
def compasslaw05_HeapAlike.j1_t  (p7 : Option Addr) (e8 : Int) (q9 : Option Addr) (f10 : Int)  (E : Value → Hp → Prop) (H : Hp) (K : Bool → Hp → Prop) : Prop :=
  bcase (((Option.isNone p7) == (decide ((e8 : Int) = 50)))) (
  K ((Option.isNone q9) == (decide ((f10 : Int) = 50))) H)
  (K false H)
theorem compasslaw05_HeapAlike.j1_eq {p7 : Option Addr} {e8 : Int} {q9 : Option Addr} {f10 : Int} { E : Value → Hp → Prop} {H : Hp} {K : Bool → Hp → Prop} (h : compasslaw05_HeapAlike.j1_t  p7 e8 q9 f10  E H K) : compasslaw05_HeapAlike.j1 p7 e8 q9 f10  E H K := by
  have k1 : ∀ G : List Nat → Fr → Hp → Prop, nodeR P0 T0 compasslaw05_HeapAlike.A [[0, 1, 0, 1, 1, 1, 1], [0, 1, 0, 1, 1, 1, 1, 1, 1], [1, 1, 1, 0, 0, 1, 1, 0, 0, 1, 0, 1, 1, 1, 1, 1, 1], [1, 1, 1, 1, 0, 0, 1, 1, 0, 0, 1, 0, 1, 1, 1, 1, 1, 1], [1, 1, 1, 1, 1, 1, 1], [0, 0, 1, 1, 1, 1, 1, 1, 1], [1, 1, 1, 1, 1, 1, 1, 1]] G compasslaw05_HeapAlike.code [1, 1, 1, 1, 0, 1, 0] [] (compasslaw05_HeapAlike.rq E K) [(7, .pointer p7), (8, .int .i64 e8), (9, .pointer q9), (10, .int .i64 f10)] H = compasslaw05_HeapAlike.j1_t  p7 e8 q9 f10  E H K := fun G => by kernel_rfl
  exact nodeR_imp compasslaw05_HeapAlike.nok rfl ((k1 _).mpr h)
def compasslaw05_HeapAlike.j2_t (j3 : (Option Addr) → (Option Addr) → Int → (Option Addr) → Nat → Nat → Int → Int → Hp → Prop) (p7 : Option Addr) (q9 : Option Addr) (last11 : Int) (o13 : Nat) (key14 : Int) (t57p : Option Addr) (t57n : Nat) (t57c : Nat) (t58 : Int) (t59 : Int) (X1 : Fr → Hp → Prop) (E : Value → Hp → Prop) (H : Hp) (K : Bool → Hp → Prop) : Prop :=
  ldI .i64 (H.get o13 0) fun x_1 =>
  bcase (decide ((x_1 : Int) = 0)) (
  ldI .i64 (H.get o13 1) fun x_2 =>
  ldI .i64 (H.get o13 1) fun x_3 =>
  heaps_Queue_Push.call p7 x_2 key14 E H fun r_1 H_1 =>
  (ldI .i64 (H_1.get o13 1) fun x_4 =>
  Value.int .i64 x_4 = Value.int .i64 x_3) ∧
  heaps_Queue_Push.call q9 x_3 key14 E H_1 fun r_2 H_2 =>
  bcase (!decide ((r_1 : Int) = r_2)) (
  K false H_2)
  (j3 p7 q9 last11 t57p t57n t57c t58 t59 H_2))
  (bcase (decide ((x_1 : Int) = 1)) (
  ldI .i64 (H.get o13 1) fun x_5 =>
  ldI .i64 (H.get o13 1) fun x_6 =>
  heaps_Queue_Lower.call p7 x_5 key14 E H fun r_3 H_3 =>
  (ldI .i64 (H_3.get o13 1) fun x_7 =>
  Value.int .i64 x_7 = Value.int .i64 x_6) ∧
  heaps_Queue_Lower.call q9 x_6 key14 E H_3 fun r_4 H_4 =>
  bcase (!decide ((r_3 : Int) = r_4)) (
  K false H_4)
  (j3 p7 q9 last11 t57p t57n t57c t58 t59 H_4))
  (bcase (decide ((x_1 : Int) = 2)) (
  heaps_Queue_Pop.call p7 E H fun r_5 r_6 r_7 H_5 =>
  heaps_Queue_Pop.call q9 E H_5 fun r_8 r_9 r_10 H_6 =>
  bcase (!decide ((r_5 : Int) = r_8)) (
  K false H_6)
  (bcase (!decide ((r_6 : Int) = r_9)) (
  K false H_6)
  (bcase (!decide ((r_7 : Int) = r_10)) (
  K false H_6)
  (bcase (decide ((r_7 : Int) = 0)) (
  j3 p7 q9 r_6 t57p t57n t57c t58 t59 H_6)
  (j3 p7 q9 last11 t57p t57n t57c t58 t59 H_6)))))
  (j3 p7 q9 last11 t57p t57n t57c t58 t59 H)))
theorem compasslaw05_HeapAlike.j2_eq {p7 : Option Addr} {q9 : Option Addr} {last11 : Int} {o13 : Nat} {key14 : Int} {t57p : Option Addr} {t57n : Nat} {t57c : Nat} {t58 : Int} {t59 : Int} {X1 : Fr → Hp → Prop} { E : Value → Hp → Prop} {H : Hp} {K : Bool → Hp → Prop} (h : compasslaw05_HeapAlike.j2_t (fun p7 q9 last11 t57p t57n t57c t58 t59 H => compasslaw05_HeapAlike.j3 p7 q9 last11 t57p t57n t57c t58 t59 X1 E H K) p7 q9 last11 o13 key14 t57p t57n t57c t58 t59 X1 E H K) : compasslaw05_HeapAlike.j2 p7 q9 last11 o13 key14 t57p t57n t57c t58 t59 X1 E H K := by
  have k1 : ∀ G : List Nat → Fr → Hp → Prop, nodeR P0 T0 compasslaw05_HeapAlike.A [[0, 1, 0, 1, 1, 1, 1], [0, 1, 0, 1, 1, 1, 1, 1, 1], [1, 1, 1, 0, 0, 1, 1, 0, 0, 1, 0, 1, 1, 1, 1, 1, 1], [1, 1, 1, 1, 0, 0, 1, 1, 0, 0, 1, 0, 1, 1, 1, 1, 1, 1], [1, 1, 1, 1, 1, 1, 1], [0, 0, 1, 1, 1, 1, 1, 1, 1], [1, 1, 1, 1, 1, 1, 1, 1]] G compasslaw05_HeapAlike.code [1, 1, 1, 1, 1, 1, 0, 1, 0, 0, 1, 1, 0, 0, 1, 1, 1] [X1] (compasslaw05_HeapAlike.rq E K) [(7, .pointer p7), (9, .pointer q9), (11, .int .i64 last11), (13, .pointer (some ⟨o13, 0, none⟩)), (14, .int .i64 key14), (57, .slice t57p t57n t57c), (58, .int .i64 t58), (59, .int .i64 t59)] H = compasslaw05_HeapAlike.j2_t (fun p7 q9 last11 t57p t57n t57c t58 t59 H => G [1, 1, 1, 1, 0, 0, 1, 1, 0, 0, 1, 0, 1, 1, 1, 1, 1, 1] [(7, .pointer p7), (9, .pointer q9), (11, .int .i64 last11), (57, .slice t57p t57n t57c), (58, .int .i64 t58), (59, .int .i64 t59)] H) p7 q9 last11 o13 key14 t57p t57n t57c t58 t59 X1 E H K := fun G => by kernel_rfl
  have k2 : compasslaw05_HeapAlike.j2_t (fun p7 q9 last11 t57p t57n t57c t58 t59 H => compasslaw05_HeapAlike.j3 p7 q9 last11 t57p t57n t57c t58 t59 X1 E H K) p7 q9 last11 o13 key14 t57p t57n t57c t58 t59 X1 E H K = compasslaw05_HeapAlike.j2_t (fun p7 q9 last11 t57p t57n t57c t58 t59 H => (fun q F H => nodeM P0 T0 compasslaw05_HeapAlike.A compasslaw05_HeapAlike.code q.reverse [X1] (compasslaw05_HeapAlike.rq E K) F H) [1, 1, 1, 1, 0, 0, 1, 1, 0, 0, 1, 0, 1, 1, 1, 1, 1, 1] [(7, .pointer p7), (9, .pointer q9), (11, .int .i64 last11), (57, .slice t57p t57n t57c), (58, .int .i64 t58), (59, .int .i64 t59)] H) p7 q9 last11 o13 key14 t57p t57n t57c t58 t59 X1 E H K := by kernel_rfl
  exact nodeR_imp compasslaw05_HeapAlike.nok rfl ((k1 _).mpr (k2.mp h))
def compasslaw05_HeapAlike.j3_t  (p7 : Option Addr) (q9 : Option Addr) (last11 : Int) (t57p : Option Addr) (t57n : Nat) (t57c : Nat) (t58 : Int) (t59 : Int) (X1 : Fr → Hp → Prop) (E : Value → Hp → Prop) (H : Hp) (K : Bool → Hp → Prop) : Prop :=
  heaps_Queue_Len.call p7 E H fun r_1 H_1 =>
  heaps_Queue_Len.call q9 E H_1 fun r_2 H_2 =>
  bcase (!decide ((r_1 : Int) = r_2)) (
  K false H_2)
  (X1 (compasslaw05_HeapAlike.f1 p7 q9 last11 t57p t57n t57c t58 (IntKind.wrap .i64 (t59 + 1))) H_2)
theorem compasslaw05_HeapAlike.j3_eq {p7 : Option Addr} {q9 : Option Addr} {last11 : Int} {t57p : Option Addr} {t57n : Nat} {t57c : Nat} {t58 : Int} {t59 : Int} {X1 : Fr → Hp → Prop} { E : Value → Hp → Prop} {H : Hp} {K : Bool → Hp → Prop} (h : compasslaw05_HeapAlike.j3_t  p7 q9 last11 t57p t57n t57c t58 t59 X1 E H K) : compasslaw05_HeapAlike.j3 p7 q9 last11 t57p t57n t57c t58 t59 X1 E H K := by
  have k1 : ∀ G : List Nat → Fr → Hp → Prop, nodeR P0 T0 compasslaw05_HeapAlike.A [[0, 1, 0, 1, 1, 1, 1], [0, 1, 0, 1, 1, 1, 1, 1, 1], [1, 1, 1, 0, 0, 1, 1, 0, 0, 1, 0, 1, 1, 1, 1, 1, 1], [1, 1, 1, 1, 0, 0, 1, 1, 0, 0, 1, 0, 1, 1, 1, 1, 1, 1], [1, 1, 1, 1, 1, 1, 1], [0, 0, 1, 1, 1, 1, 1, 1, 1], [1, 1, 1, 1, 1, 1, 1, 1]] G compasslaw05_HeapAlike.code [1, 1, 1, 1, 1, 1, 0, 1, 0, 0, 1, 1, 0, 0, 1, 1, 1, 1] [X1] (compasslaw05_HeapAlike.rq E K) [(7, .pointer p7), (9, .pointer q9), (11, .int .i64 last11), (57, .slice t57p t57n t57c), (58, .int .i64 t58), (59, .int .i64 t59)] H = compasslaw05_HeapAlike.j3_t  p7 q9 last11 t57p t57n t57c t58 t59 X1 E H K := fun G => by kernel_rfl
  exact nodeR_imp compasslaw05_HeapAlike.nok rfl ((k1 _).mpr h)
def compasslaw05_HeapAlike.j4_t (l2 : (Option Addr) → (Option Addr) → Hp → Prop) (p7 : Option Addr) (q9 : Option Addr)  (E : Value → Hp → Prop) (H : Hp) (K : Bool → Hp → Prop) : Prop :=
  l2 p7 q9 H
theorem compasslaw05_HeapAlike.j4_eq {p7 : Option Addr} {q9 : Option Addr} { E : Value → Hp → Prop} {H : Hp} {K : Bool → Hp → Prop} (h : compasslaw05_HeapAlike.j4_t (fun p7 q9 H => compasslaw05_HeapAlike.l2 p7 q9  E H K) p7 q9  E H K) : compasslaw05_HeapAlike.j4 p7 q9  E H K := by
  have k1 : ∀ G : List Nat → Fr → Hp → Prop, nodeR P0 T0 compasslaw05_HeapAlike.A [[0, 1, 0, 1, 1, 1, 1], [0, 1, 0, 1, 1, 1, 1, 1, 1], [1, 1, 1, 0, 0, 1, 1, 0, 0, 1, 0, 1, 1, 1, 1, 1, 1], [1, 1, 1, 1, 0, 0, 1, 1, 0, 0, 1, 0, 1, 1, 1, 1, 1, 1], [1, 1, 1, 1, 1, 1, 1], [0, 0, 1, 1, 1, 1, 1, 1, 1], [1, 1, 1, 1, 1, 1, 1, 1]] G compasslaw05_HeapAlike.code [1, 1, 1, 1, 1, 1, 1] [] (compasslaw05_HeapAlike.rq E K) [(7, .pointer p7), (9, .pointer q9)] H = compasslaw05_HeapAlike.j4_t (fun p7 q9 H => G [0, 0, 1, 1, 1, 1, 1, 1, 1] [(7, .pointer p7), (9, .pointer q9)] H) p7 q9  E H K := fun G => by kernel_rfl
  have k2 : compasslaw05_HeapAlike.j4_t (fun p7 q9 H => compasslaw05_HeapAlike.l2 p7 q9  E H K) p7 q9  E H K = compasslaw05_HeapAlike.j4_t (fun p7 q9 H => (fun q F H => nodeM P0 T0 compasslaw05_HeapAlike.A compasslaw05_HeapAlike.code q.reverse [] (compasslaw05_HeapAlike.rq E K) F H) [0, 0, 1, 1, 1, 1, 1, 1, 1] [(7, .pointer p7), (9, .pointer q9)] H) p7 q9  E H K := by kernel_rfl
  exact nodeR_imp compasslaw05_HeapAlike.nok rfl ((k1 _).mpr (k2.mp h))
def compasslaw05_HeapAlike.j5_t  (q9 : Option Addr)  (E : Value → Hp → Prop) (H : Hp) (K : Bool → Hp → Prop) : Prop :=
  heaps_Queue_Len.call q9 E H fun r_1 H_1 =>
  K (decide ((r_1 : Int) = 0)) H_1
theorem compasslaw05_HeapAlike.j5_eq {q9 : Option Addr} { E : Value → Hp → Prop} {H : Hp} {K : Bool → Hp → Prop} (h : compasslaw05_HeapAlike.j5_t  q9  E H K) : compasslaw05_HeapAlike.j5 q9  E H K := by
  have k1 : ∀ G : List Nat → Fr → Hp → Prop, nodeR P0 T0 compasslaw05_HeapAlike.A [[0, 1, 0, 1, 1, 1, 1], [0, 1, 0, 1, 1, 1, 1, 1, 1], [1, 1, 1, 0, 0, 1, 1, 0, 0, 1, 0, 1, 1, 1, 1, 1, 1], [1, 1, 1, 1, 0, 0, 1, 1, 0, 0, 1, 0, 1, 1, 1, 1, 1, 1], [1, 1, 1, 1, 1, 1, 1], [0, 0, 1, 1, 1, 1, 1, 1, 1], [1, 1, 1, 1, 1, 1, 1, 1]] G compasslaw05_HeapAlike.code [1, 1, 1, 1, 1, 1, 1, 1] [] (compasslaw05_HeapAlike.rq E K) [(9, .pointer q9)] H = compasslaw05_HeapAlike.j5_t  q9  E H K := fun G => by kernel_rfl
  exact nodeR_imp compasslaw05_HeapAlike.nok rfl ((k1 _).mpr h)
def compasslaw05_HeapAlike.b1_t (j2 : (Option Addr) → (Option Addr) → Int → Nat → Int → (Option Addr) → Nat → Nat → Int → Int → Hp → Prop) (j4 : (Option Addr) → (Option Addr) → Hp → Prop) (p7 : Option Addr) (q9 : Option Addr) (last11 : Int) (t57p : Option Addr) (t57n : Nat) (t57c : Nat) (t58 : Int) (t59 : Int) (X1 : Fr → Hp → Prop) (E : Value → Hp → Prop) (H : Hp) (K : Bool → Hp → Prop) : Prop :=
  bcase (decide ((t59 : Int) < t58)) (
  ix t57p t57n t59 3 fun b_1 o_1 =>
  ldI .i64 (H.get b_1 o_1) fun x_1 =>
  ldI .i64 (H.get b_1 (o_1 + 1)) fun x_2 =>
  ldI .i64 (H.get b_1 (o_1 + 2)) fun x_3 =>
  nw H ⟨[.int .i64 0, .int .i64 0, .int .i64 0], 36⟩ fun b_2 H_1 =>
  stC H_1 b_2 0 [.int .i64 x_1, .int .i64 x_2, .int .i64 x_3] fun H_2 =>
  ldI .i64 (H_2.get b_2 2) fun x_4 =>
  bcase (decide ((x_4 : Int) < last11)) (
  j2 p7 q9 last11 b_2 last11 t57p t57n t57c t58 t59 H_2)
  (j2 p7 q9 last11 b_2 x_4 t57p t57n t57c t58 t59 H_2))
  (j4 p7 q9 H)
theorem compasslaw05_HeapAlike.b1_eq {p7 : Option Addr} {q9 : Option Addr} {last11 : Int} {t57p : Option Addr} {t57n : Nat} {t57c : Nat} {t58 : Int} {t59 : Int} {X1 : Fr → Hp → Prop} { E : Value → Hp → Prop} {H : Hp} {K : Bool → Hp → Prop} (h : compasslaw05_HeapAlike.b1_t (fun p7 q9 last11 o13 key14 t57p t57n t57c t58 t59 H => compasslaw05_HeapAlike.j2 p7 q9 last11 o13 key14 t57p t57n t57c t58 t59 X1 E H K) (fun p7 q9 H => compasslaw05_HeapAlike.j4 p7 q9  E H K) p7 q9 last11 t57p t57n t57c t58 t59 X1 E H K) : compasslaw05_HeapAlike.b1 p7 q9 last11 t57p t57n t57c t58 t59 X1 E H K := by
  have k1 : ∀ G : List Nat → Fr → Hp → Prop, nodeR P0 T0 compasslaw05_HeapAlike.A [[0, 1, 0, 1, 1, 1, 1], [0, 1, 0, 1, 1, 1, 1, 1, 1], [1, 1, 1, 0, 0, 1, 1, 0, 0, 1, 0, 1, 1, 1, 1, 1, 1], [1, 1, 1, 1, 0, 0, 1, 1, 0, 0, 1, 0, 1, 1, 1, 1, 1, 1], [1, 1, 1, 1, 1, 1, 1], [0, 0, 1, 1, 1, 1, 1, 1, 1], [1, 1, 1, 1, 1, 1, 1, 1]] G compasslaw05_HeapAlike.code [1, 1, 1, 1, 1, 1, 0, 1, 0, 0] [X1] (compasslaw05_HeapAlike.rq E K) (compasslaw05_HeapAlike.f1 p7 q9 last11 t57p t57n t57c t58 t59) H = compasslaw05_HeapAlike.b1_t (fun p7 q9 last11 o13 key14 t57p t57n t57c t58 t59 H => G [1, 1, 1, 0, 0, 1, 1, 0, 0, 1, 0, 1, 1, 1, 1, 1, 1] [(7, .pointer p7), (9, .pointer q9), (11, .int .i64 last11), (13, .pointer (some ⟨o13, 0, none⟩)), (14, .int .i64 key14), (57, .slice t57p t57n t57c), (58, .int .i64 t58), (59, .int .i64 t59)] H) (fun p7 q9 H => G [1, 1, 1, 1, 1, 1, 1] [(7, .pointer p7), (9, .pointer q9)] H) p7 q9 last11 t57p t57n t57c t58 t59 X1 E H K := fun G => by kernel_rfl
  have k2 : compasslaw05_HeapAlike.b1_t (fun p7 q9 last11 o13 key14 t57p t57n t57c t58 t59 H => compasslaw05_HeapAlike.j2 p7 q9 last11 o13 key14 t57p t57n t57c t58 t59 X1 E H K) (fun p7 q9 H => compasslaw05_HeapAlike.j4 p7 q9  E H K) p7 q9 last11 t57p t57n t57c t58 t59 X1 E H K = compasslaw05_HeapAlike.b1_t (fun p7 q9 last11 o13 key14 t57p t57n t57c t58 t59 H => (fun q F H => nodeM P0 T0 compasslaw05_HeapAlike.A compasslaw05_HeapAlike.code q.reverse [X1] (compasslaw05_HeapAlike.rq E K) F H) [1, 1, 1, 0, 0, 1, 1, 0, 0, 1, 0, 1, 1, 1, 1, 1, 1] [(7, .pointer p7), (9, .pointer q9), (11, .int .i64 last11), (13, .pointer (some ⟨o13, 0, none⟩)), (14, .int .i64 key14), (57, .slice t57p t57n t57c), (58, .int .i64 t58), (59, .int .i64 t59)] H) (fun p7 q9 H => (fun q F H => nodeM P0 T0 compasslaw05_HeapAlike.A compasslaw05_HeapAlike.code q.reverse [X1] (compasslaw05_HeapAlike.rq E K) F H) [1, 1, 1, 1, 1, 1, 1] [(7, .pointer p7), (9, .pointer q9)] H) p7 q9 last11 t57p t57n t57c t58 t59 X1 E H K := by kernel_rfl
  exact nodeR_imp compasslaw05_HeapAlike.nok rfl ((k1 _).mpr (k2.mp h))
def compasslaw05_HeapAlike.b2_t (j5 : (Option Addr) → Hp → Prop) (p7 : Option Addr) (q9 : Option Addr) (X1 : Fr → Hp → Prop) (E : Value → Hp → Prop) (H : Hp) (K : Bool → Hp → Prop) : Prop :=
  heaps_Queue_Len.call p7 E H fun r_1 H_1 =>
  bcase (decide ((0 : Int) < r_1)) (
  heaps_Queue_Pop.call p7 E H_1 fun r_2 r_3 r_4 H_2 =>
  heaps_Queue_Pop.call q9 E H_2 fun r_5 r_6 r_7 H_3 =>
  bcase (!decide ((r_2 : Int) = r_5)) (
  K false H_3)
  (bcase (!decide ((r_3 : Int) = r_6)) (
  K false H_3)
  (bcase (!decide ((r_4 : Int) = 0)) (
  K false H_3)
  (bcase (!decide ((r_7 : Int) = 0)) (
  K false H_3)
  (X1 (compasslaw05_HeapAlike.f2 p7 q9) H_3)))))
  (j5 q9 H_1)
theorem compasslaw05_HeapAlike.b2_eq {p7 : Option Addr} {q9 : Option Addr} {X1 : Fr → Hp → Prop} { E : Value → Hp → Prop} {H : Hp} {K : Bool → Hp → Prop} (h : compasslaw05_HeapAlike.b2_t (fun q9 H => compasslaw05_HeapAlike.j5 q9  E H K) p7 q9 X1 E H K) : compasslaw05_HeapAlike.b2 p7 q9 X1 E H K := by
  have k1 : ∀ G : List Nat → Fr → Hp → Prop, nodeR P0 T0 compasslaw05_HeapAlike.A [[0, 1, 0, 1, 1, 1, 1], [0, 1, 0, 1, 1, 1, 1, 1, 1], [1, 1, 1, 0, 0, 1, 1, 0, 0, 1, 0, 1, 1, 1, 1, 1, 1], [1, 1, 1, 1, 0, 0, 1, 1, 0, 0, 1, 0, 1, 1, 1, 1, 1, 1], [1, 1, 1, 1, 1, 1, 1], [0, 0, 1, 1, 1, 1, 1, 1, 1], [1, 1, 1, 1, 1, 1, 1, 1]] G compasslaw05_HeapAlike.code [1, 1, 1, 1, 1, 1, 1, 0, 0, 0] [X1] (compasslaw05_HeapAlike.rq E K) (compasslaw05_HeapAlike.f2 p7 q9) H = compasslaw05_HeapAlike.b2_t (fun q9 H => G [1, 1, 1, 1, 1, 1, 1, 1] [(9, .pointer q9)] H) p7 q9 X1 E H K := fun G => by kernel_rfl
  have k2 : compasslaw05_HeapAlike.b2_t (fun q9 H => compasslaw05_HeapAlike.j5 q9  E H K) p7 q9 X1 E H K = compasslaw05_HeapAlike.b2_t (fun q9 H => (fun q F H => nodeM P0 T0 compasslaw05_HeapAlike.A compasslaw05_HeapAlike.code q.reverse [X1] (compasslaw05_HeapAlike.rq E K) F H) [1, 1, 1, 1, 1, 1, 1, 1] [(9, .pointer q9)] H) p7 q9 X1 E H K := by kernel_rfl
  exact nodeR_imp compasslaw05_HeapAlike.nok rfl ((k1 _).mpr (k2.mp h))
end Go.Mz
