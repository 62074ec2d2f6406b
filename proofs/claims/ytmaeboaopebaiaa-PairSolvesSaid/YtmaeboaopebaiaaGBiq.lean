/-
  The shallow texts of functions (Biq), each with a kernel-checked equation to the translated code. It proves nothing of the program by itself.
-/
import Derived.Test.YtmaeboaopebaiaaTab
set_option linter.unusedVariables false
set_option maxRecDepth 100000
namespace Go.Mz
/-! ### compass/bimatch.Solve (27) -/
noncomputable def bimatch_Solve.A : An := { live := [(0, [0, 1, 2]), (1, [1, 2, 3, 6]), (2, [1, 2, 3, 6, 9]), (3, [9]), (4, [1, 2, 3, 6]), (5, [1, 2, 3, 6, 10]), (6, [1, 2, 6, 10, 36, 37, 38]), (7, [1, 2, 6, 10, 36, 37, 38]), (8, [1, 2, 6, 10, 11, 12, 36, 37, 38]), (9, [1, 2, 6, 10, 11, 13, 36, 37, 38]), (10, [1, 2, 6, 10, 36, 37, 38]), (11, [1, 2, 6, 10]), (12, [1, 2, 6, 10, 69, 70]), (13, [1, 2, 6, 10, 69, 70]), (14, [1, 2, 6, 10, 14, 69, 70]), (15, [1, 2, 6, 10, 69, 70]), (16, [1, 2, 6, 10]), (17, [1, 2, 6, 10]), (18, []), (19, [1, 6, 10, 80]), (20, [1, 6, 10]), (21, [1, 6, 10, 80]), (22, [1, 6, 10]), (23, [1, 6, 10, 15]), (24, [1, 6, 10]), (25, [6, 10, 100, 101, 102]), (26, [6, 10, 100, 101, 102]), (27, [6, 10, 17, 100, 101, 102]), (28, [6, 10, 17, 100, 101, 102]), (29, [6, 10, 100, 101, 102]), (30, [6, 10]), (31, [6, 10])], ord := [(3, [0, 1, 2, 3, 4]), (4, [0, 1, 2, 3, 4, 5, 6, 7, 8, 9]), (9, [0, 1, 2, 3, 4, 5, 6, 7, 8, 9, 10, 11, 12, 13, 14, 15, 16])], stb := [(9, [(14, [3])])], pre := [(3, [[], [0], [], [2], [0, 1, 2, 3]]), (4, [[], [], [], [2], [], [4], [4, 5], [0, 1, 2, 3, 4, 5, 6], [0, 1, 2, 3, 4, 5, 6, 7], [0, 1, 2, 3, 4, 5, 6, 7, 8]]), (9, [[], [0], [0, 1], [0, 1, 2], [], [], [5], [5, 6], [5, 6, 7], [], [5, 6, 7, 8, 9], [5, 6, 7, 8, 9, 10], [], [12], [5, 6, 7, 8, 9, 10, 11, 12, 13], [0, 1, 2, 3, 4, 5, 6, 7, 8, 9, 10, 11, 12, 13, 14], [0, 1, 2, 3, 4, 5, 6, 7, 8, 9, 10, 11, 12, 13, 14, 15]])] }
noncomputable def bimatch_Solve.code : Code := bodyOf Go.Proofs.Try.f27
theorem bimatch_Solve.ok : okCode bimatch_Solve.A 118 bimatch_Solve.code = true := by kernel_rfl
def bimatch_Solve.rq (E : Value → Hp → Prop) (K : (Option Addr) → Nat → Nat → (Option Addr) → Nat → Nat → Int → Hp → Prop) : Ex → Fr → Hp → Prop := retQ T0 [.tmp 6, .tmp 7, .tmp 8] [26, 26, 27] (fun r H => ldR (.tup [(false, [.sl]), (false, [.sl]), (false, [.i .i64])]) r fun u => K (asS1 (tupV u 0)) (asS2 (tupV u 0)) (asS3 (tupV u 0)) (asS1 (tupV u 1)) (asS2 (tupV u 1)) (asS3 (tupV u 1)) (asI (tupV u 2)) H) E
def bimatch_Solve.run (g0_Nodes : Int) (g0_Edgesp : Option Addr) (g0_Edgesn : Nat) (g0_Edgesc : Nat) (left1 : Int) (kind2 : Int) (E : Value → Hp → Prop) (H : Hp) (K : (Option Addr) → Nat → Nat → (Option Addr) → Nat → Nat → Int → Hp → Prop) : Prop := nodeM P0 T0 bimatch_Solve.A bimatch_Solve.code [] [] (bimatch_Solve.rq E K) (argF 0 [.agg ⟨[.int .i64 g0_Nodes, .slice g0_Edgesp g0_Edgesn g0_Edgesc]⟩, .int .i64 left1, .int .i64 kind2]) H
theorem bimatch_Solve.of {g0_Nodes : Int} {g0_Edgesp : Option Addr} {g0_Edgesn : Nat} {g0_Edgesc : Nat} {left1 : Int} {kind2 : Int} {E : Value → Hp → Prop} {H : Hp} {K : (Option Addr) → Nat → Nat → (Option Addr) → Nat → Nat → Int → Hp → Prop} (h : bimatch_Solve.run g0_Nodes g0_Edgesp g0_Edgesn g0_Edgesc left1 kind2 E H K) : bimatch_Solve.call g0_Nodes g0_Edgesp g0_Edgesn g0_Edgesc left1 kind2 E H K :=
  callW_of T0_ok P0_mixed (A := bimatch_Solve.A) (fn := Go.Proofs.Try.f27) Go.Proofs.Try.func27 rfl bimatch_Solve.ok rfl h
noncomputable def bimatch_Solve.f1 (left1 : Int) (kind2 : Int) (match6p : Option Addr) (match6n : Nat) (match6c : Nat) (p10 : Option Addr) (t36p : Option Addr) (t36n : Nat) (t36c : Nat) (t37 : Int) (t38 : Int) : Fr := [(1, .int .i64 left1), (2, .int .i64 kind2), (6, .slice match6p match6n match6c), (10, .pointer p10), (36, .slice t36p t36n t36c), (37, .int .i64 t37), (38, .int .i64 t38)]
noncomputable def bimatch_Solve.f2 (left1 : Int) (kind2 : Int) (match6p : Option Addr) (match6n : Nat) (match6c : Nat) (p10 : Option Addr) (t69 : Int) (t70 : Int) : Fr := [(1, .int .i64 left1), (2, .int .i64 kind2), (6, .slice match6p match6n match6c), (10, .pointer p10), (69, .int .i64 t69), (70, .int .i64 t70)]
noncomputable def bimatch_Solve.f3 (match6p : Option Addr) (match6n : Nat) (match6c : Nat) (p10 : Option Addr) (t100p : Option Addr) (t100n : Nat) (t100c : Nat) (t101 : Int) (t102 : Int) : Fr := [(6, .slice match6p match6n match6c), (10, .pointer p10), (100, .slice t100p t100n t100c), (101, .int .i64 t101), (102, .int .i64 t102)]
def bimatch_Solve.j1 (left1 : Int) (kind2 : Int) (match6p : Option Addr) (match6n : Nat) (match6c : Nat) (p10 : Option Addr)  (E : Value → Hp → Prop) (H : Hp) (K : (Option Addr) → Nat → Nat → (Option Addr) → Nat → Nat → Int → Hp → Prop) : Prop := nodeM P0 T0 bimatch_Solve.A bimatch_Solve.code [1, 1, 1, 1] [] (bimatch_Solve.rq E K) [(1, .int .i64 left1), (2, .int .i64 kind2), (6, .slice match6p match6n match6c), (10, .pointer p10)] H
def bimatch_Solve.j2 (left1 : Int) (kind2 : Int) (match6p : Option Addr) (match6n : Nat) (match6c : Nat) (p10 : Option Addr)  (E : Value → Hp → Prop) (H : Hp) (K : (Option Addr) → Nat → Nat → (Option Addr) → Nat → Nat → Int → Hp → Prop) : Prop := nodeM P0 T0 bimatch_Solve.A bimatch_Solve.code [1, 1, 1, 1, 1] [] (bimatch_Solve.rq E K) [(1, .int .i64 left1), (2, .int .i64 kind2), (6, .slice match6p match6n match6c), (10, .pointer p10)] H
def bimatch_Solve.j3 (left1 : Int) (match6p : Option Addr) (match6n : Nat) (match6c : Nat) (p10 : Option Addr) (w15 : Value)  (E : Value → Hp → Prop) (H : Hp) (K : (Option Addr) → Nat → Nat → (Option Addr) → Nat → Nat → Int → Hp → Prop) : Prop := nodeM P0 T0 bimatch_Solve.A bimatch_Solve.code [1, 1, 1, 1, 1, 1, 1] [] (bimatch_Solve.rq E K) [(1, .int .i64 left1), (6, .slice match6p match6n match6c), (10, .pointer p10), (15, w15)] H
def bimatch_Solve.j4 (match6p : Option Addr) (match6n : Nat) (match6c : Nat) (p10 : Option Addr) (t100p : Option Addr) (t100n : Nat) (t100c : Nat) (t101 : Int) (t102 : Int) (X1 : Fr → Hp → Prop) (E : Value → Hp → Prop) (H : Hp) (K : (Option Addr) → Nat → Nat → (Option Addr) → Nat → Nat → Int → Hp → Prop) : Prop := nodeM P0 T0 bimatch_Solve.A bimatch_Solve.code [1, 1, 1, 1, 1, 1, 1, 1, 0, 1, 0, 0, 1, 1, 1] [X1] (bimatch_Solve.rq E K) [(6, .slice match6p match6n match6c), (10, .pointer p10), (100, .slice t100p t100n t100c), (101, .int .i64 t101), (102, .int .i64 t102)] H
def bimatch_Solve.j5 (match6p : Option Addr) (match6n : Nat) (match6c : Nat) (p10 : Option Addr)  (E : Value → Hp → Prop) (H : Hp) (K : (Option Addr) → Nat → Nat → (Option Addr) → Nat → Nat → Int → Hp → Prop) : Prop := nodeM P0 T0 bimatch_Solve.A bimatch_Solve.code [1, 1, 1, 1, 1, 1, 1, 1, 1] [] (bimatch_Solve.rq E K) [(6, .slice match6p match6n match6c), (10, .pointer p10)] H
def bimatch_Solve.l1 (left1 : Int) (kind2 : Int) (match6p : Option Addr) (match6n : Nat) (match6c : Nat) (p10 : Option Addr) (t36p : Option Addr) (t36n : Nat) (t36c : Nat) (t37 : Int) (t38 : Int)  (E : Value → Hp → Prop) (H : Hp) (K : (Option Addr) → Nat → Nat → (Option Addr) → Nat → Nat → Int → Hp → Prop) : Prop := nodeM P0 T0 bimatch_Solve.A bimatch_Solve.code [1, 1, 1, 0, 1, 0] [] (bimatch_Solve.rq E K) (bimatch_Solve.f1 left1 kind2 match6p match6n match6c p10 t36p t36n t36c t37 t38) H
def bimatch_Solve.b1 (left1 : Int) (kind2 : Int) (match6p : Option Addr) (match6n : Nat) (match6c : Nat) (p10 : Option Addr) (t36p : Option Addr) (t36n : Nat) (t36c : Nat) (t37 : Int) (t38 : Int)  (X1 : Fr → Hp → Prop) (E : Value → Hp → Prop) (H : Hp) (K : (Option Addr) → Nat → Nat → (Option Addr) → Nat → Nat → Int → Hp → Prop) : Prop := nodeM P0 T0 bimatch_Solve.A bimatch_Solve.code [1, 1, 1, 0, 1, 0, 0] [X1] (bimatch_Solve.rq E K) (bimatch_Solve.f1 left1 kind2 match6p match6n match6c p10 t36p t36n t36c t37 t38) H
theorem bimatch_Solve.l1_rule { E : Value → Hp → Prop} {K : (Option Addr) → Nat → Nat → (Option Addr) → Nat → Nat → Int → Hp → Prop} (I : Int → Int → (Option Addr) → Nat → Nat → (Option Addr) → (Option Addr) → Nat → Nat → Int → Int → Hp → Prop) (μ : Int → Int → (Option Addr) → Nat → Nat → (Option Addr) → (Option Addr) → Nat → Nat → Int → Int → Hp → Nat)
    (h : ∀ left1 kind2 match6p match6n match6c p10 t36p t36n t36c t37 t38 H, I left1 kind2 match6p match6n match6c p10 t36p t36n t36c t37 t38 H → ∀ X : Fr → Hp → Prop, (∀ left1' kind2' match6p' match6n' match6c' p10' t36p' t36n' t36c' t37' t38' H', I left1' kind2' match6p' match6n' match6c' p10' t36p' t36n' t36c' t37' t38' H' → μ left1' kind2' match6p' match6n' match6c' p10' t36p' t36n' t36c' t37' t38' H' < μ left1 kind2 match6p match6n match6c p10 t36p t36n t36c t37 t38 H → X (bimatch_Solve.f1 left1' kind2' match6p' match6n' match6c' p10' t36p' t36n' t36c' t37' t38') H') → bimatch_Solve.b1 left1 kind2 match6p match6n match6c p10 t36p t36n t36c t37 t38  X E H K)
    {left1 : Int} {kind2 : Int} {match6p : Option Addr} {match6n : Nat} {match6c : Nat} {p10 : Option Addr} {t36p : Option Addr} {t36n : Nat} {t36c : Nat} {t37 : Int} {t38 : Int} {H : Hp} (hI : I left1 kind2 match6p match6n match6c p10 t36p t36n t36c t37 t38 H) : bimatch_Solve.l1 left1 kind2 match6p match6n match6c p10 t36p t36n t36c t37 t38  E H K :=
  loop_rule (S := Int × Int × (Option Addr) × Nat × Nat × (Option Addr) × (Option Addr) × Nat × Nat × Int × Int) (fun s => bimatch_Solve.f1 (s.1) (s.2.1) (s.2.2.1) (s.2.2.2.1) (s.2.2.2.2.1) (s.2.2.2.2.2.1) (s.2.2.2.2.2.2.1) (s.2.2.2.2.2.2.2.1) (s.2.2.2.2.2.2.2.2.1) (s.2.2.2.2.2.2.2.2.2.1) (s.2.2.2.2.2.2.2.2.2.2)) (fun s H => I (s.1) (s.2.1) (s.2.2.1) (s.2.2.2.1) (s.2.2.2.2.1) (s.2.2.2.2.2.1) (s.2.2.2.2.2.2.1) (s.2.2.2.2.2.2.2.1) (s.2.2.2.2.2.2.2.2.1) (s.2.2.2.2.2.2.2.2.2.1) (s.2.2.2.2.2.2.2.2.2.2) H) (fun s H => μ (s.1) (s.2.1) (s.2.2.1) (s.2.2.2.1) (s.2.2.2.2.1) (s.2.2.2.2.2.1) (s.2.2.2.2.2.2.1) (s.2.2.2.2.2.2.2.1) (s.2.2.2.2.2.2.2.2.1) (s.2.2.2.2.2.2.2.2.2.1) (s.2.2.2.2.2.2.2.2.2.2) H) (fun s H hI X hX => h (s.1) (s.2.1) (s.2.2.1) (s.2.2.2.1) (s.2.2.2.2.1) (s.2.2.2.2.2.1) (s.2.2.2.2.2.2.1) (s.2.2.2.2.2.2.2.1) (s.2.2.2.2.2.2.2.2.1) (s.2.2.2.2.2.2.2.2.2.1) (s.2.2.2.2.2.2.2.2.2.2) H hI X fun left1' kind2' match6p' match6n' match6c' p10' t36p' t36n' t36c' t37' t38' H' hI' hlt => hX (left1', kind2', match6p', match6n', match6c', p10', t36p', t36n', t36c', t37', t38') H' hI' hlt) (s := (left1, kind2, match6p, match6n, match6c, p10, t36p, t36n, t36c, t37, t38)) rfl hI
def bimatch_Solve.l2 (left1 : Int) (kind2 : Int) (match6p : Option Addr) (match6n : Nat) (match6c : Nat) (p10 : Option Addr) (t69 : Int) (t70 : Int)  (E : Value → Hp → Prop) (H : Hp) (K : (Option Addr) → Nat → Nat → (Option Addr) → Nat → Nat → Int → Hp → Prop) : Prop := nodeM P0 T0 bimatch_Solve.A bimatch_Solve.code [1, 1, 1, 1, 0, 1, 0] [] (bimatch_Solve.rq E K) (bimatch_Solve.f2 left1 kind2 match6p match6n match6c p10 t69 t70) H
def bimatch_Solve.b2 (left1 : Int) (kind2 : Int) (match6p : Option Addr) (match6n : Nat) (match6c : Nat) (p10 : Option Addr) (t69 : Int) (t70 : Int)  (X1 : Fr → Hp → Prop) (E : Value → Hp → Prop) (H : Hp) (K : (Option Addr) → Nat → Nat → (Option Addr) → Nat → Nat → Int → Hp → Prop) : Prop := nodeM P0 T0 bimatch_Solve.A bimatch_Solve.code [1, 1, 1, 1, 0, 1, 0, 0] [X1] (bimatch_Solve.rq E K) (bimatch_Solve.f2 left1 kind2 match6p match6n match6c p10 t69 t70) H
theorem bimatch_Solve.l2_rule { E : Value → Hp → Prop} {K : (Option Addr) → Nat → Nat → (Option Addr) → Nat → Nat → Int → Hp → Prop} (I : Int → Int → (Option Addr) → Nat → Nat → (Option Addr) → Int → Int → Hp → Prop) (μ : Int → Int → (Option Addr) → Nat → Nat → (Option Addr) → Int → Int → Hp → Nat)
    (h : ∀ left1 kind2 match6p match6n match6c p10 t69 t70 H, I left1 kind2 match6p match6n match6c p10 t69 t70 H → ∀ X : Fr → Hp → Prop, (∀ left1' kind2' match6p' match6n' match6c' p10' t69' t70' H', I left1' kind2' match6p' match6n' match6c' p10' t69' t70' H' → μ left1' kind2' match6p' match6n' match6c' p10' t69' t70' H' < μ left1 kind2 match6p match6n match6c p10 t69 t70 H → X (bimatch_Solve.f2 left1' kind2' match6p' match6n' match6c' p10' t69' t70') H') → bimatch_Solve.b2 left1 kind2 match6p match6n match6c p10 t69 t70  X E H K)
    {left1 : Int} {kind2 : Int} {match6p : Option Addr} {match6n : Nat} {match6c : Nat} {p10 : Option Addr} {t69 : Int} {t70 : Int} {H : Hp} (hI : I left1 kind2 match6p match6n match6c p10 t69 t70 H) : bimatch_Solve.l2 left1 kind2 match6p match6n match6c p10 t69 t70  E H K :=
  loop_rule (S := Int × Int × (Option Addr) × Nat × Nat × (Option Addr) × Int × Int) (fun s => bimatch_Solve.f2 (s.1) (s.2.1) (s.2.2.1) (s.2.2.2.1) (s.2.2.2.2.1) (s.2.2.2.2.2.1) (s.2.2.2.2.2.2.1) (s.2.2.2.2.2.2.2)) (fun s H => I (s.1) (s.2.1) (s.2.2.1) (s.2.2.2.1) (s.2.2.2.2.1) (s.2.2.2.2.2.1) (s.2.2.2.2.2.2.1) (s.2.2.2.2.2.2.2) H) (fun s H => μ (s.1) (s.2.1) (s.2.2.1) (s.2.2.2.1) (s.2.2.2.2.1) (s.2.2.2.2.2.1) (s.2.2.2.2.2.2.1) (s.2.2.2.2.2.2.2) H) (fun s H hI X hX => h (s.1) (s.2.1) (s.2.2.1) (s.2.2.2.1) (s.2.2.2.2.1) (s.2.2.2.2.2.1) (s.2.2.2.2.2.2.1) (s.2.2.2.2.2.2.2) H hI X fun left1' kind2' match6p' match6n' match6c' p10' t69' t70' H' hI' hlt => hX (left1', kind2', match6p', match6n', match6c', p10', t69', t70') H' hI' hlt) (s := (left1, kind2, match6p, match6n, match6c, p10, t69, t70)) rfl hI
def bimatch_Solve.l3 (match6p : Option Addr) (match6n : Nat) (match6c : Nat) (p10 : Option Addr) (t100p : Option Addr) (t100n : Nat) (t100c : Nat) (t101 : Int) (t102 : Int)  (E : Value → Hp → Prop) (H : Hp) (K : (Option Addr) → Nat → Nat → (Option Addr) → Nat → Nat → Int → Hp → Prop) : Prop := nodeM P0 T0 bimatch_Solve.A bimatch_Solve.code [1, 1, 1, 1, 1, 1, 1, 1, 0, 1, 0] [] (bimatch_Solve.rq E K) (bimatch_Solve.f3 match6p match6n match6c p10 t100p t100n t100c t101 t102) H
def bimatch_Solve.b3 (match6p : Option Addr) (match6n : Nat) (match6c : Nat) (p10 : Option Addr) (t100p : Option Addr) (t100n : Nat) (t100c : Nat) (t101 : Int) (t102 : Int)  (X1 : Fr → Hp → Prop) (E : Value → Hp → Prop) (H : Hp) (K : (Option Addr) → Nat → Nat → (Option Addr) → Nat → Nat → Int → Hp → Prop) : Prop := nodeM P0 T0 bimatch_Solve.A bimatch_Solve.code [1, 1, 1, 1, 1, 1, 1, 1, 0, 1, 0, 0] [X1] (bimatch_Solve.rq E K) (bimatch_Solve.f3 match6p match6n match6c p10 t100p t100n t100c t101 t102) H
theorem bimatch_Solve.l3_rule { E : Value → Hp → Prop} {K : (Option Addr) → Nat → Nat → (Option Addr) → Nat → Nat → Int → Hp → Prop} (I : (Option Addr) → Nat → Nat → (Option Addr) → (Option Addr) → Nat → Nat → Int → Int → Hp → Prop) (μ : (Option Addr) → Nat → Nat → (Option Addr) → (Option Addr) → Nat → Nat → Int → Int → Hp → Nat)
    (h : ∀ match6p match6n match6c p10 t100p t100n t100c t101 t102 H, I match6p match6n match6c p10 t100p t100n t100c t101 t102 H → ∀ X : Fr → Hp → Prop, (∀ match6p' match6n' match6c' p10' t100p' t100n' t100c' t101' t102' H', I match6p' match6n' match6c' p10' t100p' t100n' t100c' t101' t102' H' → μ match6p' match6n' match6c' p10' t100p' t100n' t100c' t101' t102' H' < μ match6p match6n match6c p10 t100p t100n t100c t101 t102 H → X (bimatch_Solve.f3 match6p' match6n' match6c' p10' t100p' t100n' t100c' t101' t102') H') → bimatch_Solve.b3 match6p match6n match6c p10 t100p t100n t100c t101 t102  X E H K)
    {match6p : Option Addr} {match6n : Nat} {match6c : Nat} {p10 : Option Addr} {t100p : Option Addr} {t100n : Nat} {t100c : Nat} {t101 : Int} {t102 : Int} {H : Hp} (hI : I match6p match6n match6c p10 t100p t100n t100c t101 t102 H) : bimatch_Solve.l3 match6p match6n match6c p10 t100p t100n t100c t101 t102  E H K :=
  loop_rule (S := (Option Addr) × Nat × Nat × (Option Addr) × (Option Addr) × Nat × Nat × Int × Int) (fun s => bimatch_Solve.f3 (s.1) (s.2.1) (s.2.2.1) (s.2.2.2.1) (s.2.2.2.2.1) (s.2.2.2.2.2.1) (s.2.2.2.2.2.2.1) (s.2.2.2.2.2.2.2.1) (s.2.2.2.2.2.2.2.2)) (fun s H => I (s.1) (s.2.1) (s.2.2.1) (s.2.2.2.1) (s.2.2.2.2.1) (s.2.2.2.2.2.1) (s.2.2.2.2.2.2.1) (s.2.2.2.2.2.2.2.1) (s.2.2.2.2.2.2.2.2) H) (fun s H => μ (s.1) (s.2.1) (s.2.2.1) (s.2.2.2.1) (s.2.2.2.2.1) (s.2.2.2.2.2.1) (s.2.2.2.2.2.2.1) (s.2.2.2.2.2.2.2.1) (s.2.2.2.2.2.2.2.2) H) (fun s H hI X hX => h (s.1) (s.2.1) (s.2.2.1) (s.2.2.2.1) (s.2.2.2.2.1) (s.2.2.2.2.2.1) (s.2.2.2.2.2.2.1) (s.2.2.2.2.2.2.2.1) (s.2.2.2.2.2.2.2.2) H hI X fun match6p' match6n' match6c' p10' t100p' t100n' t100c' t101' t102' H' hI' hlt => hX (match6p', match6n', match6c', p10', t100p', t100n', t100c', t101', t102') H' hI' hlt) (s := (match6p, match6n, match6c, p10, t100p, t100n, t100c, t101, t102)) rfl hI
theorem bimatch_Solve.nok : nodesOk bimatch_Solve.code [[0, 1, 0, 1, 1, 1], [1, 1, 1, 1], [0, 1, 0, 1, 1, 1, 1], [1, 1, 1, 1, 1], [1, 1, 1, 1, 1, 1, 1], [0, 1, 0, 1, 1, 1, 1, 1, 1, 1, 1], [1, 1, 1, 0, 0, 1, 0, 1, 1, 1, 1, 1, 1, 1, 1], [1, 1, 1, 1, 1, 1, 1, 1, 1]] = true := by kernel_rfl
def bimatch_Solve.run_t (l1 : Int → Int → (Option Addr) → Nat → Nat → (Option Addr) → (Option Addr) → Nat → Nat → Int → Int → Hp → Prop) (g0_Nodes : Int) (g0_Edgesp : Option Addr) (g0_Edgesn : Nat) (g0_Edgesc : Nat) (left1 : Int) (kind2 : Int)  (E : Value → Hp → Prop) (H : Hp) (K : (Option Addr) → Nat → Nat → (Option Addr) → Nat → Nat → Int → Hp → Prop) : Prop :=
  nw H ⟨[.int .i64 g0_Nodes, .slice g0_Edgesp g0_Edgesn g0_Edgesc], 24⟩ fun b_1 H_1 =>
  ldI .i64 (H_1.get b_1 0) fun x_1 =>
  ldS (H_1.get b_1 1) fun x_2p x_2n x_2c =>
  bimatch_Sides.call x_1 x_2p x_2n x_2c left1 E H_1 fun r_1_Code r_1_At H_2 =>
  nw H_2 ⟨[.int .i64 0, .int .i64 0], 42⟩ fun b_2 H_3 =>
  stC H_3 b_2 0 [.int .i64 r_1_Code, .int .i64 r_1_At] fun H_4 =>
  ldI .i64 (H_4.get b_2 0) fun x_3 =>
  bcase (!decide ((x_3 : Int) = 0)) (
  ldI .i64 (H_4.get b_2 0) fun x_4 =>
  K none 0 0 none 0 0 x_4 H_4)
  (ldI .i64 (H_4.get b_1 0) fun x_5 =>
  ldS (H_4.get b_1 1) fun x_6p x_6n x_6c =>
  mkS left1 left1 26 [.sl] 24 H_4 fun b_3 H_5 =>
  ldI .i64 (H_5.get b_1 0) fun x_7 =>
  mkS x_7 x_7 3 [.i .i64] 8 H_5 fun b_4 H_6 =>
  nw H_6 ⟨[.int .i64 x_5, .slice x_6p x_6n x_6c, .int .i64 left1, .slice (some ⟨b_3, 0, none⟩) left1.toNat left1.toNat, .slice (some ⟨b_4, 0, none⟩) x_7.toNat x_7.toNat], 80⟩ fun b_5 H_7 =>
  ldS (H_7.get b_1 1) fun x_8p x_8n x_8c =>
  l1 left1 kind2 none 0 0 (some ⟨b_5, 0, none⟩) x_8p x_8n x_8c (x_8n : Int) 0 H_7)
theorem bimatch_Solve.run_eq {g0_Nodes : Int} {g0_Edgesp : Option Addr} {g0_Edgesn : Nat} {g0_Edgesc : Nat} {left1 : Int} {kind2 : Int} { E : Value → Hp → Prop} {H : Hp} {K : (Option Addr) → Nat → Nat → (Option Addr) → Nat → Nat → Int → Hp → Prop} (h : bimatch_Solve.run_t (fun left1 kind2 match6p match6n match6c p10 t36p t36n t36c t37 t38 H => bimatch_Solve.l1 left1 kind2 match6p match6n match6c p10 t36p t36n t36c t37 t38  E H K) g0_Nodes g0_Edgesp g0_Edgesn g0_Edgesc left1 kind2  E H K) : bimatch_Solve.run g0_Nodes g0_Edgesp g0_Edgesn g0_Edgesc left1 kind2  E H K := by
  have k1 : ∀ G : List Nat → Fr → Hp → Prop, nodeR P0 T0 bimatch_Solve.A [[0, 1, 0, 1, 1, 1], [1, 1, 1, 1], [0, 1, 0, 1, 1, 1, 1], [1, 1, 1, 1, 1], [1, 1, 1, 1, 1, 1, 1], [0, 1, 0, 1, 1, 1, 1, 1, 1, 1, 1], [1, 1, 1, 0, 0, 1, 0, 1, 1, 1, 1, 1, 1, 1, 1], [1, 1, 1, 1, 1, 1, 1, 1, 1]] G bimatch_Solve.code [] [] (bimatch_Solve.rq E K) (argF 0 [.agg ⟨[.int .i64 g0_Nodes, .slice g0_Edgesp g0_Edgesn g0_Edgesc]⟩, .int .i64 left1, .int .i64 kind2]) H = bimatch_Solve.run_t (fun left1 kind2 match6p match6n match6c p10 t36p t36n t36c t37 t38 H => G [0, 1, 0, 1, 1, 1] [(1, .int .i64 left1), (2, .int .i64 kind2), (6, .slice match6p match6n match6c), (10, .pointer p10), (36, .slice t36p t36n t36c), (37, .int .i64 t37), (38, .int .i64 t38)] H) g0_Nodes g0_Edgesp g0_Edgesn g0_Edgesc left1 kind2  E H K := fun G => by kernel_rfl
  have k2 : bimatch_Solve.run_t (fun left1 kind2 match6p match6n match6c p10 t36p t36n t36c t37 t38 H => bimatch_Solve.l1 left1 kind2 match6p match6n match6c p10 t36p t36n t36c t37 t38  E H K) g0_Nodes g0_Edgesp g0_Edgesn g0_Edgesc left1 kind2  E H K = bimatch_Solve.run_t (fun left1 kind2 match6p match6n match6c p10 t36p t36n t36c t37 t38 H => (fun q F H => nodeM P0 T0 bimatch_Solve.A bimatch_Solve.code q.reverse [] (bimatch_Solve.rq E K) F H) [0, 1, 0, 1, 1, 1] [(1, .int .i64 left1), (2, .int .i64 kind2), (6, .slice match6p match6n match6c), (10, .pointer p10), (36, .slice t36p t36n t36c), (37, .int .i64 t37), (38, .int .i64 t38)] H) g0_Nodes g0_Edgesp g0_Edgesn g0_Edgesc left1 kind2  E H K := by kernel_rfl
  exact nodeR_imp bimatch_Solve.nok rfl ((k1 _).mpr (k2.mp h))
def bimatch_Solve.j1_t (l2 : Int → Int → (Option Addr) → Nat → Nat → (Option Addr) → Int → Int → Hp → Prop) (left1 : Int) (kind2 : Int) (match6p : Option Addr) (match6n : Nat) (match6c : Nat) (p10 : Option Addr)  (E : Value → Hp → Prop) (H : Hp) (K : (Option Addr) → Nat → Nat → (Option Addr) → Nat → Nat → Int → Hp → Prop) : Prop :=
  nn p10 fun b_1 o_1 =>
  ldS (H.get b_1 (o_1 + 4)) fun x_1p x_1n x_1c =>
  l2 left1 kind2 match6p match6n match6c p10 (x_1n : Int) 0 H
theorem bimatch_Solve.j1_eq {left1 : Int} {kind2 : Int} {match6p : Option Addr} {match6n : Nat} {match6c : Nat} {p10 : Option Addr} { E : Value → Hp → Prop} {H : Hp} {K : (Option Addr) → Nat → Nat → (Option Addr) → Nat → Nat → Int → Hp → Prop} (h : bimatch_Solve.j1_t (fun left1 kind2 match6p match6n match6c p10 t69 t70 H => bimatch_Solve.l2 left1 kind2 match6p match6n match6c p10 t69 t70  E H K) left1 kind2 match6p match6n match6c p10  E H K) : bimatch_Solve.j1 left1 kind2 match6p match6n match6c p10  E H K := by
  have k1 : ∀ G : List Nat → Fr → Hp → Prop, nodeR P0 T0 bimatch_Solve.A [[0, 1, 0, 1, 1, 1], [1, 1, 1, 1], [0, 1, 0, 1, 1, 1, 1], [1, 1, 1, 1, 1], [1, 1, 1, 1, 1, 1, 1], [0, 1, 0, 1, 1, 1, 1, 1, 1, 1, 1], [1, 1, 1, 0, 0, 1, 0, 1, 1, 1, 1, 1, 1, 1, 1], [1, 1, 1, 1, 1, 1, 1, 1, 1]] G bimatch_Solve.code [1, 1, 1, 1] [] (bimatch_Solve.rq E K) [(1, .int .i64 left1), (2, .int .i64 kind2), (6, .slice match6p match6n match6c), (10, .pointer p10)] H = bimatch_Solve.j1_t (fun left1 kind2 match6p match6n match6c p10 t69 t70 H => G [0, 1, 0, 1, 1, 1, 1] [(1, .int .i64 left1), (2, .int .i64 kind2), (6, .slice match6p match6n match6c), (10, .pointer p10), (69, .int .i64 t69), (70, .int .i64 t70)] H) left1 kind2 match6p match6n match6c p10  E H K := fun G => by kernel_rfl
  have k2 : bimatch_Solve.j1_t (fun left1 kind2 match6p match6n match6c p10 t69 t70 H => bimatch_Solve.l2 left1 kind2 match6p match6n match6c p10 t69 t70  E H K) left1 kind2 match6p match6n match6c p10  E H K = bimatch_Solve.j1_t (fun left1 kind2 match6p match6n match6c p10 t69 t70 H => (fun q F H => nodeM P0 T0 bimatch_Solve.A bimatch_Solve.code q.reverse [] (bimatch_Solve.rq E K) F H) [0, 1, 0, 1, 1, 1, 1] [(1, .int .i64 left1), (2, .int .i64 kind2), (6, .slice match6p match6n match6c), (10, .pointer p10), (69, .int .i64 t69), (70, .int .i64 t70)] H) left1 kind2 match6p match6n match6c p10  E H K := by kernel_rfl
  exact nodeR_imp bimatch_Solve.nok rfl ((k1 _).mpr (k2.mp h))
def bimatch_Solve.j2_t (j3 : Int → (Option Addr) → Nat → Nat → (Option Addr) → Value → Hp → Prop) (left1 : Int) (kind2 : Int) (match6p : Option Addr) (match6n : Nat) (match6c : Nat) (p10 : Option Addr)  (E : Value → Hp → Prop) (H : Hp) (K : (Option Addr) → Nat → Nat → (Option Addr) → Nat → Nat → Int → Hp → Prop) : Prop :=
  bcase (decide ((kind2 : Int) = 1)) (
  nw H ⟨[.pointer p10, .slice none 0 0], 85⟩ fun b_1 H_1 =>
  j3 left1 match6p match6n match6c p10 (Value.iface 83 (.pointer (some ⟨b_1, 0, none⟩))) H_1)
  (bcase (decide ((kind2 : Int) = 2)) (
  nw H ⟨[.pointer p10, .slice none 0 0, .slice none 0 0], 88⟩ fun b_2 H_2 =>
  j3 left1 match6p match6n match6c p10 (Value.iface 86 (.pointer (some ⟨b_2, 0, none⟩))) H_2)
  (K none 0 0 none 0 0 50 H))
theorem bimatch_Solve.j2_eq {left1 : Int} {kind2 : Int} {match6p : Option Addr} {match6n : Nat} {match6c : Nat} {p10 : Option Addr} { E : Value → Hp → Prop} {H : Hp} {K : (Option Addr) → Nat → Nat → (Option Addr) → Nat → Nat → Int → Hp → Prop} (h : bimatch_Solve.j2_t (fun left1 match6p match6n match6c p10 w15 H => bimatch_Solve.j3 left1 match6p match6n match6c p10 w15  E H K) left1 kind2 match6p match6n match6c p10  E H K) : bimatch_Solve.j2 left1 kind2 match6p match6n match6c p10  E H K := by
  have k1 : ∀ G : List Nat → Fr → Hp → Prop, nodeR P0 T0 bimatch_Solve.A [[0, 1, 0, 1, 1, 1], [1, 1, 1, 1], [0, 1, 0, 1, 1, 1, 1], [1, 1, 1, 1, 1], [1, 1, 1, 1, 1, 1, 1], [0, 1, 0, 1, 1, 1, 1, 1, 1, 1, 1], [1, 1, 1, 0, 0, 1, 0, 1, 1, 1, 1, 1, 1, 1, 1], [1, 1, 1, 1, 1, 1, 1, 1, 1]] G bimatch_Solve.code [1, 1, 1, 1, 1] [] (bimatch_Solve.rq E K) [(1, .int .i64 left1), (2, .int .i64 kind2), (6, .slice match6p match6n match6c), (10, .pointer p10)] H = bimatch_Solve.j2_t (fun left1 match6p match6n match6c p10 w15 H => G [1, 1, 1, 1, 1, 1, 1] [(1, .int .i64 left1), (6, .slice match6p match6n match6c), (10, .pointer p10), (15, w15)] H) left1 kind2 match6p match6n match6c p10  E H K := fun G => by kernel_rfl
  have k2 : bimatch_Solve.j2_t (fun left1 match6p match6n match6c p10 w15 H => bimatch_Solve.j3 left1 match6p match6n match6c p10 w15  E H K) left1 kind2 match6p match6n match6c p10  E H K = bimatch_Solve.j2_t (fun left1 match6p match6n match6c p10 w15 H => (fun q F H => nodeM P0 T0 bimatch_Solve.A bimatch_Solve.code q.reverse [] (bimatch_Solve.rq E K) F H) [1, 1, 1, 1, 1, 1, 1] [(1, .int .i64 left1), (6, .slice match6p match6n match6c), (10, .pointer p10), (15, w15)] H) left1 kind2 match6p match6n match6c p10  E H K := by kernel_rfl
  exact nodeR_imp bimatch_Solve.nok rfl ((k1 _).mpr (k2.mp h))
def bimatch_Solve.j3_t (l3 : (Option Addr) → Nat → Nat → (Option Addr) → (Option Addr) → Nat → Nat → Int → Int → Hp → Prop) (left1 : Int) (match6p : Option Addr) (match6n : Nat) (match6c : Nat) (p10 : Option Addr) (w15 : Value)  (E : Value → Hp → Prop) (H : Hp) (K : (Option Addr) → Nat → Nat → (Option Addr) → Nat → Nat → Int → Hp → Prop) : Prop :=
  icall P0 T0 w15 "compass/bimatch.match" [] (.tup []) E H fun u_1 H_1 =>
  nn p10 fun b_1 o_1 =>
  ldS (H_1.get b_1 (o_1 + 4)) fun x_1p x_1n x_1c =>
  ((0 : Int) ≤ left1 ∧ left1 ≤ (x_1c : Int)) ∧
  l3 match6p match6n match6c p10 (slp x_1p 0 x_1c 1) left1.toNat x_1c (left1.toNat : Int) 0 H_1
theorem bimatch_Solve.j3_eq {left1 : Int} {match6p : Option Addr} {match6n : Nat} {match6c : Nat} {p10 : Option Addr} {w15 : Value} { E : Value → Hp → Prop} {H : Hp} {K : (Option Addr) → Nat → Nat → (Option Addr) → Nat → Nat → Int → Hp → Prop} (h : bimatch_Solve.j3_t (fun match6p match6n match6c p10 t100p t100n t100c t101 t102 H => bimatch_Solve.l3 match6p match6n match6c p10 t100p t100n t100c t101 t102  E H K) left1 match6p match6n match6c p10 w15  E H K) : bimatch_Solve.j3 left1 match6p match6n match6c p10 w15  E H K := by
  have k1 : ∀ G : List Nat → Fr → Hp → Prop, nodeR P0 T0 bimatch_Solve.A [[0, 1, 0, 1, 1, 1], [1, 1, 1, 1], [0, 1, 0, 1, 1, 1, 1], [1, 1, 1, 1, 1], [1, 1, 1, 1, 1, 1, 1], [0, 1, 0, 1, 1, 1, 1, 1, 1, 1, 1], [1, 1, 1, 0, 0, 1, 0, 1, 1, 1, 1, 1, 1, 1, 1], [1, 1, 1, 1, 1, 1, 1, 1, 1]] G bimatch_Solve.code [1, 1, 1, 1, 1, 1, 1] [] (bimatch_Solve.rq E K) [(1, .int .i64 left1), (6, .slice match6p match6n match6c), (10, .pointer p10), (15, w15)] H = bimatch_Solve.j3_t (fun match6p match6n match6c p10 t100p t100n t100c t101 t102 H => G [0, 1, 0, 1, 1, 1, 1, 1, 1, 1, 1] [(6, .slice match6p match6n match6c), (10, .pointer p10), (100, .slice t100p t100n t100c), (101, .int .i64 t101), (102, .int .i64 t102)] H) left1 match6p match6n match6c p10 w15  E H K := fun G => by kernel_rfl
  have k2 : bimatch_Solve.j3_t (fun match6p match6n match6c p10 t100p t100n t100c t101 t102 H => bimatch_Solve.l3 match6p match6n match6c p10 t100p t100n t100c t101 t102  E H K) left1 match6p match6n match6c p10 w15  E H K = bimatch_Solve.j3_t (fun match6p match6n match6c p10 t100p t100n t100c t101 t102 H => (fun q F H => nodeM P0 T0 bimatch_Solve.A bimatch_Solve.code q.reverse [] (bimatch_Solve.rq E K) F H) [0, 1, 0, 1, 1, 1, 1, 1, 1, 1, 1] [(6, .slice match6p match6n match6c), (10, .pointer p10), (100, .slice t100p t100n t100c), (101, .int .i64 t101), (102, .int .i64 t102)] H) left1 match6p match6n match6c p10 w15  E H K := by kernel_rfl
  exact nodeR_imp bimatch_Solve.nok rfl ((k1 _).mpr (k2.mp h))
def bimatch_Solve.j4_t  (match6p : Option Addr) (match6n : Nat) (match6c : Nat) (p10 : Option Addr) (t100p : Option Addr) (t100n : Nat) (t100c : Nat) (t101 : Int) (t102 : Int) (X1 : Fr → Hp → Prop) (E : Value → Hp → Prop) (H : Hp) (K : (Option Addr) → Nat → Nat → (Option Addr) → Nat → Nat → Int → Hp → Prop) : Prop :=
  X1 (bimatch_Solve.f3 match6p match6n match6c p10 t100p t100n t100c t101 (IntKind.wrap .i64 (t102 + 1))) H
theorem bimatch_Solve.j4_eq {match6p : Option Addr} {match6n : Nat} {match6c : Nat} {p10 : Option Addr} {t100p : Option Addr} {t100n : Nat} {t100c : Nat} {t101 : Int} {t102 : Int} {X1 : Fr → Hp → Prop} { E : Value → Hp → Prop} {H : Hp} {K : (Option Addr) → Nat → Nat → (Option Addr) → Nat → Nat → Int → Hp → Prop} (h : bimatch_Solve.j4_t  match6p match6n match6c p10 t100p t100n t100c t101 t102 X1 E H K) : bimatch_Solve.j4 match6p match6n match6c p10 t100p t100n t100c t101 t102 X1 E H K := by
  have k1 : ∀ G : List Nat → Fr → Hp → Prop, nodeR P0 T0 bimatch_Solve.A [[0, 1, 0, 1, 1, 1], [1, 1, 1, 1], [0, 1, 0, 1, 1, 1, 1], [1, 1, 1, 1, 1], [1, 1, 1, 1, 1, 1, 1], [0, 1, 0, 1, 1, 1, 1, 1, 1, 1, 1], [1, 1, 1, 0, 0, 1, 0, 1, 1, 1, 1, 1, 1, 1, 1], [1, 1, 1, 1, 1, 1, 1, 1, 1]] G bimatch_Solve.code [1, 1, 1, 1, 1, 1, 1, 1, 0, 1, 0, 0, 1, 1, 1] [X1] (bimatch_Solve.rq E K) [(6, .slice match6p match6n match6c), (10, .pointer p10), (100, .slice t100p t100n t100c), (101, .int .i64 t101), (102, .int .i64 t102)] H = bimatch_Solve.j4_t  match6p match6n match6c p10 t100p t100n t100c t101 t102 X1 E H K := fun G => by kernel_rfl
  exact nodeR_imp bimatch_Solve.nok rfl ((k1 _).mpr h)
def bimatch_Solve.j5_t  (match6p : Option Addr) (match6n : Nat) (match6c : Nat) (p10 : Option Addr)  (E : Value → Hp → Prop) (H : Hp) (K : (Option Addr) → Nat → Nat → (Option Addr) → Nat → Nat → Int → Hp → Prop) : Prop :=
  slices_Sort.call match6p match6n match6c E H fun H_1 =>
  bimatch_pairs_cover.call p10 E H_1 fun r_1p r_1n r_1c H_2 =>
  K match6p match6n match6c r_1p r_1n r_1c 0 H_2
theorem bimatch_Solve.j5_eq {match6p : Option Addr} {match6n : Nat} {match6c : Nat} {p10 : Option Addr} { E : Value → Hp → Prop} {H : Hp} {K : (Option Addr) → Nat → Nat → (Option Addr) → Nat → Nat → Int → Hp → Prop} (h : bimatch_Solve.j5_t  match6p match6n match6c p10  E H K) : bimatch_Solve.j5 match6p match6n match6c p10  E H K := by
  have k1 : ∀ G : List Nat → Fr → Hp → Prop, nodeR P0 T0 bimatch_Solve.A [[0, 1, 0, 1, 1, 1], [1, 1, 1, 1], [0, 1, 0, 1, 1, 1, 1], [1, 1, 1, 1, 1], [1, 1, 1, 1, 1, 1, 1], [0, 1, 0, 1, 1, 1, 1, 1, 1, 1, 1], [1, 1, 1, 0, 0, 1, 0, 1, 1, 1, 1, 1, 1, 1, 1], [1, 1, 1, 1, 1, 1, 1, 1, 1]] G bimatch_Solve.code [1, 1, 1, 1, 1, 1, 1, 1, 1] [] (bimatch_Solve.rq E K) [(6, .slice match6p match6n match6c), (10, .pointer p10)] H = bimatch_Solve.j5_t  match6p match6n match6c p10  E H K := fun G => by kernel_rfl
  exact nodeR_imp bimatch_Solve.nok rfl ((k1 _).mpr h)
def bimatch_Solve.b1_t (j1 : Int → Int → (Option Addr) → Nat → Nat → (Option Addr) → Hp → Prop) (left1 : Int) (kind2 : Int) (match6p : Option Addr) (match6n : Nat) (match6c : Nat) (p10 : Option Addr) (t36p : Option Addr) (t36n : Nat) (t36c : Nat) (t37 : Int) (t38 : Int) (X1 : Fr → Hp → Prop) (E : Value → Hp → Prop) (H : Hp) (K : (Option Addr) → Nat → Nat → (Option Addr) → Nat → Nat → Int → Hp → Prop) : Prop :=
  bcase (decide ((t38 : Int) < t37)) (
  ix t36p t36n t38 4 fun b_1 o_1 =>
  ldI .i64 (H.get b_1 o_1) fun x_1 =>
  ldI .i64 (H.get b_1 (o_1 + 1)) fun x_2 =>
  ldI .i64 (H.get b_1 (o_1 + 2)) fun x_3 =>
  ldI .i64 (H.get b_1 (o_1 + 3)) fun x_4 =>
  nw H ⟨[.int .i64 0, .int .i64 0, .int .i64 0, .int .i64 0], 37⟩ fun b_2 H_1 =>
  stC H_1 b_2 0 [.int .i64 x_1, .int .i64 x_2, .int .i64 x_3, .int .i64 x_4] fun H_2 =>
  ldI .i64 (H_2.get b_2 0) fun x_5 =>
  ldI .i64 (H_2.get b_2 1) fun x_6 =>
  nn p10 fun b_3 o_2 =>
  ldS (H_2.get b_3 (o_2 + 3)) fun x_7p x_7n x_7c =>
  nn p10 fun b_4 o_3 =>
  ldS (H_2.get b_4 (o_3 + 3)) fun x_8p x_8n x_8c =>
  ix x_8p x_8n (if x_6 < x_5 then x_6 else x_5) 1 fun b_5 o_4 =>
  ldS (H_2.get b_5 o_4) fun x_9p x_9n x_9c =>
  nw H_2 ⟨[.int .i64 t38], 3⟩ fun b_6 H_3 =>
  appM 3 [.i .i64] 8 x_9p x_9n x_9c (some ⟨b_6, 0, none⟩) 1 H_3 fun a_1p a_1n a_1c H_4 =>
  (ldS (H_4.get b_3 (o_2 + 3)) fun x_10p x_10n x_10c =>
  Value.slice x_10p x_10n x_10c = Value.slice x_7p x_7n x_7c) ∧
  ix x_7p x_7n (if x_6 < x_5 then x_6 else x_5) 1 fun b_7 o_5 =>
  stC H_4 b_7 o_5 [.slice a_1p a_1n a_1c] fun H_5 =>
  X1 (bimatch_Solve.f1 left1 kind2 match6p match6n match6c p10 t36p t36n t36c t37 (IntKind.wrap .i64 (t38 + 1))) H_5)
  (j1 left1 kind2 match6p match6n match6c p10 H)
theorem bimatch_Solve.b1_eq {left1 : Int} {kind2 : Int} {match6p : Option Addr} {match6n : Nat} {match6c : Nat} {p10 : Option Addr} {t36p : Option Addr} {t36n : Nat} {t36c : Nat} {t37 : Int} {t38 : Int} {X1 : Fr → Hp → Prop} { E : Value → Hp → Prop} {H : Hp} {K : (Option Addr) → Nat → Nat → (Option Addr) → Nat → Nat → Int → Hp → Prop} (h : bimatch_Solve.b1_t (fun left1 kind2 match6p match6n match6c p10 H => bimatch_Solve.j1 left1 kind2 match6p match6n match6c p10  E H K) left1 kind2 match6p match6n match6c p10 t36p t36n t36c t37 t38 X1 E H K) : bimatch_Solve.b1 left1 kind2 match6p match6n match6c p10 t36p t36n t36c t37 t38 X1 E H K := by
  have k1 : ∀ G : List Nat → Fr → Hp → Prop, nodeR P0 T0 bimatch_Solve.A [[0, 1, 0, 1, 1, 1], [1, 1, 1, 1], [0, 1, 0, 1, 1, 1, 1], [1, 1, 1, 1, 1], [1, 1, 1, 1, 1, 1, 1], [0, 1, 0, 1, 1, 1, 1, 1, 1, 1, 1], [1, 1, 1, 0, 0, 1, 0, 1, 1, 1, 1, 1, 1, 1, 1], [1, 1, 1, 1, 1, 1, 1, 1, 1]] G bimatch_Solve.code [1, 1, 1, 0, 1, 0, 0] [X1] (bimatch_Solve.rq E K) (bimatch_Solve.f1 left1 kind2 match6p match6n match6c p10 t36p t36n t36c t37 t38) H = bimatch_Solve.b1_t (fun left1 kind2 match6p match6n match6c p10 H => G [1, 1, 1, 1] [(1, .int .i64 left1), (2, .int .i64 kind2), (6, .slice match6p match6n match6c), (10, .pointer p10)] H) left1 kind2 match6p match6n match6c p10 t36p t36n t36c t37 t38 X1 E H K := fun G => by kernel_rfl
  have k2 : bimatch_Solve.b1_t (fun left1 kind2 match6p match6n match6c p10 H => bimatch_Solve.j1 left1 kind2 match6p match6n match6c p10  E H K) left1 kind2 match6p match6n match6c p10 t36p t36n t36c t37 t38 X1 E H K = bimatch_Solve.b1_t (fun left1 kind2 match6p match6n match6c p10 H => (fun q F H => nodeM P0 T0 bimatch_Solve.A bimatch_Solve.code q.reverse [X1] (bimatch_Solve.rq E K) F H) [1, 1, 1, 1] [(1, .int .i64 left1), (2, .int .i64 kind2), (6, .slice match6p match6n match6c), (10, .pointer p10)] H) left1 kind2 match6p match6n match6c p10 t36p t36n t36c t37 t38 X1 E H K := by kernel_rfl
  exact nodeR_imp bimatch_Solve.nok rfl ((k1 _).mpr (k2.mp h))
def bimatch_Solve.b2_t (j2 : Int → Int → (Option Addr) → Nat → Nat → (Option Addr) → Hp → Prop) (left1 : Int) (kind2 : Int) (match6p : Option Addr) (match6n : Nat) (match6c : Nat) (p10 : Option Addr) (t69 : Int) (t70 : Int) (X1 : Fr → Hp → Prop) (E : Value → Hp → Prop) (H : Hp) (K : (Option Addr) → Nat → Nat → (Option Addr) → Nat → Nat → Int → Hp → Prop) : Prop :=
  bcase (decide ((t70 : Int) < t69)) (
  nn p10 fun b_1 o_1 =>
  ldS (H.get b_1 (o_1 + 4)) fun x_1p x_1n x_1c =>
  ix x_1p x_1n t70 1 fun b_2 o_2 =>
  stC H b_2 o_2 [.int .i64 (-1)] fun H_1 =>
  X1 (bimatch_Solve.f2 left1 kind2 match6p match6n match6c p10 t69 (IntKind.wrap .i64 (t70 + 1))) H_1)
  (j2 left1 kind2 match6p match6n match6c p10 H)
theorem bimatch_Solve.b2_eq {left1 : Int} {kind2 : Int} {match6p : Option Addr} {match6n : Nat} {match6c : Nat} {p10 : Option Addr} {t69 : Int} {t70 : Int} {X1 : Fr → Hp → Prop} { E : Value → Hp → Prop} {H : Hp} {K : (Option Addr) → Nat → Nat → (Option Addr) → Nat → Nat → Int → Hp → Prop} (h : bimatch_Solve.b2_t (fun left1 kind2 match6p match6n match6c p10 H => bimatch_Solve.j2 left1 kind2 match6p match6n match6c p10  E H K) left1 kind2 match6p match6n match6c p10 t69 t70 X1 E H K) : bimatch_Solve.b2 left1 kind2 match6p match6n match6c p10 t69 t70 X1 E H K := by
  have k1 : ∀ G : List Nat → Fr → Hp → Prop, nodeR P0 T0 bimatch_Solve.A [[0, 1, 0, 1, 1, 1], [1, 1, 1, 1], [0, 1, 0, 1, 1, 1, 1], [1, 1, 1, 1, 1], [1, 1, 1, 1, 1, 1, 1], [0, 1, 0, 1, 1, 1, 1, 1, 1, 1, 1], [1, 1, 1, 0, 0, 1, 0, 1, 1, 1, 1, 1, 1, 1, 1], [1, 1, 1, 1, 1, 1, 1, 1, 1]] G bimatch_Solve.code [1, 1, 1, 1, 0, 1, 0, 0] [X1] (bimatch_Solve.rq E K) (bimatch_Solve.f2 left1 kind2 match6p match6n match6c p10 t69 t70) H = bimatch_Solve.b2_t (fun left1 kind2 match6p match6n match6c p10 H => G [1, 1, 1, 1, 1] [(1, .int .i64 left1), (2, .int .i64 kind2), (6, .slice match6p match6n match6c), (10, .pointer p10)] H) left1 kind2 match6p match6n match6c p10 t69 t70 X1 E H K := fun G => by kernel_rfl
  have k2 : bimatch_Solve.b2_t (fun left1 kind2 match6p match6n match6c p10 H => bimatch_Solve.j2 left1 kind2 match6p match6n match6c p10  E H K) left1 kind2 match6p match6n match6c p10 t69 t70 X1 E H K = bimatch_Solve.b2_t (fun left1 kind2 match6p match6n match6c p10 H => (fun q F H => nodeM P0 T0 bimatch_Solve.A bimatch_Solve.code q.reverse [X1] (bimatch_Solve.rq E K) F H) [1, 1, 1, 1, 1] [(1, .int .i64 left1), (2, .int .i64 kind2), (6, .slice match6p match6n match6c), (10, .pointer p10)] H) left1 kind2 match6p match6n match6c p10 t69 t70 X1 E H K := by kernel_rfl
  exact nodeR_imp bimatch_Solve.nok rfl ((k1 _).mpr (k2.mp h))
def bimatch_Solve.b3_t (j4 : (Option Addr) → Nat → Nat → (Option Addr) → (Option Addr) → Nat → Nat → Int → Int → Hp → Prop) (j5 : (Option Addr) → Nat → Nat → (Option Addr) → Hp → Prop) (match6p : Option Addr) (match6n : Nat) (match6c : Nat) (p10 : Option Addr) (t100p : Option Addr) (t100n : Nat) (t100c : Nat) (t101 : Int) (t102 : Int) (X1 : Fr → Hp → Prop) (E : Value → Hp → Prop) (H : Hp) (K : (Option Addr) → Nat → Nat → (Option Addr) → Nat → Nat → Int → Hp → Prop) : Prop :=
  bcase (decide ((t102 : Int) < t101)) (
  ix t100p t100n t102 1 fun b_1 o_1 =>
  ldI .i64 (H.get b_1 o_1) fun x_1 =>
  bcase (decide ((0 : Int) ≤ x_1)) (
  nw H ⟨[.int .i64 x_1], 3⟩ fun b_2 H_1 =>
  appM 3 [.i .i64] 8 match6p match6n match6c (some ⟨b_2, 0, none⟩) 1 H_1 fun a_1p a_1n a_1c H_2 =>
  j4 a_1p a_1n a_1c p10 t100p t100n t100c t101 t102 H_2)
  (j4 match6p match6n match6c p10 t100p t100n t100c t101 t102 H))
  (j5 match6p match6n match6c p10 H)
theorem bimatch_Solve.b3_eq {match6p : Option Addr} {match6n : Nat} {match6c : Nat} {p10 : Option Addr} {t100p : Option Addr} {t100n : Nat} {t100c : Nat} {t101 : Int} {t102 : Int} {X1 : Fr → Hp → Prop} { E : Value → Hp → Prop} {H : Hp} {K : (Option Addr) → Nat → Nat → (Option Addr) → Nat → Nat → Int → Hp → Prop} (h : bimatch_Solve.b3_t (fun match6p match6n match6c p10 t100p t100n t100c t101 t102 H => bimatch_Solve.j4 match6p match6n match6c p10 t100p t100n t100c t101 t102 X1 E H K) (fun match6p match6n match6c p10 H => bimatch_Solve.j5 match6p match6n match6c p10  E H K) match6p match6n match6c p10 t100p t100n t100c t101 t102 X1 E H K) : bimatch_Solve.b3 match6p match6n match6c p10 t100p t100n t100c t101 t102 X1 E H K := by
  have k1 : ∀ G : List Nat → Fr → Hp → Prop, nodeR P0 T0 bimatch_Solve.A [[0, 1, 0, 1, 1, 1], [1, 1, 1, 1], [0, 1, 0, 1, 1, 1, 1], [1, 1, 1, 1, 1], [1, 1, 1, 1, 1, 1, 1], [0, 1, 0, 1, 1, 1, 1, 1, 1, 1, 1], [1, 1, 1, 0, 0, 1, 0, 1, 1, 1, 1, 1, 1, 1, 1], [1, 1, 1, 1, 1, 1, 1, 1, 1]] G bimatch_Solve.code [1, 1, 1, 1, 1, 1, 1, 1, 0, 1, 0, 0] [X1] (bimatch_Solve.rq E K) (bimatch_Solve.f3 match6p match6n match6c p10 t100p t100n t100c t101 t102) H = bimatch_Solve.b3_t (fun match6p match6n match6c p10 t100p t100n t100c t101 t102 H => G [1, 1, 1, 0, 0, 1, 0, 1, 1, 1, 1, 1, 1, 1, 1] [(6, .slice match6p match6n match6c), (10, .pointer p10), (100, .slice t100p t100n t100c), (101, .int .i64 t101), (102, .int .i64 t102)] H) (fun match6p match6n match6c p10 H => G [1, 1, 1, 1, 1, 1, 1, 1, 1] [(6, .slice match6p match6n match6c), (10, .pointer p10)] H) match6p match6n match6c p10 t100p t100n t100c t101 t102 X1 E H K := fun G => by kernel_rfl
  have k2 : bimatch_Solve.b3_t (fun match6p match6n match6c p10 t100p t100n t100c t101 t102 H => bimatch_Solve.j4 match6p match6n match6c p10 t100p t100n t100c t101 t102 X1 E H K) (fun match6p match6n match6c p10 H => bimatch_Solve.j5 match6p match6n match6c p10  E H K) match6p match6n match6c p10 t100p t100n t100c t101 t102 X1 E H K = bimatch_Solve.b3_t (fun match6p match6n match6c p10 t100p t100n t100c t101 t102 H => (fun q F H => nodeM P0 T0 bimatch_Solve.A bimatch_Solve.code q.reverse [X1] (bimatch_Solve.rq E K) F H) [1, 1, 1, 0, 0, 1, 0, 1, 1, 1, 1, 1, 1, 1, 1] [(6, .slice match6p match6n match6c), (10, .pointer p10), (100, .slice t100p t100n t100c), (101, .int .i64 t101), (102, .int .i64 t102)] H) (fun match6p match6n match6c p10 H => (fun q F H => nodeM P0 T0 bimatch_Solve.A bimatch_Solve.code q.reverse [X1] (bimatch_Solve.rq E K) F H) [1, 1, 1, 1, 1, 1, 1, 1, 1] [(6, .slice match6p match6n match6c), (10, .pointer p10)] H) match6p match6n match6c p10 t100p t100n t100c t101 t102 X1 E H K := by kernel_rfl
  exact nodeR_imp bimatch_Solve.nok rfl ((k1 _).mpr (k2.mp h))
/-! ### (*compass/bimatch.phases).match (127) -/
noncomputable def bimatch_phases_match.A : An := { live := [(0, [0]), (1, [0]), (2, [0, 11, 12]), (3, [0, 11, 12]), (4, [0, 2, 11, 12]), (5, [0, 2, 11, 12]), (6, [0, 11, 12])], ord := [], stb := [], pre := [] }
noncomputable def bimatch_phases_match.code : Code := bodyOf Go.Proofs.Try.f127
theorem bimatch_phases_match.ok : okCode bimatch_phases_match.A 30 bimatch_phases_match.code = true := by kernel_rfl
def bimatch_phases_match.rq (E : Value → Hp → Prop) (K : Hp → Prop) : Ex → Fr → Hp → Prop := retQ T0 [] [] (fun r H => ldR (.tup []) r fun u => K  H) E
def bimatch_phases_match.run (p0 : Option Addr) (E : Value → Hp → Prop) (H : Hp) (K : Hp → Prop) : Prop := nodeM P0 T0 bimatch_phases_match.A bimatch_phases_match.code [] [] (bimatch_phases_match.rq E K) (argF 0 [.pointer p0]) H
theorem bimatch_phases_match.of {p0 : Option Addr} {E : Value → Hp → Prop} {H : Hp} {K : Hp → Prop} (h : bimatch_phases_match.run p0 E H K) : bimatch_phases_match.call p0 E H K :=
  callW_of T0_ok P0_mixed (A := bimatch_phases_match.A) (fn := Go.Proofs.Try.f127) Go.Proofs.Try.func127 rfl bimatch_phases_match.ok rfl h
noncomputable def bimatch_phases_match.f1 (p0 : Option Addr) : Fr := [(0, .pointer p0)]
noncomputable def bimatch_phases_match.f2 (p0 : Option Addr) (t11 : Int) (t12 : Int) : Fr := [(0, .pointer p0), (11, .int .i64 t11), (12, .int .i64 t12)]
def bimatch_phases_match.j1 (p0 : Option Addr) (t11 : Int) (t12 : Int) (X1 : Fr → Hp → Prop) (X2 : Fr → Hp → Prop) (E : Value → Hp → Prop) (H : Hp) (K : Hp → Prop) : Prop := nodeM P0 T0 bimatch_phases_match.A bimatch_phases_match.code [0, 0, 1, 0, 1, 0, 0, 1, 1, 1] [X1, X2] (bimatch_phases_match.rq E K) [(0, .pointer p0), (11, .int .i64 t11), (12, .int .i64 t12)] H
def bimatch_phases_match.l1 (p0 : Option Addr)  (E : Value → Hp → Prop) (H : Hp) (K : Hp → Prop) : Prop := nodeM P0 T0 bimatch_phases_match.A bimatch_phases_match.code [0] [] (bimatch_phases_match.rq E K) (bimatch_phases_match.f1 p0) H
def bimatch_phases_match.b1 (p0 : Option Addr)  (X1 : Fr → Hp → Prop) (E : Value → Hp → Prop) (H : Hp) (K : Hp → Prop) : Prop := nodeM P0 T0 bimatch_phases_match.A bimatch_phases_match.code [0, 0] [X1] (bimatch_phases_match.rq E K) (bimatch_phases_match.f1 p0) H
theorem bimatch_phases_match.l1_rule { E : Value → Hp → Prop} {K : Hp → Prop} (I : (Option Addr) → Hp → Prop) (μ : (Option Addr) → Hp → Nat)
    (h : ∀ p0 H, I p0 H → ∀ X : Fr → Hp → Prop, (∀ p0' H', I p0' H' → μ p0' H' < μ p0 H → X (bimatch_phases_match.f1 p0') H') → bimatch_phases_match.b1 p0  X E H K)
    {p0 : Option Addr} {H : Hp} (hI : I p0 H) : bimatch_phases_match.l1 p0  E H K :=
  loop_rule (S := (Option Addr)) (fun s => bimatch_phases_match.f1 s) (fun s H => I s H) (fun s H => μ s H) (fun s H hI X hX => h s H hI X fun p0' H' hI' hlt => hX p0' H' hI' hlt) (s := p0) rfl hI
def bimatch_phases_match.l2 (p0 : Option Addr) (t11 : Int) (t12 : Int) (X1 : Fr → Hp → Prop) (E : Value → Hp → Prop) (H : Hp) (K : Hp → Prop) : Prop := nodeM P0 T0 bimatch_phases_match.A bimatch_phases_match.code [0, 0, 1, 0, 1, 0] [X1] (bimatch_phases_match.rq E K) (bimatch_phases_match.f2 p0 t11 t12) H
def bimatch_phases_match.b2 (p0 : Option Addr) (t11 : Int) (t12 : Int) (X1 : Fr → Hp → Prop) (X2 : Fr → Hp → Prop) (E : Value → Hp → Prop) (H : Hp) (K : Hp → Prop) : Prop := nodeM P0 T0 bimatch_phases_match.A bimatch_phases_match.code [0, 0, 1, 0, 1, 0, 0] [X1, X2] (bimatch_phases_match.rq E K) (bimatch_phases_match.f2 p0 t11 t12) H
theorem bimatch_phases_match.l2_rule {X1 : Fr → Hp → Prop} { E : Value → Hp → Prop} {K : Hp → Prop} (I : (Option Addr) → Int → Int → Hp → Prop) (μ : (Option Addr) → Int → Int → Hp → Nat)
    (h : ∀ p0 t11 t12 H, I p0 t11 t12 H → ∀ X : Fr → Hp → Prop, (∀ p0' t11' t12' H', I p0' t11' t12' H' → μ p0' t11' t12' H' < μ p0 t11 t12 H → X (bimatch_phases_match.f2 p0' t11' t12') H') → bimatch_phases_match.b2 p0 t11 t12 X1 X E H K)
    {p0 : Option Addr} {t11 : Int} {t12 : Int} {H : Hp} (hI : I p0 t11 t12 H) : bimatch_phases_match.l2 p0 t11 t12 X1 E H K :=
  loop_rule (S := (Option Addr) × Int × Int) (fun s => bimatch_phases_match.f2 (s.1) (s.2.1) (s.2.2)) (fun s H => I (s.1) (s.2.1) (s.2.2) H) (fun s H => μ (s.1) (s.2.1) (s.2.2) H) (fun s H hI X hX => h (s.1) (s.2.1) (s.2.2) H hI X fun p0' t11' t12' H' hI' hlt => hX (p0', t11', t12') H' hI' hlt) (s := (p0, t11, t12)) rfl hI
theorem bimatch_phases_match.nok : nodesOk bimatch_phases_match.code [[0], [0, 1, 0, 1, 0, 0], [1, 1, 1, 0, 0, 1, 0, 1, 0, 0]] = true := by kernel_rfl
def bimatch_phases_match.run_t (l1 : (Option Addr) → Hp → Prop) (p0 : Option Addr)  (E : Value → Hp → Prop) (H : Hp) (K : Hp → Prop) : Prop :=
  l1 p0 H
theorem bimatch_phases_match.run_eq {p0 : Option Addr} { E : Value → Hp → Prop} {H : Hp} {K : Hp → Prop} (h : bimatch_phases_match.run_t (fun p0 H => bimatch_phases_match.l1 p0  E H K) p0  E H K) : bimatch_phases_match.run p0  E H K := by
  have k1 : ∀ G : List Nat → Fr → Hp → Prop, nodeR P0 T0 bimatch_phases_match.A [[0], [0, 1, 0, 1, 0, 0], [1, 1, 1, 0, 0, 1, 0, 1, 0, 0]] G bimatch_phases_match.code [] [] (bimatch_phases_match.rq E K) (argF 0 [.pointer p0]) H = bimatch_phases_match.run_t (fun p0 H => G [0] [(0, .pointer p0)] H) p0  E H K := fun G => by kernel_rfl
  have k2 : bimatch_phases_match.run_t (fun p0 H => bimatch_phases_match.l1 p0  E H K) p0  E H K = bimatch_phases_match.run_t (fun p0 H => (fun q F H => nodeM P0 T0 bimatch_phases_match.A bimatch_phases_match.code q.reverse [] (bimatch_phases_match.rq E K) F H) [0] [(0, .pointer p0)] H) p0  E H K := by kernel_rfl
  exact nodeR_imp bimatch_phases_match.nok rfl ((k1 _).mpr (k2.mp h))
def bimatch_phases_match.j1_t  (p0 : Option Addr) (t11 : Int) (t12 : Int) (X1 : Fr → Hp → Prop) (X2 : Fr → Hp → Prop) (E : Value → Hp → Prop) (H : Hp) (K : Hp → Prop) : Prop :=
  X2 (bimatch_phases_match.f2 p0 t11 (IntKind.wrap .i64 (t12 + 1))) H
theorem bimatch_phases_match.j1_eq {p0 : Option Addr} {t11 : Int} {t12 : Int} {X1 X2 : Fr → Hp → Prop} { E : Value → Hp → Prop} {H : Hp} {K : Hp → Prop} (h : bimatch_phases_match.j1_t  p0 t11 t12 X1 X2 E H K) : bimatch_phases_match.j1 p0 t11 t12 X1 X2 E H K := by
  have k1 : ∀ G : List Nat → Fr → Hp → Prop, nodeR P0 T0 bimatch_phases_match.A [[0], [0, 1, 0, 1, 0, 0], [1, 1, 1, 0, 0, 1, 0, 1, 0, 0]] G bimatch_phases_match.code [0, 0, 1, 0, 1, 0, 0, 1, 1, 1] [X1, X2] (bimatch_phases_match.rq E K) [(0, .pointer p0), (11, .int .i64 t11), (12, .int .i64 t12)] H = bimatch_phases_match.j1_t  p0 t11 t12 X1 X2 E H K := fun G => by kernel_rfl
  exact nodeR_imp bimatch_phases_match.nok rfl ((k1 _).mpr h)
def bimatch_phases_match.b1_t (l2 : (Option Addr) → Int → Int → Hp → Prop) (p0 : Option Addr) (X1 : Fr → Hp → Prop) (E : Value → Hp → Prop) (H : Hp) (K : Hp → Prop) : Prop :=
  bimatch_phases_layer.call p0 E H fun r_1 H_1 =>
  bcase (r_1) (
  nn p0 fun b_1 o_1 =>
  ldP (H_1.get b_1 o_1) fun x_1 =>
  nn x_1 fun b_2 o_2 =>
  ldI .i64 (H_1.get b_2 (o_2 + 2)) fun x_2 =>
  l2 p0 x_2 0 H_1)
  (K H_1)
theorem bimatch_phases_match.b1_eq {p0 : Option Addr} {X1 : Fr → Hp → Prop} { E : Value → Hp → Prop} {H : Hp} {K : Hp → Prop} (h : bimatch_phases_match.b1_t (fun p0 t11 t12 H => bimatch_phases_match.l2 p0 t11 t12 X1 E H K) p0 X1 E H K) : bimatch_phases_match.b1 p0 X1 E H K := by
  have k1 : ∀ G : List Nat → Fr → Hp → Prop, nodeR P0 T0 bimatch_phases_match.A [[0], [0, 1, 0, 1, 0, 0], [1, 1, 1, 0, 0, 1, 0, 1, 0, 0]] G bimatch_phases_match.code [0, 0] [X1] (bimatch_phases_match.rq E K) (bimatch_phases_match.f1 p0) H = bimatch_phases_match.b1_t (fun p0 t11 t12 H => G [0, 1, 0, 1, 0, 0] [(0, .pointer p0), (11, .int .i64 t11), (12, .int .i64 t12)] H) p0 X1 E H K := fun G => by kernel_rfl
  have k2 : bimatch_phases_match.b1_t (fun p0 t11 t12 H => bimatch_phases_match.l2 p0 t11 t12 X1 E H K) p0 X1 E H K = bimatch_phases_match.b1_t (fun p0 t11 t12 H => (fun q F H => nodeM P0 T0 bimatch_phases_match.A bimatch_phases_match.code q.reverse [X1] (bimatch_phases_match.rq E K) F H) [0, 1, 0, 1, 0, 0] [(0, .pointer p0), (11, .int .i64 t11), (12, .int .i64 t12)] H) p0 X1 E H K := by kernel_rfl
  exact nodeR_imp bimatch_phases_match.nok rfl ((k1 _).mpr (k2.mp h))
def bimatch_phases_match.b2_t (j1 : (Option Addr) → Int → Int → Hp → Prop) (p0 : Option Addr) (t11 : Int) (t12 : Int) (X1 : Fr → Hp → Prop) (X2 : Fr → Hp → Prop) (E : Value → Hp → Prop) (H : Hp) (K : Hp → Prop) : Prop :=
  bcase (decide ((t12 : Int) < t11)) (
  nn p0 fun b_1 o_1 =>
  ldP (H.get b_1 o_1) fun x_1 =>
  nn x_1 fun b_2 o_2 =>
  ldS (H.get b_2 (o_2 + 4)) fun x_2p x_2n x_2c =>
  ix x_2p x_2n t12 1 fun b_3 o_3 =>
  ldI .i64 (H.get b_3 o_3) fun x_3 =>
  bcase (decide ((x_3 : Int) < 0)) (
  bimatch_phases_along.call p0 t12 E H fun r_1 H_1 =>
  j1 p0 t11 t12 H_1)
  (j1 p0 t11 t12 H))
  (X1 (bimatch_phases_match.f1 p0) H)
theorem bimatch_phases_match.b2_eq {p0 : Option Addr} {t11 : Int} {t12 : Int} {X1 X2 : Fr → Hp → Prop} { E : Value → Hp → Prop} {H : Hp} {K : Hp → Prop} (h : bimatch_phases_match.b2_t (fun p0 t11 t12 H => bimatch_phases_match.j1 p0 t11 t12 X1 X2 E H K) p0 t11 t12 X1 X2 E H K) : bimatch_phases_match.b2 p0 t11 t12 X1 X2 E H K := by
  have k1 : ∀ G : List Nat → Fr → Hp → Prop, nodeR P0 T0 bimatch_phases_match.A [[0], [0, 1, 0, 1, 0, 0], [1, 1, 1, 0, 0, 1, 0, 1, 0, 0]] G bimatch_phases_match.code [0, 0, 1, 0, 1, 0, 0] [X1, X2] (bimatch_phases_match.rq E K) (bimatch_phases_match.f2 p0 t11 t12) H = bimatch_phases_match.b2_t (fun p0 t11 t12 H => G [1, 1, 1, 0, 0, 1, 0, 1, 0, 0] [(0, .pointer p0), (11, .int .i64 t11), (12, .int .i64 t12)] H) p0 t11 t12 X1 X2 E H K := fun G => by kernel_rfl
  have k2 : bimatch_phases_match.b2_t (fun p0 t11 t12 H => bimatch_phases_match.j1 p0 t11 t12 X1 X2 E H K) p0 t11 t12 X1 X2 E H K = bimatch_phases_match.b2_t (fun p0 t11 t12 H => (fun q F H => nodeM P0 T0 bimatch_phases_match.A bimatch_phases_match.code q.reverse [X1, X2] (bimatch_phases_match.rq E K) F H) [1, 1, 1, 0, 0, 1, 0, 1, 0, 0] [(0, .pointer p0), (11, .int .i64 t11), (12, .int .i64 t12)] H) p0 t11 t12 X1 X2 E H K := by kernel_rfl
  exact nodeR_imp bimatch_phases_match.nok rfl ((k1 _).mpr (k2.mp h))
/-! ### (*compass/bimatch.phases).layer (128) -/
noncomputable def bimatch_phases_layer.A : An := { live := [(0, [0]), (1, [0]), (2, [0]), (3, [0]), (4, [0, 3]), (5, [0, 3, 40, 41]), (6, [0, 3, 40, 41]), (7, [0, 3, 4, 40, 41]), (8, [0, 3, 4, 40, 41]), (9, [0, 3, 4, 40, 41]), (10, [0, 3, 4, 40, 41]), (11, [0, 3, 40, 41]), (12, [0, 3]), (13, [0, 3, 5]), (14, [0, 3, 5, 6]), (15, [0, 3, 5, 6]), (16, [0, 3, 5, 6]), (17, [0, 3, 5, 6, 7]), (18, [0, 3, 5, 6, 7, 102, 103, 104]), (19, [0, 3, 5, 6, 7, 102, 103, 104]), (20, [0, 3, 5, 6, 7, 9, 102, 103, 104]), (21, [0, 3, 5, 6, 7, 9, 10, 102, 103, 104]), (22, [0, 3, 6, 7, 102, 103, 104]), (23, [0, 3, 5, 6, 7, 9, 10, 102, 103, 104]), (24, [0, 3, 5, 6, 7, 11, 102, 103, 104]), (25, [0, 3, 5, 6, 7, 11, 102, 103, 104]), (26, [0, 3, 5, 6, 7, 11, 102, 103, 104]), (27, [0, 3, 5, 6, 7, 102, 103, 104]), (28, [5])], ord := [(20, [0, 1, 2, 3, 4, 5, 6, 7, 8, 9, 10, 11, 12, 13, 14, 15, 16]), (23, [0, 1, 2, 3, 4, 5, 6, 7, 8, 9, 10, 11, 12, 13]), (25, [0, 1, 2, 3, 4, 5, 6, 7, 8, 9, 10, 11, 12, 13, 14])], stb := [(20, [(13, [3, 6])]), (23, [(11, [3])])], pre := [(20, [[], [0], [0, 1], [0, 1, 2], [0, 1, 2, 3], [0, 1, 2, 3, 4], [0, 1, 2, 3, 4, 5], [], [7], [7, 8], [7, 8, 9], [], [], [7, 8, 9, 10, 11, 12], [0, 1, 2, 3, 4, 5, 6, 7, 8, 9, 10, 11, 12, 13], [0, 1, 2, 3, 4, 5, 6, 7, 8, 9, 10, 11, 12, 13, 14], [0, 1, 2, 3, 4, 5, 6, 7, 8, 9, 10, 11, 12, 13, 14, 15]]), (23, [[], [0], [0, 1], [0, 1, 2], [], [], [5], [5, 6], [5, 6, 7], [], [], [5, 6, 7, 8, 9, 10], [0, 1, 2, 3, 4, 5, 6, 7, 8, 9, 10, 11], [0, 1, 2, 3, 4, 5, 6, 7, 8, 9, 10, 11, 12]]), (25, [[], [0], [0, 1], [0, 1, 2], [], [], [5], [5, 6], [5, 6, 7], [], [5, 6, 7, 8, 9], [5, 6, 7, 8, 9, 10], [5, 6, 7, 8, 9, 10, 11], [0, 1, 2, 3, 4, 5, 6, 7, 8, 9, 10, 11, 12], [0, 1, 2, 3, 4, 5, 6, 7, 8, 9, 10, 11, 12, 13]])] }
noncomputable def bimatch_phases_layer.code : Code := bodyOf Go.Proofs.Try.f128
theorem bimatch_phases_layer.ok : okCode bimatch_phases_layer.A 167 bimatch_phases_layer.code = true := by kernel_rfl
def bimatch_phases_layer.rq (E : Value → Hp → Prop) (K : Bool → Hp → Prop) : Ex → Fr → Hp → Prop := retQ T0 [.tmp 2] [4] (fun r H => ldR (.one false [.bool]) r fun u => K (asB u) H) E
def bimatch_phases_layer.run (p0 : Option Addr) (E : Value → Hp → Prop) (H : Hp) (K : Bool → Hp → Prop) : Prop := nodeM P0 T0 bimatch_phases_layer.A bimatch_phases_layer.code [] [] (bimatch_phases_layer.rq E K) (argF 0 [.pointer p0]) H
theorem bimatch_phases_layer.of {p0 : Option Addr} {E : Value → Hp → Prop} {H : Hp} {K : Bool → Hp → Prop} (h : bimatch_phases_layer.run p0 E H K) : bimatch_phases_layer.call p0 E H K :=
  callW_of T0_ok P0_mixed (A := bimatch_phases_layer.A) (fn := Go.Proofs.Try.f128) Go.Proofs.Try.func128 rfl bimatch_phases_layer.ok rfl h
noncomputable def bimatch_phases_layer.f1 (p0 : Option Addr) (queue3p : Option Addr) (queue3n : Nat) (queue3c : Nat) (t40 : Int) (t41 : Int) : Fr := [(0, .pointer p0), (3, .slice queue3p queue3n queue3c), (40, .int .i64 t40), (41, .int .i64 t41)]
noncomputable def bimatch_phases_layer.f2 (p0 : Option Addr) (queue3p : Option Addr) (queue3n : Nat) (queue3c : Nat) (found5 : Bool) (n6 : Int) : Fr := [(0, .pointer p0), (3, .slice queue3p queue3n queue3c), (5, .bool found5), (6, .int .i64 n6)]
noncomputable def bimatch_phases_layer.f3 (p0 : Option Addr) (queue3p : Option Addr) (queue3n : Nat) (queue3c : Nat) (found5 : Bool) (n6 : Int) (v7 : Int) (t102p : Option Addr) (t102n : Nat) (t102c : Nat) (t103 : Int) (t104 : Int) : Fr := [(0, .pointer p0), (3, .slice queue3p queue3n queue3c), (5, .bool found5), (6, .int .i64 n6), (7, .int .i64 v7), (102, .slice t102p t102n t102c), (103, .int .i64 t103), (104, .int .i64 t104)]
def bimatch_phases_layer.j1 (p0 : Option Addr) (queue3p : Option Addr) (queue3n : Nat) (queue3c : Nat) (t40 : Int) (t41 : Int) (X1 : Fr → Hp → Prop) (E : Value → Hp → Prop) (H : Hp) (K : Bool → Hp → Prop) : Prop := nodeM P0 T0 bimatch_phases_layer.A bimatch_phases_layer.code [1, 1, 1, 1, 0, 1, 0, 0, 1, 1, 1] [X1] (bimatch_phases_layer.rq E K) [(0, .pointer p0), (3, .slice queue3p queue3n queue3c), (40, .int .i64 t40), (41, .int .i64 t41)] H
def bimatch_phases_layer.j2 (p0 : Option Addr) (queue3p : Option Addr) (queue3n : Nat) (queue3c : Nat)  (E : Value → Hp → Prop) (H : Hp) (K : Bool → Hp → Prop) : Prop := nodeM P0 T0 bimatch_phases_layer.A bimatch_phases_layer.code [1, 1, 1, 1, 1] [] (bimatch_phases_layer.rq E K) [(0, .pointer p0), (3, .slice queue3p queue3n queue3c)] H
def bimatch_phases_layer.j3 (p0 : Option Addr) (queue3p : Option Addr) (queue3n : Nat) (queue3c : Nat) (found5 : Bool) (n6 : Int) (v7 : Int) (t102p : Option Addr) (t102n : Nat) (t102c : Nat) (t103 : Int) (t104 : Int) (X1 : Fr → Hp → Prop) (X2 : Fr → Hp → Prop) (E : Value → Hp → Prop) (H : Hp) (K : Bool → Hp → Prop) : Prop := nodeM P0 T0 bimatch_phases_layer.A bimatch_phases_layer.code [1, 1, 1, 1, 1, 1, 0, 1, 0, 0, 1, 0, 0, 1, 1, 0, 0, 1, 1, 1] [X1, X2] (bimatch_phases_layer.rq E K) [(0, .pointer p0), (3, .slice queue3p queue3n queue3c), (5, .bool found5), (6, .int .i64 n6), (7, .int .i64 v7), (102, .slice t102p t102n t102c), (103, .int .i64 t103), (104, .int .i64 t104)] H
def bimatch_phases_layer.j4 (p0 : Option Addr) (queue3p : Option Addr) (queue3n : Nat) (queue3c : Nat) (found5 : Bool) (n6 : Int) (X1 : Fr → Hp → Prop) (E : Value → Hp → Prop) (H : Hp) (K : Bool → Hp → Prop) : Prop := nodeM P0 T0 bimatch_phases_layer.A bimatch_phases_layer.code [1, 1, 1, 1, 1, 1, 0, 1, 0, 0, 1, 1] [X1] (bimatch_phases_layer.rq E K) [(0, .pointer p0), (3, .slice queue3p queue3n queue3c), (5, .bool found5), (6, .int .i64 n6)] H
def bimatch_phases_layer.l1 (p0 : Option Addr) (queue3p : Option Addr) (queue3n : Nat) (queue3c : Nat) (t40 : Int) (t41 : Int)  (E : Value → Hp → Prop) (H : Hp) (K : Bool → Hp → Prop) : Prop := nodeM P0 T0 bimatch_phases_layer.A bimatch_phases_layer.code [1, 1, 1, 1, 0, 1, 0] [] (bimatch_phases_layer.rq E K) (bimatch_phases_layer.f1 p0 queue3p queue3n queue3c t40 t41) H
def bimatch_phases_layer.b1 (p0 : Option Addr) (queue3p : Option Addr) (queue3n : Nat) (queue3c : Nat) (t40 : Int) (t41 : Int)  (X1 : Fr → Hp → Prop) (E : Value → Hp → Prop) (H : Hp) (K : Bool → Hp → Prop) : Prop := nodeM P0 T0 bimatch_phases_layer.A bimatch_phases_layer.code [1, 1, 1, 1, 0, 1, 0, 0] [X1] (bimatch_phases_layer.rq E K) (bimatch_phases_layer.f1 p0 queue3p queue3n queue3c t40 t41) H
theorem bimatch_phases_layer.l1_rule { E : Value → Hp → Prop} {K : Bool → Hp → Prop} (I : (Option Addr) → (Option Addr) → Nat → Nat → Int → Int → Hp → Prop) (μ : (Option Addr) → (Option Addr) → Nat → Nat → Int → Int → Hp → Nat)
    (h : ∀ p0 queue3p queue3n queue3c t40 t41 H, I p0 queue3p queue3n queue3c t40 t41 H → ∀ X : Fr → Hp → Prop, (∀ p0' queue3p' queue3n' queue3c' t40' t41' H', I p0' queue3p' queue3n' queue3c' t40' t41' H' → μ p0' queue3p' queue3n' queue3c' t40' t41' H' < μ p0 queue3p queue3n queue3c t40 t41 H → X (bimatch_phases_layer.f1 p0' queue3p' queue3n' queue3c' t40' t41') H') → bimatch_phases_layer.b1 p0 queue3p queue3n queue3c t40 t41  X E H K)
    {p0 : Option Addr} {queue3p : Option Addr} {queue3n : Nat} {queue3c : Nat} {t40 : Int} {t41 : Int} {H : Hp} (hI : I p0 queue3p queue3n queue3c t40 t41 H) : bimatch_phases_layer.l1 p0 queue3p queue3n queue3c t40 t41  E H K :=
  loop_rule (S := (Option Addr) × (Option Addr) × Nat × Nat × Int × Int) (fun s => bimatch_phases_layer.f1 (s.1) (s.2.1) (s.2.2.1) (s.2.2.2.1) (s.2.2.2.2.1) (s.2.2.2.2.2)) (fun s H => I (s.1) (s.2.1) (s.2.2.1) (s.2.2.2.1) (s.2.2.2.2.1) (s.2.2.2.2.2) H) (fun s H => μ (s.1) (s.2.1) (s.2.2.1) (s.2.2.2.1) (s.2.2.2.2.1) (s.2.2.2.2.2) H) (fun s H hI X hX => h (s.1) (s.2.1) (s.2.2.1) (s.2.2.2.1) (s.2.2.2.2.1) (s.2.2.2.2.2) H hI X fun p0' queue3p' queue3n' queue3c' t40' t41' H' hI' hlt => hX (p0', queue3p', queue3n', queue3c', t40', t41') H' hI' hlt) (s := (p0, queue3p, queue3n, queue3c, t40, t41)) rfl hI
def bimatch_phases_layer.l2 (p0 : Option Addr) (queue3p : Option Addr) (queue3n : Nat) (queue3c : Nat) (found5 : Bool) (n6 : Int)  (E : Value → Hp → Prop) (H : Hp) (K : Bool → Hp → Prop) : Prop := nodeM P0 T0 bimatch_phases_layer.A bimatch_phases_layer.code [1, 1, 1, 1, 1, 1, 0, 1, 0] [] (bimatch_phases_layer.rq E K) (bimatch_phases_layer.f2 p0 queue3p queue3n queue3c found5 n6) H
def bimatch_phases_layer.b2 (p0 : Option Addr) (queue3p : Option Addr) (queue3n : Nat) (queue3c : Nat) (found5 : Bool) (n6 : Int)  (X1 : Fr → Hp → Prop) (E : Value → Hp → Prop) (H : Hp) (K : Bool → Hp → Prop) : Prop := nodeM P0 T0 bimatch_phases_layer.A bimatch_phases_layer.code [1, 1, 1, 1, 1, 1, 0, 1, 0, 0] [X1] (bimatch_phases_layer.rq E K) (bimatch_phases_layer.f2 p0 queue3p queue3n queue3c found5 n6) H
theorem bimatch_phases_layer.l2_rule { E : Value → Hp → Prop} {K : Bool → Hp → Prop} (I : (Option Addr) → (Option Addr) → Nat → Nat → Bool → Int → Hp → Prop) (μ : (Option Addr) → (Option Addr) → Nat → Nat → Bool → Int → Hp → Nat)
    (h : ∀ p0 queue3p queue3n queue3c found5 n6 H, I p0 queue3p queue3n queue3c found5 n6 H → ∀ X : Fr → Hp → Prop, (∀ p0' queue3p' queue3n' queue3c' found5' n6' H', I p0' queue3p' queue3n' queue3c' found5' n6' H' → μ p0' queue3p' queue3n' queue3c' found5' n6' H' < μ p0 queue3p queue3n queue3c found5 n6 H → X (bimatch_phases_layer.f2 p0' queue3p' queue3n' queue3c' found5' n6') H') → bimatch_phases_layer.b2 p0 queue3p queue3n queue3c found5 n6  X E H K)
    {p0 : Option Addr} {queue3p : Option Addr} {queue3n : Nat} {queue3c : Nat} {found5 : Bool} {n6 : Int} {H : Hp} (hI : I p0 queue3p queue3n queue3c found5 n6 H) : bimatch_phases_layer.l2 p0 queue3p queue3n queue3c found5 n6  E H K :=
  loop_rule (S := (Option Addr) × (Option Addr) × Nat × Nat × Bool × Int) (fun s => bimatch_phases_layer.f2 (s.1) (s.2.1) (s.2.2.1) (s.2.2.2.1) (s.2.2.2.2.1) (s.2.2.2.2.2)) (fun s H => I (s.1) (s.2.1) (s.2.2.1) (s.2.2.2.1) (s.2.2.2.2.1) (s.2.2.2.2.2) H) (fun s H => μ (s.1) (s.2.1) (s.2.2.1) (s.2.2.2.1) (s.2.2.2.2.1) (s.2.2.2.2.2) H) (fun s H hI X hX => h (s.1) (s.2.1) (s.2.2.1) (s.2.2.2.1) (s.2.2.2.2.1) (s.2.2.2.2.2) H hI X fun p0' queue3p' queue3n' queue3c' found5' n6' H' hI' hlt => hX (p0', queue3p', queue3n', queue3c', found5', n6') H' hI' hlt) (s := (p0, queue3p, queue3n, queue3c, found5, n6)) rfl hI
def bimatch_phases_layer.l3 (p0 : Option Addr) (queue3p : Option Addr) (queue3n : Nat) (queue3c : Nat) (found5 : Bool) (n6 : Int) (v7 : Int) (t102p : Option Addr) (t102n : Nat) (t102c : Nat) (t103 : Int) (t104 : Int) (X1 : Fr → Hp → Prop) (E : Value → Hp → Prop) (H : Hp) (K : Bool → Hp → Prop) : Prop := nodeM P0 T0 bimatch_phases_layer.A bimatch_phases_layer.code [1, 1, 1, 1, 1, 1, 0, 1, 0, 0, 1, 0, 0, 1, 1, 0] [X1] (bimatch_phases_layer.rq E K) (bimatch_phases_layer.f3 p0 queue3p queue3n queue3c found5 n6 v7 t102p t102n t102c t103 t104) H
def bimatch_phases_layer.b3 (p0 : Option Addr) (queue3p : Option Addr) (queue3n : Nat) (queue3c : Nat) (found5 : Bool) (n6 : Int) (v7 : Int) (t102p : Option Addr) (t102n : Nat) (t102c : Nat) (t103 : Int) (t104 : Int) (X1 : Fr → Hp → Prop) (X2 : Fr → Hp → Prop) (E : Value → Hp → Prop) (H : Hp) (K : Bool → Hp → Prop) : Prop := nodeM P0 T0 bimatch_phases_layer.A bimatch_phases_layer.code [1, 1, 1, 1, 1, 1, 0, 1, 0, 0, 1, 0, 0, 1, 1, 0, 0] [X1, X2] (bimatch_phases_layer.rq E K) (bimatch_phases_layer.f3 p0 queue3p queue3n queue3c found5 n6 v7 t102p t102n t102c t103 t104) H
theorem bimatch_phases_layer.l3_rule {X1 : Fr → Hp → Prop} { E : Value → Hp → Prop} {K : Bool → Hp → Prop} (I : (Option Addr) → (Option Addr) → Nat → Nat → Bool → Int → Int → (Option Addr) → Nat → Nat → Int → Int → Hp → Prop) (μ : (Option Addr) → (Option Addr) → Nat → Nat → Bool → Int → Int → (Option Addr) → Nat → Nat → Int → Int → Hp → Nat)
    (h : ∀ p0 queue3p queue3n queue3c found5 n6 v7 t102p t102n t102c t103 t104 H, I p0 queue3p queue3n queue3c found5 n6 v7 t102p t102n t102c t103 t104 H → ∀ X : Fr → Hp → Prop, (∀ p0' queue3p' queue3n' queue3c' found5' n6' v7' t102p' t102n' t102c' t103' t104' H', I p0' queue3p' queue3n' queue3c' found5' n6' v7' t102p' t102n' t102c' t103' t104' H' → μ p0' queue3p' queue3n' queue3c' found5' n6' v7' t102p' t102n' t102c' t103' t104' H' < μ p0 queue3p queue3n queue3c found5 n6 v7 t102p t102n t102c t103 t104 H → X (bimatch_phases_layer.f3 p0' queue3p' queue3n' queue3c' found5' n6' v7' t102p' t102n' t102c' t103' t104') H') → bimatch_phases_layer.b3 p0 queue3p queue3n queue3c found5 n6 v7 t102p t102n t102c t103 t104 X1 X E H K)
    {p0 : Option Addr} {queue3p : Option Addr} {queue3n : Nat} {queue3c : Nat} {found5 : Bool} {n6 : Int} {v7 : Int} {t102p : Option Addr} {t102n : Nat} {t102c : Nat} {t103 : Int} {t104 : Int} {H : Hp} (hI : I p0 queue3p queue3n queue3c found5 n6 v7 t102p t102n t102c t103 t104 H) : bimatch_phases_layer.l3 p0 queue3p queue3n queue3c found5 n6 v7 t102p t102n t102c t103 t104 X1 E H K :=
  loop_rule (S := (Option Addr) × (Option Addr) × Nat × Nat × Bool × Int × Int × (Option Addr) × Nat × Nat × Int × Int) (fun s => bimatch_phases_layer.f3 (s.1) (s.2.1) (s.2.2.1) (s.2.2.2.1) (s.2.2.2.2.1) (s.2.2.2.2.2.1) (s.2.2.2.2.2.2.1) (s.2.2.2.2.2.2.2.1) (s.2.2.2.2.2.2.2.2.1) (s.2.2.2.2.2.2.2.2.2.1) (s.2.2.2.2.2.2.2.2.2.2.1) (s.2.2.2.2.2.2.2.2.2.2.2)) (fun s H => I (s.1) (s.2.1) (s.2.2.1) (s.2.2.2.1) (s.2.2.2.2.1) (s.2.2.2.2.2.1) (s.2.2.2.2.2.2.1) (s.2.2.2.2.2.2.2.1) (s.2.2.2.2.2.2.2.2.1) (s.2.2.2.2.2.2.2.2.2.1) (s.2.2.2.2.2.2.2.2.2.2.1) (s.2.2.2.2.2.2.2.2.2.2.2) H) (fun s H => μ (s.1) (s.2.1) (s.2.2.1) (s.2.2.2.1) (s.2.2.2.2.1) (s.2.2.2.2.2.1) (s.2.2.2.2.2.2.1) (s.2.2.2.2.2.2.2.1) (s.2.2.2.2.2.2.2.2.1) (s.2.2.2.2.2.2.2.2.2.1) (s.2.2.2.2.2.2.2.2.2.2.1) (s.2.2.2.2.2.2.2.2.2.2.2) H) (fun s H hI X hX => h (s.1) (s.2.1) (s.2.2.1) (s.2.2.2.1) (s.2.2.2.2.1) (s.2.2.2.2.2.1) (s.2.2.2.2.2.2.1) (s.2.2.2.2.2.2.2.1) (s.2.2.2.2.2.2.2.2.1) (s.2.2.2.2.2.2.2.2.2.1) (s.2.2.2.2.2.2.2.2.2.2.1) (s.2.2.2.2.2.2.2.2.2.2.2) H hI X fun p0' queue3p' queue3n' queue3c' found5' n6' v7' t102p' t102n' t102c' t103' t104' H' hI' hlt => hX (p0', queue3p', queue3n', queue3c', found5', n6', v7', t102p', t102n', t102c', t103', t104') H' hI' hlt) (s := (p0, queue3p, queue3n, queue3c, found5, n6, v7, t102p, t102n, t102c, t103, t104)) rfl hI
theorem bimatch_phases_layer.nok : nodesOk bimatch_phases_layer.code [[0, 1, 0, 1, 1, 1, 1], [1, 1, 1, 0, 0, 1, 0, 1, 1, 1, 1], [1, 1, 1, 1, 1], [0, 1, 0, 1, 1, 1, 1, 1, 1], [0, 1, 1, 0, 0, 1, 0, 0, 1, 0, 1, 1, 1, 1, 1, 1], [1, 1, 1, 0, 0, 1, 1, 0, 0, 1, 0, 0, 1, 0, 1, 1, 1, 1, 1, 1], [1, 1, 0, 0, 1, 0, 1, 1, 1, 1, 1, 1]] = true := by kernel_rfl
def bimatch_phases_layer.run_t (l1 : (Option Addr) → (Option Addr) → Nat → Nat → Int → Int → Hp → Prop) (p0 : Option Addr)  (E : Value → Hp → Prop) (H : Hp) (K : Bool → Hp → Prop) : Prop :=
  nn p0 fun b_1 o_1 =>
  ldP (H.get b_1 o_1) fun x_1 =>
  nn x_1 fun b_2 o_2 =>
  ldI .i64 (H.get b_2 o_2) fun x_2 =>
  mkS x_2 x_2 3 [.i .i64] 8 H fun b_3 H_1 =>
  nn p0 fun b_4 o_3 =>
  stC H_1 b_4 (o_3 + 1) [.slice (some ⟨b_3, 0, none⟩) x_2.toNat x_2.toNat] fun H_2 =>
  nn p0 fun b_5 o_4 =>
  ldP (H_2.get b_5 o_4) fun x_3 =>
  nn x_3 fun b_6 o_5 =>
  ldI .i64 (H_2.get b_6 o_5) fun x_4 =>
  mkS x_4 x_4 3 [.i .i64] 8 H_2 fun b_7 H_3 =>
  nn p0 fun b_8 o_6 =>
  stC H_3 b_8 (o_6 + 2) [.slice (some ⟨b_7, 0, none⟩) x_4.toNat x_4.toNat] fun H_4 =>
  nn p0 fun b_9 o_7 =>
  ldS (H_4.get b_9 (o_7 + 1)) fun x_5p x_5n x_5c =>
  l1 p0 none 0 0 (x_5n : Int) 0 H_4
theorem bimatch_phases_layer.run_eq {p0 : Option Addr} { E : Value → Hp → Prop} {H : Hp} {K : Bool → Hp → Prop} (h : bimatch_phases_layer.run_t (fun p0 queue3p queue3n queue3c t40 t41 H => bimatch_phases_layer.l1 p0 queue3p queue3n queue3c t40 t41  E H K) p0  E H K) : bimatch_phases_layer.run p0  E H K := by
  have k1 : ∀ G : List Nat → Fr → Hp → Prop, nodeR P0 T0 bimatch_phases_layer.A [[0, 1, 0, 1, 1, 1, 1], [1, 1, 1, 0, 0, 1, 0, 1, 1, 1, 1], [1, 1, 1, 1, 1], [0, 1, 0, 1, 1, 1, 1, 1, 1], [0, 1, 1, 0, 0, 1, 0, 0, 1, 0, 1, 1, 1, 1, 1, 1], [1, 1, 1, 0, 0, 1, 1, 0, 0, 1, 0, 0, 1, 0, 1, 1, 1, 1, 1, 1], [1, 1, 0, 0, 1, 0, 1, 1, 1, 1, 1, 1]] G bimatch_phases_layer.code [] [] (bimatch_phases_layer.rq E K) (argF 0 [.pointer p0]) H = bimatch_phases_layer.run_t (fun p0 queue3p queue3n queue3c t40 t41 H => G [0, 1, 0, 1, 1, 1, 1] [(0, .pointer p0), (3, .slice queue3p queue3n queue3c), (40, .int .i64 t40), (41, .int .i64 t41)] H) p0  E H K := fun G => by kernel_rfl
  have k2 : bimatch_phases_layer.run_t (fun p0 queue3p queue3n queue3c t40 t41 H => bimatch_phases_layer.l1 p0 queue3p queue3n queue3c t40 t41  E H K) p0  E H K = bimatch_phases_layer.run_t (fun p0 queue3p queue3n queue3c t40 t41 H => (fun q F H => nodeM P0 T0 bimatch_phases_layer.A bimatch_phases_layer.code q.reverse [] (bimatch_phases_layer.rq E K) F H) [0, 1, 0, 1, 1, 1, 1] [(0, .pointer p0), (3, .slice queue3p queue3n queue3c), (40, .int .i64 t40), (41, .int .i64 t41)] H) p0  E H K := by kernel_rfl
  exact nodeR_imp bimatch_phases_layer.nok rfl ((k1 _).mpr (k2.mp h))
def bimatch_phases_layer.j1_t  (p0 : Option Addr) (queue3p : Option Addr) (queue3n : Nat) (queue3c : Nat) (t40 : Int) (t41 : Int) (X1 : Fr → Hp → Prop) (E : Value → Hp → Prop) (H : Hp) (K : Bool → Hp → Prop) : Prop :=
  X1 (bimatch_phases_layer.f1 p0 queue3p queue3n queue3c t40 (IntKind.wrap .i64 (t41 + 1))) H
theorem bimatch_phases_layer.j1_eq {p0 : Option Addr} {queue3p : Option Addr} {queue3n : Nat} {queue3c : Nat} {t40 : Int} {t41 : Int} {X1 : Fr → Hp → Prop} { E : Value → Hp → Prop} {H : Hp} {K : Bool → Hp → Prop} (h : bimatch_phases_layer.j1_t  p0 queue3p queue3n queue3c t40 t41 X1 E H K) : bimatch_phases_layer.j1 p0 queue3p queue3n queue3c t40 t41 X1 E H K := by
  have k1 : ∀ G : List Nat → Fr → Hp → Prop, nodeR P0 T0 bimatch_phases_layer.A [[0, 1, 0, 1, 1, 1, 1], [1, 1, 1, 0, 0, 1, 0, 1, 1, 1, 1], [1, 1, 1, 1, 1], [0, 1, 0, 1, 1, 1, 1, 1, 1], [0, 1, 1, 0, 0, 1, 0, 0, 1, 0, 1, 1, 1, 1, 1, 1], [1, 1, 1, 0, 0, 1, 1, 0, 0, 1, 0, 0, 1, 0, 1, 1, 1, 1, 1, 1], [1, 1, 0, 0, 1, 0, 1, 1, 1, 1, 1, 1]] G bimatch_phases_layer.code [1, 1, 1, 1, 0, 1, 0, 0, 1, 1, 1] [X1] (bimatch_phases_layer.rq E K) [(0, .pointer p0), (3, .slice queue3p queue3n queue3c), (40, .int .i64 t40), (41, .int .i64 t41)] H = bimatch_phases_layer.j1_t  p0 queue3p queue3n queue3c t40 t41 X1 E H K := fun G => by kernel_rfl
  exact nodeR_imp bimatch_phases_layer.nok rfl ((k1 _).mpr h)
def bimatch_phases_layer.j2_t (l2 : (Option Addr) → (Option Addr) → Nat → Nat → Bool → Int → Hp → Prop) (p0 : Option Addr) (queue3p : Option Addr) (queue3n : Nat) (queue3c : Nat)  (E : Value → Hp → Prop) (H : Hp) (K : Bool → Hp → Prop) : Prop :=
  l2 p0 queue3p queue3n queue3c false 0 H
theorem bimatch_phases_layer.j2_eq {p0 : Option Addr} {queue3p : Option Addr} {queue3n : Nat} {queue3c : Nat} { E : Value → Hp → Prop} {H : Hp} {K : Bool → Hp → Prop} (h : bimatch_phases_layer.j2_t (fun p0 queue3p queue3n queue3c found5 n6 H => bimatch_phases_layer.l2 p0 queue3p queue3n queue3c found5 n6  E H K) p0 queue3p queue3n queue3c  E H K) : bimatch_phases_layer.j2 p0 queue3p queue3n queue3c  E H K := by
  have k1 : ∀ G : List Nat → Fr → Hp → Prop, nodeR P0 T0 bimatch_phases_layer.A [[0, 1, 0, 1, 1, 1, 1], [1, 1, 1, 0, 0, 1, 0, 1, 1, 1, 1], [1, 1, 1, 1, 1], [0, 1, 0, 1, 1, 1, 1, 1, 1], [0, 1, 1, 0, 0, 1, 0, 0, 1, 0, 1, 1, 1, 1, 1, 1], [1, 1, 1, 0, 0, 1, 1, 0, 0, 1, 0, 0, 1, 0, 1, 1, 1, 1, 1, 1], [1, 1, 0, 0, 1, 0, 1, 1, 1, 1, 1, 1]] G bimatch_phases_layer.code [1, 1, 1, 1, 1] [] (bimatch_phases_layer.rq E K) [(0, .pointer p0), (3, .slice queue3p queue3n queue3c)] H = bimatch_phases_layer.j2_t (fun p0 queue3p queue3n queue3c found5 n6 H => G [0, 1, 0, 1, 1, 1, 1, 1, 1] [(0, .pointer p0), (3, .slice queue3p queue3n queue3c), (5, .bool found5), (6, .int .i64 n6)] H) p0 queue3p queue3n queue3c  E H K := fun G => by kernel_rfl
  have k2 : bimatch_phases_layer.j2_t (fun p0 queue3p queue3n queue3c found5 n6 H => bimatch_phases_layer.l2 p0 queue3p queue3n queue3c found5 n6  E H K) p0 queue3p queue3n queue3c  E H K = bimatch_phases_layer.j2_t (fun p0 queue3p queue3n queue3c found5 n6 H => (fun q F H => nodeM P0 T0 bimatch_phases_layer.A bimatch_phases_layer.code q.reverse [] (bimatch_phases_layer.rq E K) F H) [0, 1, 0, 1, 1, 1, 1, 1, 1] [(0, .pointer p0), (3, .slice queue3p queue3n queue3c), (5, .bool found5), (6, .int .i64 n6)] H) p0 queue3p queue3n queue3c  E H K := by kernel_rfl
  exact nodeR_imp bimatch_phases_layer.nok rfl ((k1 _).mpr (k2.mp h))
def bimatch_phases_layer.j3_t  (p0 : Option Addr) (queue3p : Option Addr) (queue3n : Nat) (queue3c : Nat) (found5 : Bool) (n6 : Int) (v7 : Int) (t102p : Option Addr) (t102n : Nat) (t102c : Nat) (t103 : Int) (t104 : Int) (X1 : Fr → Hp → Prop) (X2 : Fr → Hp → Prop) (E : Value → Hp → Prop) (H : Hp) (K : Bool → Hp → Prop) : Prop :=
  X2 (bimatch_phases_layer.f3 p0 queue3p queue3n queue3c found5 n6 v7 t102p t102n t102c t103 (IntKind.wrap .i64 (t104 + 1))) H
theorem bimatch_phases_layer.j3_eq {p0 : Option Addr} {queue3p : Option Addr} {queue3n : Nat} {queue3c : Nat} {found5 : Bool} {n6 : Int} {v7 : Int} {t102p : Option Addr} {t102n : Nat} {t102c : Nat} {t103 : Int} {t104 : Int} {X1 X2 : Fr → Hp → Prop} { E : Value → Hp → Prop} {H : Hp} {K : Bool → Hp → Prop} (h : bimatch_phases_layer.j3_t  p0 queue3p queue3n queue3c found5 n6 v7 t102p t102n t102c t103 t104 X1 X2 E H K) : bimatch_phases_layer.j3 p0 queue3p queue3n queue3c found5 n6 v7 t102p t102n t102c t103 t104 X1 X2 E H K := by
  have k1 : ∀ G : List Nat → Fr → Hp → Prop, nodeR P0 T0 bimatch_phases_layer.A [[0, 1, 0, 1, 1, 1, 1], [1, 1, 1, 0, 0, 1, 0, 1, 1, 1, 1], [1, 1, 1, 1, 1], [0, 1, 0, 1, 1, 1, 1, 1, 1], [0, 1, 1, 0, 0, 1, 0, 0, 1, 0, 1, 1, 1, 1, 1, 1], [1, 1, 1, 0, 0, 1, 1, 0, 0, 1, 0, 0, 1, 0, 1, 1, 1, 1, 1, 1], [1, 1, 0, 0, 1, 0, 1, 1, 1, 1, 1, 1]] G bimatch_phases_layer.code [1, 1, 1, 1, 1, 1, 0, 1, 0, 0, 1, 0, 0, 1, 1, 0, 0, 1, 1, 1] [X1, X2] (bimatch_phases_layer.rq E K) [(0, .pointer p0), (3, .slice queue3p queue3n queue3c), (5, .bool found5), (6, .int .i64 n6), (7, .int .i64 v7), (102, .slice t102p t102n t102c), (103, .int .i64 t103), (104, .int .i64 t104)] H = bimatch_phases_layer.j3_t  p0 queue3p queue3n queue3c found5 n6 v7 t102p t102n t102c t103 t104 X1 X2 E H K := fun G => by kernel_rfl
  exact nodeR_imp bimatch_phases_layer.nok rfl ((k1 _).mpr h)
def bimatch_phases_layer.j4_t  (p0 : Option Addr) (queue3p : Option Addr) (queue3n : Nat) (queue3c : Nat) (found5 : Bool) (n6 : Int) (X1 : Fr → Hp → Prop) (E : Value → Hp → Prop) (H : Hp) (K : Bool → Hp → Prop) : Prop :=
  X1 (bimatch_phases_layer.f2 p0 queue3p queue3n queue3c found5 (IntKind.wrap .i64 (n6 + 1))) H
theorem bimatch_phases_layer.j4_eq {p0 : Option Addr} {queue3p : Option Addr} {queue3n : Nat} {queue3c : Nat} {found5 : Bool} {n6 : Int} {X1 : Fr → Hp → Prop} { E : Value → Hp → Prop} {H : Hp} {K : Bool → Hp → Prop} (h : bimatch_phases_layer.j4_t  p0 queue3p queue3n queue3c found5 n6 X1 E H K) : bimatch_phases_layer.j4 p0 queue3p queue3n queue3c found5 n6 X1 E H K := by
  have k1 : ∀ G : List Nat → Fr → Hp → Prop, nodeR P0 T0 bimatch_phases_layer.A [[0, 1, 0, 1, 1, 1, 1], [1, 1, 1, 0, 0, 1, 0, 1, 1, 1, 1], [1, 1, 1, 1, 1], [0, 1, 0, 1, 1, 1, 1, 1, 1], [0, 1, 1, 0, 0, 1, 0, 0, 1, 0, 1, 1, 1, 1, 1, 1], [1, 1, 1, 0, 0, 1, 1, 0, 0, 1, 0, 0, 1, 0, 1, 1, 1, 1, 1, 1], [1, 1, 0, 0, 1, 0, 1, 1, 1, 1, 1, 1]] G bimatch_phases_layer.code [1, 1, 1, 1, 1, 1, 0, 1, 0, 0, 1, 1] [X1] (bimatch_phases_layer.rq E K) [(0, .pointer p0), (3, .slice queue3p queue3n queue3c), (5, .bool found5), (6, .int .i64 n6)] H = bimatch_phases_layer.j4_t  p0 queue3p queue3n queue3c found5 n6 X1 E H K := fun G => by kernel_rfl
  exact nodeR_imp bimatch_phases_layer.nok rfl ((k1 _).mpr h)
def bimatch_phases_layer.b1_t (j1 : (Option Addr) → (Option Addr) → Nat → Nat → Int → Int → Hp → Prop) (j2 : (Option Addr) → (Option Addr) → Nat → Nat → Hp → Prop) (p0 : Option Addr) (queue3p : Option Addr) (queue3n : Nat) (queue3c : Nat) (t40 : Int) (t41 : Int) (X1 : Fr → Hp → Prop) (E : Value → Hp → Prop) (H : Hp) (K : Bool → Hp → Prop) : Prop :=
  bcase (decide ((t41 : Int) < t40)) (
  nn p0 fun b_1 o_1 =>
  ldS (H.get b_1 (o_1 + 1)) fun x_1p x_1n x_1c =>
  ix x_1p x_1n t41 1 fun b_2 o_2 =>
  stC H b_2 o_2 [.int .i64 (-1)] fun H_1 =>
  nn p0 fun b_3 o_3 =>
  ldP (H_1.get b_3 o_3) fun x_2 =>
  nn x_2 fun b_4 o_4 =>
  ldI .i64 (H_1.get b_4 (o_4 + 2)) fun x_3 =>
  bcase (decide ((t41 : Int) < x_3)) (
  nn p0 fun b_5 o_5 =>
  ldP (H_1.get b_5 o_5) fun x_4 =>
  nn x_4 fun b_6 o_6 =>
  ldS (H_1.get b_6 (o_6 + 4)) fun x_5p x_5n x_5c =>
  ix x_5p x_5n t41 1 fun b_7 o_7 =>
  ldI .i64 (H_1.get b_7 o_7) fun x_6 =>
  bcase (decide ((x_6 : Int) < 0)) (
  nn p0 fun b_8 o_8 =>
  ldS (H_1.get b_8 (o_8 + 1)) fun x_7p x_7n x_7c =>
  ix x_7p x_7n t41 1 fun b_9 o_9 =>
  stC H_1 b_9 o_9 [.int .i64 0] fun H_2 =>
  nw H_2 ⟨[.int .i64 t41], 3⟩ fun b_10 H_3 =>
  appM 3 [.i .i64] 8 queue3p queue3n queue3c (some ⟨b_10, 0, none⟩) 1 H_3 fun a_1p a_1n a_1c H_4 =>
  j1 p0 a_1p a_1n a_1c t40 t41 H_4)
  (j1 p0 queue3p queue3n queue3c t40 t41 H_1))
  (j1 p0 queue3p queue3n queue3c t40 t41 H_1))
  (j2 p0 queue3p queue3n queue3c H)
theorem bimatch_phases_layer.b1_eq {p0 : Option Addr} {queue3p : Option Addr} {queue3n : Nat} {queue3c : Nat} {t40 : Int} {t41 : Int} {X1 : Fr → Hp → Prop} { E : Value → Hp → Prop} {H : Hp} {K : Bool → Hp → Prop} (h : bimatch_phases_layer.b1_t (fun p0 queue3p queue3n queue3c t40 t41 H => bimatch_phases_layer.j1 p0 queue3p queue3n queue3c t40 t41 X1 E H K) (fun p0 queue3p queue3n queue3c H => bimatch_phases_layer.j2 p0 queue3p queue3n queue3c  E H K) p0 queue3p queue3n queue3c t40 t41 X1 E H K) : bimatch_phases_layer.b1 p0 queue3p queue3n queue3c t40 t41 X1 E H K := by
  have k1 : ∀ G : List Nat → Fr → Hp → Prop, nodeR P0 T0 bimatch_phases_layer.A [[0, 1, 0, 1, 1, 1, 1], [1, 1, 1, 0, 0, 1, 0, 1, 1, 1, 1], [1, 1, 1, 1, 1], [0, 1, 0, 1, 1, 1, 1, 1, 1], [0, 1, 1, 0, 0, 1, 0, 0, 1, 0, 1, 1, 1, 1, 1, 1], [1, 1, 1, 0, 0, 1, 1, 0, 0, 1, 0, 0, 1, 0, 1, 1, 1, 1, 1, 1], [1, 1, 0, 0, 1, 0, 1, 1, 1, 1, 1, 1]] G bimatch_phases_layer.code [1, 1, 1, 1, 0, 1, 0, 0] [X1] (bimatch_phases_layer.rq E K) (bimatch_phases_layer.f1 p0 queue3p queue3n queue3c t40 t41) H = bimatch_phases_layer.b1_t (fun p0 queue3p queue3n queue3c t40 t41 H => G [1, 1, 1, 0, 0, 1, 0, 1, 1, 1, 1] [(0, .pointer p0), (3, .slice queue3p queue3n queue3c), (40, .int .i64 t40), (41, .int .i64 t41)] H) (fun p0 queue3p queue3n queue3c H => G [1, 1, 1, 1, 1] [(0, .pointer p0), (3, .slice queue3p queue3n queue3c)] H) p0 queue3p queue3n queue3c t40 t41 X1 E H K := fun G => by kernel_rfl
  have k2 : bimatch_phases_layer.b1_t (fun p0 queue3p queue3n queue3c t40 t41 H => bimatch_phases_layer.j1 p0 queue3p queue3n queue3c t40 t41 X1 E H K) (fun p0 queue3p queue3n queue3c H => bimatch_phases_layer.j2 p0 queue3p queue3n queue3c  E H K) p0 queue3p queue3n queue3c t40 t41 X1 E H K = bimatch_phases_layer.b1_t (fun p0 queue3p queue3n queue3c t40 t41 H => (fun q F H => nodeM P0 T0 bimatch_phases_layer.A bimatch_phases_layer.code q.reverse [X1] (bimatch_phases_layer.rq E K) F H) [1, 1, 1, 0, 0, 1, 0, 1, 1, 1, 1] [(0, .pointer p0), (3, .slice queue3p queue3n queue3c), (40, .int .i64 t40), (41, .int .i64 t41)] H) (fun p0 queue3p queue3n queue3c H => (fun q F H => nodeM P0 T0 bimatch_phases_layer.A bimatch_phases_layer.code q.reverse [X1] (bimatch_phases_layer.rq E K) F H) [1, 1, 1, 1, 1] [(0, .pointer p0), (3, .slice queue3p queue3n queue3c)] H) p0 queue3p queue3n queue3c t40 t41 X1 E H K := by kernel_rfl
  exact nodeR_imp bimatch_phases_layer.nok rfl ((k1 _).mpr (k2.mp h))
def bimatch_phases_layer.b2_t (l3 : (Option Addr) → (Option Addr) → Nat → Nat → Bool → Int → Int → (Option Addr) → Nat → Nat → Int → Int → Hp → Prop) (p0 : Option Addr) (queue3p : Option Addr) (queue3n : Nat) (queue3c : Nat) (found5 : Bool) (n6 : Int) (X1 : Fr → Hp → Prop) (E : Value → Hp → Prop) (H : Hp) (K : Bool → Hp → Prop) : Prop :=
  bcase (decide ((n6 : Int) < (queue3n : Int))) (
  ix queue3p queue3n n6 1 fun b_1 o_1 =>
  ldI .i64 (H.get b_1 o_1) fun x_1 =>
  nn p0 fun b_2 o_2 =>
  ldP (H.get b_2 o_2) fun x_2 =>
  nn x_2 fun b_3 o_3 =>
  ldS (H.get b_3 (o_3 + 3)) fun x_3p x_3n x_3c =>
  ix x_3p x_3n x_1 1 fun b_4 o_4 =>
  ldS (H.get b_4 o_4) fun x_4p x_4n x_4c =>
  l3 p0 queue3p queue3n queue3c found5 n6 x_1 x_4p x_4n x_4c (x_4n : Int) 0 H)
  (K found5 H)
theorem bimatch_phases_layer.b2_eq {p0 : Option Addr} {queue3p : Option Addr} {queue3n : Nat} {queue3c : Nat} {found5 : Bool} {n6 : Int} {X1 : Fr → Hp → Prop} { E : Value → Hp → Prop} {H : Hp} {K : Bool → Hp → Prop} (h : bimatch_phases_layer.b2_t (fun p0 queue3p queue3n queue3c found5 n6 v7 t102p t102n t102c t103 t104 H => bimatch_phases_layer.l3 p0 queue3p queue3n queue3c found5 n6 v7 t102p t102n t102c t103 t104 X1 E H K) p0 queue3p queue3n queue3c found5 n6 X1 E H K) : bimatch_phases_layer.b2 p0 queue3p queue3n queue3c found5 n6 X1 E H K := by
  have k1 : ∀ G : List Nat → Fr → Hp → Prop, nodeR P0 T0 bimatch_phases_layer.A [[0, 1, 0, 1, 1, 1, 1], [1, 1, 1, 0, 0, 1, 0, 1, 1, 1, 1], [1, 1, 1, 1, 1], [0, 1, 0, 1, 1, 1, 1, 1, 1], [0, 1, 1, 0, 0, 1, 0, 0, 1, 0, 1, 1, 1, 1, 1, 1], [1, 1, 1, 0, 0, 1, 1, 0, 0, 1, 0, 0, 1, 0, 1, 1, 1, 1, 1, 1], [1, 1, 0, 0, 1, 0, 1, 1, 1, 1, 1, 1]] G bimatch_phases_layer.code [1, 1, 1, 1, 1, 1, 0, 1, 0, 0] [X1] (bimatch_phases_layer.rq E K) (bimatch_phases_layer.f2 p0 queue3p queue3n queue3c found5 n6) H = bimatch_phases_layer.b2_t (fun p0 queue3p queue3n queue3c found5 n6 v7 t102p t102n t102c t103 t104 H => G [0, 1, 1, 0, 0, 1, 0, 0, 1, 0, 1, 1, 1, 1, 1, 1] [(0, .pointer p0), (3, .slice queue3p queue3n queue3c), (5, .bool found5), (6, .int .i64 n6), (7, .int .i64 v7), (102, .slice t102p t102n t102c), (103, .int .i64 t103), (104, .int .i64 t104)] H) p0 queue3p queue3n queue3c found5 n6 X1 E H K := fun G => by kernel_rfl
  have k2 : bimatch_phases_layer.b2_t (fun p0 queue3p queue3n queue3c found5 n6 v7 t102p t102n t102c t103 t104 H => bimatch_phases_layer.l3 p0 queue3p queue3n queue3c found5 n6 v7 t102p t102n t102c t103 t104 X1 E H K) p0 queue3p queue3n queue3c found5 n6 X1 E H K = bimatch_phases_layer.b2_t (fun p0 queue3p queue3n queue3c found5 n6 v7 t102p t102n t102c t103 t104 H => (fun q F H => nodeM P0 T0 bimatch_phases_layer.A bimatch_phases_layer.code q.reverse [X1] (bimatch_phases_layer.rq E K) F H) [0, 1, 1, 0, 0, 1, 0, 0, 1, 0, 1, 1, 1, 1, 1, 1] [(0, .pointer p0), (3, .slice queue3p queue3n queue3c), (5, .bool found5), (6, .int .i64 n6), (7, .int .i64 v7), (102, .slice t102p t102n t102c), (103, .int .i64 t103), (104, .int .i64 t104)] H) p0 queue3p queue3n queue3c found5 n6 X1 E H K := by kernel_rfl
  exact nodeR_imp bimatch_phases_layer.nok rfl ((k1 _).mpr (k2.mp h))
def bimatch_phases_layer.b3_t (j3 : (Option Addr) → (Option Addr) → Nat → Nat → Bool → Int → Int → (Option Addr) → Nat → Nat → Int → Int → Hp → Prop) (j4 : (Option Addr) → (Option Addr) → Nat → Nat → Bool → Int → Hp → Prop) (p0 : Option Addr) (queue3p : Option Addr) (queue3n : Nat) (queue3c : Nat) (found5 : Bool) (n6 : Int) (v7 : Int) (t102p : Option Addr) (t102n : Nat) (t102c : Nat) (t103 : Int) (t104 : Int) (X1 : Fr → Hp → Prop) (X2 : Fr → Hp → Prop) (E : Value → Hp → Prop) (H : Hp) (K : Bool → Hp → Prop) : Prop :=
  bcase (decide ((t104 : Int) < t103)) (
  ix t102p t102n t104 1 fun b_1 o_1 =>
  ldI .i64 (H.get b_1 o_1) fun x_1 =>
  nn p0 fun b_2 o_2 =>
  ldP (H.get b_2 o_2) fun x_2 =>
  nn x_2 fun b_3 o_3 =>
  ldS (H.get b_3 (o_3 + 4)) fun x_3p x_3n x_3c =>
  nn p0 fun b_4 o_4 =>
  ldP (H.get b_4 o_4) fun x_4 =>
  bimatch_pairs_other.call x_4 x_1 v7 E H fun r_1 H_1 =>
  (ldP (H_1.get b_2 o_2) fun x_15 =>
  Value.pointer x_15 = Value.pointer x_2) ∧
  (ldS (H_1.get b_3 (o_3 + 4)) fun x_14p x_14n x_14c =>
  Value.slice x_14p x_14n x_14c = Value.slice x_3p x_3n x_3c) ∧
  ix x_3p x_3n r_1 1 fun b_5 o_5 =>
  ldI .i64 (H_1.get b_5 o_5) fun x_5 =>
  bcase (decide ((x_5 : Int) < 0)) (
  j3 p0 queue3p queue3n queue3c true n6 v7 t102p t102n t102c t103 t104 H_1)
  (nn p0 fun b_6 o_6 =>
  ldP (H_1.get b_6 o_6) fun x_6 =>
  nn p0 fun b_7 o_7 =>
  ldP (H_1.get b_7 o_7) fun x_7 =>
  bimatch_pairs_other.call x_7 x_1 v7 E H_1 fun r_2 H_2 =>
  (ldP (H_2.get b_6 o_6) fun x_13 =>
  Value.pointer x_13 = Value.pointer x_6) ∧
  bimatch_pairs_other.call x_6 x_5 r_2 E H_2 fun r_3 H_3 =>
  nn p0 fun b_8 o_8 =>
  ldS (H_3.get b_8 (o_8 + 1)) fun x_8p x_8n x_8c =>
  ix x_8p x_8n r_3 1 fun b_9 o_9 =>
  ldI .i64 (H_3.get b_9 o_9) fun x_9 =>
  bcase (decide ((x_9 : Int) < 0)) (
  nn p0 fun b_10 o_10 =>
  ldS (H_3.get b_10 (o_10 + 1)) fun x_10p x_10n x_10c =>
  nn p0 fun b_11 o_11 =>
  ldS (H_3.get b_11 (o_11 + 1)) fun x_11p x_11n x_11c =>
  ix x_11p x_11n v7 1 fun b_12 o_12 =>
  ldI .i64 (H_3.get b_12 o_12) fun x_12 =>
  ix x_10p x_10n r_3 1 fun b_13 o_13 =>
  stC H_3 b_13 o_13 [.int .i64 (IntKind.wrap .i64 (x_12 + 1))] fun H_4 =>
  nw H_4 ⟨[.int .i64 r_3], 3⟩ fun b_14 H_5 =>
  appM 3 [.i .i64] 8 queue3p queue3n queue3c (some ⟨b_14, 0, none⟩) 1 H_5 fun a_1p a_1n a_1c H_6 =>
  j3 p0 a_1p a_1n a_1c found5 n6 v7 t102p t102n t102c t103 t104 H_6)
  (j3 p0 queue3p queue3n queue3c found5 n6 v7 t102p t102n t102c t103 t104 H_3)))
  (j4 p0 queue3p queue3n queue3c found5 n6 H)
theorem bimatch_phases_layer.b3_eq {p0 : Option Addr} {queue3p : Option Addr} {queue3n : Nat} {queue3c : Nat} {found5 : Bool} {n6 : Int} {v7 : Int} {t102p : Option Addr} {t102n : Nat} {t102c : Nat} {t103 : Int} {t104 : Int} {X1 X2 : Fr → Hp → Prop} { E : Value → Hp → Prop} {H : Hp} {K : Bool → Hp → Prop} (h : bimatch_phases_layer.b3_t (fun p0 queue3p queue3n queue3c found5 n6 v7 t102p t102n t102c t103 t104 H => bimatch_phases_layer.j3 p0 queue3p queue3n queue3c found5 n6 v7 t102p t102n t102c t103 t104 X1 X2 E H K) (fun p0 queue3p queue3n queue3c found5 n6 H => bimatch_phases_layer.j4 p0 queue3p queue3n queue3c found5 n6 X1 E H K) p0 queue3p queue3n queue3c found5 n6 v7 t102p t102n t102c t103 t104 X1 X2 E H K) : bimatch_phases_layer.b3 p0 queue3p queue3n queue3c found5 n6 v7 t102p t102n t102c t103 t104 X1 X2 E H K := by
  have k1 : ∀ G : List Nat → Fr → Hp → Prop, nodeR P0 T0 bimatch_phases_layer.A [[0, 1, 0, 1, 1, 1, 1], [1, 1, 1, 0, 0, 1, 0, 1, 1, 1, 1], [1, 1, 1, 1, 1], [0, 1, 0, 1, 1, 1, 1, 1, 1], [0, 1, 1, 0, 0, 1, 0, 0, 1, 0, 1, 1, 1, 1, 1, 1], [1, 1, 1, 0, 0, 1, 1, 0, 0, 1, 0, 0, 1, 0, 1, 1, 1, 1, 1, 1], [1, 1, 0, 0, 1, 0, 1, 1, 1, 1, 1, 1]] G bimatch_phases_layer.code [1, 1, 1, 1, 1, 1, 0, 1, 0, 0, 1, 0, 0, 1, 1, 0, 0] [X1, X2] (bimatch_phases_layer.rq E K) (bimatch_phases_layer.f3 p0 queue3p queue3n queue3c found5 n6 v7 t102p t102n t102c t103 t104) H = bimatch_phases_layer.b3_t (fun p0 queue3p queue3n queue3c found5 n6 v7 t102p t102n t102c t103 t104 H => G [1, 1, 1, 0, 0, 1, 1, 0, 0, 1, 0, 0, 1, 0, 1, 1, 1, 1, 1, 1] [(0, .pointer p0), (3, .slice queue3p queue3n queue3c), (5, .bool found5), (6, .int .i64 n6), (7, .int .i64 v7), (102, .slice t102p t102n t102c), (103, .int .i64 t103), (104, .int .i64 t104)] H) (fun p0 queue3p queue3n queue3c found5 n6 H => G [1, 1, 0, 0, 1, 0, 1, 1, 1, 1, 1, 1] [(0, .pointer p0), (3, .slice queue3p queue3n queue3c), (5, .bool found5), (6, .int .i64 n6)] H) p0 queue3p queue3n queue3c found5 n6 v7 t102p t102n t102c t103 t104 X1 X2 E H K := fun G => by kernel_rfl
  have k2 : bimatch_phases_layer.b3_t (fun p0 queue3p queue3n queue3c found5 n6 v7 t102p t102n t102c t103 t104 H => bimatch_phases_layer.j3 p0 queue3p queue3n queue3c found5 n6 v7 t102p t102n t102c t103 t104 X1 X2 E H K) (fun p0 queue3p queue3n queue3c found5 n6 H => bimatch_phases_layer.j4 p0 queue3p queue3n queue3c found5 n6 X1 E H K) p0 queue3p queue3n queue3c found5 n6 v7 t102p t102n t102c t103 t104 X1 X2 E H K = bimatch_phases_layer.b3_t (fun p0 queue3p queue3n queue3c found5 n6 v7 t102p t102n t102c t103 t104 H => (fun q F H => nodeM P0 T0 bimatch_phases_layer.A bimatch_phases_layer.code q.reverse [X1, X2] (bimatch_phases_layer.rq E K) F H) [1, 1, 1, 0, 0, 1, 1, 0, 0, 1, 0, 0, 1, 0, 1, 1, 1, 1, 1, 1] [(0, .pointer p0), (3, .slice queue3p queue3n queue3c), (5, .bool found5), (6, .int .i64 n6), (7, .int .i64 v7), (102, .slice t102p t102n t102c), (103, .int .i64 t103), (104, .int .i64 t104)] H) (fun p0 queue3p queue3n queue3c found5 n6 H => (fun q F H => nodeM P0 T0 bimatch_phases_layer.A bimatch_phases_layer.code q.reverse [X1, X2] (bimatch_phases_layer.rq E K) F H) [1, 1, 0, 0, 1, 0, 1, 1, 1, 1, 1, 1] [(0, .pointer p0), (3, .slice queue3p queue3n queue3c), (5, .bool found5), (6, .int .i64 n6)] H) p0 queue3p queue3n queue3c found5 n6 v7 t102p t102n t102c t103 t104 X1 X2 E H K := by kernel_rfl
  exact nodeR_imp bimatch_phases_layer.nok rfl ((k1 _).mpr (k2.mp h))
/-! ### (*compass/bimatch.phases).along (129) -/
noncomputable def bimatch_phases_along.A : An := { live := [(0, [0, 1]), (1, [0, 1]), (2, [0, 1]), (3, [0, 1]), (4, [0, 1, 5]), (5, [0, 1, 5, 6]), (6, [0, 1, 5, 6]), (7, [0, 1, 5, 7]), (8, [0, 5]), (9, []), (10, [0, 1]), (11, [])], ord := [(1, [0, 1, 2, 3, 4, 5, 6, 7, 8, 9, 10, 11, 12, 13, 14, 15, 16, 17, 18]), (3, [0, 1, 2, 3, 4, 5, 6, 7, 8, 9, 10, 11, 12, 13, 14, 15, 16, 17, 18, 19]), (4, [0, 1, 2, 3, 4, 5, 6, 7, 8, 9, 10, 11, 12, 13, 14, 15, 16]), (6, [0, 1, 2, 3, 4, 5, 6, 7, 8, 9, 10, 11, 12, 13]), (7, [0, 1, 2, 3, 4, 5, 6, 7, 8, 9, 10, 11, 12, 13, 14, 15, 16, 17, 18, 19, 20, 21])], stb := [(4, [(13, [3, 6])]), (6, [(11, [3])])], pre := [(1, [[], [0], [0, 1], [0, 1, 2], [], [0, 1, 2, 3, 4], [0, 1, 2, 3, 4, 5], [], [7], [7, 8], [7, 8, 9], [7, 8, 9, 10], [7, 8, 9, 10, 11], [7, 8, 9, 10, 11, 12], [], [7, 8, 9, 10, 11, 12, 13, 14], [7, 8, 9, 10, 11, 12, 13, 14, 15], [7, 8, 9, 10, 11, 12, 13, 14, 15, 16], [0, 1, 2, 3, 4, 5, 6, 7, 8, 9, 10, 11, 12, 13, 14, 15, 16, 17]]), (3, [[], [0], [0, 1], [0, 1, 2], [0, 1, 2, 3], [0, 1, 2, 3, 4], [0, 1, 2, 3, 4, 5], [], [0, 1, 2, 3, 4, 5, 6, 7], [0, 1, 2, 3, 4, 5, 6, 7, 8], [], [10], [10, 11], [10, 11, 12], [], [10, 11, 12, 13, 14], [10, 11, 12, 13, 14, 15], [0, 1, 2, 3, 4, 5, 6, 7, 8, 9, 10, 11, 12, 13, 14, 15, 16], [0, 1, 2, 3, 4, 5, 6, 7, 8, 9, 10, 11, 12, 13, 14, 15, 16, 17], [0, 1, 2, 3, 4, 5, 6, 7, 8, 9, 10, 11, 12, 13, 14, 15, 16, 17, 18]]), (4, [[], [0], [0, 1], [0, 1, 2], [0, 1, 2, 3], [0, 1, 2, 3, 4], [0, 1, 2, 3, 4, 5], [], [7], [7, 8], [7, 8, 9], [], [], [7, 8, 9, 10, 11, 12], [0, 1, 2, 3, 4, 5, 6, 7, 8, 9, 10, 11, 12, 13], [0, 1, 2, 3, 4, 5, 6, 7, 8, 9, 10, 11, 12, 13, 14], [0, 1, 2, 3, 4, 5, 6, 7, 8, 9, 10, 11, 12, 13, 14, 15]]), (6, [[], [0], [0, 1], [0, 1, 2], [], [], [5], [5, 6], [5, 6, 7], [], [], [5, 6, 7, 8, 9, 10], [0, 1, 2, 3, 4, 5, 6, 7, 8, 9, 10, 11], [0, 1, 2, 3, 4, 5, 6, 7, 8, 9, 10, 11, 12]]), (7, [[], [0], [0, 1], [0, 1, 2], [], [0, 1, 2, 3, 4], [0, 1, 2, 3, 4, 5], [], [7], [7, 8], [7, 8, 9], [], [7, 8, 9, 10, 11], [7, 8, 9, 10, 11, 12], [7, 8, 9, 10, 11, 12, 13], [0, 1, 2, 3, 4, 5, 6, 7, 8, 9, 10, 11, 12, 13, 14], [0, 1, 2, 3, 4, 5, 6, 7, 8, 9, 10, 11, 12, 13, 14, 15], [0, 1, 2, 3, 4, 5, 6, 7, 8, 9, 10, 11, 12, 13, 14, 15, 16], [0, 1, 2, 3, 4, 5, 6, 7, 8, 9, 10, 11, 12, 13, 14, 15, 16], [0, 1, 2, 3, 4, 5, 6, 7, 8, 9, 10, 11, 12, 13, 14, 15, 16, 17, 18], [0, 1, 2, 3, 4, 5, 6, 7, 8, 9, 10, 11, 12, 13, 14, 15, 16, 17, 18, 19], [0, 1, 2, 3, 4, 5, 6, 7, 8, 9, 10, 11, 12, 13, 14, 15, 16, 17, 18, 19, 20]])] }
noncomputable def bimatch_phases_along.code : Code := bodyOf Go.Proofs.Try.f129
theorem bimatch_phases_along.ok : okCode bimatch_phases_along.A 120 bimatch_phases_along.code = true := by kernel_rfl
def bimatch_phases_along.rq (E : Value → Hp → Prop) (K : Bool → Hp → Prop) : Ex → Fr → Hp → Prop := retQ T0 [.tmp 4] [4] (fun r H => ldR (.one false [.bool]) r fun u => K (asB u) H) E
def bimatch_phases_along.run (p0 : Option Addr) (v1 : Int) (E : Value → Hp → Prop) (H : Hp) (K : Bool → Hp → Prop) : Prop := nodeM P0 T0 bimatch_phases_along.A bimatch_phases_along.code [] [] (bimatch_phases_along.rq E K) (argF 0 [.pointer p0, .int .i64 v1]) H
theorem bimatch_phases_along.of {p0 : Option Addr} {v1 : Int} {E : Value → Hp → Prop} {H : Hp} {K : Bool → Hp → Prop} (h : bimatch_phases_along.run p0 v1 E H K) : bimatch_phases_along.call p0 v1 E H K :=
  callW_of T0_ok P0_mixed (A := bimatch_phases_along.A) (fn := Go.Proofs.Try.f129) Go.Proofs.Try.func129 rfl bimatch_phases_along.ok rfl h
noncomputable def bimatch_phases_along.f1 (p0 : Option Addr) (v1 : Int) : Fr := [(0, .pointer p0), (1, .int .i64 v1)]
def bimatch_phases_along.j1 (p0 : Option Addr) (i5 : Int) (X1 : Fr → Hp → Prop) (E : Value → Hp → Prop) (H : Hp) (K : Bool → Hp → Prop) : Prop := nodeM P0 T0 bimatch_phases_along.A bimatch_phases_along.code [1, 0, 0, 0, 1, 0, 0, 1, 1, 1] [X1] (bimatch_phases_along.rq E K) [(0, .pointer p0), (5, .int .i64 i5)] H
def bimatch_phases_along.j2 (p0 : Option Addr) (v1 : Int) (X1 : Fr → Hp → Prop) (E : Value → Hp → Prop) (H : Hp) (K : Bool → Hp → Prop) : Prop := nodeM P0 T0 bimatch_phases_along.A bimatch_phases_along.code [1, 0, 0, 0, 1, 1] [X1] (bimatch_phases_along.rq E K) [(0, .pointer p0), (1, .int .i64 v1)] H
def bimatch_phases_along.j3 (p0 : Option Addr) (v1 : Int)  (E : Value → Hp → Prop) (H : Hp) (K : Bool → Hp → Prop) : Prop := nodeM P0 T0 bimatch_phases_along.A bimatch_phases_along.code [1, 1] [] (bimatch_phases_along.rq E K) [(0, .pointer p0), (1, .int .i64 v1)] H
def bimatch_phases_along.l1 (p0 : Option Addr) (v1 : Int)  (E : Value → Hp → Prop) (H : Hp) (K : Bool → Hp → Prop) : Prop := nodeM P0 T0 bimatch_phases_along.A bimatch_phases_along.code [1, 0, 0] [] (bimatch_phases_along.rq E K) (bimatch_phases_along.f1 p0 v1) H
def bimatch_phases_along.b1 (p0 : Option Addr) (v1 : Int)  (X1 : Fr → Hp → Prop) (E : Value → Hp → Prop) (H : Hp) (K : Bool → Hp → Prop) : Prop := nodeM P0 T0 bimatch_phases_along.A bimatch_phases_along.code [1, 0, 0, 0] [X1] (bimatch_phases_along.rq E K) (bimatch_phases_along.f1 p0 v1) H
theorem bimatch_phases_along.l1_rule { E : Value → Hp → Prop} {K : Bool → Hp → Prop} (I : (Option Addr) → Int → Hp → Prop) (μ : (Option Addr) → Int → Hp → Nat)
    (h : ∀ p0 v1 H, I p0 v1 H → ∀ X : Fr → Hp → Prop, (∀ p0' v1' H', I p0' v1' H' → μ p0' v1' H' < μ p0 v1 H → X (bimatch_phases_along.f1 p0' v1') H') → bimatch_phases_along.b1 p0 v1  X E H K)
    {p0 : Option Addr} {v1 : Int} {H : Hp} (hI : I p0 v1 H) : bimatch_phases_along.l1 p0 v1  E H K :=
  loop_rule (S := (Option Addr) × Int) (fun s => bimatch_phases_along.f1 (s.1) (s.2)) (fun s H => I (s.1) (s.2) H) (fun s H => μ (s.1) (s.2) H) (fun s H hI X hX => h (s.1) (s.2) H hI X fun p0' v1' H' hI' hlt => hX (p0', v1') H' hI' hlt) (s := (p0, v1)) rfl hI
theorem bimatch_phases_along.nok : nodesOk bimatch_phases_along.code [[0, 0, 1], [1, 1, 1, 0, 0, 1, 0, 0, 0, 1], [1, 1, 0, 0, 0, 1], [1, 1]] = true := by kernel_rfl
def bimatch_phases_along.run_t (l1 : (Option Addr) → Int → Hp → Prop) (p0 : Option Addr) (v1 : Int)  (E : Value → Hp → Prop) (H : Hp) (K : Bool → Hp → Prop) : Prop :=
  l1 p0 v1 H
theorem bimatch_phases_along.run_eq {p0 : Option Addr} {v1 : Int} { E : Value → Hp → Prop} {H : Hp} {K : Bool → Hp → Prop} (h : bimatch_phases_along.run_t (fun p0 v1 H => bimatch_phases_along.l1 p0 v1  E H K) p0 v1  E H K) : bimatch_phases_along.run p0 v1  E H K := by
  have k1 : ∀ G : List Nat → Fr → Hp → Prop, nodeR P0 T0 bimatch_phases_along.A [[0, 0, 1], [1, 1, 1, 0, 0, 1, 0, 0, 0, 1], [1, 1, 0, 0, 0, 1], [1, 1]] G bimatch_phases_along.code [] [] (bimatch_phases_along.rq E K) (argF 0 [.pointer p0, .int .i64 v1]) H = bimatch_phases_along.run_t (fun p0 v1 H => G [0, 0, 1] [(0, .pointer p0), (1, .int .i64 v1)] H) p0 v1  E H K := fun G => by kernel_rfl
  have k2 : bimatch_phases_along.run_t (fun p0 v1 H => bimatch_phases_along.l1 p0 v1  E H K) p0 v1  E H K = bimatch_phases_along.run_t (fun p0 v1 H => (fun q F H => nodeM P0 T0 bimatch_phases_along.A bimatch_phases_along.code q.reverse [] (bimatch_phases_along.rq E K) F H) [0, 0, 1] [(0, .pointer p0), (1, .int .i64 v1)] H) p0 v1  E H K := by kernel_rfl
  exact nodeR_imp bimatch_phases_along.nok rfl ((k1 _).mpr (k2.mp h))
def bimatch_phases_along.j1_t  (p0 : Option Addr) (i5 : Int) (X1 : Fr → Hp → Prop) (E : Value → Hp → Prop) (H : Hp) (K : Bool → Hp → Prop) : Prop :=
  nn p0 fun b_1 o_1 =>
  ldP (H.get b_1 o_1) fun x_1 =>
  bimatch_pairs_take.call x_1 i5 E H fun H_1 =>
  K true H_1
theorem bimatch_phases_along.j1_eq {p0 : Option Addr} {i5 : Int} {X1 : Fr → Hp → Prop} { E : Value → Hp → Prop} {H : Hp} {K : Bool → Hp → Prop} (h : bimatch_phases_along.j1_t  p0 i5 X1 E H K) : bimatch_phases_along.j1 p0 i5 X1 E H K := by
  have k1 : ∀ G : List Nat → Fr → Hp → Prop, nodeR P0 T0 bimatch_phases_along.A [[0, 0, 1], [1, 1, 1, 0, 0, 1, 0, 0, 0, 1], [1, 1, 0, 0, 0, 1], [1, 1]] G bimatch_phases_along.code [1, 0, 0, 0, 1, 0, 0, 1, 1, 1] [X1] (bimatch_phases_along.rq E K) [(0, .pointer p0), (5, .int .i64 i5)] H = bimatch_phases_along.j1_t  p0 i5 X1 E H K := fun G => by kernel_rfl
  exact nodeR_imp bimatch_phases_along.nok rfl ((k1 _).mpr h)
def bimatch_phases_along.j2_t  (p0 : Option Addr) (v1 : Int) (X1 : Fr → Hp → Prop) (E : Value → Hp → Prop) (H : Hp) (K : Bool → Hp → Prop) : Prop :=
  nn p0 fun b_1 o_1 =>
  ldS (H.get b_1 (o_1 + 2)) fun x_1p x_1n x_1c =>
  ix x_1p x_1n v1 1 fun b_2 o_2 =>
  ldI .i64 (H.get b_2 o_2) fun x_2 =>
  ix x_1p x_1n v1 1 fun b_3 o_3 =>
  stC H b_3 o_3 [.int .i64 (IntKind.wrap .i64 (x_2 + 1))] fun H_1 =>
  X1 (bimatch_phases_along.f1 p0 v1) H_1
theorem bimatch_phases_along.j2_eq {p0 : Option Addr} {v1 : Int} {X1 : Fr → Hp → Prop} { E : Value → Hp → Prop} {H : Hp} {K : Bool → Hp → Prop} (h : bimatch_phases_along.j2_t  p0 v1 X1 E H K) : bimatch_phases_along.j2 p0 v1 X1 E H K := by
  have k1 : ∀ G : List Nat → Fr → Hp → Prop, nodeR P0 T0 bimatch_phases_along.A [[0, 0, 1], [1, 1, 1, 0, 0, 1, 0, 0, 0, 1], [1, 1, 0, 0, 0, 1], [1, 1]] G bimatch_phases_along.code [1, 0, 0, 0, 1, 1] [X1] (bimatch_phases_along.rq E K) [(0, .pointer p0), (1, .int .i64 v1)] H = bimatch_phases_along.j2_t  p0 v1 X1 E H K := fun G => by kernel_rfl
  exact nodeR_imp bimatch_phases_along.nok rfl ((k1 _).mpr h)
def bimatch_phases_along.j3_t  (p0 : Option Addr) (v1 : Int)  (E : Value → Hp → Prop) (H : Hp) (K : Bool → Hp → Prop) : Prop :=
  nn p0 fun b_1 o_1 =>
  ldS (H.get b_1 (o_1 + 1)) fun x_1p x_1n x_1c =>
  ix x_1p x_1n v1 1 fun b_2 o_2 =>
  stC H b_2 o_2 [.int .i64 (-1)] fun H_1 =>
  K false H_1
theorem bimatch_phases_along.j3_eq {p0 : Option Addr} {v1 : Int} { E : Value → Hp → Prop} {H : Hp} {K : Bool → Hp → Prop} (h : bimatch_phases_along.j3_t  p0 v1  E H K) : bimatch_phases_along.j3 p0 v1  E H K := by
  have k1 : ∀ G : List Nat → Fr → Hp → Prop, nodeR P0 T0 bimatch_phases_along.A [[0, 0, 1], [1, 1, 1, 0, 0, 1, 0, 0, 0, 1], [1, 1, 0, 0, 0, 1], [1, 1]] G bimatch_phases_along.code [1, 1] [] (bimatch_phases_along.rq E K) [(0, .pointer p0), (1, .int .i64 v1)] H = bimatch_phases_along.j3_t  p0 v1  E H K := fun G => by kernel_rfl
  exact nodeR_imp bimatch_phases_along.nok rfl ((k1 _).mpr h)
def bimatch_phases_along.b1_t (j1 : (Option Addr) → Int → Hp → Prop) (j2 : (Option Addr) → Int → Hp → Prop) (j3 : (Option Addr) → Int → Hp → Prop) (p0 : Option Addr) (v1 : Int) (X1 : Fr → Hp → Prop) (E : Value → Hp → Prop) (H : Hp) (K : Bool → Hp → Prop) : Prop :=
  nn p0 fun b_1 o_1 =>
  ldS (H.get b_1 (o_1 + 2)) fun x_1p x_1n x_1c =>
  ix x_1p x_1n v1 1 fun b_2 o_2 =>
  ldI .i64 (H.get b_2 o_2) fun x_2 =>
  nn p0 fun b_3 o_3 =>
  ldP (H.get b_3 o_3) fun x_3 =>
  nn x_3 fun b_4 o_4 =>
  ldS (H.get b_4 (o_4 + 3)) fun x_4p x_4n x_4c =>
  ix x_4p x_4n v1 1 fun b_5 o_5 =>
  ldS (H.get b_5 o_5) fun x_5p x_5n x_5c =>
  bcase (decide ((x_2 : Int) < (x_5n : Int))) (
  nn p0 fun b_6 o_6 =>
  ldP (H.get b_6 o_6) fun x_6 =>
  nn x_6 fun b_7 o_7 =>
  ldS (H.get b_7 (o_7 + 3)) fun x_7p x_7n x_7c =>
  ix x_7p x_7n v1 1 fun b_8 o_8 =>
  ldS (H.get b_8 o_8) fun x_8p x_8n x_8c =>
  nn p0 fun b_9 o_9 =>
  ldS (H.get b_9 (o_9 + 2)) fun x_9p x_9n x_9c =>
  ix x_9p x_9n v1 1 fun b_10 o_10 =>
  ldI .i64 (H.get b_10 o_10) fun x_10 =>
  ix x_8p x_8n x_10 1 fun b_11 o_11 =>
  ldI .i64 (H.get b_11 o_11) fun x_11 =>
  nn p0 fun b_12 o_12 =>
  ldP (H.get b_12 o_12) fun x_12 =>
  nn x_12 fun b_13 o_13 =>
  ldS (H.get b_13 (o_13 + 4)) fun x_13p x_13n x_13c =>
  nn p0 fun b_14 o_14 =>
  ldP (H.get b_14 o_14) fun x_14 =>
  bimatch_pairs_other.call x_14 x_11 v1 E H fun r_1 H_1 =>
  (ldP (H_1.get b_12 o_12) fun x_24 =>
  Value.pointer x_24 = Value.pointer x_12) ∧
  (ldS (H_1.get b_13 (o_13 + 4)) fun x_23p x_23n x_23c =>
  Value.slice x_23p x_23n x_23c = Value.slice x_13p x_13n x_13c) ∧
  ix x_13p x_13n r_1 1 fun b_15 o_15 =>
  ldI .i64 (H_1.get b_15 o_15) fun x_15 =>
  bcase (decide ((0 : Int) ≤ x_15)) (
  nn p0 fun b_16 o_16 =>
  ldP (H_1.get b_16 o_16) fun x_16 =>
  nn p0 fun b_17 o_17 =>
  ldP (H_1.get b_17 o_17) fun x_17 =>
  bimatch_pairs_other.call x_17 x_11 v1 E H_1 fun r_2 H_2 =>
  (ldP (H_2.get b_16 o_16) fun x_22 =>
  Value.pointer x_22 = Value.pointer x_16) ∧
  bimatch_pairs_other.call x_16 x_15 r_2 E H_2 fun r_3 H_3 =>
  nn p0 fun b_18 o_18 =>
  ldS (H_3.get b_18 (o_18 + 1)) fun x_18p x_18n x_18c =>
  ix x_18p x_18n r_3 1 fun b_19 o_19 =>
  ldI .i64 (H_3.get b_19 o_19) fun x_19 =>
  nn p0 fun b_20 o_20 =>
  ldS (H_3.get b_20 (o_20 + 1)) fun x_20p x_20n x_20c =>
  ix x_20p x_20n v1 1 fun b_21 o_21 =>
  ldI .i64 (H_3.get b_21 o_21) fun x_21 =>
  bcase (!decide ((x_19 : Int) = (IntKind.wrap .i64 (x_21 + 1)))) (
  j2 p0 v1 H_3)
  (bimatch_phases_along.call p0 r_3 E H_3 fun r_4 H_4 =>
  bcase ((!r_4)) (
  j2 p0 v1 H_4)
  (j1 p0 x_11 H_4)))
  (j1 p0 x_11 H_1))
  (j3 p0 v1 H)
theorem bimatch_phases_along.b1_eq {p0 : Option Addr} {v1 : Int} {X1 : Fr → Hp → Prop} { E : Value → Hp → Prop} {H : Hp} {K : Bool → Hp → Prop} (h : bimatch_phases_along.b1_t (fun p0 i5 H => bimatch_phases_along.j1 p0 i5 X1 E H K) (fun p0 v1 H => bimatch_phases_along.j2 p0 v1 X1 E H K) (fun p0 v1 H => bimatch_phases_along.j3 p0 v1  E H K) p0 v1 X1 E H K) : bimatch_phases_along.b1 p0 v1 X1 E H K := by
  have k1 : ∀ G : List Nat → Fr → Hp → Prop, nodeR P0 T0 bimatch_phases_along.A [[0, 0, 1], [1, 1, 1, 0, 0, 1, 0, 0, 0, 1], [1, 1, 0, 0, 0, 1], [1, 1]] G bimatch_phases_along.code [1, 0, 0, 0] [X1] (bimatch_phases_along.rq E K) (bimatch_phases_along.f1 p0 v1) H = bimatch_phases_along.b1_t (fun p0 i5 H => G [1, 1, 1, 0, 0, 1, 0, 0, 0, 1] [(0, .pointer p0), (5, .int .i64 i5)] H) (fun p0 v1 H => G [1, 1, 0, 0, 0, 1] [(0, .pointer p0), (1, .int .i64 v1)] H) (fun p0 v1 H => G [1, 1] [(0, .pointer p0), (1, .int .i64 v1)] H) p0 v1 X1 E H K := fun G => by kernel_rfl
  have k2 : bimatch_phases_along.b1_t (fun p0 i5 H => bimatch_phases_along.j1 p0 i5 X1 E H K) (fun p0 v1 H => bimatch_phases_along.j2 p0 v1 X1 E H K) (fun p0 v1 H => bimatch_phases_along.j3 p0 v1  E H K) p0 v1 X1 E H K = bimatch_phases_along.b1_t (fun p0 i5 H => (fun q F H => nodeM P0 T0 bimatch_phases_along.A bimatch_phases_along.code q.reverse [X1] (bimatch_phases_along.rq E K) F H) [1, 1, 1, 0, 0, 1, 0, 0, 0, 1] [(0, .pointer p0), (5, .int .i64 i5)] H) (fun p0 v1 H => (fun q F H => nodeM P0 T0 bimatch_phases_along.A bimatch_phases_along.code q.reverse [X1] (bimatch_phases_along.rq E K) F H) [1, 1, 0, 0, 0, 1] [(0, .pointer p0), (1, .int .i64 v1)] H) (fun p0 v1 H => (fun q F H => nodeM P0 T0 bimatch_phases_along.A bimatch_phases_along.code q.reverse [X1] (bimatch_phases_along.rq E K) F H) [1, 1] [(0, .pointer p0), (1, .int .i64 v1)] H) p0 v1 X1 E H K := by kernel_rfl
  exact nodeR_imp bimatch_phases_along.nok rfl ((k1 _).mpr (k2.mp h))
end Go.Mz
