/-
  The shallow texts of functions (Blo), each with a kernel-checked equation to the translated code. It proves nothing of the program by itself.
-/
import Derived.Test.YtbocpfdlfnodfaaTab
set_option linter.unusedVariables false
set_option maxRecDepth 100000
namespace Go.Mz
/-! ### compass/blossom.Solve (16) -/
noncomputable def blossom_Solve.A : An := { live := [(0, [0]), (1, [1, 2, 3]), (2, [1, 2, 3, 5]), (3, [5]), (4, [1, 2, 3]), (5, [1, 2, 3, 6]), (6, [1, 2, 3, 6, 24, 25]), (7, [1, 2, 3, 6, 24, 25]), (8, [1, 2, 3, 6, 7, 24, 25]), (9, [1, 2, 3, 6, 7, 24, 25]), (10, [1, 2, 3, 6, 24, 25]), (11, [1, 2, 3, 6]), (12, [1, 2, 3, 6, 8]), (13, [1, 2, 3, 6, 8, 46, 47]), (14, [1, 2, 3, 6, 8, 46, 47]), (15, [1, 2, 3, 6, 8, 9, 46, 47]), (16, [1, 2, 3, 6, 8, 9, 46, 47]), (17, [1, 2, 3, 6, 8, 9, 46, 47]), (18, [1, 2, 3, 6, 8, 9, 46, 47, 64, 65, 66]), (19, [1, 2, 3, 6, 8, 9, 46, 47, 64, 65, 66]), (20, [1, 2, 3, 6, 8, 9, 10, 11, 46, 47, 64, 65, 66]), (21, [1, 2, 3, 6, 8, 9, 46, 47, 64, 65, 66]), (22, [1, 2, 3, 6, 8, 9, 46, 47]), (23, [1, 2, 3, 6, 8, 9, 46, 47]), (24, [1, 2, 3, 6, 8, 46, 47]), (25, [1, 2, 3, 6, 8]), (26, [1, 2, 3, 6, 8]), (27, [2, 3, 6, 8, 111, 112]), (28, [2, 3, 6, 8, 111, 112]), (29, [2, 3, 6, 8, 12, 111, 112]), (30, [2, 3, 6, 8, 12, 13, 111, 112]), (31, [2, 3, 6, 8, 12, 111, 112]), (32, [2, 3, 6, 8, 111, 112]), (33, [2, 3])], ord := [(3, [0, 1, 2, 3, 4]), (9, [0, 1, 2, 3, 4]), (20, [0, 1, 2, 3, 4, 5, 6, 7, 8, 9, 10]), (30, [0, 1, 2, 3, 4, 5, 6, 7, 8, 9, 10, 11, 12, 13, 14, 15])], stb := [(9, [(3, [0])])], pre := [(3, [[], [0], [], [2], [0, 1, 2, 3]]), (9, [[], [], [], [1, 2], [0, 1, 2, 3]]), (20, [[], [], [], [], [2, 3], [2, 3, 4], [2, 3, 4, 5], [2, 3, 4, 5, 6], [2, 3, 4, 5, 6, 7], [0, 1, 2, 3, 4, 5, 6, 7, 8], [0, 1, 2, 3, 4, 5, 6, 7, 8, 9]]), (30, [[], [], [0, 1], [0, 1, 2], [0, 1, 2, 3], [0, 1, 2, 3, 4], [0, 1, 2, 3, 4, 5], [0, 1, 2, 3, 4, 5, 6], [0, 1, 2, 3, 4, 5, 6, 7], [0, 1, 2, 3, 4, 5, 6, 7, 8], [0, 1, 2, 3, 4, 5], [0, 1, 2, 3, 4, 5, 6, 7, 8, 9, 10], [0, 1, 2, 3, 4, 5, 6, 7, 8, 9, 10, 11], [0, 1, 2, 3, 4, 5], [0, 1, 2, 3, 4, 5, 6, 7, 8, 9, 10, 11, 12, 13], [0, 1, 2, 3, 4, 5, 6, 7, 8, 9, 10, 11, 12, 13, 14]])] }
noncomputable def blossom_Solve.code : Code := bodyOf Go.Proofs.Try.f16
theorem blossom_Solve.ok : okCode blossom_Solve.A 139 blossom_Solve.code = true := by kernel_rfl
def blossom_Solve.rq (E : Value → Hp → Prop) (K : (Option Addr) → Nat → Nat → (Option Addr) → Nat → Nat → Int → Hp → Prop) : Ex → Fr → Hp → Prop := retQ T0 [.tmp 2, .tmp 3, .tmp 4] [25, 25, 27] (fun r H => ldR (.tup [(false, [.sl]), (false, [.sl]), (false, [.i .i64])]) r fun u => K (asS1 (tupV u 0)) (asS2 (tupV u 0)) (asS3 (tupV u 0)) (asS1 (tupV u 1)) (asS2 (tupV u 1)) (asS3 (tupV u 1)) (asI (tupV u 2)) H) E
def blossom_Solve.run (g0_Nodes : Int) (g0_Edgesp : Option Addr) (g0_Edgesn : Nat) (g0_Edgesc : Nat) (E : Value → Hp → Prop) (H : Hp) (K : (Option Addr) → Nat → Nat → (Option Addr) → Nat → Nat → Int → Hp → Prop) : Prop := nodeM P0 T0 blossom_Solve.A blossom_Solve.code [] [] (blossom_Solve.rq E K) (argF 0 [.agg ⟨[.int .i64 g0_Nodes, .slice g0_Edgesp g0_Edgesn g0_Edgesc]⟩]) H
theorem blossom_Solve.of {g0_Nodes : Int} {g0_Edgesp : Option Addr} {g0_Edgesn : Nat} {g0_Edgesc : Nat} {E : Value → Hp → Prop} {H : Hp} {K : (Option Addr) → Nat → Nat → (Option Addr) → Nat → Nat → Int → Hp → Prop} (h : blossom_Solve.run g0_Nodes g0_Edgesp g0_Edgesn g0_Edgesc E H K) : blossom_Solve.call g0_Nodes g0_Edgesp g0_Edgesn g0_Edgesc E H K :=
  callW_of T0_ok P0_mixed (A := blossom_Solve.A) (fn := Go.Proofs.Try.f16) Go.Proofs.Try.func16 rfl blossom_Solve.ok rfl h
noncomputable def blossom_Solve.f1 (g1 : Nat) (ma2p : Option Addr) (ma2n : Nat) (ma2c : Nat) (se3p : Option Addr) (se3n : Nat) (se3c : Nat) (s6 : Nat) (t24 : Int) (t25 : Int) : Fr := [(1, .pointer (some ⟨g1, 0, none⟩)), (2, .slice ma2p ma2n ma2c), (3, .slice se3p se3n se3c), (6, .pointer (some ⟨s6, 0, none⟩)), (24, .int .i64 t24), (25, .int .i64 t25)]
noncomputable def blossom_Solve.f2 (g1 : Nat) (ma2p : Option Addr) (ma2n : Nat) (ma2c : Nat) (se3p : Option Addr) (se3n : Nat) (se3c : Nat) (s6 : Nat) (re8 : Nat) (t46 : Int) (t47 : Int) : Fr := [(1, .pointer (some ⟨g1, 0, none⟩)), (2, .slice ma2p ma2n ma2c), (3, .slice se3p se3n se3c), (6, .pointer (some ⟨s6, 0, none⟩)), (8, .pointer (some ⟨re8, 0, none⟩)), (46, .int .i64 t46), (47, .int .i64 t47)]
noncomputable def blossom_Solve.f3 (g1 : Nat) (ma2p : Option Addr) (ma2n : Nat) (ma2c : Nat) (se3p : Option Addr) (se3n : Nat) (se3c : Nat) (s6 : Nat) (re8 : Nat) (v9 : Int) (t46 : Int) (t47 : Int) (t64p : Option Addr) (t64n : Nat) (t64c : Nat) (t65 : Int) (t66 : Int) : Fr := [(1, .pointer (some ⟨g1, 0, none⟩)), (2, .slice ma2p ma2n ma2c), (3, .slice se3p se3n se3c), (6, .pointer (some ⟨s6, 0, none⟩)), (8, .pointer (some ⟨re8, 0, none⟩)), (9, .int .i64 v9), (46, .int .i64 t46), (47, .int .i64 t47), (64, .slice t64p t64n t64c), (65, .int .i64 t65), (66, .int .i64 t66)]
noncomputable def blossom_Solve.f4 (ma2p : Option Addr) (ma2n : Nat) (ma2c : Nat) (se3p : Option Addr) (se3n : Nat) (se3c : Nat) (s6 : Nat) (re8 : Nat) (t111 : Int) (t112 : Int) : Fr := [(2, .slice ma2p ma2n ma2c), (3, .slice se3p se3n se3c), (6, .pointer (some ⟨s6, 0, none⟩)), (8, .pointer (some ⟨re8, 0, none⟩)), (111, .int .i64 t111), (112, .int .i64 t112)]
def blossom_Solve.j1 (g1 : Nat) (ma2p : Option Addr) (ma2n : Nat) (ma2c : Nat) (se3p : Option Addr) (se3n : Nat) (se3c : Nat) (s6 : Nat) (t24 : Int) (t25 : Int) (X1 : Fr → Hp → Prop) (E : Value → Hp → Prop) (H : Hp) (K : (Option Addr) → Nat → Nat → (Option Addr) → Nat → Nat → Int → Hp → Prop) : Prop := nodeM P0 T0 blossom_Solve.A blossom_Solve.code [1, 1, 1, 0, 1, 0, 0, 1, 1, 1] [X1] (blossom_Solve.rq E K) [(1, .pointer (some ⟨g1, 0, none⟩)), (2, .slice ma2p ma2n ma2c), (3, .slice se3p se3n se3c), (6, .pointer (some ⟨s6, 0, none⟩)), (24, .int .i64 t24), (25, .int .i64 t25)] H
def blossom_Solve.j2 (g1 : Nat) (ma2p : Option Addr) (ma2n : Nat) (ma2c : Nat) (se3p : Option Addr) (se3n : Nat) (se3c : Nat) (s6 : Nat)  (E : Value → Hp → Prop) (H : Hp) (K : (Option Addr) → Nat → Nat → (Option Addr) → Nat → Nat → Int → Hp → Prop) : Prop := nodeM P0 T0 blossom_Solve.A blossom_Solve.code [1, 1, 1, 1] [] (blossom_Solve.rq E K) [(1, .pointer (some ⟨g1, 0, none⟩)), (2, .slice ma2p ma2n ma2c), (3, .slice se3p se3n se3c), (6, .pointer (some ⟨s6, 0, none⟩))] H
def blossom_Solve.j3 (g1 : Nat) (ma2p : Option Addr) (ma2n : Nat) (ma2c : Nat) (se3p : Option Addr) (se3n : Nat) (se3c : Nat) (s6 : Nat) (re8 : Nat) (v9 : Int) (t46 : Int) (t47 : Int) (t64p : Option Addr) (t64n : Nat) (t64c : Nat) (t65 : Int) (t66 : Int) (X1 : Fr → Hp → Prop) (X2 : Fr → Hp → Prop) (E : Value → Hp → Prop) (H : Hp) (K : (Option Addr) → Nat → Nat → (Option Addr) → Nat → Nat → Int → Hp → Prop) : Prop := nodeM P0 T0 blossom_Solve.A blossom_Solve.code [1, 1, 1, 1, 1, 0, 1, 0, 0, 1, 1, 0, 0, 1, 0, 1, 0, 1, 1, 0, 0, 1, 1, 1] [X1, X2] (blossom_Solve.rq E K) [(1, .pointer (some ⟨g1, 0, none⟩)), (2, .slice ma2p ma2n ma2c), (3, .slice se3p se3n se3c), (6, .pointer (some ⟨s6, 0, none⟩)), (8, .pointer (some ⟨re8, 0, none⟩)), (9, .int .i64 v9), (46, .int .i64 t46), (47, .int .i64 t47), (64, .slice t64p t64n t64c), (65, .int .i64 t65), (66, .int .i64 t66)] H
def blossom_Solve.j4 (g1 : Nat) (ma2p : Option Addr) (ma2n : Nat) (ma2c : Nat) (se3p : Option Addr) (se3n : Nat) (se3c : Nat) (s6 : Nat) (re8 : Nat) (v9 : Int) (t46 : Int) (t47 : Int) (X1 : Fr → Hp → Prop) (E : Value → Hp → Prop) (H : Hp) (K : (Option Addr) → Nat → Nat → (Option Addr) → Nat → Nat → Int → Hp → Prop) : Prop := nodeM P0 T0 blossom_Solve.A blossom_Solve.code [1, 1, 1, 1, 1, 0, 1, 0, 0, 1, 1, 0, 0, 1, 1] [X1] (blossom_Solve.rq E K) [(1, .pointer (some ⟨g1, 0, none⟩)), (2, .slice ma2p ma2n ma2c), (3, .slice se3p se3n se3c), (6, .pointer (some ⟨s6, 0, none⟩)), (8, .pointer (some ⟨re8, 0, none⟩)), (9, .int .i64 v9), (46, .int .i64 t46), (47, .int .i64 t47)] H
def blossom_Solve.j5 (g1 : Nat) (ma2p : Option Addr) (ma2n : Nat) (ma2c : Nat) (se3p : Option Addr) (se3n : Nat) (se3c : Nat) (s6 : Nat) (re8 : Nat) (t46 : Int) (t47 : Int) (X1 : Fr → Hp → Prop) (E : Value → Hp → Prop) (H : Hp) (K : (Option Addr) → Nat → Nat → (Option Addr) → Nat → Nat → Int → Hp → Prop) : Prop := nodeM P0 T0 blossom_Solve.A blossom_Solve.code [1, 1, 1, 1, 1, 0, 1, 0, 0, 1, 1, 1] [X1] (blossom_Solve.rq E K) [(1, .pointer (some ⟨g1, 0, none⟩)), (2, .slice ma2p ma2n ma2c), (3, .slice se3p se3n se3c), (6, .pointer (some ⟨s6, 0, none⟩)), (8, .pointer (some ⟨re8, 0, none⟩)), (46, .int .i64 t46), (47, .int .i64 t47)] H
def blossom_Solve.j6 (g1 : Nat) (ma2p : Option Addr) (ma2n : Nat) (ma2c : Nat) (se3p : Option Addr) (se3n : Nat) (se3c : Nat) (s6 : Nat) (re8 : Nat)  (E : Value → Hp → Prop) (H : Hp) (K : (Option Addr) → Nat → Nat → (Option Addr) → Nat → Nat → Int → Hp → Prop) : Prop := nodeM P0 T0 blossom_Solve.A blossom_Solve.code [1, 1, 1, 1, 1, 1] [] (blossom_Solve.rq E K) [(1, .pointer (some ⟨g1, 0, none⟩)), (2, .slice ma2p ma2n ma2c), (3, .slice se3p se3n se3c), (6, .pointer (some ⟨s6, 0, none⟩)), (8, .pointer (some ⟨re8, 0, none⟩))] H
def blossom_Solve.j7 (ma2p : Option Addr) (ma2n : Nat) (ma2c : Nat) (se3p : Option Addr) (se3n : Nat) (se3c : Nat) (s6 : Nat) (re8 : Nat) (t111 : Int) (t112 : Int) (X1 : Fr → Hp → Prop) (E : Value → Hp → Prop) (H : Hp) (K : (Option Addr) → Nat → Nat → (Option Addr) → Nat → Nat → Int → Hp → Prop) : Prop := nodeM P0 T0 blossom_Solve.A blossom_Solve.code [1, 1, 1, 1, 1, 1, 1, 0, 1, 0, 0, 1, 1, 1] [X1] (blossom_Solve.rq E K) [(2, .slice ma2p ma2n ma2c), (3, .slice se3p se3n se3c), (6, .pointer (some ⟨s6, 0, none⟩)), (8, .pointer (some ⟨re8, 0, none⟩)), (111, .int .i64 t111), (112, .int .i64 t112)] H
def blossom_Solve.j8 (ma2p : Option Addr) (ma2n : Nat) (ma2c : Nat) (se3p : Option Addr) (se3n : Nat) (se3c : Nat)  (E : Value → Hp → Prop) (H : Hp) (K : (Option Addr) → Nat → Nat → (Option Addr) → Nat → Nat → Int → Hp → Prop) : Prop := nodeM P0 T0 blossom_Solve.A blossom_Solve.code [1, 1, 1, 1, 1, 1, 1, 1] [] (blossom_Solve.rq E K) [(2, .slice ma2p ma2n ma2c), (3, .slice se3p se3n se3c)] H
def blossom_Solve.l1 (g1 : Nat) (ma2p : Option Addr) (ma2n : Nat) (ma2c : Nat) (se3p : Option Addr) (se3n : Nat) (se3c : Nat) (s6 : Nat) (t24 : Int) (t25 : Int)  (E : Value → Hp → Prop) (H : Hp) (K : (Option Addr) → Nat → Nat → (Option Addr) → Nat → Nat → Int → Hp → Prop) : Prop := nodeM P0 T0 blossom_Solve.A blossom_Solve.code [1, 1, 1, 0, 1, 0] [] (blossom_Solve.rq E K) (blossom_Solve.f1 g1 ma2p ma2n ma2c se3p se3n se3c s6 t24 t25) H
def blossom_Solve.b1 (g1 : Nat) (ma2p : Option Addr) (ma2n : Nat) (ma2c : Nat) (se3p : Option Addr) (se3n : Nat) (se3c : Nat) (s6 : Nat) (t24 : Int) (t25 : Int)  (X1 : Fr → Hp → Prop) (E : Value → Hp → Prop) (H : Hp) (K : (Option Addr) → Nat → Nat → (Option Addr) → Nat → Nat → Int → Hp → Prop) : Prop := nodeM P0 T0 blossom_Solve.A blossom_Solve.code [1, 1, 1, 0, 1, 0, 0] [X1] (blossom_Solve.rq E K) (blossom_Solve.f1 g1 ma2p ma2n ma2c se3p se3n se3c s6 t24 t25) H
theorem blossom_Solve.l1_rule { E : Value → Hp → Prop} {K : (Option Addr) → Nat → Nat → (Option Addr) → Nat → Nat → Int → Hp → Prop} (I : Nat → (Option Addr) → Nat → Nat → (Option Addr) → Nat → Nat → Nat → Int → Int → Hp → Prop) (μ : Nat → (Option Addr) → Nat → Nat → (Option Addr) → Nat → Nat → Nat → Int → Int → Hp → Nat)
    (h : ∀ g1 ma2p ma2n ma2c se3p se3n se3c s6 t24 t25 H, I g1 ma2p ma2n ma2c se3p se3n se3c s6 t24 t25 H → ∀ X : Fr → Hp → Prop, (∀ g1' ma2p' ma2n' ma2c' se3p' se3n' se3c' s6' t24' t25' H', I g1' ma2p' ma2n' ma2c' se3p' se3n' se3c' s6' t24' t25' H' → μ g1' ma2p' ma2n' ma2c' se3p' se3n' se3c' s6' t24' t25' H' < μ g1 ma2p ma2n ma2c se3p se3n se3c s6 t24 t25 H → X (blossom_Solve.f1 g1' ma2p' ma2n' ma2c' se3p' se3n' se3c' s6' t24' t25') H') → blossom_Solve.b1 g1 ma2p ma2n ma2c se3p se3n se3c s6 t24 t25  X E H K)
    {g1 : Nat} {ma2p : Option Addr} {ma2n : Nat} {ma2c : Nat} {se3p : Option Addr} {se3n : Nat} {se3c : Nat} {s6 : Nat} {t24 : Int} {t25 : Int} {H : Hp} (hI : I g1 ma2p ma2n ma2c se3p se3n se3c s6 t24 t25 H) : blossom_Solve.l1 g1 ma2p ma2n ma2c se3p se3n se3c s6 t24 t25  E H K :=
  loop_rule (S := Nat × (Option Addr) × Nat × Nat × (Option Addr) × Nat × Nat × Nat × Int × Int) (fun s => blossom_Solve.f1 (s.1) (s.2.1) (s.2.2.1) (s.2.2.2.1) (s.2.2.2.2.1) (s.2.2.2.2.2.1) (s.2.2.2.2.2.2.1) (s.2.2.2.2.2.2.2.1) (s.2.2.2.2.2.2.2.2.1) (s.2.2.2.2.2.2.2.2.2)) (fun s H => I (s.1) (s.2.1) (s.2.2.1) (s.2.2.2.1) (s.2.2.2.2.1) (s.2.2.2.2.2.1) (s.2.2.2.2.2.2.1) (s.2.2.2.2.2.2.2.1) (s.2.2.2.2.2.2.2.2.1) (s.2.2.2.2.2.2.2.2.2) H) (fun s H => μ (s.1) (s.2.1) (s.2.2.1) (s.2.2.2.1) (s.2.2.2.2.1) (s.2.2.2.2.2.1) (s.2.2.2.2.2.2.1) (s.2.2.2.2.2.2.2.1) (s.2.2.2.2.2.2.2.2.1) (s.2.2.2.2.2.2.2.2.2) H) (fun s H hI X hX => h (s.1) (s.2.1) (s.2.2.1) (s.2.2.2.1) (s.2.2.2.2.1) (s.2.2.2.2.2.1) (s.2.2.2.2.2.2.1) (s.2.2.2.2.2.2.2.1) (s.2.2.2.2.2.2.2.2.1) (s.2.2.2.2.2.2.2.2.2) H hI X fun g1' ma2p' ma2n' ma2c' se3p' se3n' se3c' s6' t24' t25' H' hI' hlt => hX (g1', ma2p', ma2n', ma2c', se3p', se3n', se3c', s6', t24', t25') H' hI' hlt) (s := (g1, ma2p, ma2n, ma2c, se3p, se3n, se3c, s6, t24, t25)) rfl hI
def blossom_Solve.l2 (g1 : Nat) (ma2p : Option Addr) (ma2n : Nat) (ma2c : Nat) (se3p : Option Addr) (se3n : Nat) (se3c : Nat) (s6 : Nat) (re8 : Nat) (t46 : Int) (t47 : Int)  (E : Value → Hp → Prop) (H : Hp) (K : (Option Addr) → Nat → Nat → (Option Addr) → Nat → Nat → Int → Hp → Prop) : Prop := nodeM P0 T0 blossom_Solve.A blossom_Solve.code [1, 1, 1, 1, 1, 0, 1, 0] [] (blossom_Solve.rq E K) (blossom_Solve.f2 g1 ma2p ma2n ma2c se3p se3n se3c s6 re8 t46 t47) H
def blossom_Solve.b2 (g1 : Nat) (ma2p : Option Addr) (ma2n : Nat) (ma2c : Nat) (se3p : Option Addr) (se3n : Nat) (se3c : Nat) (s6 : Nat) (re8 : Nat) (t46 : Int) (t47 : Int)  (X1 : Fr → Hp → Prop) (E : Value → Hp → Prop) (H : Hp) (K : (Option Addr) → Nat → Nat → (Option Addr) → Nat → Nat → Int → Hp → Prop) : Prop := nodeM P0 T0 blossom_Solve.A blossom_Solve.code [1, 1, 1, 1, 1, 0, 1, 0, 0] [X1] (blossom_Solve.rq E K) (blossom_Solve.f2 g1 ma2p ma2n ma2c se3p se3n se3c s6 re8 t46 t47) H
theorem blossom_Solve.l2_rule { E : Value → Hp → Prop} {K : (Option Addr) → Nat → Nat → (Option Addr) → Nat → Nat → Int → Hp → Prop} (I : Nat → (Option Addr) → Nat → Nat → (Option Addr) → Nat → Nat → Nat → Nat → Int → Int → Hp → Prop) (μ : Nat → (Option Addr) → Nat → Nat → (Option Addr) → Nat → Nat → Nat → Nat → Int → Int → Hp → Nat)
    (h : ∀ g1 ma2p ma2n ma2c se3p se3n se3c s6 re8 t46 t47 H, I g1 ma2p ma2n ma2c se3p se3n se3c s6 re8 t46 t47 H → ∀ X : Fr → Hp → Prop, (∀ g1' ma2p' ma2n' ma2c' se3p' se3n' se3c' s6' re8' t46' t47' H', I g1' ma2p' ma2n' ma2c' se3p' se3n' se3c' s6' re8' t46' t47' H' → μ g1' ma2p' ma2n' ma2c' se3p' se3n' se3c' s6' re8' t46' t47' H' < μ g1 ma2p ma2n ma2c se3p se3n se3c s6 re8 t46 t47 H → X (blossom_Solve.f2 g1' ma2p' ma2n' ma2c' se3p' se3n' se3c' s6' re8' t46' t47') H') → blossom_Solve.b2 g1 ma2p ma2n ma2c se3p se3n se3c s6 re8 t46 t47  X E H K)
    {g1 : Nat} {ma2p : Option Addr} {ma2n : Nat} {ma2c : Nat} {se3p : Option Addr} {se3n : Nat} {se3c : Nat} {s6 : Nat} {re8 : Nat} {t46 : Int} {t47 : Int} {H : Hp} (hI : I g1 ma2p ma2n ma2c se3p se3n se3c s6 re8 t46 t47 H) : blossom_Solve.l2 g1 ma2p ma2n ma2c se3p se3n se3c s6 re8 t46 t47  E H K :=
  loop_rule (S := Nat × (Option Addr) × Nat × Nat × (Option Addr) × Nat × Nat × Nat × Nat × Int × Int) (fun s => blossom_Solve.f2 (s.1) (s.2.1) (s.2.2.1) (s.2.2.2.1) (s.2.2.2.2.1) (s.2.2.2.2.2.1) (s.2.2.2.2.2.2.1) (s.2.2.2.2.2.2.2.1) (s.2.2.2.2.2.2.2.2.1) (s.2.2.2.2.2.2.2.2.2.1) (s.2.2.2.2.2.2.2.2.2.2)) (fun s H => I (s.1) (s.2.1) (s.2.2.1) (s.2.2.2.1) (s.2.2.2.2.1) (s.2.2.2.2.2.1) (s.2.2.2.2.2.2.1) (s.2.2.2.2.2.2.2.1) (s.2.2.2.2.2.2.2.2.1) (s.2.2.2.2.2.2.2.2.2.1) (s.2.2.2.2.2.2.2.2.2.2) H) (fun s H => μ (s.1) (s.2.1) (s.2.2.1) (s.2.2.2.1) (s.2.2.2.2.1) (s.2.2.2.2.2.1) (s.2.2.2.2.2.2.1) (s.2.2.2.2.2.2.2.1) (s.2.2.2.2.2.2.2.2.1) (s.2.2.2.2.2.2.2.2.2.1) (s.2.2.2.2.2.2.2.2.2.2) H) (fun s H hI X hX => h (s.1) (s.2.1) (s.2.2.1) (s.2.2.2.1) (s.2.2.2.2.1) (s.2.2.2.2.2.1) (s.2.2.2.2.2.2.1) (s.2.2.2.2.2.2.2.1) (s.2.2.2.2.2.2.2.2.1) (s.2.2.2.2.2.2.2.2.2.1) (s.2.2.2.2.2.2.2.2.2.2) H hI X fun g1' ma2p' ma2n' ma2c' se3p' se3n' se3c' s6' re8' t46' t47' H' hI' hlt => hX (g1', ma2p', ma2n', ma2c', se3p', se3n', se3c', s6', re8', t46', t47') H' hI' hlt) (s := (g1, ma2p, ma2n, ma2c, se3p, se3n, se3c, s6, re8, t46, t47)) rfl hI
def blossom_Solve.l3 (g1 : Nat) (ma2p : Option Addr) (ma2n : Nat) (ma2c : Nat) (se3p : Option Addr) (se3n : Nat) (se3c : Nat) (s6 : Nat) (re8 : Nat) (v9 : Int) (t46 : Int) (t47 : Int) (t64p : Option Addr) (t64n : Nat) (t64c : Nat) (t65 : Int) (t66 : Int) (X1 : Fr → Hp → Prop) (E : Value → Hp → Prop) (H : Hp) (K : (Option Addr) → Nat → Nat → (Option Addr) → Nat → Nat → Int → Hp → Prop) : Prop := nodeM P0 T0 blossom_Solve.A blossom_Solve.code [1, 1, 1, 1, 1, 0, 1, 0, 0, 1, 1, 0, 0, 1, 0, 1, 0, 1, 1, 0] [X1] (blossom_Solve.rq E K) (blossom_Solve.f3 g1 ma2p ma2n ma2c se3p se3n se3c s6 re8 v9 t46 t47 t64p t64n t64c t65 t66) H
def blossom_Solve.b3 (g1 : Nat) (ma2p : Option Addr) (ma2n : Nat) (ma2c : Nat) (se3p : Option Addr) (se3n : Nat) (se3c : Nat) (s6 : Nat) (re8 : Nat) (v9 : Int) (t46 : Int) (t47 : Int) (t64p : Option Addr) (t64n : Nat) (t64c : Nat) (t65 : Int) (t66 : Int) (X1 : Fr → Hp → Prop) (X2 : Fr → Hp → Prop) (E : Value → Hp → Prop) (H : Hp) (K : (Option Addr) → Nat → Nat → (Option Addr) → Nat → Nat → Int → Hp → Prop) : Prop := nodeM P0 T0 blossom_Solve.A blossom_Solve.code [1, 1, 1, 1, 1, 0, 1, 0, 0, 1, 1, 0, 0, 1, 0, 1, 0, 1, 1, 0, 0] [X1, X2] (blossom_Solve.rq E K) (blossom_Solve.f3 g1 ma2p ma2n ma2c se3p se3n se3c s6 re8 v9 t46 t47 t64p t64n t64c t65 t66) H
theorem blossom_Solve.l3_rule {X1 : Fr → Hp → Prop} { E : Value → Hp → Prop} {K : (Option Addr) → Nat → Nat → (Option Addr) → Nat → Nat → Int → Hp → Prop} (I : Nat → (Option Addr) → Nat → Nat → (Option Addr) → Nat → Nat → Nat → Nat → Int → Int → Int → (Option Addr) → Nat → Nat → Int → Int → Hp → Prop) (μ : Nat → (Option Addr) → Nat → Nat → (Option Addr) → Nat → Nat → Nat → Nat → Int → Int → Int → (Option Addr) → Nat → Nat → Int → Int → Hp → Nat)
    (h : ∀ g1 ma2p ma2n ma2c se3p se3n se3c s6 re8 v9 t46 t47 t64p t64n t64c t65 t66 H, I g1 ma2p ma2n ma2c se3p se3n se3c s6 re8 v9 t46 t47 t64p t64n t64c t65 t66 H → ∀ X : Fr → Hp → Prop, (∀ g1' ma2p' ma2n' ma2c' se3p' se3n' se3c' s6' re8' v9' t46' t47' t64p' t64n' t64c' t65' t66' H', I g1' ma2p' ma2n' ma2c' se3p' se3n' se3c' s6' re8' v9' t46' t47' t64p' t64n' t64c' t65' t66' H' → μ g1' ma2p' ma2n' ma2c' se3p' se3n' se3c' s6' re8' v9' t46' t47' t64p' t64n' t64c' t65' t66' H' < μ g1 ma2p ma2n ma2c se3p se3n se3c s6 re8 v9 t46 t47 t64p t64n t64c t65 t66 H → X (blossom_Solve.f3 g1' ma2p' ma2n' ma2c' se3p' se3n' se3c' s6' re8' v9' t46' t47' t64p' t64n' t64c' t65' t66') H') → blossom_Solve.b3 g1 ma2p ma2n ma2c se3p se3n se3c s6 re8 v9 t46 t47 t64p t64n t64c t65 t66 X1 X E H K)
    {g1 : Nat} {ma2p : Option Addr} {ma2n : Nat} {ma2c : Nat} {se3p : Option Addr} {se3n : Nat} {se3c : Nat} {s6 : Nat} {re8 : Nat} {v9 : Int} {t46 : Int} {t47 : Int} {t64p : Option Addr} {t64n : Nat} {t64c : Nat} {t65 : Int} {t66 : Int} {H : Hp} (hI : I g1 ma2p ma2n ma2c se3p se3n se3c s6 re8 v9 t46 t47 t64p t64n t64c t65 t66 H) : blossom_Solve.l3 g1 ma2p ma2n ma2c se3p se3n se3c s6 re8 v9 t46 t47 t64p t64n t64c t65 t66 X1 E H K :=
  loop_rule (S := Nat × (Option Addr) × Nat × Nat × (Option Addr) × Nat × Nat × Nat × Nat × Int × Int × Int × (Option Addr) × Nat × Nat × Int × Int) (fun s => blossom_Solve.f3 (s.1) (s.2.1) (s.2.2.1) (s.2.2.2.1) (s.2.2.2.2.1) (s.2.2.2.2.2.1) (s.2.2.2.2.2.2.1) (s.2.2.2.2.2.2.2.1) (s.2.2.2.2.2.2.2.2.1) (s.2.2.2.2.2.2.2.2.2.1) (s.2.2.2.2.2.2.2.2.2.2.1) (s.2.2.2.2.2.2.2.2.2.2.2.1) (s.2.2.2.2.2.2.2.2.2.2.2.2.1) (s.2.2.2.2.2.2.2.2.2.2.2.2.2.1) (s.2.2.2.2.2.2.2.2.2.2.2.2.2.2.1) (s.2.2.2.2.2.2.2.2.2.2.2.2.2.2.2.1) (s.2.2.2.2.2.2.2.2.2.2.2.2.2.2.2.2)) (fun s H => I (s.1) (s.2.1) (s.2.2.1) (s.2.2.2.1) (s.2.2.2.2.1) (s.2.2.2.2.2.1) (s.2.2.2.2.2.2.1) (s.2.2.2.2.2.2.2.1) (s.2.2.2.2.2.2.2.2.1) (s.2.2.2.2.2.2.2.2.2.1) (s.2.2.2.2.2.2.2.2.2.2.1) (s.2.2.2.2.2.2.2.2.2.2.2.1) (s.2.2.2.2.2.2.2.2.2.2.2.2.1) (s.2.2.2.2.2.2.2.2.2.2.2.2.2.1) (s.2.2.2.2.2.2.2.2.2.2.2.2.2.2.1) (s.2.2.2.2.2.2.2.2.2.2.2.2.2.2.2.1) (s.2.2.2.2.2.2.2.2.2.2.2.2.2.2.2.2) H) (fun s H => μ (s.1) (s.2.1) (s.2.2.1) (s.2.2.2.1) (s.2.2.2.2.1) (s.2.2.2.2.2.1) (s.2.2.2.2.2.2.1) (s.2.2.2.2.2.2.2.1) (s.2.2.2.2.2.2.2.2.1) (s.2.2.2.2.2.2.2.2.2.1) (s.2.2.2.2.2.2.2.2.2.2.1) (s.2.2.2.2.2.2.2.2.2.2.2.1) (s.2.2.2.2.2.2.2.2.2.2.2.2.1) (s.2.2.2.2.2.2.2.2.2.2.2.2.2.1) (s.2.2.2.2.2.2.2.2.2.2.2.2.2.2.1) (s.2.2.2.2.2.2.2.2.2.2.2.2.2.2.2.1) (s.2.2.2.2.2.2.2.2.2.2.2.2.2.2.2.2) H) (fun s H hI X hX => h (s.1) (s.2.1) (s.2.2.1) (s.2.2.2.1) (s.2.2.2.2.1) (s.2.2.2.2.2.1) (s.2.2.2.2.2.2.1) (s.2.2.2.2.2.2.2.1) (s.2.2.2.2.2.2.2.2.1) (s.2.2.2.2.2.2.2.2.2.1) (s.2.2.2.2.2.2.2.2.2.2.1) (s.2.2.2.2.2.2.2.2.2.2.2.1) (s.2.2.2.2.2.2.2.2.2.2.2.2.1) (s.2.2.2.2.2.2.2.2.2.2.2.2.2.1) (s.2.2.2.2.2.2.2.2.2.2.2.2.2.2.1) (s.2.2.2.2.2.2.2.2.2.2.2.2.2.2.2.1) (s.2.2.2.2.2.2.2.2.2.2.2.2.2.2.2.2) H hI X fun g1' ma2p' ma2n' ma2c' se3p' se3n' se3c' s6' re8' v9' t46' t47' t64p' t64n' t64c' t65' t66' H' hI' hlt => hX (g1', ma2p', ma2n', ma2c', se3p', se3n', se3c', s6', re8', v9', t46', t47', t64p', t64n', t64c', t65', t66') H' hI' hlt) (s := (g1, ma2p, ma2n, ma2c, se3p, se3n, se3c, s6, re8, v9, t46, t47, t64p, t64n, t64c, t65, t66)) rfl hI
def blossom_Solve.l4 (ma2p : Option Addr) (ma2n : Nat) (ma2c : Nat) (se3p : Option Addr) (se3n : Nat) (se3c : Nat) (s6 : Nat) (re8 : Nat) (t111 : Int) (t112 : Int)  (E : Value → Hp → Prop) (H : Hp) (K : (Option Addr) → Nat → Nat → (Option Addr) → Nat → Nat → Int → Hp → Prop) : Prop := nodeM P0 T0 blossom_Solve.A blossom_Solve.code [1, 1, 1, 1, 1, 1, 1, 0, 1, 0] [] (blossom_Solve.rq E K) (blossom_Solve.f4 ma2p ma2n ma2c se3p se3n se3c s6 re8 t111 t112) H
def blossom_Solve.b4 (ma2p : Option Addr) (ma2n : Nat) (ma2c : Nat) (se3p : Option Addr) (se3n : Nat) (se3c : Nat) (s6 : Nat) (re8 : Nat) (t111 : Int) (t112 : Int)  (X1 : Fr → Hp → Prop) (E : Value → Hp → Prop) (H : Hp) (K : (Option Addr) → Nat → Nat → (Option Addr) → Nat → Nat → Int → Hp → Prop) : Prop := nodeM P0 T0 blossom_Solve.A blossom_Solve.code [1, 1, 1, 1, 1, 1, 1, 0, 1, 0, 0] [X1] (blossom_Solve.rq E K) (blossom_Solve.f4 ma2p ma2n ma2c se3p se3n se3c s6 re8 t111 t112) H
theorem blossom_Solve.l4_rule { E : Value → Hp → Prop} {K : (Option Addr) → Nat → Nat → (Option Addr) → Nat → Nat → Int → Hp → Prop} (I : (Option Addr) → Nat → Nat → (Option Addr) → Nat → Nat → Nat → Nat → Int → Int → Hp → Prop) (μ : (Option Addr) → Nat → Nat → (Option Addr) → Nat → Nat → Nat → Nat → Int → Int → Hp → Nat)
    (h : ∀ ma2p ma2n ma2c se3p se3n se3c s6 re8 t111 t112 H, I ma2p ma2n ma2c se3p se3n se3c s6 re8 t111 t112 H → ∀ X : Fr → Hp → Prop, (∀ ma2p' ma2n' ma2c' se3p' se3n' se3c' s6' re8' t111' t112' H', I ma2p' ma2n' ma2c' se3p' se3n' se3c' s6' re8' t111' t112' H' → μ ma2p' ma2n' ma2c' se3p' se3n' se3c' s6' re8' t111' t112' H' < μ ma2p ma2n ma2c se3p se3n se3c s6 re8 t111 t112 H → X (blossom_Solve.f4 ma2p' ma2n' ma2c' se3p' se3n' se3c' s6' re8' t111' t112') H') → blossom_Solve.b4 ma2p ma2n ma2c se3p se3n se3c s6 re8 t111 t112  X E H K)
    {ma2p : Option Addr} {ma2n : Nat} {ma2c : Nat} {se3p : Option Addr} {se3n : Nat} {se3c : Nat} {s6 : Nat} {re8 : Nat} {t111 : Int} {t112 : Int} {H : Hp} (hI : I ma2p ma2n ma2c se3p se3n se3c s6 re8 t111 t112 H) : blossom_Solve.l4 ma2p ma2n ma2c se3p se3n se3c s6 re8 t111 t112  E H K :=
  loop_rule (S := (Option Addr) × Nat × Nat × (Option Addr) × Nat × Nat × Nat × Nat × Int × Int) (fun s => blossom_Solve.f4 (s.1) (s.2.1) (s.2.2.1) (s.2.2.2.1) (s.2.2.2.2.1) (s.2.2.2.2.2.1) (s.2.2.2.2.2.2.1) (s.2.2.2.2.2.2.2.1) (s.2.2.2.2.2.2.2.2.1) (s.2.2.2.2.2.2.2.2.2)) (fun s H => I (s.1) (s.2.1) (s.2.2.1) (s.2.2.2.1) (s.2.2.2.2.1) (s.2.2.2.2.2.1) (s.2.2.2.2.2.2.1) (s.2.2.2.2.2.2.2.1) (s.2.2.2.2.2.2.2.2.1) (s.2.2.2.2.2.2.2.2.2) H) (fun s H => μ (s.1) (s.2.1) (s.2.2.1) (s.2.2.2.1) (s.2.2.2.2.1) (s.2.2.2.2.2.1) (s.2.2.2.2.2.2.1) (s.2.2.2.2.2.2.2.1) (s.2.2.2.2.2.2.2.2.1) (s.2.2.2.2.2.2.2.2.2) H) (fun s H hI X hX => h (s.1) (s.2.1) (s.2.2.1) (s.2.2.2.1) (s.2.2.2.2.1) (s.2.2.2.2.2.1) (s.2.2.2.2.2.2.1) (s.2.2.2.2.2.2.2.1) (s.2.2.2.2.2.2.2.2.1) (s.2.2.2.2.2.2.2.2.2) H hI X fun ma2p' ma2n' ma2c' se3p' se3n' se3c' s6' re8' t111' t112' H' hI' hlt => hX (ma2p', ma2n', ma2c', se3p', se3n', se3c', s6', re8', t111', t112') H' hI' hlt) (s := (ma2p, ma2n, ma2c, se3p, se3n, se3c, s6, re8, t111, t112)) rfl hI
theorem blossom_Solve.nok : nodesOk blossom_Solve.code [[0, 1, 0, 1, 1, 1], [1, 1, 1, 0, 0, 1, 0, 1, 1, 1], [1, 1, 1, 1], [0, 1, 0, 1, 1, 1, 1, 1], [0, 1, 1, 0, 1, 0, 1, 0, 0, 1, 1, 0, 0, 1, 0, 1, 1, 1, 1, 1], [1, 1, 1, 0, 0, 1, 1, 0, 1, 0, 1, 0, 0, 1, 1, 0, 0, 1, 0, 1, 1, 1, 1, 1], [1, 1, 0, 0, 1, 1, 0, 0, 1, 0, 1, 1, 1, 1, 1], [1, 1, 1, 0, 0, 1, 0, 1, 1, 1, 1, 1], [1, 1, 1, 1, 1, 1], [0, 1, 0, 1, 1, 1, 1, 1, 1, 1], [1, 1, 1, 0, 0, 1, 0, 1, 1, 1, 1, 1, 1, 1], [1, 1, 1, 1, 1, 1, 1, 1]] = true := by kernel_rfl
def blossom_Solve.run_t (l1 : Nat → (Option Addr) → Nat → Nat → (Option Addr) → Nat → Nat → Nat → Int → Int → Hp → Prop) (g0_Nodes : Int) (g0_Edgesp : Option Addr) (g0_Edgesn : Nat) (g0_Edgesc : Nat)  (E : Value → Hp → Prop) (H : Hp) (K : (Option Addr) → Nat → Nat → (Option Addr) → Nat → Nat → Int → Hp → Prop) : Prop :=
  nw H ⟨[.int .i64 g0_Nodes, .slice g0_Edgesp g0_Edgesn g0_Edgesc], 24⟩ fun b_1 H_1 =>
  ldI .i64 (H_1.get b_1 0) fun x_1 =>
  ldS (H_1.get b_1 1) fun x_2p x_2n x_2c =>
  graph_Check.call x_1 x_2p x_2n x_2c E H_1 fun r_1_Code r_1_At H_2 =>
  nw H_2 ⟨[.int .i64 0, .int .i64 0], 65⟩ fun b_2 H_3 =>
  stC H_3 b_2 0 [.int .i64 r_1_Code, .int .i64 r_1_At] fun H_4 =>
  ldI .i64 (H_4.get b_2 0) fun x_3 =>
  bcase (!decide ((x_3 : Int) = 0)) (
  ldI .i64 (H_4.get b_2 0) fun x_4 =>
  K none 0 0 none 0 0 x_4 H_4)
  (ldI .i64 (H_4.get b_1 0) fun x_5 =>
  ldS (H_4.get b_1 1) fun x_6p x_6n x_6c =>
  blossom_newSearch.call x_5 x_6p x_6n x_6c E H_4 fun r_2 H_5 =>
  nw H_5 ⟨[.pointer none], 67⟩ fun b_3 H_6 =>
  stC H_6 b_3 0 [.pointer r_2] fun H_7 =>
  ldI .i64 (H_7.get b_1 0) fun x_7 =>
  l1 b_1 none 0 0 none 0 0 b_3 x_7 0 H_7)
theorem blossom_Solve.run_eq {g0_Nodes : Int} {g0_Edgesp : Option Addr} {g0_Edgesn : Nat} {g0_Edgesc : Nat} { E : Value → Hp → Prop} {H : Hp} {K : (Option Addr) → Nat → Nat → (Option Addr) → Nat → Nat → Int → Hp → Prop} (h : blossom_Solve.run_t (fun g1 ma2p ma2n ma2c se3p se3n se3c s6 t24 t25 H => blossom_Solve.l1 g1 ma2p ma2n ma2c se3p se3n se3c s6 t24 t25  E H K) g0_Nodes g0_Edgesp g0_Edgesn g0_Edgesc  E H K) : blossom_Solve.run g0_Nodes g0_Edgesp g0_Edgesn g0_Edgesc  E H K := by
  exact nodeR_imp2 (fun G => blossom_Solve.run_t (fun g1 ma2p ma2n ma2c se3p se3n se3c s6 t24 t25 H => G [0, 1, 0, 1, 1, 1] [(1, .pointer (some ⟨g1, 0, none⟩)), (2, .slice ma2p ma2n ma2c), (3, .slice se3p se3n se3c), (6, .pointer (some ⟨s6, 0, none⟩)), (24, .int .i64 t24), (25, .int .i64 t25)] H) g0_Nodes g0_Edgesp g0_Edgesn g0_Edgesc  E H K) blossom_Solve.nok rfl (fun G => by kernel_rfl) (Eq.mp (by kernel_rfl) h)
def blossom_Solve.j1_t  (g1 : Nat) (ma2p : Option Addr) (ma2n : Nat) (ma2c : Nat) (se3p : Option Addr) (se3n : Nat) (se3c : Nat) (s6 : Nat) (t24 : Int) (t25 : Int) (X1 : Fr → Hp → Prop) (E : Value → Hp → Prop) (H : Hp) (K : (Option Addr) → Nat → Nat → (Option Addr) → Nat → Nat → Int → Hp → Prop) : Prop :=
  X1 (blossom_Solve.f1 g1 ma2p ma2n ma2c se3p se3n se3c s6 t24 (IntKind.wrap .i64 (t25 + 1))) H
theorem blossom_Solve.j1_eq {g1 : Nat} {ma2p : Option Addr} {ma2n : Nat} {ma2c : Nat} {se3p : Option Addr} {se3n : Nat} {se3c : Nat} {s6 : Nat} {t24 : Int} {t25 : Int} {X1 : Fr → Hp → Prop} { E : Value → Hp → Prop} {H : Hp} {K : (Option Addr) → Nat → Nat → (Option Addr) → Nat → Nat → Int → Hp → Prop} (h : blossom_Solve.j1_t  g1 ma2p ma2n ma2c se3p se3n se3c s6 t24 t25 X1 E H K) : blossom_Solve.j1 g1 ma2p ma2n ma2c se3p se3n se3c s6 t24 t25 X1 E H K := by
  exact nodeR_imp2 (fun _ => blossom_Solve.j1_t  g1 ma2p ma2n ma2c se3p se3n se3c s6 t24 t25 X1 E H K) blossom_Solve.nok rfl (fun G => by kernel_rfl) h
def blossom_Solve.j2_t (l2 : Nat → (Option Addr) → Nat → Nat → (Option Addr) → Nat → Nat → Nat → Nat → Int → Int → Hp → Prop) (g1 : Nat) (ma2p : Option Addr) (ma2n : Nat) (ma2c : Nat) (se3p : Option Addr) (se3n : Nat) (se3c : Nat) (s6 : Nat)  (E : Value → Hp → Prop) (H : Hp) (K : (Option Addr) → Nat → Nat → (Option Addr) → Nat → Nat → Int → Hp → Prop) : Prop :=
  ldI .i64 (H.get g1 0) fun x_1 =>
  mkS x_1 x_1 4 [.bool] 1 H fun b_1 H_1 =>
  nw H_1 ⟨[.slice none 0 0], 62⟩ fun b_2 H_2 =>
  stC H_2 b_2 0 [.slice (some ⟨b_1, 0, none⟩) x_1.toNat x_1.toNat] fun H_3 =>
  ldI .i64 (H_3.get g1 0) fun x_2 =>
  l2 g1 ma2p ma2n ma2c se3p se3n se3c s6 b_2 x_2 0 H_3
theorem blossom_Solve.j2_eq {g1 : Nat} {ma2p : Option Addr} {ma2n : Nat} {ma2c : Nat} {se3p : Option Addr} {se3n : Nat} {se3c : Nat} {s6 : Nat} { E : Value → Hp → Prop} {H : Hp} {K : (Option Addr) → Nat → Nat → (Option Addr) → Nat → Nat → Int → Hp → Prop} (h : blossom_Solve.j2_t (fun g1 ma2p ma2n ma2c se3p se3n se3c s6 re8 t46 t47 H => blossom_Solve.l2 g1 ma2p ma2n ma2c se3p se3n se3c s6 re8 t46 t47  E H K) g1 ma2p ma2n ma2c se3p se3n se3c s6  E H K) : blossom_Solve.j2 g1 ma2p ma2n ma2c se3p se3n se3c s6  E H K := by
  exact nodeR_imp2 (fun G => blossom_Solve.j2_t (fun g1 ma2p ma2n ma2c se3p se3n se3c s6 re8 t46 t47 H => G [0, 1, 0, 1, 1, 1, 1, 1] [(1, .pointer (some ⟨g1, 0, none⟩)), (2, .slice ma2p ma2n ma2c), (3, .slice se3p se3n se3c), (6, .pointer (some ⟨s6, 0, none⟩)), (8, .pointer (some ⟨re8, 0, none⟩)), (46, .int .i64 t46), (47, .int .i64 t47)] H) g1 ma2p ma2n ma2c se3p se3n se3c s6  E H K) blossom_Solve.nok rfl (fun G => by kernel_rfl) (Eq.mp (by kernel_rfl) h)
def blossom_Solve.j3_t  (g1 : Nat) (ma2p : Option Addr) (ma2n : Nat) (ma2c : Nat) (se3p : Option Addr) (se3n : Nat) (se3c : Nat) (s6 : Nat) (re8 : Nat) (v9 : Int) (t46 : Int) (t47 : Int) (t64p : Option Addr) (t64n : Nat) (t64c : Nat) (t65 : Int) (t66 : Int) (X1 : Fr → Hp → Prop) (X2 : Fr → Hp → Prop) (E : Value → Hp → Prop) (H : Hp) (K : (Option Addr) → Nat → Nat → (Option Addr) → Nat → Nat → Int → Hp → Prop) : Prop :=
  X2 (blossom_Solve.f3 g1 ma2p ma2n ma2c se3p se3n se3c s6 re8 v9 t46 t47 t64p t64n t64c t65 (IntKind.wrap .i64 (t66 + 1))) H
theorem blossom_Solve.j3_eq {g1 : Nat} {ma2p : Option Addr} {ma2n : Nat} {ma2c : Nat} {se3p : Option Addr} {se3n : Nat} {se3c : Nat} {s6 : Nat} {re8 : Nat} {v9 : Int} {t46 : Int} {t47 : Int} {t64p : Option Addr} {t64n : Nat} {t64c : Nat} {t65 : Int} {t66 : Int} {X1 X2 : Fr → Hp → Prop} { E : Value → Hp → Prop} {H : Hp} {K : (Option Addr) → Nat → Nat → (Option Addr) → Nat → Nat → Int → Hp → Prop} (h : blossom_Solve.j3_t  g1 ma2p ma2n ma2c se3p se3n se3c s6 re8 v9 t46 t47 t64p t64n t64c t65 t66 X1 X2 E H K) : blossom_Solve.j3 g1 ma2p ma2n ma2c se3p se3n se3c s6 re8 v9 t46 t47 t64p t64n t64c t65 t66 X1 X2 E H K := by
  exact nodeR_imp2 (fun _ => blossom_Solve.j3_t  g1 ma2p ma2n ma2c se3p se3n se3c s6 re8 v9 t46 t47 t64p t64n t64c t65 t66 X1 X2 E H K) blossom_Solve.nok rfl (fun G => by kernel_rfl) h
def blossom_Solve.j4_t (j5 : Nat → (Option Addr) → Nat → Nat → (Option Addr) → Nat → Nat → Nat → Nat → Int → Int → Hp → Prop) (g1 : Nat) (ma2p : Option Addr) (ma2n : Nat) (ma2c : Nat) (se3p : Option Addr) (se3n : Nat) (se3c : Nat) (s6 : Nat) (re8 : Nat) (v9 : Int) (t46 : Int) (t47 : Int) (X1 : Fr → Hp → Prop) (E : Value → Hp → Prop) (H : Hp) (K : (Option Addr) → Nat → Nat → (Option Addr) → Nat → Nat → Int → Hp → Prop) : Prop :=
  ldP (H.get s6 0) fun x_1 =>
  nn x_1 fun b_1 o_1 =>
  ldS (H.get b_1 (o_1 + 3)) fun x_2p x_2n x_2c =>
  ix x_2p x_2n v9 1 fun b_2 o_2 =>
  ldI .i64 (H.get b_2 o_2) fun x_3 =>
  bcase (decide ((0 : Int) ≤ x_3)) (
  ldP (H.get s6 0) fun x_4 =>
  blossom_search_mate.call x_4 v9 E H fun r_1 H_1 =>
  bcase (decide ((v9 : Int) < r_1)) (
  ldP (H_1.get s6 0) fun x_5 =>
  nn x_5 fun b_3 o_3 =>
  ldS (H_1.get b_3 (o_3 + 3)) fun x_6p x_6n x_6c =>
  ix x_6p x_6n v9 1 fun b_4 o_4 =>
  ldI .i64 (H_1.get b_4 o_4) fun x_7 =>
  nw H_1 ⟨[.int .i64 x_7], 3⟩ fun b_5 H_2 =>
  appM 3 [.i .i64] 8 ma2p ma2n ma2c (some ⟨b_5, 0, none⟩) 1 H_2 fun a_1p a_1n a_1c H_3 =>
  j5 g1 a_1p a_1n a_1c se3p se3n se3c s6 re8 t46 t47 H_3)
  (j5 g1 ma2p ma2n ma2c se3p se3n se3c s6 re8 t46 t47 H_1))
  (j5 g1 ma2p ma2n ma2c se3p se3n se3c s6 re8 t46 t47 H)
theorem blossom_Solve.j4_eq {g1 : Nat} {ma2p : Option Addr} {ma2n : Nat} {ma2c : Nat} {se3p : Option Addr} {se3n : Nat} {se3c : Nat} {s6 : Nat} {re8 : Nat} {v9 : Int} {t46 : Int} {t47 : Int} {X1 : Fr → Hp → Prop} { E : Value → Hp → Prop} {H : Hp} {K : (Option Addr) → Nat → Nat → (Option Addr) → Nat → Nat → Int → Hp → Prop} (h : blossom_Solve.j4_t (fun g1 ma2p ma2n ma2c se3p se3n se3c s6 re8 t46 t47 H => blossom_Solve.j5 g1 ma2p ma2n ma2c se3p se3n se3c s6 re8 t46 t47 X1 E H K) g1 ma2p ma2n ma2c se3p se3n se3c s6 re8 v9 t46 t47 X1 E H K) : blossom_Solve.j4 g1 ma2p ma2n ma2c se3p se3n se3c s6 re8 v9 t46 t47 X1 E H K := by
  exact nodeR_imp2 (fun G => blossom_Solve.j4_t (fun g1 ma2p ma2n ma2c se3p se3n se3c s6 re8 t46 t47 H => G [1, 1, 1, 0, 0, 1, 0, 1, 1, 1, 1, 1] [(1, .pointer (some ⟨g1, 0, none⟩)), (2, .slice ma2p ma2n ma2c), (3, .slice se3p se3n se3c), (6, .pointer (some ⟨s6, 0, none⟩)), (8, .pointer (some ⟨re8, 0, none⟩)), (46, .int .i64 t46), (47, .int .i64 t47)] H) g1 ma2p ma2n ma2c se3p se3n se3c s6 re8 v9 t46 t47 X1 E H K) blossom_Solve.nok rfl (fun G => by kernel_rfl) (Eq.mp (by kernel_rfl) h)
def blossom_Solve.j5_t  (g1 : Nat) (ma2p : Option Addr) (ma2n : Nat) (ma2c : Nat) (se3p : Option Addr) (se3n : Nat) (se3c : Nat) (s6 : Nat) (re8 : Nat) (t46 : Int) (t47 : Int) (X1 : Fr → Hp → Prop) (E : Value → Hp → Prop) (H : Hp) (K : (Option Addr) → Nat → Nat → (Option Addr) → Nat → Nat → Int → Hp → Prop) : Prop :=
  X1 (blossom_Solve.f2 g1 ma2p ma2n ma2c se3p se3n se3c s6 re8 t46 (IntKind.wrap .i64 (t47 + 1))) H
theorem blossom_Solve.j5_eq {g1 : Nat} {ma2p : Option Addr} {ma2n : Nat} {ma2c : Nat} {se3p : Option Addr} {se3n : Nat} {se3c : Nat} {s6 : Nat} {re8 : Nat} {t46 : Int} {t47 : Int} {X1 : Fr → Hp → Prop} { E : Value → Hp → Prop} {H : Hp} {K : (Option Addr) → Nat → Nat → (Option Addr) → Nat → Nat → Int → Hp → Prop} (h : blossom_Solve.j5_t  g1 ma2p ma2n ma2c se3p se3n se3c s6 re8 t46 t47 X1 E H K) : blossom_Solve.j5 g1 ma2p ma2n ma2c se3p se3n se3c s6 re8 t46 t47 X1 E H K := by
  exact nodeR_imp2 (fun _ => blossom_Solve.j5_t  g1 ma2p ma2n ma2c se3p se3n se3c s6 re8 t46 t47 X1 E H K) blossom_Solve.nok rfl (fun G => by kernel_rfl) h
def blossom_Solve.j6_t (l4 : (Option Addr) → Nat → Nat → (Option Addr) → Nat → Nat → Nat → Nat → Int → Int → Hp → Prop) (g1 : Nat) (ma2p : Option Addr) (ma2n : Nat) (ma2c : Nat) (se3p : Option Addr) (se3n : Nat) (se3c : Nat) (s6 : Nat) (re8 : Nat)  (E : Value → Hp → Prop) (H : Hp) (K : (Option Addr) → Nat → Nat → (Option Addr) → Nat → Nat → Int → Hp → Prop) : Prop :=
  slices_Sort.call ma2p ma2n ma2c E H fun H_1 =>
  ldI .i64 (H_1.get g1 0) fun x_1 =>
  l4 ma2p ma2n ma2c se3p se3n se3c s6 re8 x_1 0 H_1
theorem blossom_Solve.j6_eq {g1 : Nat} {ma2p : Option Addr} {ma2n : Nat} {ma2c : Nat} {se3p : Option Addr} {se3n : Nat} {se3c : Nat} {s6 : Nat} {re8 : Nat} { E : Value → Hp → Prop} {H : Hp} {K : (Option Addr) → Nat → Nat → (Option Addr) → Nat → Nat → Int → Hp → Prop} (h : blossom_Solve.j6_t (fun ma2p ma2n ma2c se3p se3n se3c s6 re8 t111 t112 H => blossom_Solve.l4 ma2p ma2n ma2c se3p se3n se3c s6 re8 t111 t112  E H K) g1 ma2p ma2n ma2c se3p se3n se3c s6 re8  E H K) : blossom_Solve.j6 g1 ma2p ma2n ma2c se3p se3n se3c s6 re8  E H K := by
  exact nodeR_imp2 (fun G => blossom_Solve.j6_t (fun ma2p ma2n ma2c se3p se3n se3c s6 re8 t111 t112 H => G [0, 1, 0, 1, 1, 1, 1, 1, 1, 1] [(2, .slice ma2p ma2n ma2c), (3, .slice se3p se3n se3c), (6, .pointer (some ⟨s6, 0, none⟩)), (8, .pointer (some ⟨re8, 0, none⟩)), (111, .int .i64 t111), (112, .int .i64 t112)] H) g1 ma2p ma2n ma2c se3p se3n se3c s6 re8  E H K) blossom_Solve.nok rfl (fun G => by kernel_rfl) (Eq.mp (by kernel_rfl) h)
def blossom_Solve.j7_t  (ma2p : Option Addr) (ma2n : Nat) (ma2c : Nat) (se3p : Option Addr) (se3n : Nat) (se3c : Nat) (s6 : Nat) (re8 : Nat) (t111 : Int) (t112 : Int) (X1 : Fr → Hp → Prop) (E : Value → Hp → Prop) (H : Hp) (K : (Option Addr) → Nat → Nat → (Option Addr) → Nat → Nat → Int → Hp → Prop) : Prop :=
  X1 (blossom_Solve.f4 ma2p ma2n ma2c se3p se3n se3c s6 re8 t111 (IntKind.wrap .i64 (t112 + 1))) H
theorem blossom_Solve.j7_eq {ma2p : Option Addr} {ma2n : Nat} {ma2c : Nat} {se3p : Option Addr} {se3n : Nat} {se3c : Nat} {s6 : Nat} {re8 : Nat} {t111 : Int} {t112 : Int} {X1 : Fr → Hp → Prop} { E : Value → Hp → Prop} {H : Hp} {K : (Option Addr) → Nat → Nat → (Option Addr) → Nat → Nat → Int → Hp → Prop} (h : blossom_Solve.j7_t  ma2p ma2n ma2c se3p se3n se3c s6 re8 t111 t112 X1 E H K) : blossom_Solve.j7 ma2p ma2n ma2c se3p se3n se3c s6 re8 t111 t112 X1 E H K := by
  exact nodeR_imp2 (fun _ => blossom_Solve.j7_t  ma2p ma2n ma2c se3p se3n se3c s6 re8 t111 t112 X1 E H K) blossom_Solve.nok rfl (fun G => by kernel_rfl) h
def blossom_Solve.j8_t  (ma2p : Option Addr) (ma2n : Nat) (ma2c : Nat) (se3p : Option Addr) (se3n : Nat) (se3c : Nat)  (E : Value → Hp → Prop) (H : Hp) (K : (Option Addr) → Nat → Nat → (Option Addr) → Nat → Nat → Int → Hp → Prop) : Prop :=
  K ma2p ma2n ma2c se3p se3n se3c 0 H
theorem blossom_Solve.j8_eq {ma2p : Option Addr} {ma2n : Nat} {ma2c : Nat} {se3p : Option Addr} {se3n : Nat} {se3c : Nat} { E : Value → Hp → Prop} {H : Hp} {K : (Option Addr) → Nat → Nat → (Option Addr) → Nat → Nat → Int → Hp → Prop} (h : blossom_Solve.j8_t  ma2p ma2n ma2c se3p se3n se3c  E H K) : blossom_Solve.j8 ma2p ma2n ma2c se3p se3n se3c  E H K := by
  exact nodeR_imp2 (fun _ => blossom_Solve.j8_t  ma2p ma2n ma2c se3p se3n se3c  E H K) blossom_Solve.nok rfl (fun G => by kernel_rfl) h
def blossom_Solve.b1_t (j1 : Nat → (Option Addr) → Nat → Nat → (Option Addr) → Nat → Nat → Nat → Int → Int → Hp → Prop) (j2 : Nat → (Option Addr) → Nat → Nat → (Option Addr) → Nat → Nat → Nat → Hp → Prop) (g1 : Nat) (ma2p : Option Addr) (ma2n : Nat) (ma2c : Nat) (se3p : Option Addr) (se3n : Nat) (se3c : Nat) (s6 : Nat) (t24 : Int) (t25 : Int) (X1 : Fr → Hp → Prop) (E : Value → Hp → Prop) (H : Hp) (K : (Option Addr) → Nat → Nat → (Option Addr) → Nat → Nat → Int → Hp → Prop) : Prop :=
  bcase (decide ((t25 : Int) < t24)) (
  ldP (H.get s6 0) fun x_1 =>
  nn x_1 fun b_1 o_1 =>
  ldS (H.get b_1 (o_1 + 3)) fun x_2p x_2n x_2c =>
  ix x_2p x_2n t25 1 fun b_2 o_2 =>
  ldI .i64 (H.get b_2 o_2) fun x_3 =>
  bcase (decide ((x_3 : Int) < 0)) (
  ldP (H.get s6 0) fun x_4 =>
  ldP (H.get s6 0) fun x_5 =>
  blossom_search_grow.call x_5 t25 E H fun r_1 H_1 =>
  (ldP (H_1.get s6 0) fun x_6 =>
  Value.pointer x_6 = Value.pointer x_4) ∧
  blossom_search_turn.call x_4 r_1 E H_1 fun H_2 =>
  j1 g1 ma2p ma2n ma2c se3p se3n se3c s6 t24 t25 H_2)
  (j1 g1 ma2p ma2n ma2c se3p se3n se3c s6 t24 t25 H))
  (j2 g1 ma2p ma2n ma2c se3p se3n se3c s6 H)
theorem blossom_Solve.b1_eq {g1 : Nat} {ma2p : Option Addr} {ma2n : Nat} {ma2c : Nat} {se3p : Option Addr} {se3n : Nat} {se3c : Nat} {s6 : Nat} {t24 : Int} {t25 : Int} {X1 : Fr → Hp → Prop} { E : Value → Hp → Prop} {H : Hp} {K : (Option Addr) → Nat → Nat → (Option Addr) → Nat → Nat → Int → Hp → Prop} (h : blossom_Solve.b1_t (fun g1 ma2p ma2n ma2c se3p se3n se3c s6 t24 t25 H => blossom_Solve.j1 g1 ma2p ma2n ma2c se3p se3n se3c s6 t24 t25 X1 E H K) (fun g1 ma2p ma2n ma2c se3p se3n se3c s6 H => blossom_Solve.j2 g1 ma2p ma2n ma2c se3p se3n se3c s6  E H K) g1 ma2p ma2n ma2c se3p se3n se3c s6 t24 t25 X1 E H K) : blossom_Solve.b1 g1 ma2p ma2n ma2c se3p se3n se3c s6 t24 t25 X1 E H K := by
  exact nodeR_imp2 (fun G => blossom_Solve.b1_t (fun g1 ma2p ma2n ma2c se3p se3n se3c s6 t24 t25 H => G [1, 1, 1, 0, 0, 1, 0, 1, 1, 1] [(1, .pointer (some ⟨g1, 0, none⟩)), (2, .slice ma2p ma2n ma2c), (3, .slice se3p se3n se3c), (6, .pointer (some ⟨s6, 0, none⟩)), (24, .int .i64 t24), (25, .int .i64 t25)] H) (fun g1 ma2p ma2n ma2c se3p se3n se3c s6 H => G [1, 1, 1, 1] [(1, .pointer (some ⟨g1, 0, none⟩)), (2, .slice ma2p ma2n ma2c), (3, .slice se3p se3n se3c), (6, .pointer (some ⟨s6, 0, none⟩))] H) g1 ma2p ma2n ma2c se3p se3n se3c s6 t24 t25 X1 E H K) blossom_Solve.nok rfl (fun G => by kernel_rfl) (Eq.mp (by kernel_rfl) h)
def blossom_Solve.b2_t (l3 : Nat → (Option Addr) → Nat → Nat → (Option Addr) → Nat → Nat → Nat → Nat → Int → Int → Int → (Option Addr) → Nat → Nat → Int → Int → Hp → Prop) (j4 : Nat → (Option Addr) → Nat → Nat → (Option Addr) → Nat → Nat → Nat → Nat → Int → Int → Int → Hp → Prop) (j6 : Nat → (Option Addr) → Nat → Nat → (Option Addr) → Nat → Nat → Nat → Nat → Hp → Prop) (g1 : Nat) (ma2p : Option Addr) (ma2n : Nat) (ma2c : Nat) (se3p : Option Addr) (se3n : Nat) (se3c : Nat) (s6 : Nat) (re8 : Nat) (t46 : Int) (t47 : Int) (X1 : Fr → Hp → Prop) (E : Value → Hp → Prop) (H : Hp) (K : (Option Addr) → Nat → Nat → (Option Addr) → Nat → Nat → Int → Hp → Prop) : Prop :=
  bcase (decide ((t47 : Int) < t46)) (
  ldP (H.get s6 0) fun x_1 =>
  nn x_1 fun b_1 o_1 =>
  ldS (H.get b_1 (o_1 + 3)) fun x_2p x_2n x_2c =>
  ix x_2p x_2n t47 1 fun b_2 o_2 =>
  ldI .i64 (H.get b_2 o_2) fun x_3 =>
  bcase (decide ((x_3 : Int) < 0)) (
  ldP (H.get s6 0) fun x_4 =>
  blossom_search_grow.call x_4 t47 E H fun r_1 H_1 =>
  ldP (H_1.get s6 0) fun x_5 =>
  nn x_5 fun b_3 o_3 =>
  ldS (H_1.get b_3 (o_3 + 6)) fun x_6p x_6n x_6c =>
  l3 g1 ma2p ma2n ma2c se3p se3n se3c s6 re8 t47 t46 t47 x_6p x_6n x_6c (x_6n : Int) 0 H_1)
  (j4 g1 ma2p ma2n ma2c se3p se3n se3c s6 re8 t47 t46 t47 H))
  (j6 g1 ma2p ma2n ma2c se3p se3n se3c s6 re8 H)
theorem blossom_Solve.b2_eq {g1 : Nat} {ma2p : Option Addr} {ma2n : Nat} {ma2c : Nat} {se3p : Option Addr} {se3n : Nat} {se3c : Nat} {s6 : Nat} {re8 : Nat} {t46 : Int} {t47 : Int} {X1 : Fr → Hp → Prop} { E : Value → Hp → Prop} {H : Hp} {K : (Option Addr) → Nat → Nat → (Option Addr) → Nat → Nat → Int → Hp → Prop} (h : blossom_Solve.b2_t (fun g1 ma2p ma2n ma2c se3p se3n se3c s6 re8 v9 t46 t47 t64p t64n t64c t65 t66 H => blossom_Solve.l3 g1 ma2p ma2n ma2c se3p se3n se3c s6 re8 v9 t46 t47 t64p t64n t64c t65 t66 X1 E H K) (fun g1 ma2p ma2n ma2c se3p se3n se3c s6 re8 v9 t46 t47 H => blossom_Solve.j4 g1 ma2p ma2n ma2c se3p se3n se3c s6 re8 v9 t46 t47 X1 E H K) (fun g1 ma2p ma2n ma2c se3p se3n se3c s6 re8 H => blossom_Solve.j6 g1 ma2p ma2n ma2c se3p se3n se3c s6 re8  E H K) g1 ma2p ma2n ma2c se3p se3n se3c s6 re8 t46 t47 X1 E H K) : blossom_Solve.b2 g1 ma2p ma2n ma2c se3p se3n se3c s6 re8 t46 t47 X1 E H K := by
  exact nodeR_imp2 (fun G => blossom_Solve.b2_t (fun g1 ma2p ma2n ma2c se3p se3n se3c s6 re8 v9 t46 t47 t64p t64n t64c t65 t66 H => G [0, 1, 1, 0, 1, 0, 1, 0, 0, 1, 1, 0, 0, 1, 0, 1, 1, 1, 1, 1] [(1, .pointer (some ⟨g1, 0, none⟩)), (2, .slice ma2p ma2n ma2c), (3, .slice se3p se3n se3c), (6, .pointer (some ⟨s6, 0, none⟩)), (8, .pointer (some ⟨re8, 0, none⟩)), (9, .int .i64 v9), (46, .int .i64 t46), (47, .int .i64 t47), (64, .slice t64p t64n t64c), (65, .int .i64 t65), (66, .int .i64 t66)] H) (fun g1 ma2p ma2n ma2c se3p se3n se3c s6 re8 v9 t46 t47 H => G [1, 1, 0, 0, 1, 1, 0, 0, 1, 0, 1, 1, 1, 1, 1] [(1, .pointer (some ⟨g1, 0, none⟩)), (2, .slice ma2p ma2n ma2c), (3, .slice se3p se3n se3c), (6, .pointer (some ⟨s6, 0, none⟩)), (8, .pointer (some ⟨re8, 0, none⟩)), (9, .int .i64 v9), (46, .int .i64 t46), (47, .int .i64 t47)] H) (fun g1 ma2p ma2n ma2c se3p se3n se3c s6 re8 H => G [1, 1, 1, 1, 1, 1] [(1, .pointer (some ⟨g1, 0, none⟩)), (2, .slice ma2p ma2n ma2c), (3, .slice se3p se3n se3c), (6, .pointer (some ⟨s6, 0, none⟩)), (8, .pointer (some ⟨re8, 0, none⟩))] H) g1 ma2p ma2n ma2c se3p se3n se3c s6 re8 t46 t47 X1 E H K) blossom_Solve.nok rfl (fun G => by kernel_rfl) (Eq.mp (by kernel_rfl) h)
def blossom_Solve.b3_t (j3 : Nat → (Option Addr) → Nat → Nat → (Option Addr) → Nat → Nat → Nat → Nat → Int → Int → Int → (Option Addr) → Nat → Nat → Int → Int → Hp → Prop) (j4 : Nat → (Option Addr) → Nat → Nat → (Option Addr) → Nat → Nat → Nat → Nat → Int → Int → Int → Hp → Prop) (g1 : Nat) (ma2p : Option Addr) (ma2n : Nat) (ma2c : Nat) (se3p : Option Addr) (se3n : Nat) (se3c : Nat) (s6 : Nat) (re8 : Nat) (v9 : Int) (t46 : Int) (t47 : Int) (t64p : Option Addr) (t64n : Nat) (t64c : Nat) (t65 : Int) (t66 : Int) (X1 : Fr → Hp → Prop) (X2 : Fr → Hp → Prop) (E : Value → Hp → Prop) (H : Hp) (K : (Option Addr) → Nat → Nat → (Option Addr) → Nat → Nat → Int → Hp → Prop) : Prop :=
  bcase (decide ((t66 : Int) < t65)) (
  ix t64p t64n t66 1 fun b_1 o_1 =>
  ldB (H.get b_1 o_1) fun x_1 =>
  ldS (H.get re8 0) fun x_2p x_2n x_2c =>
  ldS (H.get re8 0) fun x_3p x_3n x_3c =>
  ix x_3p x_3n t66 1 fun b_2 o_2 =>
  ldB (H.get b_2 o_2) fun x_4 =>
  bcase (x_4) (
  ix x_2p x_2n t66 1 fun b_3 o_3 =>
  stC H b_3 o_3 [.bool true] fun H_1 =>
  j3 g1 ma2p ma2n ma2c se3p se3n se3c s6 re8 v9 t46 t47 t64p t64n t64c t65 t66 H_1)
  (ix x_2p x_2n t66 1 fun b_4 o_4 =>
  stC H b_4 o_4 [.bool x_1] fun H_2 =>
  j3 g1 ma2p ma2n ma2c se3p se3n se3c s6 re8 v9 t46 t47 t64p t64n t64c t65 t66 H_2))
  (j4 g1 ma2p ma2n ma2c se3p se3n se3c s6 re8 v9 t46 t47 H)
theorem blossom_Solve.b3_eq {g1 : Nat} {ma2p : Option Addr} {ma2n : Nat} {ma2c : Nat} {se3p : Option Addr} {se3n : Nat} {se3c : Nat} {s6 : Nat} {re8 : Nat} {v9 : Int} {t46 : Int} {t47 : Int} {t64p : Option Addr} {t64n : Nat} {t64c : Nat} {t65 : Int} {t66 : Int} {X1 X2 : Fr → Hp → Prop} { E : Value → Hp → Prop} {H : Hp} {K : (Option Addr) → Nat → Nat → (Option Addr) → Nat → Nat → Int → Hp → Prop} (h : blossom_Solve.b3_t (fun g1 ma2p ma2n ma2c se3p se3n se3c s6 re8 v9 t46 t47 t64p t64n t64c t65 t66 H => blossom_Solve.j3 g1 ma2p ma2n ma2c se3p se3n se3c s6 re8 v9 t46 t47 t64p t64n t64c t65 t66 X1 X2 E H K) (fun g1 ma2p ma2n ma2c se3p se3n se3c s6 re8 v9 t46 t47 H => blossom_Solve.j4 g1 ma2p ma2n ma2c se3p se3n se3c s6 re8 v9 t46 t47 X1 E H K) g1 ma2p ma2n ma2c se3p se3n se3c s6 re8 v9 t46 t47 t64p t64n t64c t65 t66 X1 X2 E H K) : blossom_Solve.b3 g1 ma2p ma2n ma2c se3p se3n se3c s6 re8 v9 t46 t47 t64p t64n t64c t65 t66 X1 X2 E H K := by
  exact nodeR_imp2 (fun G => blossom_Solve.b3_t (fun g1 ma2p ma2n ma2c se3p se3n se3c s6 re8 v9 t46 t47 t64p t64n t64c t65 t66 H => G [1, 1, 1, 0, 0, 1, 1, 0, 1, 0, 1, 0, 0, 1, 1, 0, 0, 1, 0, 1, 1, 1, 1, 1] [(1, .pointer (some ⟨g1, 0, none⟩)), (2, .slice ma2p ma2n ma2c), (3, .slice se3p se3n se3c), (6, .pointer (some ⟨s6, 0, none⟩)), (8, .pointer (some ⟨re8, 0, none⟩)), (9, .int .i64 v9), (46, .int .i64 t46), (47, .int .i64 t47), (64, .slice t64p t64n t64c), (65, .int .i64 t65), (66, .int .i64 t66)] H) (fun g1 ma2p ma2n ma2c se3p se3n se3c s6 re8 v9 t46 t47 H => G [1, 1, 0, 0, 1, 1, 0, 0, 1, 0, 1, 1, 1, 1, 1] [(1, .pointer (some ⟨g1, 0, none⟩)), (2, .slice ma2p ma2n ma2c), (3, .slice se3p se3n se3c), (6, .pointer (some ⟨s6, 0, none⟩)), (8, .pointer (some ⟨re8, 0, none⟩)), (9, .int .i64 v9), (46, .int .i64 t46), (47, .int .i64 t47)] H) g1 ma2p ma2n ma2c se3p se3n se3c s6 re8 v9 t46 t47 t64p t64n t64c t65 t66 X1 X2 E H K) blossom_Solve.nok rfl (fun G => by kernel_rfl) (Eq.mp (by kernel_rfl) h)
def blossom_Solve.b4_t (j7 : (Option Addr) → Nat → Nat → (Option Addr) → Nat → Nat → Nat → Nat → Int → Int → Hp → Prop) (j8 : (Option Addr) → Nat → Nat → (Option Addr) → Nat → Nat → Hp → Prop) (ma2p : Option Addr) (ma2n : Nat) (ma2c : Nat) (se3p : Option Addr) (se3n : Nat) (se3c : Nat) (s6 : Nat) (re8 : Nat) (t111 : Int) (t112 : Int) (X1 : Fr → Hp → Prop) (E : Value → Hp → Prop) (H : Hp) (K : (Option Addr) → Nat → Nat → (Option Addr) → Nat → Nat → Int → Hp → Prop) : Prop :=
  bcase (decide ((t112 : Int) < t111)) (
  nw H ⟨[.int .i64 0], 3⟩ fun b_1 H_1 =>
  stC H_1 b_1 0 [.int .i64 t112] fun H_2 =>
  ldS (H_2.get re8 0) fun x_1p x_1n x_1c =>
  ldI .i64 (H_2.get b_1 0) fun x_2 =>
  ix x_1p x_1n x_2 1 fun b_2 o_1 =>
  ldB (H_2.get b_2 o_1) fun x_3 =>
  bcase ((!x_3)) (
  ldP (H_2.get s6 0) fun x_4 =>
  nn x_4 fun b_3 o_2 =>
  ldS (H_2.get b_3 (o_2 + 2)) fun x_5p x_5n x_5c =>
  ldI .i64 (H_2.get b_1 0) fun x_6 =>
  ix x_5p x_5n x_6 1 fun b_4 o_3 =>
  ldS (H_2.get b_4 o_3) fun x_7p x_7n x_7c =>
  slices_ContainsFunc.call x_7p x_7n x_7c 43 [Value.pointer (some ⟨re8, 0, none⟩), Value.pointer (some ⟨s6, 0, none⟩), Value.pointer (some ⟨b_1, 0, none⟩)] E H_2 fun r_1 H_3 =>
  bcase (r_1) (
  ldI .i64 (H_3.get b_1 0) fun x_8 =>
  nw H_3 ⟨[.int .i64 x_8], 3⟩ fun b_5 H_4 =>
  appM 3 [.i .i64] 8 se3p se3n se3c (some ⟨b_5, 0, none⟩) 1 H_4 fun a_1p a_1n a_1c H_5 =>
  j7 ma2p ma2n ma2c a_1p a_1n a_1c s6 re8 t111 t112 H_5)
  (j7 ma2p ma2n ma2c se3p se3n se3c s6 re8 t111 t112 H_3))
  (j7 ma2p ma2n ma2c se3p se3n se3c s6 re8 t111 t112 H_2))
  (j8 ma2p ma2n ma2c se3p se3n se3c H)
theorem blossom_Solve.b4_eq {ma2p : Option Addr} {ma2n : Nat} {ma2c : Nat} {se3p : Option Addr} {se3n : Nat} {se3c : Nat} {s6 : Nat} {re8 : Nat} {t111 : Int} {t112 : Int} {X1 : Fr → Hp → Prop} { E : Value → Hp → Prop} {H : Hp} {K : (Option Addr) → Nat → Nat → (Option Addr) → Nat → Nat → Int → Hp → Prop} (h : blossom_Solve.b4_t (fun ma2p ma2n ma2c se3p se3n se3c s6 re8 t111 t112 H => blossom_Solve.j7 ma2p ma2n ma2c se3p se3n se3c s6 re8 t111 t112 X1 E H K) (fun ma2p ma2n ma2c se3p se3n se3c H => blossom_Solve.j8 ma2p ma2n ma2c se3p se3n se3c  E H K) ma2p ma2n ma2c se3p se3n se3c s6 re8 t111 t112 X1 E H K) : blossom_Solve.b4 ma2p ma2n ma2c se3p se3n se3c s6 re8 t111 t112 X1 E H K := by
  exact nodeR_imp2 (fun G => blossom_Solve.b4_t (fun ma2p ma2n ma2c se3p se3n se3c s6 re8 t111 t112 H => G [1, 1, 1, 0, 0, 1, 0, 1, 1, 1, 1, 1, 1, 1] [(2, .slice ma2p ma2n ma2c), (3, .slice se3p se3n se3c), (6, .pointer (some ⟨s6, 0, none⟩)), (8, .pointer (some ⟨re8, 0, none⟩)), (111, .int .i64 t111), (112, .int .i64 t112)] H) (fun ma2p ma2n ma2c se3p se3n se3c H => G [1, 1, 1, 1, 1, 1, 1, 1] [(2, .slice ma2p ma2n ma2c), (3, .slice se3p se3n se3c)] H) ma2p ma2n ma2c se3p se3n se3c s6 re8 t111 t112 X1 E H K) blossom_Solve.nok rfl (fun G => by kernel_rfl) (Eq.mp (by kernel_rfl) h)
/-! ### compass/blossom.newSearch (38) -/
noncomputable def blossom_newSearch.A : An := { live := [(0, [0]), (1, [1]), (2, [1, 3]), (3, [3, 17, 18, 19]), (4, [3, 17, 18, 19]), (5, [3, 4, 5, 17, 18, 19]), (6, [3, 4, 5, 17, 18, 19]), (7, [3, 4, 5, 17, 18, 19]), (8, [3, 17, 18, 19]), (9, [3]), (10, [3, 70, 71]), (11, [3, 70, 71]), (12, [3, 6, 70, 71]), (13, [3, 70, 71]), (14, [3])], ord := [(1, [0, 1, 2, 3, 4, 5, 6, 7, 8, 9]), (6, [0, 1, 2, 3, 4, 5, 6, 7, 8, 9, 10, 11, 12, 13, 14, 15, 16, 17, 18]), (7, [0, 1, 2, 3, 4, 5, 6, 7, 8, 9, 10, 11, 12, 13, 14, 15, 16, 17, 18])], stb := [(6, [(16, [3, 5])]), (7, [(16, [3, 5])])], pre := [(1, [[], [], [1], [1, 2], [], [4], [4, 5], [0, 1, 2, 3, 4, 5, 6], [0, 1, 2, 3, 4, 5, 6, 7], [0, 1, 2, 3, 4, 5, 6, 7, 8]]), (6, [[], [0], [0, 1], [0, 1, 2], [], [4], [], [6], [6, 7], [6, 7, 8], [], [10], [6, 7, 8, 9, 10, 11], [6, 7, 8, 9, 10, 11, 12], [], [14], [6, 7, 8, 9, 10, 11, 12, 13, 14, 15], [0, 1, 2, 3, 4, 5, 6, 7, 8, 9, 10, 11, 12, 13, 14, 15, 16], [0, 1, 2, 3, 4, 5, 6, 7, 8, 9, 10, 11, 12, 13, 14, 15, 16, 17]]), (7, [[], [0], [0, 1], [0, 1, 2], [], [4], [], [6], [6, 7], [6, 7, 8], [], [10], [6, 7, 8, 9, 10, 11], [6, 7, 8, 9, 10, 11, 12], [], [14], [6, 7, 8, 9, 10, 11, 12, 13, 14, 15], [0, 1, 2, 3, 4, 5, 6, 7, 8, 9, 10, 11, 12, 13, 14, 15, 16], [0, 1, 2, 3, 4, 5, 6, 7, 8, 9, 10, 11, 12, 13, 14, 15, 16, 17]])] }
noncomputable def blossom_newSearch.code : Code := bodyOf Go.Proofs.Try.f38
theorem blossom_newSearch.ok : okCode blossom_newSearch.A 82 blossom_newSearch.code = true := by kernel_rfl
def blossom_newSearch.rq (E : Value → Hp → Prop) (K : (Option Addr) → Hp → Prop) : Ex → Fr → Hp → Prop := retQ T0 [.tmp 2] [67] (fun r H => ldR (.one false [.ptr]) r fun u => K (asP u) H) E
def blossom_newSearch.run (g0_Nodes : Int) (g0_Edgesp : Option Addr) (g0_Edgesn : Nat) (g0_Edgesc : Nat) (E : Value → Hp → Prop) (H : Hp) (K : (Option Addr) → Hp → Prop) : Prop := nodeM P0 T0 blossom_newSearch.A blossom_newSearch.code [] [] (blossom_newSearch.rq E K) (argF 0 [.agg ⟨[.int .i64 g0_Nodes, .slice g0_Edgesp g0_Edgesn g0_Edgesc]⟩]) H
theorem blossom_newSearch.of {g0_Nodes : Int} {g0_Edgesp : Option Addr} {g0_Edgesn : Nat} {g0_Edgesc : Nat} {E : Value → Hp → Prop} {H : Hp} {K : (Option Addr) → Hp → Prop} (h : blossom_newSearch.run g0_Nodes g0_Edgesp g0_Edgesn g0_Edgesc E H K) : blossom_newSearch.call g0_Nodes g0_Edgesp g0_Edgesn g0_Edgesc E H K :=
  callW_of T0_ok P0_mixed (A := blossom_newSearch.A) (fn := Go.Proofs.Try.f38) Go.Proofs.Try.func38 rfl blossom_newSearch.ok rfl h
noncomputable def blossom_newSearch.f1 (s3 : Option Addr) (t17p : Option Addr) (t17n : Nat) (t17c : Nat) (t18 : Int) (t19 : Int) : Fr := [(3, .pointer s3), (17, .slice t17p t17n t17c), (18, .int .i64 t18), (19, .int .i64 t19)]
noncomputable def blossom_newSearch.f2 (s3 : Option Addr) (t70 : Int) (t71 : Int) : Fr := [(3, .pointer s3), (70, .int .i64 t70), (71, .int .i64 t71)]
def blossom_newSearch.j1 (s3 : Option Addr) (t17p : Option Addr) (t17n : Nat) (t17c : Nat) (t18 : Int) (t19 : Int) (X1 : Fr → Hp → Prop) (E : Value → Hp → Prop) (H : Hp) (K : (Option Addr) → Hp → Prop) : Prop := nodeM P0 T0 blossom_newSearch.A blossom_newSearch.code [1, 1, 0, 1, 0, 0, 1, 1, 1] [X1] (blossom_newSearch.rq E K) [(3, .pointer s3), (17, .slice t17p t17n t17c), (18, .int .i64 t18), (19, .int .i64 t19)] H
def blossom_newSearch.j2 (s3 : Option Addr)  (E : Value → Hp → Prop) (H : Hp) (K : (Option Addr) → Hp → Prop) : Prop := nodeM P0 T0 blossom_newSearch.A blossom_newSearch.code [1, 1, 1] [] (blossom_newSearch.rq E K) [(3, .pointer s3)] H
def blossom_newSearch.l1 (s3 : Option Addr) (t17p : Option Addr) (t17n : Nat) (t17c : Nat) (t18 : Int) (t19 : Int)  (E : Value → Hp → Prop) (H : Hp) (K : (Option Addr) → Hp → Prop) : Prop := nodeM P0 T0 blossom_newSearch.A blossom_newSearch.code [1, 1, 0, 1, 0] [] (blossom_newSearch.rq E K) (blossom_newSearch.f1 s3 t17p t17n t17c t18 t19) H
def blossom_newSearch.b1 (s3 : Option Addr) (t17p : Option Addr) (t17n : Nat) (t17c : Nat) (t18 : Int) (t19 : Int)  (X1 : Fr → Hp → Prop) (E : Value → Hp → Prop) (H : Hp) (K : (Option Addr) → Hp → Prop) : Prop := nodeM P0 T0 blossom_newSearch.A blossom_newSearch.code [1, 1, 0, 1, 0, 0] [X1] (blossom_newSearch.rq E K) (blossom_newSearch.f1 s3 t17p t17n t17c t18 t19) H
theorem blossom_newSearch.l1_rule { E : Value → Hp → Prop} {K : (Option Addr) → Hp → Prop} (I : (Option Addr) → (Option Addr) → Nat → Nat → Int → Int → Hp → Prop) (μ : (Option Addr) → (Option Addr) → Nat → Nat → Int → Int → Hp → Nat)
    (h : ∀ s3 t17p t17n t17c t18 t19 H, I s3 t17p t17n t17c t18 t19 H → ∀ X : Fr → Hp → Prop, (∀ s3' t17p' t17n' t17c' t18' t19' H', I s3' t17p' t17n' t17c' t18' t19' H' → μ s3' t17p' t17n' t17c' t18' t19' H' < μ s3 t17p t17n t17c t18 t19 H → X (blossom_newSearch.f1 s3' t17p' t17n' t17c' t18' t19') H') → blossom_newSearch.b1 s3 t17p t17n t17c t18 t19  X E H K)
    {s3 : Option Addr} {t17p : Option Addr} {t17n : Nat} {t17c : Nat} {t18 : Int} {t19 : Int} {H : Hp} (hI : I s3 t17p t17n t17c t18 t19 H) : blossom_newSearch.l1 s3 t17p t17n t17c t18 t19  E H K :=
  loop_rule (S := (Option Addr) × (Option Addr) × Nat × Nat × Int × Int) (fun s => blossom_newSearch.f1 (s.1) (s.2.1) (s.2.2.1) (s.2.2.2.1) (s.2.2.2.2.1) (s.2.2.2.2.2)) (fun s H => I (s.1) (s.2.1) (s.2.2.1) (s.2.2.2.1) (s.2.2.2.2.1) (s.2.2.2.2.2) H) (fun s H => μ (s.1) (s.2.1) (s.2.2.1) (s.2.2.2.1) (s.2.2.2.2.1) (s.2.2.2.2.2) H) (fun s H hI X hX => h (s.1) (s.2.1) (s.2.2.1) (s.2.2.2.1) (s.2.2.2.2.1) (s.2.2.2.2.2) H hI X fun s3' t17p' t17n' t17c' t18' t19' H' hI' hlt => hX (s3', t17p', t17n', t17c', t18', t19') H' hI' hlt) (s := (s3, t17p, t17n, t17c, t18, t19)) rfl hI
def blossom_newSearch.l2 (s3 : Option Addr) (t70 : Int) (t71 : Int)  (E : Value → Hp → Prop) (H : Hp) (K : (Option Addr) → Hp → Prop) : Prop := nodeM P0 T0 blossom_newSearch.A blossom_newSearch.code [1, 1, 1, 0, 1, 0] [] (blossom_newSearch.rq E K) (blossom_newSearch.f2 s3 t70 t71) H
def blossom_newSearch.b2 (s3 : Option Addr) (t70 : Int) (t71 : Int)  (X1 : Fr → Hp → Prop) (E : Value → Hp → Prop) (H : Hp) (K : (Option Addr) → Hp → Prop) : Prop := nodeM P0 T0 blossom_newSearch.A blossom_newSearch.code [1, 1, 1, 0, 1, 0, 0] [X1] (blossom_newSearch.rq E K) (blossom_newSearch.f2 s3 t70 t71) H
theorem blossom_newSearch.l2_rule { E : Value → Hp → Prop} {K : (Option Addr) → Hp → Prop} (I : (Option Addr) → Int → Int → Hp → Prop) (μ : (Option Addr) → Int → Int → Hp → Nat)
    (h : ∀ s3 t70 t71 H, I s3 t70 t71 H → ∀ X : Fr → Hp → Prop, (∀ s3' t70' t71' H', I s3' t70' t71' H' → μ s3' t70' t71' H' < μ s3 t70 t71 H → X (blossom_newSearch.f2 s3' t70' t71') H') → blossom_newSearch.b2 s3 t70 t71  X E H K)
    {s3 : Option Addr} {t70 : Int} {t71 : Int} {H : Hp} (hI : I s3 t70 t71 H) : blossom_newSearch.l2 s3 t70 t71  E H K :=
  loop_rule (S := (Option Addr) × Int × Int) (fun s => blossom_newSearch.f2 (s.1) (s.2.1) (s.2.2)) (fun s H => I (s.1) (s.2.1) (s.2.2) H) (fun s H => μ (s.1) (s.2.1) (s.2.2) H) (fun s H hI X hX => h (s.1) (s.2.1) (s.2.2) H hI X fun s3' t70' t71' H' hI' hlt => hX (s3', t70', t71') H' hI' hlt) (s := (s3, t70, t71)) rfl hI
theorem blossom_newSearch.nok : nodesOk blossom_newSearch.code [[0, 1, 0, 1, 1], [1, 1, 1, 0, 0, 1, 0, 1, 1], [1, 1, 1], [0, 1, 0, 1, 1, 1]] = true := by kernel_rfl
def blossom_newSearch.run_t (l1 : (Option Addr) → (Option Addr) → Nat → Nat → Int → Int → Hp → Prop) (g0_Nodes : Int) (g0_Edgesp : Option Addr) (g0_Edgesn : Nat) (g0_Edgesc : Nat)  (E : Value → Hp → Prop) (H : Hp) (K : (Option Addr) → Hp → Prop) : Prop :=
  nw H ⟨[.int .i64 g0_Nodes, .slice g0_Edgesp g0_Edgesn g0_Edgesc], 24⟩ fun b_1 H_1 =>
  ldI .i64 (H_1.get b_1 0) fun x_1 =>
  ldS (H_1.get b_1 1) fun x_2p x_2n x_2c =>
  ldI .i64 (H_1.get b_1 0) fun x_3 =>
  mkS x_3 x_3 25 [.sl] 24 H_1 fun b_2 H_2 =>
  ldI .i64 (H_2.get b_1 0) fun x_4 =>
  mkS x_4 x_4 3 [.i .i64] 8 H_2 fun b_3 H_3 =>
  nw H_3 ⟨[.int .i64 x_1, .slice x_2p x_2n x_2c, .slice (some ⟨b_2, 0, none⟩) x_3.toNat x_3.toNat, .slice (some ⟨b_3, 0, none⟩) x_4.toNat x_4.toNat, .slice none 0 0, .slice none 0 0, .slice none 0 0, .slice none 0 0], 71⟩ fun b_4 H_4 =>
  ldS (H_4.get b_1 1) fun x_5p x_5n x_5c =>
  l1 (some ⟨b_4, 0, none⟩) x_5p x_5n x_5c (x_5n : Int) 0 H_4
theorem blossom_newSearch.run_eq {g0_Nodes : Int} {g0_Edgesp : Option Addr} {g0_Edgesn : Nat} {g0_Edgesc : Nat} { E : Value → Hp → Prop} {H : Hp} {K : (Option Addr) → Hp → Prop} (h : blossom_newSearch.run_t (fun s3 t17p t17n t17c t18 t19 H => blossom_newSearch.l1 s3 t17p t17n t17c t18 t19  E H K) g0_Nodes g0_Edgesp g0_Edgesn g0_Edgesc  E H K) : blossom_newSearch.run g0_Nodes g0_Edgesp g0_Edgesn g0_Edgesc  E H K := by
  exact nodeR_imp2 (fun G => blossom_newSearch.run_t (fun s3 t17p t17n t17c t18 t19 H => G [0, 1, 0, 1, 1] [(3, .pointer s3), (17, .slice t17p t17n t17c), (18, .int .i64 t18), (19, .int .i64 t19)] H) g0_Nodes g0_Edgesp g0_Edgesn g0_Edgesc  E H K) blossom_newSearch.nok rfl (fun G => by kernel_rfl) (Eq.mp (by kernel_rfl) h)
def blossom_newSearch.j1_t  (s3 : Option Addr) (t17p : Option Addr) (t17n : Nat) (t17c : Nat) (t18 : Int) (t19 : Int) (X1 : Fr → Hp → Prop) (E : Value → Hp → Prop) (H : Hp) (K : (Option Addr) → Hp → Prop) : Prop :=
  X1 (blossom_newSearch.f1 s3 t17p t17n t17c t18 (IntKind.wrap .i64 (t19 + 1))) H
theorem blossom_newSearch.j1_eq {s3 : Option Addr} {t17p : Option Addr} {t17n : Nat} {t17c : Nat} {t18 : Int} {t19 : Int} {X1 : Fr → Hp → Prop} { E : Value → Hp → Prop} {H : Hp} {K : (Option Addr) → Hp → Prop} (h : blossom_newSearch.j1_t  s3 t17p t17n t17c t18 t19 X1 E H K) : blossom_newSearch.j1 s3 t17p t17n t17c t18 t19 X1 E H K := by
  exact nodeR_imp2 (fun _ => blossom_newSearch.j1_t  s3 t17p t17n t17c t18 t19 X1 E H K) blossom_newSearch.nok rfl (fun G => by kernel_rfl) h
def blossom_newSearch.j2_t (l2 : (Option Addr) → Int → Int → Hp → Prop) (s3 : Option Addr)  (E : Value → Hp → Prop) (H : Hp) (K : (Option Addr) → Hp → Prop) : Prop :=
  nn s3 fun b_1 o_1 =>
  ldS (H.get b_1 (o_1 + 3)) fun x_1p x_1n x_1c =>
  l2 s3 (x_1n : Int) 0 H
theorem blossom_newSearch.j2_eq {s3 : Option Addr} { E : Value → Hp → Prop} {H : Hp} {K : (Option Addr) → Hp → Prop} (h : blossom_newSearch.j2_t (fun s3 t70 t71 H => blossom_newSearch.l2 s3 t70 t71  E H K) s3  E H K) : blossom_newSearch.j2 s3  E H K := by
  exact nodeR_imp2 (fun G => blossom_newSearch.j2_t (fun s3 t70 t71 H => G [0, 1, 0, 1, 1, 1] [(3, .pointer s3), (70, .int .i64 t70), (71, .int .i64 t71)] H) s3  E H K) blossom_newSearch.nok rfl (fun G => by kernel_rfl) (Eq.mp (by kernel_rfl) h)
def blossom_newSearch.b1_t (j1 : (Option Addr) → (Option Addr) → Nat → Nat → Int → Int → Hp → Prop) (j2 : (Option Addr) → Hp → Prop) (s3 : Option Addr) (t17p : Option Addr) (t17n : Nat) (t17c : Nat) (t18 : Int) (t19 : Int) (X1 : Fr → Hp → Prop) (E : Value → Hp → Prop) (H : Hp) (K : (Option Addr) → Hp → Prop) : Prop :=
  bcase (decide ((t19 : Int) < t18)) (
  ix t17p t17n t19 4 fun b_1 o_1 =>
  ldI .i64 (H.get b_1 o_1) fun x_1 =>
  ldI .i64 (H.get b_1 (o_1 + 1)) fun x_2 =>
  ldI .i64 (H.get b_1 (o_1 + 2)) fun x_3 =>
  ldI .i64 (H.get b_1 (o_1 + 3)) fun x_4 =>
  nw H ⟨[.int .i64 0, .int .i64 0, .int .i64 0, .int .i64 0], 44⟩ fun b_2 H_1 =>
  stC H_1 b_2 0 [.int .i64 x_1, .int .i64 x_2, .int .i64 x_3, .int .i64 x_4] fun H_2 =>
  ldI .i64 (H_2.get b_2 0) fun x_5 =>
  ldI .i64 (H_2.get b_2 1) fun x_6 =>
  bcase (!decide ((x_5 : Int) = x_6)) (
  nn s3 fun b_3 o_2 =>
  ldS (H_2.get b_3 (o_2 + 2)) fun x_7p x_7n x_7c =>
  ldI .i64 (H_2.get b_2 0) fun x_8 =>
  nn s3 fun b_4 o_3 =>
  ldS (H_2.get b_4 (o_3 + 2)) fun x_9p x_9n x_9c =>
  ldI .i64 (H_2.get b_2 0) fun x_10 =>
  ix x_9p x_9n x_10 1 fun b_5 o_4 =>
  ldS (H_2.get b_5 o_4) fun x_11p x_11n x_11c =>
  nw H_2 ⟨[.int .i64 t19], 3⟩ fun b_6 H_3 =>
  appM 3 [.i .i64] 8 x_11p x_11n x_11c (some ⟨b_6, 0, none⟩) 1 H_3 fun a_1p a_1n a_1c H_4 =>
  (ldS (H_4.get b_3 (o_2 + 2)) fun x_20p x_20n x_20c =>
  Value.slice x_20p x_20n x_20c = Value.slice x_7p x_7n x_7c) ∧
  (ldI .i64 (H_4.get b_2 0) fun x_19 =>
  Value.int .i64 x_19 = Value.int .i64 x_8) ∧
  ix x_7p x_7n x_8 1 fun b_7 o_5 =>
  stC H_4 b_7 o_5 [.slice a_1p a_1n a_1c] fun H_5 =>
  nn s3 fun b_8 o_6 =>
  ldS (H_5.get b_8 (o_6 + 2)) fun x_12p x_12n x_12c =>
  ldI .i64 (H_5.get b_2 1) fun x_13 =>
  nn s3 fun b_9 o_7 =>
  ldS (H_5.get b_9 (o_7 + 2)) fun x_14p x_14n x_14c =>
  ldI .i64 (H_5.get b_2 1) fun x_15 =>
  ix x_14p x_14n x_15 1 fun b_10 o_8 =>
  ldS (H_5.get b_10 o_8) fun x_16p x_16n x_16c =>
  nw H_5 ⟨[.int .i64 t19], 3⟩ fun b_11 H_6 =>
  appM 3 [.i .i64] 8 x_16p x_16n x_16c (some ⟨b_11, 0, none⟩) 1 H_6 fun a_2p a_2n a_2c H_7 =>
  (ldS (H_7.get b_8 (o_6 + 2)) fun x_18p x_18n x_18c =>
  Value.slice x_18p x_18n x_18c = Value.slice x_12p x_12n x_12c) ∧
  (ldI .i64 (H_7.get b_2 1) fun x_17 =>
  Value.int .i64 x_17 = Value.int .i64 x_13) ∧
  ix x_12p x_12n x_13 1 fun b_12 o_9 =>
  stC H_7 b_12 o_9 [.slice a_2p a_2n a_2c] fun H_8 =>
  j1 s3 t17p t17n t17c t18 t19 H_8)
  (j1 s3 t17p t17n t17c t18 t19 H_2))
  (j2 s3 H)
theorem blossom_newSearch.b1_eq {s3 : Option Addr} {t17p : Option Addr} {t17n : Nat} {t17c : Nat} {t18 : Int} {t19 : Int} {X1 : Fr → Hp → Prop} { E : Value → Hp → Prop} {H : Hp} {K : (Option Addr) → Hp → Prop} (h : blossom_newSearch.b1_t (fun s3 t17p t17n t17c t18 t19 H => blossom_newSearch.j1 s3 t17p t17n t17c t18 t19 X1 E H K) (fun s3 H => blossom_newSearch.j2 s3  E H K) s3 t17p t17n t17c t18 t19 X1 E H K) : blossom_newSearch.b1 s3 t17p t17n t17c t18 t19 X1 E H K := by
  exact nodeR_imp2 (fun G => blossom_newSearch.b1_t (fun s3 t17p t17n t17c t18 t19 H => G [1, 1, 1, 0, 0, 1, 0, 1, 1] [(3, .pointer s3), (17, .slice t17p t17n t17c), (18, .int .i64 t18), (19, .int .i64 t19)] H) (fun s3 H => G [1, 1, 1] [(3, .pointer s3)] H) s3 t17p t17n t17c t18 t19 X1 E H K) blossom_newSearch.nok rfl (fun G => by kernel_rfl) (Eq.mp (by kernel_rfl) h)
def blossom_newSearch.b2_t  (s3 : Option Addr) (t70 : Int) (t71 : Int) (X1 : Fr → Hp → Prop) (E : Value → Hp → Prop) (H : Hp) (K : (Option Addr) → Hp → Prop) : Prop :=
  bcase (decide ((t71 : Int) < t70)) (
  nn s3 fun b_1 o_1 =>
  ldS (H.get b_1 (o_1 + 3)) fun x_1p x_1n x_1c =>
  ix x_1p x_1n t71 1 fun b_2 o_2 =>
  stC H b_2 o_2 [.int .i64 (-1)] fun H_1 =>
  X1 (blossom_newSearch.f2 s3 t70 (IntKind.wrap .i64 (t71 + 1))) H_1)
  (K s3 H)
theorem blossom_newSearch.b2_eq {s3 : Option Addr} {t70 : Int} {t71 : Int} {X1 : Fr → Hp → Prop} { E : Value → Hp → Prop} {H : Hp} {K : (Option Addr) → Hp → Prop} (h : blossom_newSearch.b2_t  s3 t70 t71 X1 E H K) : blossom_newSearch.b2 s3 t70 t71 X1 E H K := by
  exact nodeR_imp2 (fun _ => blossom_newSearch.b2_t  s3 t70 t71 X1 E H K) blossom_newSearch.nok rfl (fun G => by kernel_rfl) h
/-! ### (*compass/blossom.search).turn (39) -/
noncomputable def blossom_search_turn.A : An := { live := [(0, [0, 1]), (1, [0, 1]), (2, [0, 1, 4]), (3, [0, 1, 4, 5]), (4, [0, 1, 4, 5, 6]), (5, [0, 1, 4, 5]), (6, [0, 1, 4, 5, 6]), (7, [0, 6])], ord := [(6, [0, 1, 2, 3, 4, 5, 6, 7, 8, 9, 10, 11, 12, 13, 14, 15])], stb := [], pre := [(6, [[], [0], [0, 1], [0, 1, 2], [], [], [5], [5, 6], [5, 6, 7], [], [], [], [0, 1, 2, 3, 4, 5, 6, 7, 8, 10], [0, 1, 2, 3, 4, 5, 6, 7, 8, 10, 12], [0, 1, 2, 3, 4, 5, 6, 7, 8, 9, 10, 11, 12, 13], [0, 1, 2, 3, 4, 5, 6, 7, 8, 9, 10, 11, 12, 13, 14]])] }
noncomputable def blossom_search_turn.code : Code := bodyOf Go.Proofs.Try.f39
theorem blossom_search_turn.ok : okCode blossom_search_turn.A 46 blossom_search_turn.code = true := by kernel_rfl
def blossom_search_turn.rq (E : Value → Hp → Prop) (K : Hp → Prop) : Ex → Fr → Hp → Prop := retQ T0 [] [] (fun r H => ldR (.tup []) r fun u => K  H) E
def blossom_search_turn.run (s0 : Option Addr) (w1 : Int) (E : Value → Hp → Prop) (H : Hp) (K : Hp → Prop) : Prop := nodeM P0 T0 blossom_search_turn.A blossom_search_turn.code [] [] (blossom_search_turn.rq E K) (argF 0 [.pointer s0, .int .i64 w1]) H
theorem blossom_search_turn.of {s0 : Option Addr} {w1 : Int} {E : Value → Hp → Prop} {H : Hp} {K : Hp → Prop} (h : blossom_search_turn.run s0 w1 E H K) : blossom_search_turn.call s0 w1 E H K :=
  callW_of T0_ok P0_mixed (A := blossom_search_turn.A) (fn := Go.Proofs.Try.f39) Go.Proofs.Try.func39 rfl blossom_search_turn.ok rfl h
noncomputable def blossom_search_turn.f1 (s0 : Option Addr) (w1 : Int) : Fr := [(0, .pointer s0), (1, .int .i64 w1)]
def blossom_search_turn.j1 (s0 : Option Addr) (w1 : Int) (i4 : Int) (v5 : Int) (ne6 : Int) (X1 : Fr → Hp → Prop) (E : Value → Hp → Prop) (H : Hp) (K : Hp → Prop) : Prop := nodeM P0 T0 blossom_search_turn.A blossom_search_turn.code [0, 0, 1, 0, 1, 1, 1, 1] [X1] (blossom_search_turn.rq E K) [(0, .pointer s0), (1, .int .i64 w1), (4, .int .i64 i4), (5, .int .i64 v5), (6, .int .i64 ne6)] H
def blossom_search_turn.l1 (s0 : Option Addr) (w1 : Int)  (E : Value → Hp → Prop) (H : Hp) (K : Hp → Prop) : Prop := nodeM P0 T0 blossom_search_turn.A blossom_search_turn.code [0] [] (blossom_search_turn.rq E K) (blossom_search_turn.f1 s0 w1) H
def blossom_search_turn.b1 (s0 : Option Addr) (w1 : Int)  (X1 : Fr → Hp → Prop) (E : Value → Hp → Prop) (H : Hp) (K : Hp → Prop) : Prop := nodeM P0 T0 blossom_search_turn.A blossom_search_turn.code [0, 0] [X1] (blossom_search_turn.rq E K) (blossom_search_turn.f1 s0 w1) H
theorem blossom_search_turn.l1_rule { E : Value → Hp → Prop} {K : Hp → Prop} (I : (Option Addr) → Int → Hp → Prop) (μ : (Option Addr) → Int → Hp → Nat)
    (h : ∀ s0 w1 H, I s0 w1 H → ∀ X : Fr → Hp → Prop, (∀ s0' w1' H', I s0' w1' H' → μ s0' w1' H' < μ s0 w1 H → X (blossom_search_turn.f1 s0' w1') H') → blossom_search_turn.b1 s0 w1  X E H K)
    {s0 : Option Addr} {w1 : Int} {H : Hp} (hI : I s0 w1 H) : blossom_search_turn.l1 s0 w1  E H K :=
  loop_rule (S := (Option Addr) × Int) (fun s => blossom_search_turn.f1 (s.1) (s.2)) (fun s H => I (s.1) (s.2) H) (fun s H => μ (s.1) (s.2) H) (fun s H hI X hX => h (s.1) (s.2) H hI X fun s0' w1' H' hI' hlt => hX (s0', w1') H' hI' hlt) (s := (s0, w1)) rfl hI
theorem blossom_search_turn.nok : nodesOk blossom_search_turn.code [[0], [1, 1, 1, 1, 0, 1, 0, 0]] = true := by kernel_rfl
def blossom_search_turn.run_t (l1 : (Option Addr) → Int → Hp → Prop) (s0 : Option Addr) (w1 : Int)  (E : Value → Hp → Prop) (H : Hp) (K : Hp → Prop) : Prop :=
  l1 s0 w1 H
theorem blossom_search_turn.run_eq {s0 : Option Addr} {w1 : Int} { E : Value → Hp → Prop} {H : Hp} {K : Hp → Prop} (h : blossom_search_turn.run_t (fun s0 w1 H => blossom_search_turn.l1 s0 w1  E H K) s0 w1  E H K) : blossom_search_turn.run s0 w1  E H K := by
  exact nodeR_imp2 (fun G => blossom_search_turn.run_t (fun s0 w1 H => G [0] [(0, .pointer s0), (1, .int .i64 w1)] H) s0 w1  E H K) blossom_search_turn.nok rfl (fun G => by kernel_rfl) (Eq.mp (by kernel_rfl) h)
def blossom_search_turn.j1_t  (s0 : Option Addr) (w1 : Int) (i4 : Int) (v5 : Int) (ne6 : Int) (X1 : Fr → Hp → Prop) (E : Value → Hp → Prop) (H : Hp) (K : Hp → Prop) : Prop :=
  nn s0 fun b_1 o_1 =>
  ldS (H.get b_1 (o_1 + 3)) fun x_1p x_1n x_1c =>
  nn s0 fun b_2 o_2 =>
  ldS (H.get b_2 (o_2 + 3)) fun x_2p x_2n x_2c =>
  ix x_1p x_1n w1 1 fun b_3 o_3 =>
  stC H b_3 o_3 [.int .i64 i4] fun H_1 =>
  ix x_2p x_2n v5 1 fun b_4 o_4 =>
  stC H_1 b_4 o_4 [.int .i64 i4] fun H_2 =>
  X1 (blossom_search_turn.f1 s0 ne6) H_2
theorem blossom_search_turn.j1_eq {s0 : Option Addr} {w1 : Int} {i4 : Int} {v5 : Int} {ne6 : Int} {X1 : Fr → Hp → Prop} { E : Value → Hp → Prop} {H : Hp} {K : Hp → Prop} (h : blossom_search_turn.j1_t  s0 w1 i4 v5 ne6 X1 E H K) : blossom_search_turn.j1 s0 w1 i4 v5 ne6 X1 E H K := by
  exact nodeR_imp2 (fun _ => blossom_search_turn.j1_t  s0 w1 i4 v5 ne6 X1 E H K) blossom_search_turn.nok rfl (fun G => by kernel_rfl) h
def blossom_search_turn.b1_t (j1 : (Option Addr) → Int → Int → Int → Int → Hp → Prop) (s0 : Option Addr) (w1 : Int) (X1 : Fr → Hp → Prop) (E : Value → Hp → Prop) (H : Hp) (K : Hp → Prop) : Prop :=
  bcase (decide ((0 : Int) ≤ w1)) (
  nn s0 fun b_1 o_1 =>
  ldS (H.get b_1 (o_1 + 5)) fun x_1p x_1n x_1c =>
  ix x_1p x_1n w1 1 fun b_2 o_2 =>
  ldI .i64 (H.get b_2 o_2) fun x_2 =>
  blossom_search_other.call s0 x_2 w1 E H fun r_1 H_1 =>
  nn s0 fun b_3 o_3 =>
  ldS (H_1.get b_3 (o_3 + 3)) fun x_3p x_3n x_3c =>
  ix x_3p x_3n r_1 1 fun b_4 o_4 =>
  ldI .i64 (H_1.get b_4 o_4) fun x_4 =>
  bcase (decide ((0 : Int) ≤ x_4)) (
  blossom_search_mate.call s0 r_1 E H_1 fun r_2 H_2 =>
  j1 s0 w1 x_2 r_1 r_2 H_2)
  (j1 s0 w1 x_2 r_1 (-1) H_1))
  (K H)
theorem blossom_search_turn.b1_eq {s0 : Option Addr} {w1 : Int} {X1 : Fr → Hp → Prop} { E : Value → Hp → Prop} {H : Hp} {K : Hp → Prop} (h : blossom_search_turn.b1_t (fun s0 w1 i4 v5 ne6 H => blossom_search_turn.j1 s0 w1 i4 v5 ne6 X1 E H K) s0 w1 X1 E H K) : blossom_search_turn.b1 s0 w1 X1 E H K := by
  exact nodeR_imp2 (fun G => blossom_search_turn.b1_t (fun s0 w1 i4 v5 ne6 H => G [1, 1, 1, 1, 0, 1, 0, 0] [(0, .pointer s0), (1, .int .i64 w1), (4, .int .i64 i4), (5, .int .i64 v5), (6, .int .i64 ne6)] H) s0 w1 X1 E H K) blossom_search_turn.nok rfl (fun G => by kernel_rfl) (Eq.mp (by kernel_rfl) h)
/-! ### (*compass/blossom.search).grow (40) -/
noncomputable def blossom_search_grow.A : An := { live := [(0, [0, 1]), (1, [0, 1]), (2, [0]), (3, [0]), (4, [0, 5]), (5, [0, 5]), (6, [0, 5, 39, 40, 41]), (7, [0, 5, 39, 40, 41]), (8, [0, 5, 7, 39, 40, 41]), (9, [0, 5, 7, 8, 39, 40, 41]), (10, [0, 5, 7, 8, 39, 40, 41]), (11, [0, 5, 7, 39, 40, 41]), (12, [0, 5, 7, 8, 39, 40, 41]), (13, [0, 5, 7, 8, 39, 40, 41]), (14, [0, 5, 8, 39, 40, 41]), (15, [8]), (16, [0, 5, 8, 39, 40, 41]), (17, [0, 5, 9, 39, 40, 41]), (18, [0, 5, 9, 39, 40, 41]), (19, [0, 5, 39, 40, 41]), (20, [])], ord := [(9, [0, 1, 2, 3, 4, 5, 6, 7, 8, 9, 10, 11, 12, 13, 14, 15, 16, 17, 18, 19, 20, 21, 22, 23, 24, 25, 26])], stb := [], pre := [(9, [[], [0], [0, 1], [0, 1, 2], [], [0, 1, 2, 3, 4], [0, 1, 2, 3, 4, 5], [], [7], [7, 8], [7, 8, 9], [], [7, 8, 9, 10, 11], [7, 8, 9, 10, 11, 12], [0, 1, 2, 3, 4, 5, 6, 7, 8, 9, 10, 11, 12, 13], [0, 1, 2, 3, 4, 5, 6, 7, 8, 9, 10, 11, 12, 13, 14], [0, 1, 2, 3, 4, 5, 6, 7, 8, 9, 10, 11, 12, 13, 14, 15], [0, 1, 2, 3, 4, 5, 6, 7, 8, 9, 10, 11, 12, 13, 14, 15, 16], [0, 1, 2, 3, 4, 5, 6, 7, 8, 9, 10, 11, 12, 13, 14, 15, 16, 17], [0, 1, 2, 3, 4, 5, 6, 7, 8, 9, 10, 11, 12, 13, 14, 15, 16, 17, 18], [0, 1, 2, 3, 4, 5, 6, 7, 8, 9, 10, 11, 12, 13, 14, 15], [0, 1, 2, 3, 4, 5, 6, 7, 8, 9, 10, 11, 12, 13, 14, 15, 16, 17, 18, 19, 20], [0, 1, 2, 3, 4, 5, 6, 7, 8, 9, 10, 11, 12, 13, 14, 15, 16, 17, 18, 19, 20, 21], [0, 1, 2, 3, 4, 5, 6, 7, 8, 9, 10, 11, 12, 13, 14, 15], [0, 1, 2, 3, 4, 5, 6, 7, 8, 9, 10, 11, 12, 13, 14, 15, 16, 17, 18, 19, 20, 21, 22, 23], [0, 1, 2, 3, 4, 5, 6, 7, 8, 9, 10, 11, 12, 13, 14, 15, 16, 17, 18, 19, 20, 21, 22, 23, 24], [0, 1, 2, 3, 4, 5, 6, 7, 8, 9, 10, 11, 12, 13, 14, 15, 16, 17, 18, 19, 20, 21, 22, 23, 24, 25]])] }
noncomputable def blossom_search_grow.code : Code := bodyOf Go.Proofs.Try.f40
theorem blossom_search_grow.ok : okCode blossom_search_grow.A 132 blossom_search_grow.code = true := by kernel_rfl
def blossom_search_grow.rq (E : Value → Hp → Prop) (K : Int → Hp → Prop) : Ex → Fr → Hp → Prop := retQ T0 [.tmp 4] [3] (fun r H => ldR (.one false [.i .i64]) r fun u => K (asI u) H) E
def blossom_search_grow.run (s0 : Option Addr) (ro1 : Int) (E : Value → Hp → Prop) (H : Hp) (K : Int → Hp → Prop) : Prop := nodeM P0 T0 blossom_search_grow.A blossom_search_grow.code [] [] (blossom_search_grow.rq E K) (argF 0 [.pointer s0, .int .i64 ro1]) H
theorem blossom_search_grow.of {s0 : Option Addr} {ro1 : Int} {E : Value → Hp → Prop} {H : Hp} {K : Int → Hp → Prop} (h : blossom_search_grow.run s0 ro1 E H K) : blossom_search_grow.call s0 ro1 E H K :=
  callW_of T0_ok P0_mixed (A := blossom_search_grow.A) (fn := Go.Proofs.Try.f40) Go.Proofs.Try.func40 rfl blossom_search_grow.ok rfl h
noncomputable def blossom_search_grow.f1 (s0 : Option Addr) : Fr := [(0, .pointer s0)]
noncomputable def blossom_search_grow.f2 (s0 : Option Addr) (v5 : Int) (t39p : Option Addr) (t39n : Nat) (t39c : Nat) (t40 : Int) (t41 : Int) : Fr := [(0, .pointer s0), (5, .int .i64 v5), (39, .slice t39p t39n t39c), (40, .int .i64 t40), (41, .int .i64 t41)]
def blossom_search_grow.j1 (s0 : Option Addr) (v5 : Int) (t39p : Option Addr) (t39n : Nat) (t39c : Nat) (t40 : Int) (t41 : Int) (X1 : Fr → Hp → Prop) (X2 : Fr → Hp → Prop) (E : Value → Hp → Prop) (H : Hp) (K : Int → Hp → Prop) : Prop := nodeM P0 T0 blossom_search_grow.A blossom_search_grow.code [1, 1, 0, 0, 0, 1, 0, 1, 1, 1, 0, 0, 1, 1, 1] [X1, X2] (blossom_search_grow.rq E K) [(0, .pointer s0), (5, .int .i64 v5), (39, .slice t39p t39n t39c), (40, .int .i64 t40), (41, .int .i64 t41)] H
def blossom_search_grow.l1 (s0 : Option Addr)  (E : Value → Hp → Prop) (H : Hp) (K : Int → Hp → Prop) : Prop := nodeM P0 T0 blossom_search_grow.A blossom_search_grow.code [1, 1, 0, 0] [] (blossom_search_grow.rq E K) (blossom_search_grow.f1 s0) H
def blossom_search_grow.b1 (s0 : Option Addr)  (X1 : Fr → Hp → Prop) (E : Value → Hp → Prop) (H : Hp) (K : Int → Hp → Prop) : Prop := nodeM P0 T0 blossom_search_grow.A blossom_search_grow.code [1, 1, 0, 0, 0] [X1] (blossom_search_grow.rq E K) (blossom_search_grow.f1 s0) H
theorem blossom_search_grow.l1_rule { E : Value → Hp → Prop} {K : Int → Hp → Prop} (I : (Option Addr) → Hp → Prop) (μ : (Option Addr) → Hp → Nat)
    (h : ∀ s0 H, I s0 H → ∀ X : Fr → Hp → Prop, (∀ s0' H', I s0' H' → μ s0' H' < μ s0 H → X (blossom_search_grow.f1 s0') H') → blossom_search_grow.b1 s0  X E H K)
    {s0 : Option Addr} {H : Hp} (hI : I s0 H) : blossom_search_grow.l1 s0  E H K :=
  loop_rule (S := (Option Addr)) (fun s => blossom_search_grow.f1 s) (fun s H => I s H) (fun s H => μ s H) (fun s H hI X hX => h s H hI X fun s0' H' hI' hlt => hX s0' H' hI' hlt) (s := s0) rfl hI
def blossom_search_grow.l2 (s0 : Option Addr) (v5 : Int) (t39p : Option Addr) (t39n : Nat) (t39c : Nat) (t40 : Int) (t41 : Int) (X1 : Fr → Hp → Prop) (E : Value → Hp → Prop) (H : Hp) (K : Int → Hp → Prop) : Prop := nodeM P0 T0 blossom_search_grow.A blossom_search_grow.code [1, 1, 0, 0, 0, 1, 0, 1, 1, 1, 0] [X1] (blossom_search_grow.rq E K) (blossom_search_grow.f2 s0 v5 t39p t39n t39c t40 t41) H
def blossom_search_grow.b2 (s0 : Option Addr) (v5 : Int) (t39p : Option Addr) (t39n : Nat) (t39c : Nat) (t40 : Int) (t41 : Int) (X1 : Fr → Hp → Prop) (X2 : Fr → Hp → Prop) (E : Value → Hp → Prop) (H : Hp) (K : Int → Hp → Prop) : Prop := nodeM P0 T0 blossom_search_grow.A blossom_search_grow.code [1, 1, 0, 0, 0, 1, 0, 1, 1, 1, 0, 0] [X1, X2] (blossom_search_grow.rq E K) (blossom_search_grow.f2 s0 v5 t39p t39n t39c t40 t41) H
theorem blossom_search_grow.l2_rule {X1 : Fr → Hp → Prop} { E : Value → Hp → Prop} {K : Int → Hp → Prop} (I : (Option Addr) → Int → (Option Addr) → Nat → Nat → Int → Int → Hp → Prop) (μ : (Option Addr) → Int → (Option Addr) → Nat → Nat → Int → Int → Hp → Nat)
    (h : ∀ s0 v5 t39p t39n t39c t40 t41 H, I s0 v5 t39p t39n t39c t40 t41 H → ∀ X : Fr → Hp → Prop, (∀ s0' v5' t39p' t39n' t39c' t40' t41' H', I s0' v5' t39p' t39n' t39c' t40' t41' H' → μ s0' v5' t39p' t39n' t39c' t40' t41' H' < μ s0 v5 t39p t39n t39c t40 t41 H → X (blossom_search_grow.f2 s0' v5' t39p' t39n' t39c' t40' t41') H') → blossom_search_grow.b2 s0 v5 t39p t39n t39c t40 t41 X1 X E H K)
    {s0 : Option Addr} {v5 : Int} {t39p : Option Addr} {t39n : Nat} {t39c : Nat} {t40 : Int} {t41 : Int} {H : Hp} (hI : I s0 v5 t39p t39n t39c t40 t41 H) : blossom_search_grow.l2 s0 v5 t39p t39n t39c t40 t41 X1 E H K :=
  loop_rule (S := (Option Addr) × Int × (Option Addr) × Nat × Nat × Int × Int) (fun s => blossom_search_grow.f2 (s.1) (s.2.1) (s.2.2.1) (s.2.2.2.1) (s.2.2.2.2.1) (s.2.2.2.2.2.1) (s.2.2.2.2.2.2)) (fun s H => I (s.1) (s.2.1) (s.2.2.1) (s.2.2.2.1) (s.2.2.2.2.1) (s.2.2.2.2.2.1) (s.2.2.2.2.2.2) H) (fun s H => μ (s.1) (s.2.1) (s.2.2.1) (s.2.2.2.1) (s.2.2.2.2.1) (s.2.2.2.2.2.1) (s.2.2.2.2.2.2) H) (fun s H hI X hX => h (s.1) (s.2.1) (s.2.2.1) (s.2.2.2.1) (s.2.2.2.2.1) (s.2.2.2.2.2.1) (s.2.2.2.2.2.2) H hI X fun s0' v5' t39p' t39n' t39c' t40' t41' H' hI' hlt => hX (s0', v5', t39p', t39n', t39c', t40', t41') H' hI' hlt) (s := (s0, v5, t39p, t39n, t39c, t40, t41)) rfl hI
theorem blossom_search_grow.nok : nodesOk blossom_search_grow.code [[0, 0, 1, 1], [0, 1, 1, 1, 0, 1, 0, 0, 0, 1, 1], [1, 1, 1, 0, 0, 1, 1, 1, 0, 1, 0, 0, 0, 1, 1]] = true := by kernel_rfl
def blossom_search_grow.run_t (l1 : (Option Addr) → Hp → Prop) (s0 : Option Addr) (ro1 : Int)  (E : Value → Hp → Prop) (H : Hp) (K : Int → Hp → Prop) : Prop :=
  blossom_search_begin.call s0 ro1 E H fun H_1 =>
  l1 s0 H_1
theorem blossom_search_grow.run_eq {s0 : Option Addr} {ro1 : Int} { E : Value → Hp → Prop} {H : Hp} {K : Int → Hp → Prop} (h : blossom_search_grow.run_t (fun s0 H => blossom_search_grow.l1 s0  E H K) s0 ro1  E H K) : blossom_search_grow.run s0 ro1  E H K := by
  exact nodeR_imp2 (fun G => blossom_search_grow.run_t (fun s0 H => G [0, 0, 1, 1] [(0, .pointer s0)] H) s0 ro1  E H K) blossom_search_grow.nok rfl (fun G => by kernel_rfl) (Eq.mp (by kernel_rfl) h)
def blossom_search_grow.j1_t  (s0 : Option Addr) (v5 : Int) (t39p : Option Addr) (t39n : Nat) (t39c : Nat) (t40 : Int) (t41 : Int) (X1 : Fr → Hp → Prop) (X2 : Fr → Hp → Prop) (E : Value → Hp → Prop) (H : Hp) (K : Int → Hp → Prop) : Prop :=
  X2 (blossom_search_grow.f2 s0 v5 t39p t39n t39c t40 (IntKind.wrap .i64 (t41 + 1))) H
theorem blossom_search_grow.j1_eq {s0 : Option Addr} {v5 : Int} {t39p : Option Addr} {t39n : Nat} {t39c : Nat} {t40 : Int} {t41 : Int} {X1 X2 : Fr → Hp → Prop} { E : Value → Hp → Prop} {H : Hp} {K : Int → Hp → Prop} (h : blossom_search_grow.j1_t  s0 v5 t39p t39n t39c t40 t41 X1 X2 E H K) : blossom_search_grow.j1 s0 v5 t39p t39n t39c t40 t41 X1 X2 E H K := by
  exact nodeR_imp2 (fun _ => blossom_search_grow.j1_t  s0 v5 t39p t39n t39c t40 t41 X1 X2 E H K) blossom_search_grow.nok rfl (fun G => by kernel_rfl) h
def blossom_search_grow.b1_t (l2 : (Option Addr) → Int → (Option Addr) → Nat → Nat → Int → Int → Hp → Prop) (s0 : Option Addr) (X1 : Fr → Hp → Prop) (E : Value → Hp → Prop) (H : Hp) (K : Int → Hp → Prop) : Prop :=
  nn s0 fun b_1 o_1 =>
  ldS (H.get b_1 (o_1 + 7)) fun x_1p x_1n x_1c =>
  bcase (decide ((0 : Int) < (x_1n : Int))) (
  nn s0 fun b_2 o_2 =>
  ldS (H.get b_2 (o_2 + 7)) fun x_2p x_2n x_2c =>
  ix x_2p x_2n 0 1 fun b_3 o_3 =>
  ldI .i64 (H.get b_3 o_3) fun x_3 =>
  nn s0 fun b_4 o_4 =>
  ldS (H.get b_4 (o_4 + 7)) fun x_4p x_4n x_4c =>
  ((0 : Int) ≤ 1 ∧ 1 ≤ (x_4n : Int)) ∧
  nn s0 fun b_5 o_5 =>
  stC H b_5 (o_5 + 7) [.slice (slp x_4p 1 x_4c 1) (x_4n - 1) (x_4c - 1)] fun H_1 =>
  nn s0 fun b_6 o_6 =>
  ldS (H_1.get b_6 (o_6 + 2)) fun x_5p x_5n x_5c =>
  ix x_5p x_5n x_3 1 fun b_7 o_7 =>
  ldS (H_1.get b_7 o_7) fun x_6p x_6n x_6c =>
  l2 s0 x_3 x_6p x_6n x_6c (x_6n : Int) 0 H_1)
  (K (-1) H)
theorem blossom_search_grow.b1_eq {s0 : Option Addr} {X1 : Fr → Hp → Prop} { E : Value → Hp → Prop} {H : Hp} {K : Int → Hp → Prop} (h : blossom_search_grow.b1_t (fun s0 v5 t39p t39n t39c t40 t41 H => blossom_search_grow.l2 s0 v5 t39p t39n t39c t40 t41 X1 E H K) s0 X1 E H K) : blossom_search_grow.b1 s0 X1 E H K := by
  exact nodeR_imp2 (fun G => blossom_search_grow.b1_t (fun s0 v5 t39p t39n t39c t40 t41 H => G [0, 1, 1, 1, 0, 1, 0, 0, 0, 1, 1] [(0, .pointer s0), (5, .int .i64 v5), (39, .slice t39p t39n t39c), (40, .int .i64 t40), (41, .int .i64 t41)] H) s0 X1 E H K) blossom_search_grow.nok rfl (fun G => by kernel_rfl) (Eq.mp (by kernel_rfl) h)
def blossom_search_grow.b2_t (j1 : (Option Addr) → Int → (Option Addr) → Nat → Nat → Int → Int → Hp → Prop) (s0 : Option Addr) (v5 : Int) (t39p : Option Addr) (t39n : Nat) (t39c : Nat) (t40 : Int) (t41 : Int) (X1 : Fr → Hp → Prop) (X2 : Fr → Hp → Prop) (E : Value → Hp → Prop) (H : Hp) (K : Int → Hp → Prop) : Prop :=
  bcase (decide ((t41 : Int) < t40)) (
  ix t39p t39n t41 1 fun b_1 o_1 =>
  ldI .i64 (H.get b_1 o_1) fun x_1 =>
  blossom_search_other.call s0 x_1 v5 E H fun r_1 H_1 =>
  nn s0 fun b_2 o_2 =>
  ldS (H_1.get b_2 (o_2 + 4)) fun x_2p x_2n x_2c =>
  ix x_2p x_2n r_1 1 fun b_3 o_3 =>
  ldI .i64 (H_1.get b_3 o_3) fun x_3 =>
  nn s0 fun b_4 o_4 =>
  ldS (H_1.get b_4 (o_4 + 4)) fun x_4p x_4n x_4c =>
  ix x_4p x_4n v5 1 fun b_5 o_5 =>
  ldI .i64 (H_1.get b_5 o_5) fun x_5 =>
  bcase (decide ((x_3 : Int) = x_5)) (
  j1 s0 v5 t39p t39n t39c t40 t41 H_1)
  (nn s0 fun b_6 o_6 =>
  ldS (H_1.get b_6 (o_6 + 3)) fun x_6p x_6n x_6c =>
  ix x_6p x_6n v5 1 fun b_7 o_7 =>
  ldI .i64 (H_1.get b_7 o_7) fun x_7 =>
  bcase (decide ((x_7 : Int) = x_1)) (
  j1 s0 v5 t39p t39n t39c t40 t41 H_1)
  (nn s0 fun b_8 o_8 =>
  ldS (H_1.get b_8 (o_8 + 6)) fun x_8p x_8n x_8c =>
  ix x_8p x_8n r_1 1 fun b_9 o_9 =>
  ldB (H_1.get b_9 o_9) fun x_9 =>
  bcase (x_9) (
  blossom_search_shrink.call s0 x_1 E H_1 fun H_2 =>
  j1 s0 v5 t39p t39n t39c t40 t41 H_2)
  (nn s0 fun b_10 o_10 =>
  ldS (H_1.get b_10 (o_10 + 5)) fun x_10p x_10n x_10c =>
  ix x_10p x_10n r_1 1 fun b_11 o_11 =>
  ldI .i64 (H_1.get b_11 o_11) fun x_11 =>
  bcase (decide ((x_11 : Int) < 0)) (
  nn s0 fun b_12 o_12 =>
  ldS (H_1.get b_12 (o_12 + 5)) fun x_12p x_12n x_12c =>
  ix x_12p x_12n r_1 1 fun b_13 o_13 =>
  stC H_1 b_13 o_13 [.int .i64 x_1] fun H_3 =>
  nn s0 fun b_14 o_14 =>
  ldS (H_3.get b_14 (o_14 + 3)) fun x_13p x_13n x_13c =>
  ix x_13p x_13n r_1 1 fun b_15 o_15 =>
  ldI .i64 (H_3.get b_15 o_15) fun x_14 =>
  bcase (decide ((x_14 : Int) < 0)) (
  K r_1 H_3)
  (blossom_search_mate.call s0 r_1 E H_3 fun r_2 H_4 =>
  nn s0 fun b_16 o_16 =>
  ldS (H_4.get b_16 (o_16 + 6)) fun x_15p x_15n x_15c =>
  ix x_15p x_15n r_2 1 fun b_17 o_17 =>
  stC H_4 b_17 o_17 [.bool true] fun H_5 =>
  nn s0 fun b_18 o_18 =>
  ldS (H_5.get b_18 (o_18 + 7)) fun x_16p x_16n x_16c =>
  nw H_5 ⟨[.int .i64 r_2], 3⟩ fun b_19 H_6 =>
  appM 3 [.i .i64] 8 x_16p x_16n x_16c (some ⟨b_19, 0, none⟩) 1 H_6 fun a_1p a_1n a_1c H_7 =>
  nn s0 fun b_20 o_19 =>
  stC H_7 b_20 (o_19 + 7) [.slice a_1p a_1n a_1c] fun H_8 =>
  j1 s0 v5 t39p t39n t39c t40 t41 H_8))
  (j1 s0 v5 t39p t39n t39c t40 t41 H_1)))))
  (X1 (blossom_search_grow.f1 s0) H)
theorem blossom_search_grow.b2_eq {s0 : Option Addr} {v5 : Int} {t39p : Option Addr} {t39n : Nat} {t39c : Nat} {t40 : Int} {t41 : Int} {X1 X2 : Fr → Hp → Prop} { E : Value → Hp → Prop} {H : Hp} {K : Int → Hp → Prop} (h : blossom_search_grow.b2_t (fun s0 v5 t39p t39n t39c t40 t41 H => blossom_search_grow.j1 s0 v5 t39p t39n t39c t40 t41 X1 X2 E H K) s0 v5 t39p t39n t39c t40 t41 X1 X2 E H K) : blossom_search_grow.b2 s0 v5 t39p t39n t39c t40 t41 X1 X2 E H K := by
  exact nodeR_imp2 (fun G => blossom_search_grow.b2_t (fun s0 v5 t39p t39n t39c t40 t41 H => G [1, 1, 1, 0, 0, 1, 1, 1, 0, 1, 0, 0, 0, 1, 1] [(0, .pointer s0), (5, .int .i64 v5), (39, .slice t39p t39n t39c), (40, .int .i64 t40), (41, .int .i64 t41)] H) s0 v5 t39p t39n t39c t40 t41 X1 X2 E H K) blossom_search_grow.nok rfl (fun G => by kernel_rfl) (Eq.mp (by kernel_rfl) h)
/-! ### (*compass/blossom.search).mate (41) -/
noncomputable def blossom_search_mate.A : An := { live := [(0, [0, 1]), (1, [0, 1])], ord := [], stb := [], pre := [] }
noncomputable def blossom_search_mate.code : Code := bodyOf Go.Proofs.Try.f41
theorem blossom_search_mate.ok : okCode blossom_search_mate.A 15 blossom_search_mate.code = true := by kernel_rfl
def blossom_search_mate.rq (E : Value → Hp → Prop) (K : Int → Hp → Prop) : Ex → Fr → Hp → Prop := retQ T0 [.tmp 4] [3] (fun r H => ldR (.one false [.i .i64]) r fun u => K (asI u) H) E
def blossom_search_mate.run (s0 : Option Addr) (v1 : Int) (E : Value → Hp → Prop) (H : Hp) (K : Int → Hp → Prop) : Prop := nodeM P0 T0 blossom_search_mate.A blossom_search_mate.code [] [] (blossom_search_mate.rq E K) (argF 0 [.pointer s0, .int .i64 v1]) H
theorem blossom_search_mate.of {s0 : Option Addr} {v1 : Int} {E : Value → Hp → Prop} {H : Hp} {K : Int → Hp → Prop} (h : blossom_search_mate.run s0 v1 E H K) : blossom_search_mate.call s0 v1 E H K :=
  callW_of T0_ok P0_mixed (A := blossom_search_mate.A) (fn := Go.Proofs.Try.f41) Go.Proofs.Try.func41 rfl blossom_search_mate.ok rfl h
theorem blossom_search_mate.nok : nodesOk blossom_search_mate.code [] = true := by kernel_rfl
def blossom_search_mate.run_t  (s0 : Option Addr) (v1 : Int)  (E : Value → Hp → Prop) (H : Hp) (K : Int → Hp → Prop) : Prop :=
  nn s0 fun b_1 o_1 =>
  ldS (H.get b_1 (o_1 + 3)) fun x_1p x_1n x_1c =>
  ix x_1p x_1n v1 1 fun b_2 o_2 =>
  ldI .i64 (H.get b_2 o_2) fun x_2 =>
  blossom_search_other.call s0 x_2 v1 E H fun r_1 H_1 =>
  K r_1 H_1
theorem blossom_search_mate.run_eq {s0 : Option Addr} {v1 : Int} { E : Value → Hp → Prop} {H : Hp} {K : Int → Hp → Prop} (h : blossom_search_mate.run_t  s0 v1  E H K) : blossom_search_mate.run s0 v1  E H K := by
  exact nodeR_imp2 (fun _ => blossom_search_mate.run_t  s0 v1  E H K) blossom_search_mate.nok rfl (fun G => by kernel_rfl) h
/-! ### compass/blossom.Solve$1 (43) -/
noncomputable def blossom_Solve_1.A : An := { live := [(0, [0, 1, 2, 3]), (1, [0, 1, 2, 3])], ord := [(1, [0, 1, 2, 3, 4, 5, 6, 7])], stb := [(1, [(4, [0])])], pre := [(1, [[], [], [], [], [1, 2, 3], [0, 1, 2, 3, 4], [0, 1, 2, 3, 4, 5], [0, 1, 2, 3, 4, 5, 6]])] }
noncomputable def blossom_Solve_1.code : Code := bodyOf Go.Proofs.Try.f43
theorem blossom_Solve_1.ok : okCode blossom_Solve_1.A 13 blossom_Solve_1.code = true := by kernel_rfl
def blossom_Solve_1.rq (E : Value → Hp → Prop) (K : Bool → Hp → Prop) : Ex → Fr → Hp → Prop := retQ T0 [.tmp 5] [4] (fun r H => ldR (.one false [.bool]) r fun u => K (asB u) H) E
def blossom_Solve_1.run (i0 : Int) (c1b : Nat) (c1o : Nat) (c2b : Nat) (c2o : Nat) (c3b : Nat) (c3o : Nat) (E : Value → Hp → Prop) (H : Hp) (K : Bool → Hp → Prop) : Prop := nodeM P0 T0 blossom_Solve_1.A blossom_Solve_1.code [] [] (blossom_Solve_1.rq E K) (argF 0 [.int .i64 i0, .pointer (some ⟨c1b, c1o, none⟩), .pointer (some ⟨c2b, c2o, none⟩), .pointer (some ⟨c3b, c3o, none⟩)]) H
theorem blossom_Solve_1.of {i0 : Int} {c1b : Nat} {c1o : Nat} {c2b : Nat} {c2o : Nat} {c3b : Nat} {c3o : Nat} {E : Value → Hp → Prop} {H : Hp} {K : Bool → Hp → Prop} (h : blossom_Solve_1.run i0 c1b c1o c2b c2o c3b c3o E H K) : blossom_Solve_1.call i0 c1b c1o c2b c2o c3b c3o E H K :=
  callW_of T0_ok P0_mixed (A := blossom_Solve_1.A) (fn := Go.Proofs.Try.f43) Go.Proofs.Try.func43 rfl blossom_Solve_1.ok rfl h
theorem blossom_Solve_1.nok : nodesOk blossom_Solve_1.code [] = true := by kernel_rfl
def blossom_Solve_1.run_t  (i0 : Int) (c1b : Nat) (c1o : Nat) (c2b : Nat) (c2o : Nat) (c3b : Nat) (c3o : Nat)  (E : Value → Hp → Prop) (H : Hp) (K : Bool → Hp → Prop) : Prop :=
  ldS (H.get c1b c1o) fun x_1p x_1n x_1c =>
  ldP (H.get c2b c2o) fun x_2 =>
  ldI .i64 (H.get c3b c3o) fun x_3 =>
  blossom_search_other.call x_2 i0 x_3 E H fun r_1 H_1 =>
  (ldS (H_1.get c1b c1o) fun x_5p x_5n x_5c =>
  Value.slice x_5p x_5n x_5c = Value.slice x_1p x_1n x_1c) ∧
  ix x_1p x_1n r_1 1 fun b_1 o_1 =>
  ldB (H_1.get b_1 o_1) fun x_4 =>
  K x_4 H_1
theorem blossom_Solve_1.run_eq {i0 : Int} {c1b : Nat} {c1o : Nat} {c2b : Nat} {c2o : Nat} {c3b : Nat} {c3o : Nat} { E : Value → Hp → Prop} {H : Hp} {K : Bool → Hp → Prop} (h : blossom_Solve_1.run_t  i0 c1b c1o c2b c2o c3b c3o  E H K) : blossom_Solve_1.run i0 c1b c1o c2b c2o c3b c3o  E H K := by
  exact nodeR_imp2 (fun _ => blossom_Solve_1.run_t  i0 c1b c1o c2b c2o c3b c3o  E H K) blossom_Solve_1.nok rfl (fun G => by kernel_rfl) h
/-! ### (*compass/blossom.search).other (44) -/
noncomputable def blossom_search_other.A : An := { live := [(0, [0, 1, 2]), (1, [0, 1, 2])], ord := [(1, [0, 1, 2, 3, 4, 5, 6, 7, 8, 9, 10, 11, 12, 13, 14, 15, 16, 17, 18, 19, 20, 21])], stb := [], pre := [(1, [[], [0], [0, 1], [0, 1, 2], [0, 1, 2, 3], [], [0, 1, 2, 3, 4, 5], [0, 1, 2, 3, 4, 5, 6], [0, 1, 2, 3, 4, 5, 6, 7], [], [9], [9, 10], [9, 10, 11], [9, 10, 11, 12], [], [9, 10, 11, 12, 13, 14], [9, 10, 11, 12, 13, 14, 15], [9, 10, 11, 12, 13, 14, 15, 16], [0, 1, 2, 3, 4, 5, 6, 7, 8, 9, 10, 11, 12, 13, 14, 15, 16, 17], [], [0, 1, 2, 3, 4, 5, 6, 7, 8, 9, 10, 11, 12, 13, 14, 15, 16, 17, 18, 19], [0, 1, 2, 3, 4, 5, 6, 7, 8, 9, 10, 11, 12, 13, 14, 15, 16, 17, 18, 19, 20]])] }
noncomputable def blossom_search_other.code : Code := bodyOf Go.Proofs.Try.f44
theorem blossom_search_other.ok : okCode blossom_search_other.A 28 blossom_search_other.code = true := by kernel_rfl
def blossom_search_other.rq (E : Value → Hp → Prop) (K : Int → Hp → Prop) : Ex → Fr → Hp → Prop := retQ T0 [.tmp 6] [3] (fun r H => ldR (.one false [.i .i64]) r fun u => K (asI u) H) E
def blossom_search_other.run (s0 : Option Addr) (i1 : Int) (v2 : Int) (E : Value → Hp → Prop) (H : Hp) (K : Int → Hp → Prop) : Prop := nodeM P0 T0 blossom_search_other.A blossom_search_other.code [] [] (blossom_search_other.rq E K) (argF 0 [.pointer s0, .int .i64 i1, .int .i64 v2]) H
theorem blossom_search_other.of {s0 : Option Addr} {i1 : Int} {v2 : Int} {E : Value → Hp → Prop} {H : Hp} {K : Int → Hp → Prop} (h : blossom_search_other.run s0 i1 v2 E H K) : blossom_search_other.call s0 i1 v2 E H K :=
  callW_of T0_ok P0_mixed (A := blossom_search_other.A) (fn := Go.Proofs.Try.f44) Go.Proofs.Try.func44 rfl blossom_search_other.ok rfl h
theorem blossom_search_other.nok : nodesOk blossom_search_other.code [] = true := by kernel_rfl
def blossom_search_other.run_t  (s0 : Option Addr) (i1 : Int) (v2 : Int)  (E : Value → Hp → Prop) (H : Hp) (K : Int → Hp → Prop) : Prop :=
  nn s0 fun b_1 o_1 =>
  ldS (H.get b_1 (o_1 + 1)) fun x_1p x_1n x_1c =>
  ix x_1p x_1n i1 4 fun b_2 o_2 =>
  ldI .i64 (H.get b_2 o_2) fun x_2 =>
  nn s0 fun b_3 o_3 =>
  ldS (H.get b_3 (o_3 + 1)) fun x_3p x_3n x_3c =>
  ix x_3p x_3n i1 4 fun b_4 o_4 =>
  ldI .i64 (H.get b_4 (o_4 + 1)) fun x_4 =>
  K (IntKind.wrap .i64 ((IntKind.wrap .i64 (x_2 + x_4)) - v2)) H
theorem blossom_search_other.run_eq {s0 : Option Addr} {i1 : Int} {v2 : Int} { E : Value → Hp → Prop} {H : Hp} {K : Int → Hp → Prop} (h : blossom_search_other.run_t  s0 i1 v2  E H K) : blossom_search_other.run s0 i1 v2  E H K := by
  exact nodeR_imp2 (fun _ => blossom_search_other.run_t  s0 i1 v2  E H K) blossom_search_other.nok rfl (fun G => by kernel_rfl) h
/-! ### (*compass/blossom.search).begin (54) -/
noncomputable def blossom_search_begin.A : An := { live := [(0, [0, 1]), (1, [0, 1, 4]), (2, [0, 1, 4]), (3, [0, 1, 26, 27]), (4, [0, 1, 26, 27]), (5, [0, 1, 5, 26, 27]), (6, [0, 1, 26, 27]), (7, [0, 1]), (8, [0, 1])], ord := [(1, [0, 1, 2, 3, 4, 5, 6, 7, 8, 9, 10, 11, 12, 13, 14, 15, 16, 17]), (5, [0, 1, 2, 3, 4, 5, 6, 7, 8, 9, 10, 11, 12, 13, 14])], stb := [], pre := [(1, [[], [], [], [], [3], [], [5], [], [7], [0, 3, 4], [0, 3, 4, 9], [0, 3, 4, 9, 10], [0, 1, 3, 4, 5, 6, 9, 10, 11], [0, 1, 3, 4, 5, 6, 9, 10, 11, 12], [0, 1, 3, 4, 5, 6, 9, 10, 11, 12, 13], [0, 1, 2, 3, 4, 5, 6, 7, 8, 9, 10, 11, 12, 13, 14], [0, 1, 2, 3, 4, 5, 6, 7, 8, 9, 10, 11, 12, 13, 14, 15], [0, 1, 2, 3, 4, 5, 6, 7, 8, 9, 10, 11, 12, 13, 14, 15, 16]]), (5, [[], [0], [0, 1], [0, 1, 2], [], [], [5], [5, 6], [5, 6, 7], [], [], [0, 1, 2, 3, 4, 5, 6, 7, 8, 10], [0, 1, 2, 3, 4, 5, 6, 7, 8, 10, 11], [0, 1, 2, 3, 4, 5, 6, 7, 8, 9, 10, 11, 12], [0, 1, 2, 3, 4, 5, 6, 7, 8, 9, 10, 11, 12, 13]])] }
noncomputable def blossom_search_begin.code : Code := bodyOf Go.Proofs.Try.f54
theorem blossom_search_begin.ok : okCode blossom_search_begin.A 55 blossom_search_begin.code = true := by kernel_rfl
def blossom_search_begin.rq (E : Value → Hp → Prop) (K : Hp → Prop) : Ex → Fr → Hp → Prop := retQ T0 [] [] (fun r H => ldR (.tup []) r fun u => K  H) E
def blossom_search_begin.run (s0 : Option Addr) (ro1 : Int) (E : Value → Hp → Prop) (H : Hp) (K : Hp → Prop) : Prop := nodeM P0 T0 blossom_search_begin.A blossom_search_begin.code [] [] (blossom_search_begin.rq E K) (argF 0 [.pointer s0, .int .i64 ro1]) H
theorem blossom_search_begin.of {s0 : Option Addr} {ro1 : Int} {E : Value → Hp → Prop} {H : Hp} {K : Hp → Prop} (h : blossom_search_begin.run s0 ro1 E H K) : blossom_search_begin.call s0 ro1 E H K :=
  callW_of T0_ok P0_mixed (A := blossom_search_begin.A) (fn := Go.Proofs.Try.f54) Go.Proofs.Try.func54 rfl blossom_search_begin.ok rfl h
noncomputable def blossom_search_begin.f1 (s0 : Option Addr) (ro1 : Int) (t26 : Int) (t27 : Int) : Fr := [(0, .pointer s0), (1, .int .i64 ro1), (26, .int .i64 t26), (27, .int .i64 t27)]
def blossom_search_begin.j1 (s0 : Option Addr) (ro1 : Int)  (E : Value → Hp → Prop) (H : Hp) (K : Hp → Prop) : Prop := nodeM P0 T0 blossom_search_begin.A blossom_search_begin.code [1, 1, 1] [] (blossom_search_begin.rq E K) [(0, .pointer s0), (1, .int .i64 ro1)] H
def blossom_search_begin.l1 (s0 : Option Addr) (ro1 : Int) (t26 : Int) (t27 : Int)  (E : Value → Hp → Prop) (H : Hp) (K : Hp → Prop) : Prop := nodeM P0 T0 blossom_search_begin.A blossom_search_begin.code [1, 1, 0, 1, 0] [] (blossom_search_begin.rq E K) (blossom_search_begin.f1 s0 ro1 t26 t27) H
def blossom_search_begin.b1 (s0 : Option Addr) (ro1 : Int) (t26 : Int) (t27 : Int)  (X1 : Fr → Hp → Prop) (E : Value → Hp → Prop) (H : Hp) (K : Hp → Prop) : Prop := nodeM P0 T0 blossom_search_begin.A blossom_search_begin.code [1, 1, 0, 1, 0, 0] [X1] (blossom_search_begin.rq E K) (blossom_search_begin.f1 s0 ro1 t26 t27) H
theorem blossom_search_begin.l1_rule { E : Value → Hp → Prop} {K : Hp → Prop} (I : (Option Addr) → Int → Int → Int → Hp → Prop) (μ : (Option Addr) → Int → Int → Int → Hp → Nat)
    (h : ∀ s0 ro1 t26 t27 H, I s0 ro1 t26 t27 H → ∀ X : Fr → Hp → Prop, (∀ s0' ro1' t26' t27' H', I s0' ro1' t26' t27' H' → μ s0' ro1' t26' t27' H' < μ s0 ro1 t26 t27 H → X (blossom_search_begin.f1 s0' ro1' t26' t27') H') → blossom_search_begin.b1 s0 ro1 t26 t27  X E H K)
    {s0 : Option Addr} {ro1 : Int} {t26 : Int} {t27 : Int} {H : Hp} (hI : I s0 ro1 t26 t27 H) : blossom_search_begin.l1 s0 ro1 t26 t27  E H K :=
  loop_rule (S := (Option Addr) × Int × Int × Int) (fun s => blossom_search_begin.f1 (s.1) (s.2.1) (s.2.2.1) (s.2.2.2)) (fun s H => I (s.1) (s.2.1) (s.2.2.1) (s.2.2.2) H) (fun s H => μ (s.1) (s.2.1) (s.2.2.1) (s.2.2.2) H) (fun s H hI X hX => h (s.1) (s.2.1) (s.2.2.1) (s.2.2.2) H hI X fun s0' ro1' t26' t27' H' hI' hlt => hX (s0', ro1', t26', t27') H' hI' hlt) (s := (s0, ro1, t26, t27)) rfl hI
theorem blossom_search_begin.nok : nodesOk blossom_search_begin.code [[0, 1, 0, 1, 1], [1, 1, 1]] = true := by kernel_rfl
def blossom_search_begin.run_t (l1 : (Option Addr) → Int → Int → Int → Hp → Prop) (s0 : Option Addr) (ro1 : Int)  (E : Value → Hp → Prop) (H : Hp) (K : Hp → Prop) : Prop :=
  nn s0 fun b_1 o_1 =>
  ldI .i64 (H.get b_1 o_1) fun x_1 =>
  mkS x_1 x_1 3 [.i .i64] 8 H fun b_2 H_1 =>
  mkS x_1 x_1 3 [.i .i64] 8 H_1 fun b_3 H_2 =>
  mkS x_1 x_1 4 [.bool] 1 H_2 fun b_4 H_3 =>
  nn s0 fun b_5 o_2 =>
  stC H_3 b_5 (o_2 + 4) [.slice (some ⟨b_2, 0, none⟩) x_1.toNat x_1.toNat] fun H_4 =>
  nn s0 fun b_6 o_3 =>
  stC H_4 b_6 (o_3 + 5) [.slice (some ⟨b_3, 0, none⟩) x_1.toNat x_1.toNat] fun H_5 =>
  nn s0 fun b_7 o_4 =>
  stC H_5 b_7 (o_4 + 6) [.slice (some ⟨b_4, 0, none⟩) x_1.toNat x_1.toNat] fun H_6 =>
  l1 s0 ro1 x_1 0 H_6
theorem blossom_search_begin.run_eq {s0 : Option Addr} {ro1 : Int} { E : Value → Hp → Prop} {H : Hp} {K : Hp → Prop} (h : blossom_search_begin.run_t (fun s0 ro1 t26 t27 H => blossom_search_begin.l1 s0 ro1 t26 t27  E H K) s0 ro1  E H K) : blossom_search_begin.run s0 ro1  E H K := by
  exact nodeR_imp2 (fun G => blossom_search_begin.run_t (fun s0 ro1 t26 t27 H => G [0, 1, 0, 1, 1] [(0, .pointer s0), (1, .int .i64 ro1), (26, .int .i64 t26), (27, .int .i64 t27)] H) s0 ro1  E H K) blossom_search_begin.nok rfl (fun G => by kernel_rfl) (Eq.mp (by kernel_rfl) h)
def blossom_search_begin.j1_t  (s0 : Option Addr) (ro1 : Int)  (E : Value → Hp → Prop) (H : Hp) (K : Hp → Prop) : Prop :=
  nn s0 fun b_1 o_1 =>
  ldS (H.get b_1 (o_1 + 6)) fun x_1p x_1n x_1c =>
  ix x_1p x_1n ro1 1 fun b_2 o_2 =>
  stC H b_2 o_2 [.bool true] fun H_1 =>
  nw H_1 ⟨[.int .i64 ro1], 3⟩ fun b_3 H_2 =>
  nn s0 fun b_4 o_3 =>
  stC H_2 b_4 (o_3 + 7) [.slice (some ⟨b_3, 0, none⟩) 1 1] fun H_3 =>
  K H_3
theorem blossom_search_begin.j1_eq {s0 : Option Addr} {ro1 : Int} { E : Value → Hp → Prop} {H : Hp} {K : Hp → Prop} (h : blossom_search_begin.j1_t  s0 ro1  E H K) : blossom_search_begin.j1 s0 ro1  E H K := by
  exact nodeR_imp2 (fun _ => blossom_search_begin.j1_t  s0 ro1  E H K) blossom_search_begin.nok rfl (fun G => by kernel_rfl) h
def blossom_search_begin.b1_t (j1 : (Option Addr) → Int → Hp → Prop) (s0 : Option Addr) (ro1 : Int) (t26 : Int) (t27 : Int) (X1 : Fr → Hp → Prop) (E : Value → Hp → Prop) (H : Hp) (K : Hp → Prop) : Prop :=
  bcase (decide ((t27 : Int) < t26)) (
  nn s0 fun b_1 o_1 =>
  ldS (H.get b_1 (o_1 + 4)) fun x_1p x_1n x_1c =>
  nn s0 fun b_2 o_2 =>
  ldS (H.get b_2 (o_2 + 5)) fun x_2p x_2n x_2c =>
  ix x_1p x_1n t27 1 fun b_3 o_3 =>
  stC H b_3 o_3 [.int .i64 t27] fun H_1 =>
  ix x_2p x_2n t27 1 fun b_4 o_4 =>
  stC H_1 b_4 o_4 [.int .i64 (-1)] fun H_2 =>
  X1 (blossom_search_begin.f1 s0 ro1 t26 (IntKind.wrap .i64 (t27 + 1))) H_2)
  (j1 s0 ro1 H)
theorem blossom_search_begin.b1_eq {s0 : Option Addr} {ro1 : Int} {t26 : Int} {t27 : Int} {X1 : Fr → Hp → Prop} { E : Value → Hp → Prop} {H : Hp} {K : Hp → Prop} (h : blossom_search_begin.b1_t (fun s0 ro1 H => blossom_search_begin.j1 s0 ro1  E H K) s0 ro1 t26 t27 X1 E H K) : blossom_search_begin.b1 s0 ro1 t26 t27 X1 E H K := by
  exact nodeR_imp2 (fun G => blossom_search_begin.b1_t (fun s0 ro1 H => G [1, 1, 1] [(0, .pointer s0), (1, .int .i64 ro1)] H) s0 ro1 t26 t27 X1 E H K) blossom_search_begin.nok rfl (fun G => by kernel_rfl) (Eq.mp (by kernel_rfl) h)
/-! ### (*compass/blossom.search).shrink (55) -/
noncomputable def blossom_search_shrink.A : An := { live := [(0, [0, 1]), (1, [0, 1, 4, 5]), (2, [0, 1, 4, 5, 6]), (3, [0, 1, 4, 5, 6, 7]), (4, [0, 1, 5, 6, 7]), (5, [0, 6, 7]), (6, [0, 6, 7, 50, 51]), (7, [0, 6, 7, 50, 51]), (8, [0, 6, 7, 8, 50, 51]), (9, [0, 6, 7, 8, 50, 51]), (10, [0, 6, 7, 8, 50, 51]), (11, [0, 6, 7, 8, 50, 51]), (12, [0, 6, 7, 8, 50, 51]), (13, [0, 6, 7, 50, 51])], ord := [(0, [0, 1, 2, 3, 4, 5, 6, 7, 8, 9, 10, 11, 12, 13, 14, 15, 16, 17, 18, 19])], stb := [], pre := [(0, [[], [0], [0, 1], [0, 1, 2], [0, 1, 2, 3], [], [0, 1, 2, 3, 4, 5], [0, 1, 2, 3, 4, 5, 6], [0, 1, 2, 3, 4, 5, 6, 7], [], [9], [9, 10], [9, 10, 11], [9, 10, 11, 12], [], [9, 10, 11, 12, 13, 14], [9, 10, 11, 12, 13, 14, 15], [9, 10, 11, 12, 13, 14, 15, 16], [0, 1, 2, 3, 4, 5, 6, 7, 8], [0, 1, 2, 3, 4, 5, 6, 7, 8, 9, 10, 11, 12, 13, 14, 15, 16, 17, 18]])] }
noncomputable def blossom_search_shrink.code : Code := bodyOf Go.Proofs.Try.f55
theorem blossom_search_shrink.ok : okCode blossom_search_shrink.A 96 blossom_search_shrink.code = true := by kernel_rfl
def blossom_search_shrink.rq (E : Value → Hp → Prop) (K : Hp → Prop) : Ex → Fr → Hp → Prop := retQ T0 [] [] (fun r H => ldR (.tup []) r fun u => K  H) E
def blossom_search_shrink.run (s0 : Option Addr) (i1 : Int) (E : Value → Hp → Prop) (H : Hp) (K : Hp → Prop) : Prop := nodeM P0 T0 blossom_search_shrink.A blossom_search_shrink.code [] [] (blossom_search_shrink.rq E K) (argF 0 [.pointer s0, .int .i64 i1]) H
theorem blossom_search_shrink.of {s0 : Option Addr} {i1 : Int} {E : Value → Hp → Prop} {H : Hp} {K : Hp → Prop} (h : blossom_search_shrink.run s0 i1 E H K) : blossom_search_shrink.call s0 i1 E H K :=
  callW_of T0_ok P0_mixed (A := blossom_search_shrink.A) (fn := Go.Proofs.Try.f55) Go.Proofs.Try.func55 rfl blossom_search_shrink.ok rfl h
noncomputable def blossom_search_shrink.f1 (s0 : Option Addr) (to6 : Int) (in7p : Option Addr) (in7n : Nat) (in7c : Nat) (t50 : Int) (t51 : Int) : Fr := [(0, .pointer s0), (6, .int .i64 to6), (7, .slice in7p in7n in7c), (50, .int .i64 t50), (51, .int .i64 t51)]
def blossom_search_shrink.j1 (s0 : Option Addr) (to6 : Int) (in7p : Option Addr) (in7n : Nat) (in7c : Nat) (t50 : Int) (t51 : Int) (X1 : Fr → Hp → Prop) (E : Value → Hp → Prop) (H : Hp) (K : Hp → Prop) : Prop := nodeM P0 T0 blossom_search_shrink.A blossom_search_shrink.code [1, 1, 1, 1, 1, 1, 0, 0, 1, 1, 1] [X1] (blossom_search_shrink.rq E K) [(0, .pointer s0), (6, .int .i64 to6), (7, .slice in7p in7n in7c), (50, .int .i64 t50), (51, .int .i64 t51)] H
def blossom_search_shrink.l1 (s0 : Option Addr) (to6 : Int) (in7p : Option Addr) (in7n : Nat) (in7c : Nat) (t50 : Int) (t51 : Int)  (E : Value → Hp → Prop) (H : Hp) (K : Hp → Prop) : Prop := nodeM P0 T0 blossom_search_shrink.A blossom_search_shrink.code [1, 1, 1, 1, 1, 1, 0] [] (blossom_search_shrink.rq E K) (blossom_search_shrink.f1 s0 to6 in7p in7n in7c t50 t51) H
def blossom_search_shrink.b1 (s0 : Option Addr) (to6 : Int) (in7p : Option Addr) (in7n : Nat) (in7c : Nat) (t50 : Int) (t51 : Int)  (X1 : Fr → Hp → Prop) (E : Value → Hp → Prop) (H : Hp) (K : Hp → Prop) : Prop := nodeM P0 T0 blossom_search_shrink.A blossom_search_shrink.code [1, 1, 1, 1, 1, 1, 0, 0] [X1] (blossom_search_shrink.rq E K) (blossom_search_shrink.f1 s0 to6 in7p in7n in7c t50 t51) H
theorem blossom_search_shrink.l1_rule { E : Value → Hp → Prop} {K : Hp → Prop} (I : (Option Addr) → Int → (Option Addr) → Nat → Nat → Int → Int → Hp → Prop) (μ : (Option Addr) → Int → (Option Addr) → Nat → Nat → Int → Int → Hp → Nat)
    (h : ∀ s0 to6 in7p in7n in7c t50 t51 H, I s0 to6 in7p in7n in7c t50 t51 H → ∀ X : Fr → Hp → Prop, (∀ s0' to6' in7p' in7n' in7c' t50' t51' H', I s0' to6' in7p' in7n' in7c' t50' t51' H' → μ s0' to6' in7p' in7n' in7c' t50' t51' H' < μ s0 to6 in7p in7n in7c t50 t51 H → X (blossom_search_shrink.f1 s0' to6' in7p' in7n' in7c' t50' t51') H') → blossom_search_shrink.b1 s0 to6 in7p in7n in7c t50 t51  X E H K)
    {s0 : Option Addr} {to6 : Int} {in7p : Option Addr} {in7n : Nat} {in7c : Nat} {t50 : Int} {t51 : Int} {H : Hp} (hI : I s0 to6 in7p in7n in7c t50 t51 H) : blossom_search_shrink.l1 s0 to6 in7p in7n in7c t50 t51  E H K :=
  loop_rule (S := (Option Addr) × Int × (Option Addr) × Nat × Nat × Int × Int) (fun s => blossom_search_shrink.f1 (s.1) (s.2.1) (s.2.2.1) (s.2.2.2.1) (s.2.2.2.2.1) (s.2.2.2.2.2.1) (s.2.2.2.2.2.2)) (fun s H => I (s.1) (s.2.1) (s.2.2.1) (s.2.2.2.1) (s.2.2.2.2.1) (s.2.2.2.2.2.1) (s.2.2.2.2.2.2) H) (fun s H => μ (s.1) (s.2.1) (s.2.2.1) (s.2.2.2.1) (s.2.2.2.2.1) (s.2.2.2.2.2.1) (s.2.2.2.2.2.2) H) (fun s H hI X hX => h (s.1) (s.2.1) (s.2.2.1) (s.2.2.2.1) (s.2.2.2.2.1) (s.2.2.2.2.2.1) (s.2.2.2.2.2.2) H hI X fun s0' to6' in7p' in7n' in7c' t50' t51' H' hI' hlt => hX (s0', to6', in7p', in7n', in7c', t50', t51') H' hI' hlt) (s := (s0, to6, in7p, in7n, in7c, t50, t51)) rfl hI
theorem blossom_search_shrink.nok : nodesOk blossom_search_shrink.code [[0, 1, 1, 1, 1, 1, 1], [1, 1, 1, 0, 0, 1, 1, 1, 1, 1, 1]] = true := by kernel_rfl
def blossom_search_shrink.run_t (l1 : (Option Addr) → Int → (Option Addr) → Nat → Nat → Int → Int → Hp → Prop) (s0 : Option Addr) (i1 : Int)  (E : Value → Hp → Prop) (H : Hp) (K : Hp → Prop) : Prop :=
  nn s0 fun b_1 o_1 =>
  ldS (H.get b_1 (o_1 + 1)) fun x_1p x_1n x_1c =>
  ix x_1p x_1n i1 4 fun b_2 o_2 =>
  ldI .i64 (H.get b_2 o_2) fun x_2 =>
  nn s0 fun b_3 o_3 =>
  ldS (H.get b_3 (o_3 + 1)) fun x_3p x_3n x_3c =>
  ix x_3p x_3n i1 4 fun b_4 o_4 =>
  ldI .i64 (H.get b_4 (o_4 + 1)) fun x_4 =>
  blossom_search_meet.call s0 x_2 x_4 E H fun r_1 H_1 =>
  nn s0 fun b_5 o_5 =>
  ldI .i64 (H_1.get b_5 o_5) fun x_5 =>
  mkS x_5 x_5 4 [.bool] 1 H_1 fun b_6 H_2 =>
  blossom_search_mark.call s0 x_2 r_1 i1 (some ⟨b_6, 0, none⟩) x_5.toNat x_5.toNat E H_2 fun H_3 =>
  blossom_search_mark.call s0 x_4 r_1 i1 (some ⟨b_6, 0, none⟩) x_5.toNat x_5.toNat E H_3 fun H_4 =>
  l1 s0 r_1 (some ⟨b_6, 0, none⟩) x_5.toNat x_5.toNat (x_5.toNat : Int) 0 H_4
theorem blossom_search_shrink.run_eq {s0 : Option Addr} {i1 : Int} { E : Value → Hp → Prop} {H : Hp} {K : Hp → Prop} (h : blossom_search_shrink.run_t (fun s0 to6 in7p in7n in7c t50 t51 H => blossom_search_shrink.l1 s0 to6 in7p in7n in7c t50 t51  E H K) s0 i1  E H K) : blossom_search_shrink.run s0 i1  E H K := by
  exact nodeR_imp2 (fun G => blossom_search_shrink.run_t (fun s0 to6 in7p in7n in7c t50 t51 H => G [0, 1, 1, 1, 1, 1, 1] [(0, .pointer s0), (6, .int .i64 to6), (7, .slice in7p in7n in7c), (50, .int .i64 t50), (51, .int .i64 t51)] H) s0 i1  E H K) blossom_search_shrink.nok rfl (fun G => by kernel_rfl) (Eq.mp (by kernel_rfl) h)
def blossom_search_shrink.j1_t  (s0 : Option Addr) (to6 : Int) (in7p : Option Addr) (in7n : Nat) (in7c : Nat) (t50 : Int) (t51 : Int) (X1 : Fr → Hp → Prop) (E : Value → Hp → Prop) (H : Hp) (K : Hp → Prop) : Prop :=
  X1 (blossom_search_shrink.f1 s0 to6 in7p in7n in7c t50 (IntKind.wrap .i64 (t51 + 1))) H
theorem blossom_search_shrink.j1_eq {s0 : Option Addr} {to6 : Int} {in7p : Option Addr} {in7n : Nat} {in7c : Nat} {t50 : Int} {t51 : Int} {X1 : Fr → Hp → Prop} { E : Value → Hp → Prop} {H : Hp} {K : Hp → Prop} (h : blossom_search_shrink.j1_t  s0 to6 in7p in7n in7c t50 t51 X1 E H K) : blossom_search_shrink.j1 s0 to6 in7p in7n in7c t50 t51 X1 E H K := by
  exact nodeR_imp2 (fun _ => blossom_search_shrink.j1_t  s0 to6 in7p in7n in7c t50 t51 X1 E H K) blossom_search_shrink.nok rfl (fun G => by kernel_rfl) h
def blossom_search_shrink.b1_t (j1 : (Option Addr) → Int → (Option Addr) → Nat → Nat → Int → Int → Hp → Prop) (s0 : Option Addr) (to6 : Int) (in7p : Option Addr) (in7n : Nat) (in7c : Nat) (t50 : Int) (t51 : Int) (X1 : Fr → Hp → Prop) (E : Value → Hp → Prop) (H : Hp) (K : Hp → Prop) : Prop :=
  bcase (decide ((t51 : Int) < t50)) (
  nn s0 fun b_1 o_1 =>
  ldS (H.get b_1 (o_1 + 4)) fun x_1p x_1n x_1c =>
  ix x_1p x_1n t51 1 fun b_2 o_2 =>
  ldI .i64 (H.get b_2 o_2) fun x_2 =>
  ix in7p in7n x_2 1 fun b_3 o_3 =>
  ldB (H.get b_3 o_3) fun x_3 =>
  bcase (x_3) (
  nn s0 fun b_4 o_4 =>
  ldS (H.get b_4 (o_4 + 4)) fun x_4p x_4n x_4c =>
  ix x_4p x_4n t51 1 fun b_5 o_5 =>
  stC H b_5 o_5 [.int .i64 to6] fun H_1 =>
  nn s0 fun b_6 o_6 =>
  ldS (H_1.get b_6 (o_6 + 6)) fun x_5p x_5n x_5c =>
  ix x_5p x_5n t51 1 fun b_7 o_7 =>
  ldB (H_1.get b_7 o_7) fun x_6 =>
  bcase ((!x_6)) (
  nn s0 fun b_8 o_8 =>
  ldS (H_1.get b_8 (o_8 + 6)) fun x_7p x_7n x_7c =>
  ix x_7p x_7n t51 1 fun b_9 o_9 =>
  stC H_1 b_9 o_9 [.bool true] fun H_2 =>
  nn s0 fun b_10 o_10 =>
  ldS (H_2.get b_10 (o_10 + 7)) fun x_8p x_8n x_8c =>
  nw H_2 ⟨[.int .i64 t51], 3⟩ fun b_11 H_3 =>
  appM 3 [.i .i64] 8 x_8p x_8n x_8c (some ⟨b_11, 0, none⟩) 1 H_3 fun a_1p a_1n a_1c H_4 =>
  nn s0 fun b_12 o_11 =>
  stC H_4 b_12 (o_11 + 7) [.slice a_1p a_1n a_1c] fun H_5 =>
  j1 s0 to6 in7p in7n in7c t50 t51 H_5)
  (j1 s0 to6 in7p in7n in7c t50 t51 H_1))
  (j1 s0 to6 in7p in7n in7c t50 t51 H))
  (K H)
theorem blossom_search_shrink.b1_eq {s0 : Option Addr} {to6 : Int} {in7p : Option Addr} {in7n : Nat} {in7c : Nat} {t50 : Int} {t51 : Int} {X1 : Fr → Hp → Prop} { E : Value → Hp → Prop} {H : Hp} {K : Hp → Prop} (h : blossom_search_shrink.b1_t (fun s0 to6 in7p in7n in7c t50 t51 H => blossom_search_shrink.j1 s0 to6 in7p in7n in7c t50 t51 X1 E H K) s0 to6 in7p in7n in7c t50 t51 X1 E H K) : blossom_search_shrink.b1 s0 to6 in7p in7n in7c t50 t51 X1 E H K := by
  exact nodeR_imp2 (fun G => blossom_search_shrink.b1_t (fun s0 to6 in7p in7n in7c t50 t51 H => G [1, 1, 1, 0, 0, 1, 1, 1, 1, 1, 1] [(0, .pointer s0), (6, .int .i64 to6), (7, .slice in7p in7n in7c), (50, .int .i64 t50), (51, .int .i64 t51)] H) s0 to6 in7p in7n in7c t50 t51 X1 E H K) blossom_search_shrink.nok rfl (fun G => by kernel_rfl) (Eq.mp (by kernel_rfl) h)
/-! ### (*compass/blossom.search).meet (61) -/
noncomputable def blossom_search_meet.A : An := { live := [(0, [0, 1, 2]), (1, [0, 1, 2]), (2, [0, 1, 2, 7]), (3, [0, 1, 2, 7]), (4, [0, 1, 2, 7]), (5, [0, 1, 2, 7]), (6, [0, 2, 7, 8]), (7, [0, 2, 7, 8]), (8, [0, 2, 7]), (9, [0, 2, 7]), (10, [2]), (11, [0, 2, 7]), (12, [0, 7, 9])], ord := [], stb := [], pre := [] }
noncomputable def blossom_search_meet.code : Code := bodyOf Go.Proofs.Try.f61
theorem blossom_search_meet.ok : okCode blossom_search_meet.A 80 blossom_search_meet.code = true := by kernel_rfl
def blossom_search_meet.rq (E : Value → Hp → Prop) (K : Int → Hp → Prop) : Ex → Fr → Hp → Prop := retQ T0 [.tmp 6] [3] (fun r H => ldR (.one false [.i .i64]) r fun u => K (asI u) H) E
def blossom_search_meet.run (s0 : Option Addr) (a1 : Int) (b2 : Int) (E : Value → Hp → Prop) (H : Hp) (K : Int → Hp → Prop) : Prop := nodeM P0 T0 blossom_search_meet.A blossom_search_meet.code [] [] (blossom_search_meet.rq E K) (argF 0 [.pointer s0, .int .i64 a1, .int .i64 b2]) H
theorem blossom_search_meet.of {s0 : Option Addr} {a1 : Int} {b2 : Int} {E : Value → Hp → Prop} {H : Hp} {K : Int → Hp → Prop} (h : blossom_search_meet.run s0 a1 b2 E H K) : blossom_search_meet.call s0 a1 b2 E H K :=
  callW_of T0_ok P0_mixed (A := blossom_search_meet.A) (fn := Go.Proofs.Try.f61) Go.Proofs.Try.func61 rfl blossom_search_meet.ok rfl h
noncomputable def blossom_search_meet.f1 (s0 : Option Addr) (a1 : Int) (b2 : Int) (pa7p : Option Addr) (pa7n : Nat) (pa7c : Nat) : Fr := [(0, .pointer s0), (1, .int .i64 a1), (2, .int .i64 b2), (7, .slice pa7p pa7n pa7c)]
noncomputable def blossom_search_meet.f2 (s0 : Option Addr) (b2 : Int) (pa7p : Option Addr) (pa7n : Nat) (pa7c : Nat) : Fr := [(0, .pointer s0), (2, .int .i64 b2), (7, .slice pa7p pa7n pa7c)]
def blossom_search_meet.j1 (s0 : Option Addr) (b2 : Int) (pa7p : Option Addr) (pa7n : Nat) (pa7c : Nat)  (E : Value → Hp → Prop) (H : Hp) (K : Int → Hp → Prop) : Prop := nodeM P0 T0 blossom_search_meet.A blossom_search_meet.code [1, 1, 1] [] (blossom_search_meet.rq E K) [(0, .pointer s0), (2, .int .i64 b2), (7, .slice pa7p pa7n pa7c)] H
def blossom_search_meet.l1 (s0 : Option Addr) (a1 : Int) (b2 : Int) (pa7p : Option Addr) (pa7n : Nat) (pa7c : Nat)  (E : Value → Hp → Prop) (H : Hp) (K : Int → Hp → Prop) : Prop := nodeM P0 T0 blossom_search_meet.A blossom_search_meet.code [1, 1, 0, 0] [] (blossom_search_meet.rq E K) (blossom_search_meet.f1 s0 a1 b2 pa7p pa7n pa7c) H
def blossom_search_meet.b1 (s0 : Option Addr) (a1 : Int) (b2 : Int) (pa7p : Option Addr) (pa7n : Nat) (pa7c : Nat)  (X1 : Fr → Hp → Prop) (E : Value → Hp → Prop) (H : Hp) (K : Int → Hp → Prop) : Prop := nodeM P0 T0 blossom_search_meet.A blossom_search_meet.code [1, 1, 0, 0, 0] [X1] (blossom_search_meet.rq E K) (blossom_search_meet.f1 s0 a1 b2 pa7p pa7n pa7c) H
theorem blossom_search_meet.l1_rule { E : Value → Hp → Prop} {K : Int → Hp → Prop} (I : (Option Addr) → Int → Int → (Option Addr) → Nat → Nat → Hp → Prop) (μ : (Option Addr) → Int → Int → (Option Addr) → Nat → Nat → Hp → Nat)
    (h : ∀ s0 a1 b2 pa7p pa7n pa7c H, I s0 a1 b2 pa7p pa7n pa7c H → ∀ X : Fr → Hp → Prop, (∀ s0' a1' b2' pa7p' pa7n' pa7c' H', I s0' a1' b2' pa7p' pa7n' pa7c' H' → μ s0' a1' b2' pa7p' pa7n' pa7c' H' < μ s0 a1 b2 pa7p pa7n pa7c H → X (blossom_search_meet.f1 s0' a1' b2' pa7p' pa7n' pa7c') H') → blossom_search_meet.b1 s0 a1 b2 pa7p pa7n pa7c  X E H K)
    {s0 : Option Addr} {a1 : Int} {b2 : Int} {pa7p : Option Addr} {pa7n : Nat} {pa7c : Nat} {H : Hp} (hI : I s0 a1 b2 pa7p pa7n pa7c H) : blossom_search_meet.l1 s0 a1 b2 pa7p pa7n pa7c  E H K :=
  loop_rule (S := (Option Addr) × Int × Int × (Option Addr) × Nat × Nat) (fun s => blossom_search_meet.f1 (s.1) (s.2.1) (s.2.2.1) (s.2.2.2.1) (s.2.2.2.2.1) (s.2.2.2.2.2)) (fun s H => I (s.1) (s.2.1) (s.2.2.1) (s.2.2.2.1) (s.2.2.2.2.1) (s.2.2.2.2.2) H) (fun s H => μ (s.1) (s.2.1) (s.2.2.1) (s.2.2.2.1) (s.2.2.2.2.1) (s.2.2.2.2.2) H) (fun s H hI X hX => h (s.1) (s.2.1) (s.2.2.1) (s.2.2.2.1) (s.2.2.2.2.1) (s.2.2.2.2.2) H hI X fun s0' a1' b2' pa7p' pa7n' pa7c' H' hI' hlt => hX (s0', a1', b2', pa7p', pa7n', pa7c') H' hI' hlt) (s := (s0, a1, b2, pa7p, pa7n, pa7c)) rfl hI
def blossom_search_meet.l2 (s0 : Option Addr) (b2 : Int) (pa7p : Option Addr) (pa7n : Nat) (pa7c : Nat)  (E : Value → Hp → Prop) (H : Hp) (K : Int → Hp → Prop) : Prop := nodeM P0 T0 blossom_search_meet.A blossom_search_meet.code [1, 1, 1, 0] [] (blossom_search_meet.rq E K) (blossom_search_meet.f2 s0 b2 pa7p pa7n pa7c) H
def blossom_search_meet.b2 (s0 : Option Addr) (b2 : Int) (pa7p : Option Addr) (pa7n : Nat) (pa7c : Nat)  (X1 : Fr → Hp → Prop) (E : Value → Hp → Prop) (H : Hp) (K : Int → Hp → Prop) : Prop := nodeM P0 T0 blossom_search_meet.A blossom_search_meet.code [1, 1, 1, 0, 0] [X1] (blossom_search_meet.rq E K) (blossom_search_meet.f2 s0 b2 pa7p pa7n pa7c) H
theorem blossom_search_meet.l2_rule { E : Value → Hp → Prop} {K : Int → Hp → Prop} (I : (Option Addr) → Int → (Option Addr) → Nat → Nat → Hp → Prop) (μ : (Option Addr) → Int → (Option Addr) → Nat → Nat → Hp → Nat)
    (h : ∀ s0 b2 pa7p pa7n pa7c H, I s0 b2 pa7p pa7n pa7c H → ∀ X : Fr → Hp → Prop, (∀ s0' b2' pa7p' pa7n' pa7c' H', I s0' b2' pa7p' pa7n' pa7c' H' → μ s0' b2' pa7p' pa7n' pa7c' H' < μ s0 b2 pa7p pa7n pa7c H → X (blossom_search_meet.f2 s0' b2' pa7p' pa7n' pa7c') H') → blossom_search_meet.b2 s0 b2 pa7p pa7n pa7c  X E H K)
    {s0 : Option Addr} {b2 : Int} {pa7p : Option Addr} {pa7n : Nat} {pa7c : Nat} {H : Hp} (hI : I s0 b2 pa7p pa7n pa7c H) : blossom_search_meet.l2 s0 b2 pa7p pa7n pa7c  E H K :=
  loop_rule (S := (Option Addr) × Int × (Option Addr) × Nat × Nat) (fun s => blossom_search_meet.f2 (s.1) (s.2.1) (s.2.2.1) (s.2.2.2.1) (s.2.2.2.2)) (fun s H => I (s.1) (s.2.1) (s.2.2.1) (s.2.2.2.1) (s.2.2.2.2) H) (fun s H => μ (s.1) (s.2.1) (s.2.2.1) (s.2.2.2.1) (s.2.2.2.2) H) (fun s H hI X hX => h (s.1) (s.2.1) (s.2.2.1) (s.2.2.2.1) (s.2.2.2.2) H hI X fun s0' b2' pa7p' pa7n' pa7c' H' hI' hlt => hX (s0', b2', pa7p', pa7n', pa7c') H' hI' hlt) (s := (s0, b2, pa7p, pa7n, pa7c)) rfl hI
theorem blossom_search_meet.nok : nodesOk blossom_search_meet.code [[0, 0, 1, 1], [1, 1, 1], [0, 1, 1, 1]] = true := by kernel_rfl
def blossom_search_meet.run_t (l1 : (Option Addr) → Int → Int → (Option Addr) → Nat → Nat → Hp → Prop) (s0 : Option Addr) (a1 : Int) (b2 : Int)  (E : Value → Hp → Prop) (H : Hp) (K : Int → Hp → Prop) : Prop :=
  nn s0 fun b_1 o_1 =>
  ldI .i64 (H.get b_1 o_1) fun x_1 =>
  mkS x_1 x_1 4 [.bool] 1 H fun b_2 H_1 =>
  l1 s0 a1 b2 (some ⟨b_2, 0, none⟩) x_1.toNat x_1.toNat H_1
theorem blossom_search_meet.run_eq {s0 : Option Addr} {a1 : Int} {b2 : Int} { E : Value → Hp → Prop} {H : Hp} {K : Int → Hp → Prop} (h : blossom_search_meet.run_t (fun s0 a1 b2 pa7p pa7n pa7c H => blossom_search_meet.l1 s0 a1 b2 pa7p pa7n pa7c  E H K) s0 a1 b2  E H K) : blossom_search_meet.run s0 a1 b2  E H K := by
  exact nodeR_imp2 (fun G => blossom_search_meet.run_t (fun s0 a1 b2 pa7p pa7n pa7c H => G [0, 0, 1, 1] [(0, .pointer s0), (1, .int .i64 a1), (2, .int .i64 b2), (7, .slice pa7p pa7n pa7c)] H) s0 a1 b2  E H K) blossom_search_meet.nok rfl (fun G => by kernel_rfl) (Eq.mp (by kernel_rfl) h)
def blossom_search_meet.j1_t (l2 : (Option Addr) → Int → (Option Addr) → Nat → Nat → Hp → Prop) (s0 : Option Addr) (b2 : Int) (pa7p : Option Addr) (pa7n : Nat) (pa7c : Nat)  (E : Value → Hp → Prop) (H : Hp) (K : Int → Hp → Prop) : Prop :=
  l2 s0 b2 pa7p pa7n pa7c H
theorem blossom_search_meet.j1_eq {s0 : Option Addr} {b2 : Int} {pa7p : Option Addr} {pa7n : Nat} {pa7c : Nat} { E : Value → Hp → Prop} {H : Hp} {K : Int → Hp → Prop} (h : blossom_search_meet.j1_t (fun s0 b2 pa7p pa7n pa7c H => blossom_search_meet.l2 s0 b2 pa7p pa7n pa7c  E H K) s0 b2 pa7p pa7n pa7c  E H K) : blossom_search_meet.j1 s0 b2 pa7p pa7n pa7c  E H K := by
  exact nodeR_imp2 (fun G => blossom_search_meet.j1_t (fun s0 b2 pa7p pa7n pa7c H => G [0, 1, 1, 1] [(0, .pointer s0), (2, .int .i64 b2), (7, .slice pa7p pa7n pa7c)] H) s0 b2 pa7p pa7n pa7c  E H K) blossom_search_meet.nok rfl (fun G => by kernel_rfl) (Eq.mp (by kernel_rfl) h)
def blossom_search_meet.b1_t (j1 : (Option Addr) → Int → (Option Addr) → Nat → Nat → Hp → Prop) (s0 : Option Addr) (a1 : Int) (b2 : Int) (pa7p : Option Addr) (pa7n : Nat) (pa7c : Nat) (X1 : Fr → Hp → Prop) (E : Value → Hp → Prop) (H : Hp) (K : Int → Hp → Prop) : Prop :=
  nn s0 fun b_1 o_1 =>
  ldS (H.get b_1 (o_1 + 4)) fun x_1p x_1n x_1c =>
  ix x_1p x_1n a1 1 fun b_2 o_2 =>
  ldI .i64 (H.get b_2 o_2) fun x_2 =>
  ix pa7p pa7n x_2 1 fun b_3 o_3 =>
  stC H b_3 o_3 [.bool true] fun H_1 =>
  nn s0 fun b_4 o_4 =>
  ldS (H_1.get b_4 (o_4 + 3)) fun x_3p x_3n x_3c =>
  ix x_3p x_3n x_2 1 fun b_5 o_5 =>
  ldI .i64 (H_1.get b_5 o_5) fun x_4 =>
  bcase (decide ((x_4 : Int) < 0)) (
  j1 s0 b2 pa7p pa7n pa7c H_1)
  (blossom_search_mate.call s0 x_2 E H_1 fun r_1 H_2 =>
  nn s0 fun b_6 o_6 =>
  ldS (H_2.get b_6 (o_6 + 5)) fun x_5p x_5n x_5c =>
  ix x_5p x_5n r_1 1 fun b_7 o_7 =>
  ldI .i64 (H_2.get b_7 o_7) fun x_6 =>
  bcase (decide ((x_6 : Int) < 0)) (
  j1 s0 b2 pa7p pa7n pa7c H_2)
  (nn s0 fun b_8 o_8 =>
  ldS (H_2.get b_8 (o_8 + 5)) fun x_7p x_7n x_7c =>
  ix x_7p x_7n r_1 1 fun b_9 o_9 =>
  ldI .i64 (H_2.get b_9 o_9) fun x_8 =>
  blossom_search_other.call s0 x_8 r_1 E H_2 fun r_2 H_3 =>
  X1 (blossom_search_meet.f1 s0 r_2 b2 pa7p pa7n pa7c) H_3))
theorem blossom_search_meet.b1_eq {s0 : Option Addr} {a1 : Int} {b2 : Int} {pa7p : Option Addr} {pa7n : Nat} {pa7c : Nat} {X1 : Fr → Hp → Prop} { E : Value → Hp → Prop} {H : Hp} {K : Int → Hp → Prop} (h : blossom_search_meet.b1_t (fun s0 b2 pa7p pa7n pa7c H => blossom_search_meet.j1 s0 b2 pa7p pa7n pa7c  E H K) s0 a1 b2 pa7p pa7n pa7c X1 E H K) : blossom_search_meet.b1 s0 a1 b2 pa7p pa7n pa7c X1 E H K := by
  exact nodeR_imp2 (fun G => blossom_search_meet.b1_t (fun s0 b2 pa7p pa7n pa7c H => G [1, 1, 1] [(0, .pointer s0), (2, .int .i64 b2), (7, .slice pa7p pa7n pa7c)] H) s0 a1 b2 pa7p pa7n pa7c X1 E H K) blossom_search_meet.nok rfl (fun G => by kernel_rfl) (Eq.mp (by kernel_rfl) h)
def blossom_search_meet.b2_t  (s0 : Option Addr) (b2 : Int) (pa7p : Option Addr) (pa7n : Nat) (pa7c : Nat) (X1 : Fr → Hp → Prop) (E : Value → Hp → Prop) (H : Hp) (K : Int → Hp → Prop) : Prop :=
  nn s0 fun b_1 o_1 =>
  ldS (H.get b_1 (o_1 + 4)) fun x_1p x_1n x_1c =>
  ix x_1p x_1n b2 1 fun b_2 o_2 =>
  ldI .i64 (H.get b_2 o_2) fun x_2 =>
  ix pa7p pa7n x_2 1 fun b_3 o_3 =>
  ldB (H.get b_3 o_3) fun x_3 =>
  bcase (x_3) (
  K x_2 H)
  (blossom_search_mate.call s0 x_2 E H fun r_1 H_1 =>
  nn s0 fun b_4 o_4 =>
  ldS (H_1.get b_4 (o_4 + 5)) fun x_4p x_4n x_4c =>
  ix x_4p x_4n r_1 1 fun b_5 o_5 =>
  ldI .i64 (H_1.get b_5 o_5) fun x_5 =>
  blossom_search_other.call s0 x_5 r_1 E H_1 fun r_2 H_2 =>
  X1 (blossom_search_meet.f2 s0 r_2 pa7p pa7n pa7c) H_2)
theorem blossom_search_meet.b2_eq {s0 : Option Addr} {b2 : Int} {pa7p : Option Addr} {pa7n : Nat} {pa7c : Nat} {X1 : Fr → Hp → Prop} { E : Value → Hp → Prop} {H : Hp} {K : Int → Hp → Prop} (h : blossom_search_meet.b2_t  s0 b2 pa7p pa7n pa7c X1 E H K) : blossom_search_meet.b2 s0 b2 pa7p pa7n pa7c X1 E H K := by
  exact nodeR_imp2 (fun _ => blossom_search_meet.b2_t  s0 b2 pa7p pa7n pa7c X1 E H K) blossom_search_meet.nok rfl (fun G => by kernel_rfl) h
/-! ### (*compass/blossom.search).mark (62) -/
noncomputable def blossom_search_mark.A : An := { live := [(0, [0, 1, 2, 3, 4]), (1, [0, 1, 2, 3, 4]), (2, [0, 1, 2, 3, 4, 10]), (3, [0, 1, 2, 3, 4, 10]), (4, [0, 2, 4, 10]), (5, [0, 2, 3, 4, 10])], ord := [(2, [0, 1, 2, 3, 4, 5, 6, 7, 8, 9, 10, 11, 12, 13, 14, 15, 16, 17, 18, 19])], stb := [], pre := [(2, [[], [], [1], [1, 2], [1, 2, 3], [], [1, 2, 3, 4, 5], [1, 2, 3, 4, 5, 6], [], [], [9], [9, 10], [9, 10, 11], [], [9, 10, 11, 12, 13], [9, 10, 11, 12, 13, 14], [0, 1, 2, 3, 4, 5, 6, 7, 9, 10, 11, 12, 13, 14, 15], [0, 1, 2, 3, 4, 5, 6, 7, 9, 10, 11, 12, 13, 14, 15, 16], [0, 1, 2, 3, 4, 5, 6, 7, 8, 9, 10, 11, 12, 13, 14, 15, 16, 17], [0, 1, 2, 3, 4, 5, 6, 7, 8, 9, 10, 11, 12, 13, 14, 15, 16, 17, 18]])] }
noncomputable def blossom_search_mark.code : Code := bodyOf Go.Proofs.Try.f62
theorem blossom_search_mark.ok : okCode blossom_search_mark.A 59 blossom_search_mark.code = true := by kernel_rfl
def blossom_search_mark.rq (E : Value → Hp → Prop) (K : Hp → Prop) : Ex → Fr → Hp → Prop := retQ T0 [] [] (fun r H => ldR (.tup []) r fun u => K  H) E
def blossom_search_mark.run (s0 : Option Addr) (v1 : Int) (to2 : Int) (i3 : Int) (in4p : Option Addr) (in4n : Nat) (in4c : Nat) (E : Value → Hp → Prop) (H : Hp) (K : Hp → Prop) : Prop := nodeM P0 T0 blossom_search_mark.A blossom_search_mark.code [] [] (blossom_search_mark.rq E K) (argF 0 [.pointer s0, .int .i64 v1, .int .i64 to2, .int .i64 i3, .slice in4p in4n in4c]) H
theorem blossom_search_mark.of {s0 : Option Addr} {v1 : Int} {to2 : Int} {i3 : Int} {in4p : Option Addr} {in4n : Nat} {in4c : Nat} {E : Value → Hp → Prop} {H : Hp} {K : Hp → Prop} (h : blossom_search_mark.run s0 v1 to2 i3 in4p in4n in4c E H K) : blossom_search_mark.call s0 v1 to2 i3 in4p in4n in4c E H K :=
  callW_of T0_ok P0_mixed (A := blossom_search_mark.A) (fn := Go.Proofs.Try.f62) Go.Proofs.Try.func62 rfl blossom_search_mark.ok rfl h
noncomputable def blossom_search_mark.f1 (s0 : Option Addr) (v1 : Int) (to2 : Int) (i3 : Int) (in4p : Option Addr) (in4n : Nat) (in4c : Nat) : Fr := [(0, .pointer s0), (1, .int .i64 v1), (2, .int .i64 to2), (3, .int .i64 i3), (4, .slice in4p in4n in4c)]
def blossom_search_mark.l1 (s0 : Option Addr) (v1 : Int) (to2 : Int) (i3 : Int) (in4p : Option Addr) (in4n : Nat) (in4c : Nat)  (E : Value → Hp → Prop) (H : Hp) (K : Hp → Prop) : Prop := nodeM P0 T0 blossom_search_mark.A blossom_search_mark.code [0] [] (blossom_search_mark.rq E K) (blossom_search_mark.f1 s0 v1 to2 i3 in4p in4n in4c) H
def blossom_search_mark.b1 (s0 : Option Addr) (v1 : Int) (to2 : Int) (i3 : Int) (in4p : Option Addr) (in4n : Nat) (in4c : Nat)  (X1 : Fr → Hp → Prop) (E : Value → Hp → Prop) (H : Hp) (K : Hp → Prop) : Prop := nodeM P0 T0 blossom_search_mark.A blossom_search_mark.code [0, 0] [X1] (blossom_search_mark.rq E K) (blossom_search_mark.f1 s0 v1 to2 i3 in4p in4n in4c) H
theorem blossom_search_mark.l1_rule { E : Value → Hp → Prop} {K : Hp → Prop} (I : (Option Addr) → Int → Int → Int → (Option Addr) → Nat → Nat → Hp → Prop) (μ : (Option Addr) → Int → Int → Int → (Option Addr) → Nat → Nat → Hp → Nat)
    (h : ∀ s0 v1 to2 i3 in4p in4n in4c H, I s0 v1 to2 i3 in4p in4n in4c H → ∀ X : Fr → Hp → Prop, (∀ s0' v1' to2' i3' in4p' in4n' in4c' H', I s0' v1' to2' i3' in4p' in4n' in4c' H' → μ s0' v1' to2' i3' in4p' in4n' in4c' H' < μ s0 v1 to2 i3 in4p in4n in4c H → X (blossom_search_mark.f1 s0' v1' to2' i3' in4p' in4n' in4c') H') → blossom_search_mark.b1 s0 v1 to2 i3 in4p in4n in4c  X E H K)
    {s0 : Option Addr} {v1 : Int} {to2 : Int} {i3 : Int} {in4p : Option Addr} {in4n : Nat} {in4c : Nat} {H : Hp} (hI : I s0 v1 to2 i3 in4p in4n in4c H) : blossom_search_mark.l1 s0 v1 to2 i3 in4p in4n in4c  E H K :=
  loop_rule (S := (Option Addr) × Int × Int × Int × (Option Addr) × Nat × Nat) (fun s => blossom_search_mark.f1 (s.1) (s.2.1) (s.2.2.1) (s.2.2.2.1) (s.2.2.2.2.1) (s.2.2.2.2.2.1) (s.2.2.2.2.2.2)) (fun s H => I (s.1) (s.2.1) (s.2.2.1) (s.2.2.2.1) (s.2.2.2.2.1) (s.2.2.2.2.2.1) (s.2.2.2.2.2.2) H) (fun s H => μ (s.1) (s.2.1) (s.2.2.1) (s.2.2.2.1) (s.2.2.2.2.1) (s.2.2.2.2.2.1) (s.2.2.2.2.2.2) H) (fun s H hI X hX => h (s.1) (s.2.1) (s.2.2.1) (s.2.2.2.1) (s.2.2.2.2.1) (s.2.2.2.2.2.1) (s.2.2.2.2.2.2) H hI X fun s0' v1' to2' i3' in4p' in4n' in4c' H' hI' hlt => hX (s0', v1', to2', i3', in4p', in4n', in4c') H' hI' hlt) (s := (s0, v1, to2, i3, in4p, in4n, in4c)) rfl hI
theorem blossom_search_mark.nok : nodesOk blossom_search_mark.code [[0]] = true := by kernel_rfl
def blossom_search_mark.run_t (l1 : (Option Addr) → Int → Int → Int → (Option Addr) → Nat → Nat → Hp → Prop) (s0 : Option Addr) (v1 : Int) (to2 : Int) (i3 : Int) (in4p : Option Addr) (in4n : Nat) (in4c : Nat)  (E : Value → Hp → Prop) (H : Hp) (K : Hp → Prop) : Prop :=
  l1 s0 v1 to2 i3 in4p in4n in4c H
theorem blossom_search_mark.run_eq {s0 : Option Addr} {v1 : Int} {to2 : Int} {i3 : Int} {in4p : Option Addr} {in4n : Nat} {in4c : Nat} { E : Value → Hp → Prop} {H : Hp} {K : Hp → Prop} (h : blossom_search_mark.run_t (fun s0 v1 to2 i3 in4p in4n in4c H => blossom_search_mark.l1 s0 v1 to2 i3 in4p in4n in4c  E H K) s0 v1 to2 i3 in4p in4n in4c  E H K) : blossom_search_mark.run s0 v1 to2 i3 in4p in4n in4c  E H K := by
  exact nodeR_imp2 (fun G => blossom_search_mark.run_t (fun s0 v1 to2 i3 in4p in4n in4c H => G [0] [(0, .pointer s0), (1, .int .i64 v1), (2, .int .i64 to2), (3, .int .i64 i3), (4, .slice in4p in4n in4c)] H) s0 v1 to2 i3 in4p in4n in4c  E H K) blossom_search_mark.nok rfl (fun G => by kernel_rfl) (Eq.mp (by kernel_rfl) h)
def blossom_search_mark.b1_t  (s0 : Option Addr) (v1 : Int) (to2 : Int) (i3 : Int) (in4p : Option Addr) (in4n : Nat) (in4c : Nat) (X1 : Fr → Hp → Prop) (E : Value → Hp → Prop) (H : Hp) (K : Hp → Prop) : Prop :=
  nn s0 fun b_1 o_1 =>
  ldS (H.get b_1 (o_1 + 4)) fun x_1p x_1n x_1c =>
  ix x_1p x_1n v1 1 fun b_2 o_2 =>
  ldI .i64 (H.get b_2 o_2) fun x_2 =>
  bcase (!decide ((x_2 : Int) = to2)) (
  blossom_search_mate.call s0 v1 E H fun r_1 H_1 =>
  nn s0 fun b_3 o_3 =>
  ldS (H_1.get b_3 (o_3 + 4)) fun x_3p x_3n x_3c =>
  ix x_3p x_3n v1 1 fun b_4 o_4 =>
  ldI .i64 (H_1.get b_4 o_4) fun x_4 =>
  nn s0 fun b_5 o_5 =>
  ldS (H_1.get b_5 (o_5 + 4)) fun x_5p x_5n x_5c =>
  ix x_5p x_5n r_1 1 fun b_6 o_6 =>
  ldI .i64 (H_1.get b_6 o_6) fun x_6 =>
  ix in4p in4n x_4 1 fun b_7 o_7 =>
  stC H_1 b_7 o_7 [.bool true] fun H_2 =>
  ix in4p in4n x_6 1 fun b_8 o_8 =>
  stC H_2 b_8 o_8 [.bool true] fun H_3 =>
  nn s0 fun b_9 o_9 =>
  ldS (H_3.get b_9 (o_9 + 5)) fun x_7p x_7n x_7c =>
  ix x_7p x_7n v1 1 fun b_10 o_10 =>
  stC H_3 b_10 o_10 [.int .i64 i3] fun H_4 =>
  nn s0 fun b_11 o_11 =>
  ldS (H_4.get b_11 (o_11 + 5)) fun x_8p x_8n x_8c =>
  ix x_8p x_8n r_1 1 fun b_12 o_12 =>
  ldI .i64 (H_4.get b_12 o_12) fun x_9 =>
  blossom_search_other.call s0 x_9 r_1 E H_4 fun r_2 H_5 =>
  X1 (blossom_search_mark.f1 s0 r_2 to2 x_9 in4p in4n in4c) H_5)
  (K H)
theorem blossom_search_mark.b1_eq {s0 : Option Addr} {v1 : Int} {to2 : Int} {i3 : Int} {in4p : Option Addr} {in4n : Nat} {in4c : Nat} {X1 : Fr → Hp → Prop} { E : Value → Hp → Prop} {H : Hp} {K : Hp → Prop} (h : blossom_search_mark.b1_t  s0 v1 to2 i3 in4p in4n in4c X1 E H K) : blossom_search_mark.b1 s0 v1 to2 i3 in4p in4n in4c X1 E H K := by
  exact nodeR_imp2 (fun _ => blossom_search_mark.b1_t  s0 v1 to2 i3 in4p in4n in4c X1 E H K) blossom_search_mark.nok rfl (fun G => by kernel_rfl) h
end Go.Mz
