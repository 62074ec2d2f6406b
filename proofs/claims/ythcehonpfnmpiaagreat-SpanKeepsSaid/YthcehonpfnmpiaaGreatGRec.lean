/-
  The shallow texts of functions (Rec), each with a kernel-checked equation to the translated code. It proves nothing of the program by itself.
-/
import Derived.Test.YthcehonpfnmpiaaGreatTab
set_option linter.unusedVariables false
set_option maxRecDepth 100000
namespace Go.Mz
/-! ### compass/compassref04.Parts (13) -/
noncomputable def compassref04_Parts.A : An := { live := [(0, [0]), (1, [1]), (2, [1, 4]), (3, [4]), (4, [1]), (5, [1, 6]), (6, [1, 6, 7]), (7, [1, 6, 7]), (8, [1, 6, 7]), (9, [1, 6]), (10, [1, 6, 8]), (11, [1, 6, 8]), (12, [1, 6, 8]), (13, [1, 6, 8, 9]), (14, [1, 6, 8, 9]), (15, [1, 6, 8, 9]), (16, [1, 6, 8, 9, 10]), (17, [1, 6, 8, 9, 10, 11]), (18, [1, 6, 8, 9, 10, 11]), (19, [1, 6, 8, 9, 10, 11]), (20, [6])], ord := [(17, [0, 1, 2, 3, 4, 5, 6, 7, 8])], stb := [], pre := [(17, [[], [], [0, 1], [0, 1, 2], [], [], [4, 5], [4, 5, 6], [0, 1, 2, 3, 4, 5, 6, 7]])] }
noncomputable def compassref04_Parts.code : Code := bodyOf Go.Proofs.Tryz.f13
theorem compassref04_Parts.ok : okCode compassref04_Parts.A 83 compassref04_Parts.code = true := by kernel_rfl
def compassref04_Parts.rq (E : Value → Hp → Prop) (K : (Option Addr) → Nat → Nat → Int → Hp → Prop) : Ex → Fr → Hp → Prop := retQ T0 [.tmp 2, .tmp 3] [26, 3] (fun r H => ldR (.tup [(false, [.sl]), (false, [.i .i64])]) r fun u => K (asS1 (tupV u 0)) (asS2 (tupV u 0)) (asS3 (tupV u 0)) (asI (tupV u 1)) H) E
def compassref04_Parts.run (g0_Nodes : Int) (g0_Edgesp : Option Addr) (g0_Edgesn : Nat) (g0_Edgesc : Nat) (E : Value → Hp → Prop) (H : Hp) (K : (Option Addr) → Nat → Nat → Int → Hp → Prop) : Prop := nodeM P0 T0 compassref04_Parts.A compassref04_Parts.code [] [] (compassref04_Parts.rq E K) (argF 0 [.agg ⟨[.int .i64 g0_Nodes, .slice g0_Edgesp g0_Edgesn g0_Edgesc]⟩]) H
theorem compassref04_Parts.of {g0_Nodes : Int} {g0_Edgesp : Option Addr} {g0_Edgesn : Nat} {g0_Edgesc : Nat} {E : Value → Hp → Prop} {H : Hp} {K : (Option Addr) → Nat → Nat → Int → Hp → Prop} (h : compassref04_Parts.run g0_Nodes g0_Edgesp g0_Edgesn g0_Edgesc E H K) : compassref04_Parts.call g0_Nodes g0_Edgesp g0_Edgesn g0_Edgesc E H K :=
  callW_of T0_ok P0_mixed (A := compassref04_Parts.A) (fn := Go.Proofs.Tryz.f13) Go.Proofs.Tryz.func13 rfl compassref04_Parts.ok rfl h
noncomputable def compassref04_Parts.f1 (g1 : Nat) (le6p : Option Addr) (le6n : Nat) (le6c : Nat) (v7 : Int) : Fr := [(1, .pointer (some ⟨g1, 0, none⟩)), (6, .slice le6p le6n le6c), (7, .int .i64 v7)]
noncomputable def compassref04_Parts.f2 (g1 : Nat) (le6p : Option Addr) (le6n : Nat) (le6c : Nat) (ro8 : Int) : Fr := [(1, .pointer (some ⟨g1, 0, none⟩)), (6, .slice le6p le6n le6c), (8, .int .i64 ro8)]
noncomputable def compassref04_Parts.f3 (g1 : Nat) (le6p : Option Addr) (le6n : Nat) (le6c : Nat) (ro8 : Int) (i9 : Int) : Fr := [(1, .pointer (some ⟨g1, 0, none⟩)), (6, .slice le6p le6n le6c), (8, .int .i64 ro8), (9, .int .i64 i9)]
def compassref04_Parts.j1 (g1 : Nat) (le6p : Option Addr) (le6n : Nat) (le6c : Nat)  (E : Value → Hp → Prop) (H : Hp) (K : (Option Addr) → Nat → Nat → Int → Hp → Prop) : Prop := nodeM P0 T0 compassref04_Parts.A compassref04_Parts.code [1, 1, 1, 1, 1] [] (compassref04_Parts.rq E K) [(1, .pointer (some ⟨g1, 0, none⟩)), (6, .slice le6p le6n le6c)] H
def compassref04_Parts.j2 (g1 : Nat) (le6p : Option Addr) (le6n : Nat) (le6c : Nat) (ro8 : Int) (i9 : Int) (X1 : Fr → Hp → Prop) (X2 : Fr → Hp → Prop) (E : Value → Hp → Prop) (H : Hp) (K : (Option Addr) → Nat → Nat → Int → Hp → Prop) : Prop := nodeM P0 T0 compassref04_Parts.A compassref04_Parts.code [1, 1, 1, 1, 1, 0, 1, 0, 0, 1, 0, 0, 1, 0, 0, 1, 1] [X1, X2] (compassref04_Parts.rq E K) [(1, .pointer (some ⟨g1, 0, none⟩)), (6, .slice le6p le6n le6c), (8, .int .i64 ro8), (9, .int .i64 i9)] H
def compassref04_Parts.j3 (g1 : Nat) (le6p : Option Addr) (le6n : Nat) (le6c : Nat) (ro8 : Int) (X1 : Fr → Hp → Prop) (E : Value → Hp → Prop) (H : Hp) (K : (Option Addr) → Nat → Nat → Int → Hp → Prop) : Prop := nodeM P0 T0 compassref04_Parts.A compassref04_Parts.code [1, 1, 1, 1, 1, 0, 1, 0, 0, 1, 1] [X1] (compassref04_Parts.rq E K) [(1, .pointer (some ⟨g1, 0, none⟩)), (6, .slice le6p le6n le6c), (8, .int .i64 ro8)] H
def compassref04_Parts.j4 (le6p : Option Addr) (le6n : Nat) (le6c : Nat)  (E : Value → Hp → Prop) (H : Hp) (K : (Option Addr) → Nat → Nat → Int → Hp → Prop) : Prop := nodeM P0 T0 compassref04_Parts.A compassref04_Parts.code [1, 1, 1, 1, 1, 1] [] (compassref04_Parts.rq E K) [(6, .slice le6p le6n le6c)] H
def compassref04_Parts.l1 (g1 : Nat) (le6p : Option Addr) (le6n : Nat) (le6c : Nat) (v7 : Int)  (E : Value → Hp → Prop) (H : Hp) (K : (Option Addr) → Nat → Nat → Int → Hp → Prop) : Prop := nodeM P0 T0 compassref04_Parts.A compassref04_Parts.code [1, 1, 1, 1, 0, 1, 0] [] (compassref04_Parts.rq E K) (compassref04_Parts.f1 g1 le6p le6n le6c v7) H
def compassref04_Parts.b1 (g1 : Nat) (le6p : Option Addr) (le6n : Nat) (le6c : Nat) (v7 : Int)  (X1 : Fr → Hp → Prop) (E : Value → Hp → Prop) (H : Hp) (K : (Option Addr) → Nat → Nat → Int → Hp → Prop) : Prop := nodeM P0 T0 compassref04_Parts.A compassref04_Parts.code [1, 1, 1, 1, 0, 1, 0, 0] [X1] (compassref04_Parts.rq E K) (compassref04_Parts.f1 g1 le6p le6n le6c v7) H
theorem compassref04_Parts.l1_rule { E : Value → Hp → Prop} {K : (Option Addr) → Nat → Nat → Int → Hp → Prop} (I : Nat → (Option Addr) → Nat → Nat → Int → Hp → Prop) (μ : Nat → (Option Addr) → Nat → Nat → Int → Hp → Nat)
    (h : ∀ g1 le6p le6n le6c v7 H, I g1 le6p le6n le6c v7 H → ∀ X : Fr → Hp → Prop, (∀ g1' le6p' le6n' le6c' v7' H', I g1' le6p' le6n' le6c' v7' H' → μ g1' le6p' le6n' le6c' v7' H' < μ g1 le6p le6n le6c v7 H → X (compassref04_Parts.f1 g1' le6p' le6n' le6c' v7') H') → compassref04_Parts.b1 g1 le6p le6n le6c v7  X E H K)
    {g1 : Nat} {le6p : Option Addr} {le6n : Nat} {le6c : Nat} {v7 : Int} {H : Hp} (hI : I g1 le6p le6n le6c v7 H) : compassref04_Parts.l1 g1 le6p le6n le6c v7  E H K :=
  loop_rule (S := Nat × (Option Addr) × Nat × Nat × Int) (fun s => compassref04_Parts.f1 (s.1) (s.2.1) (s.2.2.1) (s.2.2.2.1) (s.2.2.2.2)) (fun s H => I (s.1) (s.2.1) (s.2.2.1) (s.2.2.2.1) (s.2.2.2.2) H) (fun s H => μ (s.1) (s.2.1) (s.2.2.1) (s.2.2.2.1) (s.2.2.2.2) H) (fun s H hI X hX => h (s.1) (s.2.1) (s.2.2.1) (s.2.2.2.1) (s.2.2.2.2) H hI X fun g1' le6p' le6n' le6c' v7' H' hI' hlt => hX (g1', le6p', le6n', le6c', v7') H' hI' hlt) (s := (g1, le6p, le6n, le6c, v7)) rfl hI
def compassref04_Parts.l2 (g1 : Nat) (le6p : Option Addr) (le6n : Nat) (le6c : Nat) (ro8 : Int)  (E : Value → Hp → Prop) (H : Hp) (K : (Option Addr) → Nat → Nat → Int → Hp → Prop) : Prop := nodeM P0 T0 compassref04_Parts.A compassref04_Parts.code [1, 1, 1, 1, 1, 0, 1, 0] [] (compassref04_Parts.rq E K) (compassref04_Parts.f2 g1 le6p le6n le6c ro8) H
def compassref04_Parts.b2 (g1 : Nat) (le6p : Option Addr) (le6n : Nat) (le6c : Nat) (ro8 : Int)  (X1 : Fr → Hp → Prop) (E : Value → Hp → Prop) (H : Hp) (K : (Option Addr) → Nat → Nat → Int → Hp → Prop) : Prop := nodeM P0 T0 compassref04_Parts.A compassref04_Parts.code [1, 1, 1, 1, 1, 0, 1, 0, 0] [X1] (compassref04_Parts.rq E K) (compassref04_Parts.f2 g1 le6p le6n le6c ro8) H
theorem compassref04_Parts.l2_rule { E : Value → Hp → Prop} {K : (Option Addr) → Nat → Nat → Int → Hp → Prop} (I : Nat → (Option Addr) → Nat → Nat → Int → Hp → Prop) (μ : Nat → (Option Addr) → Nat → Nat → Int → Hp → Nat)
    (h : ∀ g1 le6p le6n le6c ro8 H, I g1 le6p le6n le6c ro8 H → ∀ X : Fr → Hp → Prop, (∀ g1' le6p' le6n' le6c' ro8' H', I g1' le6p' le6n' le6c' ro8' H' → μ g1' le6p' le6n' le6c' ro8' H' < μ g1 le6p le6n le6c ro8 H → X (compassref04_Parts.f2 g1' le6p' le6n' le6c' ro8') H') → compassref04_Parts.b2 g1 le6p le6n le6c ro8  X E H K)
    {g1 : Nat} {le6p : Option Addr} {le6n : Nat} {le6c : Nat} {ro8 : Int} {H : Hp} (hI : I g1 le6p le6n le6c ro8 H) : compassref04_Parts.l2 g1 le6p le6n le6c ro8  E H K :=
  loop_rule (S := Nat × (Option Addr) × Nat × Nat × Int) (fun s => compassref04_Parts.f2 (s.1) (s.2.1) (s.2.2.1) (s.2.2.2.1) (s.2.2.2.2)) (fun s H => I (s.1) (s.2.1) (s.2.2.1) (s.2.2.2.1) (s.2.2.2.2) H) (fun s H => μ (s.1) (s.2.1) (s.2.2.1) (s.2.2.2.1) (s.2.2.2.2) H) (fun s H hI X hX => h (s.1) (s.2.1) (s.2.2.1) (s.2.2.2.1) (s.2.2.2.2) H hI X fun g1' le6p' le6n' le6c' ro8' H' hI' hlt => hX (g1', le6p', le6n', le6c', ro8') H' hI' hlt) (s := (g1, le6p, le6n, le6c, ro8)) rfl hI
def compassref04_Parts.l3 (g1 : Nat) (le6p : Option Addr) (le6n : Nat) (le6c : Nat) (ro8 : Int) (i9 : Int) (X1 : Fr → Hp → Prop) (E : Value → Hp → Prop) (H : Hp) (K : (Option Addr) → Nat → Nat → Int → Hp → Prop) : Prop := nodeM P0 T0 compassref04_Parts.A compassref04_Parts.code [1, 1, 1, 1, 1, 0, 1, 0, 0, 1, 0, 0, 1, 0] [X1] (compassref04_Parts.rq E K) (compassref04_Parts.f3 g1 le6p le6n le6c ro8 i9) H
def compassref04_Parts.b3 (g1 : Nat) (le6p : Option Addr) (le6n : Nat) (le6c : Nat) (ro8 : Int) (i9 : Int) (X1 : Fr → Hp → Prop) (X2 : Fr → Hp → Prop) (E : Value → Hp → Prop) (H : Hp) (K : (Option Addr) → Nat → Nat → Int → Hp → Prop) : Prop := nodeM P0 T0 compassref04_Parts.A compassref04_Parts.code [1, 1, 1, 1, 1, 0, 1, 0, 0, 1, 0, 0, 1, 0, 0] [X1, X2] (compassref04_Parts.rq E K) (compassref04_Parts.f3 g1 le6p le6n le6c ro8 i9) H
theorem compassref04_Parts.l3_rule {X1 : Fr → Hp → Prop} { E : Value → Hp → Prop} {K : (Option Addr) → Nat → Nat → Int → Hp → Prop} (I : Nat → (Option Addr) → Nat → Nat → Int → Int → Hp → Prop) (μ : Nat → (Option Addr) → Nat → Nat → Int → Int → Hp → Nat)
    (h : ∀ g1 le6p le6n le6c ro8 i9 H, I g1 le6p le6n le6c ro8 i9 H → ∀ X : Fr → Hp → Prop, (∀ g1' le6p' le6n' le6c' ro8' i9' H', I g1' le6p' le6n' le6c' ro8' i9' H' → μ g1' le6p' le6n' le6c' ro8' i9' H' < μ g1 le6p le6n le6c ro8 i9 H → X (compassref04_Parts.f3 g1' le6p' le6n' le6c' ro8' i9') H') → compassref04_Parts.b3 g1 le6p le6n le6c ro8 i9 X1 X E H K)
    {g1 : Nat} {le6p : Option Addr} {le6n : Nat} {le6c : Nat} {ro8 : Int} {i9 : Int} {H : Hp} (hI : I g1 le6p le6n le6c ro8 i9 H) : compassref04_Parts.l3 g1 le6p le6n le6c ro8 i9 X1 E H K :=
  loop_rule (S := Nat × (Option Addr) × Nat × Nat × Int × Int) (fun s => compassref04_Parts.f3 (s.1) (s.2.1) (s.2.2.1) (s.2.2.2.1) (s.2.2.2.2.1) (s.2.2.2.2.2)) (fun s H => I (s.1) (s.2.1) (s.2.2.1) (s.2.2.2.1) (s.2.2.2.2.1) (s.2.2.2.2.2) H) (fun s H => μ (s.1) (s.2.1) (s.2.2.1) (s.2.2.2.1) (s.2.2.2.2.1) (s.2.2.2.2.2) H) (fun s H hI X hX => h (s.1) (s.2.1) (s.2.2.1) (s.2.2.2.1) (s.2.2.2.2.1) (s.2.2.2.2.2) H hI X fun g1' le6p' le6n' le6c' ro8' i9' H' hI' hlt => hX (g1', le6p', le6n', le6c', ro8', i9') H' hI' hlt) (s := (g1, le6p, le6n, le6c, ro8, i9)) rfl hI
theorem compassref04_Parts.nok : nodesOk compassref04_Parts.code [[0, 1, 0, 1, 1, 1, 1], [1, 1, 1, 1, 1], [0, 1, 0, 1, 1, 1, 1, 1], [0, 1, 0, 0, 1, 0, 0, 1, 0, 1, 1, 1, 1, 1], [1, 1, 0, 0, 1, 0, 0, 1, 0, 0, 1, 0, 1, 1, 1, 1, 1], [1, 1, 0, 0, 1, 0, 1, 1, 1, 1, 1], [1, 1, 1, 1, 1, 1]] = true := by kernel_rfl
def compassref04_Parts.run_t (l1 : Nat → (Option Addr) → Nat → Nat → Int → Hp → Prop) (g0_Nodes : Int) (g0_Edgesp : Option Addr) (g0_Edgesn : Nat) (g0_Edgesc : Nat)  (E : Value → Hp → Prop) (H : Hp) (K : (Option Addr) → Nat → Nat → Int → Hp → Prop) : Prop :=
  nw H ⟨[.int .i64 g0_Nodes, .slice g0_Edgesp g0_Edgesn g0_Edgesc], 24⟩ fun b_1 H_1 =>
  ldI .i64 (H_1.get b_1 0) fun x_1 =>
  ldS (H_1.get b_1 1) fun x_2p x_2n x_2c =>
  compassref03_Check.call x_1 x_2p x_2n x_2c E H_1 fun r_1 r_2 H_2 =>
  bcase (!decide ((r_1 : Int) = 0)) (
  K none 0 0 r_1 H_2)
  (ldI .i64 (H_2.get b_1 0) fun x_3 =>
  mkS x_3 x_3 3 [.i .i64] 8 H_2 fun b_2 H_3 =>
  l1 b_1 (some ⟨b_2, 0, none⟩) x_3.toNat x_3.toNat 0 H_3)
theorem compassref04_Parts.run_eq {g0_Nodes : Int} {g0_Edgesp : Option Addr} {g0_Edgesn : Nat} {g0_Edgesc : Nat} { E : Value → Hp → Prop} {H : Hp} {K : (Option Addr) → Nat → Nat → Int → Hp → Prop} (h : compassref04_Parts.run_t (fun g1 le6p le6n le6c v7 H => compassref04_Parts.l1 g1 le6p le6n le6c v7  E H K) g0_Nodes g0_Edgesp g0_Edgesn g0_Edgesc  E H K) : compassref04_Parts.run g0_Nodes g0_Edgesp g0_Edgesn g0_Edgesc  E H K := by
  exact nodeR_imp2 (fun G => compassref04_Parts.run_t (fun g1 le6p le6n le6c v7 H => G [0, 1, 0, 1, 1, 1, 1] [(1, .pointer (some ⟨g1, 0, none⟩)), (6, .slice le6p le6n le6c), (7, .int .i64 v7)] H) g0_Nodes g0_Edgesp g0_Edgesn g0_Edgesc  E H K) compassref04_Parts.nok rfl (fun G => by kernel_rfl) (Eq.mp (by kernel_rfl) h)
def compassref04_Parts.j1_t (l2 : Nat → (Option Addr) → Nat → Nat → Int → Hp → Prop) (g1 : Nat) (le6p : Option Addr) (le6n : Nat) (le6c : Nat)  (E : Value → Hp → Prop) (H : Hp) (K : (Option Addr) → Nat → Nat → Int → Hp → Prop) : Prop :=
  l2 g1 le6p le6n le6c 0 H
theorem compassref04_Parts.j1_eq {g1 : Nat} {le6p : Option Addr} {le6n : Nat} {le6c : Nat} { E : Value → Hp → Prop} {H : Hp} {K : (Option Addr) → Nat → Nat → Int → Hp → Prop} (h : compassref04_Parts.j1_t (fun g1 le6p le6n le6c ro8 H => compassref04_Parts.l2 g1 le6p le6n le6c ro8  E H K) g1 le6p le6n le6c  E H K) : compassref04_Parts.j1 g1 le6p le6n le6c  E H K := by
  exact nodeR_imp2 (fun G => compassref04_Parts.j1_t (fun g1 le6p le6n le6c ro8 H => G [0, 1, 0, 1, 1, 1, 1, 1] [(1, .pointer (some ⟨g1, 0, none⟩)), (6, .slice le6p le6n le6c), (8, .int .i64 ro8)] H) g1 le6p le6n le6c  E H K) compassref04_Parts.nok rfl (fun G => by kernel_rfl) (Eq.mp (by kernel_rfl) h)
def compassref04_Parts.j2_t  (g1 : Nat) (le6p : Option Addr) (le6n : Nat) (le6c : Nat) (ro8 : Int) (i9 : Int) (X1 : Fr → Hp → Prop) (X2 : Fr → Hp → Prop) (E : Value → Hp → Prop) (H : Hp) (K : (Option Addr) → Nat → Nat → Int → Hp → Prop) : Prop :=
  X2 (compassref04_Parts.f3 g1 le6p le6n le6c ro8 (IntKind.wrap .i64 (i9 + 1))) H
theorem compassref04_Parts.j2_eq {g1 : Nat} {le6p : Option Addr} {le6n : Nat} {le6c : Nat} {ro8 : Int} {i9 : Int} {X1 X2 : Fr → Hp → Prop} { E : Value → Hp → Prop} {H : Hp} {K : (Option Addr) → Nat → Nat → Int → Hp → Prop} (h : compassref04_Parts.j2_t  g1 le6p le6n le6c ro8 i9 X1 X2 E H K) : compassref04_Parts.j2 g1 le6p le6n le6c ro8 i9 X1 X2 E H K := by
  exact nodeR_imp2 (fun _ => compassref04_Parts.j2_t  g1 le6p le6n le6c ro8 i9 X1 X2 E H K) compassref04_Parts.nok rfl (fun G => by kernel_rfl) h
def compassref04_Parts.j3_t  (g1 : Nat) (le6p : Option Addr) (le6n : Nat) (le6c : Nat) (ro8 : Int) (X1 : Fr → Hp → Prop) (E : Value → Hp → Prop) (H : Hp) (K : (Option Addr) → Nat → Nat → Int → Hp → Prop) : Prop :=
  X1 (compassref04_Parts.f2 g1 le6p le6n le6c (IntKind.wrap .i64 (ro8 + 1))) H
theorem compassref04_Parts.j3_eq {g1 : Nat} {le6p : Option Addr} {le6n : Nat} {le6c : Nat} {ro8 : Int} {X1 : Fr → Hp → Prop} { E : Value → Hp → Prop} {H : Hp} {K : (Option Addr) → Nat → Nat → Int → Hp → Prop} (h : compassref04_Parts.j3_t  g1 le6p le6n le6c ro8 X1 E H K) : compassref04_Parts.j3 g1 le6p le6n le6c ro8 X1 E H K := by
  exact nodeR_imp2 (fun _ => compassref04_Parts.j3_t  g1 le6p le6n le6c ro8 X1 E H K) compassref04_Parts.nok rfl (fun G => by kernel_rfl) h
def compassref04_Parts.j4_t  (le6p : Option Addr) (le6n : Nat) (le6c : Nat)  (E : Value → Hp → Prop) (H : Hp) (K : (Option Addr) → Nat → Nat → Int → Hp → Prop) : Prop :=
  compassref04_Numbered.call le6p le6n le6c E H fun r_1p r_1n r_1c H_1 =>
  K r_1p r_1n r_1c 0 H_1
theorem compassref04_Parts.j4_eq {le6p : Option Addr} {le6n : Nat} {le6c : Nat} { E : Value → Hp → Prop} {H : Hp} {K : (Option Addr) → Nat → Nat → Int → Hp → Prop} (h : compassref04_Parts.j4_t  le6p le6n le6c  E H K) : compassref04_Parts.j4 le6p le6n le6c  E H K := by
  exact nodeR_imp2 (fun _ => compassref04_Parts.j4_t  le6p le6n le6c  E H K) compassref04_Parts.nok rfl (fun G => by kernel_rfl) h
def compassref04_Parts.b1_t (j1 : Nat → (Option Addr) → Nat → Nat → Hp → Prop) (g1 : Nat) (le6p : Option Addr) (le6n : Nat) (le6c : Nat) (v7 : Int) (X1 : Fr → Hp → Prop) (E : Value → Hp → Prop) (H : Hp) (K : (Option Addr) → Nat → Nat → Int → Hp → Prop) : Prop :=
  ldI .i64 (H.get g1 0) fun x_1 =>
  bcase (decide ((v7 : Int) < x_1)) (
  ix le6p le6n v7 1 fun b_1 o_1 =>
  stC H b_1 o_1 [.int .i64 v7] fun H_1 =>
  X1 (compassref04_Parts.f1 g1 le6p le6n le6c (IntKind.wrap .i64 (v7 + 1))) H_1)
  (j1 g1 le6p le6n le6c H)
theorem compassref04_Parts.b1_eq {g1 : Nat} {le6p : Option Addr} {le6n : Nat} {le6c : Nat} {v7 : Int} {X1 : Fr → Hp → Prop} { E : Value → Hp → Prop} {H : Hp} {K : (Option Addr) → Nat → Nat → Int → Hp → Prop} (h : compassref04_Parts.b1_t (fun g1 le6p le6n le6c H => compassref04_Parts.j1 g1 le6p le6n le6c  E H K) g1 le6p le6n le6c v7 X1 E H K) : compassref04_Parts.b1 g1 le6p le6n le6c v7 X1 E H K := by
  exact nodeR_imp2 (fun G => compassref04_Parts.b1_t (fun g1 le6p le6n le6c H => G [1, 1, 1, 1, 1] [(1, .pointer (some ⟨g1, 0, none⟩)), (6, .slice le6p le6n le6c)] H) g1 le6p le6n le6c v7 X1 E H K) compassref04_Parts.nok rfl (fun G => by kernel_rfl) (Eq.mp (by kernel_rfl) h)
def compassref04_Parts.b2_t (l3 : Nat → (Option Addr) → Nat → Nat → Int → Int → Hp → Prop) (j4 : (Option Addr) → Nat → Nat → Hp → Prop) (g1 : Nat) (le6p : Option Addr) (le6n : Nat) (le6c : Nat) (ro8 : Int) (X1 : Fr → Hp → Prop) (E : Value → Hp → Prop) (H : Hp) (K : (Option Addr) → Nat → Nat → Int → Hp → Prop) : Prop :=
  ldI .i64 (H.get g1 0) fun x_1 =>
  bcase (decide ((ro8 : Int) < x_1)) (
  l3 g1 le6p le6n le6c ro8 0 H)
  (j4 le6p le6n le6c H)
theorem compassref04_Parts.b2_eq {g1 : Nat} {le6p : Option Addr} {le6n : Nat} {le6c : Nat} {ro8 : Int} {X1 : Fr → Hp → Prop} { E : Value → Hp → Prop} {H : Hp} {K : (Option Addr) → Nat → Nat → Int → Hp → Prop} (h : compassref04_Parts.b2_t (fun g1 le6p le6n le6c ro8 i9 H => compassref04_Parts.l3 g1 le6p le6n le6c ro8 i9 X1 E H K) (fun le6p le6n le6c H => compassref04_Parts.j4 le6p le6n le6c  E H K) g1 le6p le6n le6c ro8 X1 E H K) : compassref04_Parts.b2 g1 le6p le6n le6c ro8 X1 E H K := by
  exact nodeR_imp2 (fun G => compassref04_Parts.b2_t (fun g1 le6p le6n le6c ro8 i9 H => G [0, 1, 0, 0, 1, 0, 0, 1, 0, 1, 1, 1, 1, 1] [(1, .pointer (some ⟨g1, 0, none⟩)), (6, .slice le6p le6n le6c), (8, .int .i64 ro8), (9, .int .i64 i9)] H) (fun le6p le6n le6c H => G [1, 1, 1, 1, 1, 1] [(6, .slice le6p le6n le6c)] H) g1 le6p le6n le6c ro8 X1 E H K) compassref04_Parts.nok rfl (fun G => by kernel_rfl) (Eq.mp (by kernel_rfl) h)
def compassref04_Parts.b3_t (j2 : Nat → (Option Addr) → Nat → Nat → Int → Int → Hp → Prop) (j3 : Nat → (Option Addr) → Nat → Nat → Int → Hp → Prop) (g1 : Nat) (le6p : Option Addr) (le6n : Nat) (le6c : Nat) (ro8 : Int) (i9 : Int) (X1 : Fr → Hp → Prop) (X2 : Fr → Hp → Prop) (E : Value → Hp → Prop) (H : Hp) (K : (Option Addr) → Nat → Nat → Int → Hp → Prop) : Prop :=
  ldS (H.get g1 1) fun x_1p x_1n x_1c =>
  bcase (decide ((i9 : Int) < (x_1n : Int))) (
  ldS (H.get g1 1) fun x_2p x_2n x_2c =>
  ix x_2p x_2n i9 4 fun b_1 o_1 =>
  ldI .i64 (H.get b_1 o_1) fun x_3 =>
  ldS (H.get g1 1) fun x_4p x_4n x_4c =>
  ix x_4p x_4n i9 4 fun b_2 o_2 =>
  ldI .i64 (H.get b_2 (o_2 + 1)) fun x_5 =>
  ix le6p le6n x_3 1 fun b_3 o_3 =>
  ldI .i64 (H.get b_3 o_3) fun x_6 =>
  ix le6p le6n x_5 1 fun b_4 o_4 =>
  ldI .i64 (H.get b_4 o_4) fun x_7 =>
  bcase (decide ((x_6 : Int) < x_7)) (
  ix le6p le6n x_3 1 fun b_5 o_5 =>
  ldI .i64 (H.get b_5 o_5) fun x_8 =>
  ix le6p le6n x_5 1 fun b_6 o_6 =>
  stC H b_6 o_6 [.int .i64 x_8] fun H_1 =>
  j2 g1 le6p le6n le6c ro8 i9 H_1)
  (ix le6p le6n x_5 1 fun b_7 o_7 =>
  ldI .i64 (H.get b_7 o_7) fun x_9 =>
  ix le6p le6n x_3 1 fun b_8 o_8 =>
  stC H b_8 o_8 [.int .i64 x_9] fun H_2 =>
  j2 g1 le6p le6n le6c ro8 i9 H_2))
  (j3 g1 le6p le6n le6c ro8 H)
theorem compassref04_Parts.b3_eq {g1 : Nat} {le6p : Option Addr} {le6n : Nat} {le6c : Nat} {ro8 : Int} {i9 : Int} {X1 X2 : Fr → Hp → Prop} { E : Value → Hp → Prop} {H : Hp} {K : (Option Addr) → Nat → Nat → Int → Hp → Prop} (h : compassref04_Parts.b3_t (fun g1 le6p le6n le6c ro8 i9 H => compassref04_Parts.j2 g1 le6p le6n le6c ro8 i9 X1 X2 E H K) (fun g1 le6p le6n le6c ro8 H => compassref04_Parts.j3 g1 le6p le6n le6c ro8 X1 E H K) g1 le6p le6n le6c ro8 i9 X1 X2 E H K) : compassref04_Parts.b3 g1 le6p le6n le6c ro8 i9 X1 X2 E H K := by
  exact nodeR_imp2 (fun G => compassref04_Parts.b3_t (fun g1 le6p le6n le6c ro8 i9 H => G [1, 1, 0, 0, 1, 0, 0, 1, 0, 0, 1, 0, 1, 1, 1, 1, 1] [(1, .pointer (some ⟨g1, 0, none⟩)), (6, .slice le6p le6n le6c), (8, .int .i64 ro8), (9, .int .i64 i9)] H) (fun g1 le6p le6n le6c ro8 H => G [1, 1, 0, 0, 1, 0, 1, 1, 1, 1, 1] [(1, .pointer (some ⟨g1, 0, none⟩)), (6, .slice le6p le6n le6c), (8, .int .i64 ro8)] H) g1 le6p le6n le6c ro8 i9 X1 X2 E H K) compassref04_Parts.nok rfl (fun G => by kernel_rfl) (Eq.mp (by kernel_rfl) h)
/-! ### compass/compassref04.Wrong (29) -/
/-! ### compass/compassref04.Numbered (30) -/
noncomputable def compassref04_Numbered.A : An := { live := [(0, [0]), (1, [0]), (2, [0, 3]), (3, [0, 3, 4]), (4, [0, 3, 4, 5]), (5, [0, 3, 4, 5]), (6, [0, 3, 4, 5]), (7, [0, 3, 4, 5]), (8, [0, 3, 4, 5]), (9, [0, 3, 4, 5]), (10, [3])], ord := [], stb := [], pre := [] }
noncomputable def compassref04_Numbered.code : Code := bodyOf Go.Proofs.Tryz.f30
theorem compassref04_Numbered.ok : okCode compassref04_Numbered.A 38 compassref04_Numbered.code = true := by kernel_rfl
def compassref04_Numbered.rq (E : Value → Hp → Prop) (K : (Option Addr) → Nat → Nat → Hp → Prop) : Ex → Fr → Hp → Prop := retQ T0 [.tmp 2] [26] (fun r H => ldR (.one false [.sl]) r fun u => K (asS1 u) (asS2 u) (asS3 u) H) E
def compassref04_Numbered.run (le0p : Option Addr) (le0n : Nat) (le0c : Nat) (E : Value → Hp → Prop) (H : Hp) (K : (Option Addr) → Nat → Nat → Hp → Prop) : Prop := nodeM P0 T0 compassref04_Numbered.A compassref04_Numbered.code [] [] (compassref04_Numbered.rq E K) (argF 0 [.slice le0p le0n le0c]) H
theorem compassref04_Numbered.of {le0p : Option Addr} {le0n : Nat} {le0c : Nat} {E : Value → Hp → Prop} {H : Hp} {K : (Option Addr) → Nat → Nat → Hp → Prop} (h : compassref04_Numbered.run le0p le0n le0c E H K) : compassref04_Numbered.call le0p le0n le0c E H K :=
  callW_of T0_ok P0_mixed (A := compassref04_Numbered.A) (fn := Go.Proofs.Tryz.f30) Go.Proofs.Tryz.func30 rfl compassref04_Numbered.ok rfl h
noncomputable def compassref04_Numbered.f1 (le0p : Option Addr) (le0n : Nat) (le0c : Nat) (ou3p : Option Addr) (ou3n : Nat) (ou3c : Nat) (co4 : Int) (v5 : Int) : Fr := [(0, .slice le0p le0n le0c), (3, .slice ou3p ou3n ou3c), (4, .int .i64 co4), (5, .int .i64 v5)]
def compassref04_Numbered.j1 (le0p : Option Addr) (le0n : Nat) (le0c : Nat) (ou3p : Option Addr) (ou3n : Nat) (ou3c : Nat) (co4 : Int) (v5 : Int) (X1 : Fr → Hp → Prop) (E : Value → Hp → Prop) (H : Hp) (K : (Option Addr) → Nat → Nat → Hp → Prop) : Prop := nodeM P0 T0 compassref04_Numbered.A compassref04_Numbered.code [1, 1, 1, 0, 1, 0, 0, 1, 1] [X1] (compassref04_Numbered.rq E K) [(0, .slice le0p le0n le0c), (3, .slice ou3p ou3n ou3c), (4, .int .i64 co4), (5, .int .i64 v5)] H
def compassref04_Numbered.l1 (le0p : Option Addr) (le0n : Nat) (le0c : Nat) (ou3p : Option Addr) (ou3n : Nat) (ou3c : Nat) (co4 : Int) (v5 : Int)  (E : Value → Hp → Prop) (H : Hp) (K : (Option Addr) → Nat → Nat → Hp → Prop) : Prop := nodeM P0 T0 compassref04_Numbered.A compassref04_Numbered.code [1, 1, 1, 0, 1, 0] [] (compassref04_Numbered.rq E K) (compassref04_Numbered.f1 le0p le0n le0c ou3p ou3n ou3c co4 v5) H
def compassref04_Numbered.b1 (le0p : Option Addr) (le0n : Nat) (le0c : Nat) (ou3p : Option Addr) (ou3n : Nat) (ou3c : Nat) (co4 : Int) (v5 : Int)  (X1 : Fr → Hp → Prop) (E : Value → Hp → Prop) (H : Hp) (K : (Option Addr) → Nat → Nat → Hp → Prop) : Prop := nodeM P0 T0 compassref04_Numbered.A compassref04_Numbered.code [1, 1, 1, 0, 1, 0, 0] [X1] (compassref04_Numbered.rq E K) (compassref04_Numbered.f1 le0p le0n le0c ou3p ou3n ou3c co4 v5) H
theorem compassref04_Numbered.l1_rule { E : Value → Hp → Prop} {K : (Option Addr) → Nat → Nat → Hp → Prop} (I : (Option Addr) → Nat → Nat → (Option Addr) → Nat → Nat → Int → Int → Hp → Prop) (μ : (Option Addr) → Nat → Nat → (Option Addr) → Nat → Nat → Int → Int → Hp → Nat)
    (h : ∀ le0p le0n le0c ou3p ou3n ou3c co4 v5 H, I le0p le0n le0c ou3p ou3n ou3c co4 v5 H → ∀ X : Fr → Hp → Prop, (∀ le0p' le0n' le0c' ou3p' ou3n' ou3c' co4' v5' H', I le0p' le0n' le0c' ou3p' ou3n' ou3c' co4' v5' H' → μ le0p' le0n' le0c' ou3p' ou3n' ou3c' co4' v5' H' < μ le0p le0n le0c ou3p ou3n ou3c co4 v5 H → X (compassref04_Numbered.f1 le0p' le0n' le0c' ou3p' ou3n' ou3c' co4' v5') H') → compassref04_Numbered.b1 le0p le0n le0c ou3p ou3n ou3c co4 v5  X E H K)
    {le0p : Option Addr} {le0n : Nat} {le0c : Nat} {ou3p : Option Addr} {ou3n : Nat} {ou3c : Nat} {co4 : Int} {v5 : Int} {H : Hp} (hI : I le0p le0n le0c ou3p ou3n ou3c co4 v5 H) : compassref04_Numbered.l1 le0p le0n le0c ou3p ou3n ou3c co4 v5  E H K :=
  loop_rule (S := (Option Addr) × Nat × Nat × (Option Addr) × Nat × Nat × Int × Int) (fun s => compassref04_Numbered.f1 (s.1) (s.2.1) (s.2.2.1) (s.2.2.2.1) (s.2.2.2.2.1) (s.2.2.2.2.2.1) (s.2.2.2.2.2.2.1) (s.2.2.2.2.2.2.2)) (fun s H => I (s.1) (s.2.1) (s.2.2.1) (s.2.2.2.1) (s.2.2.2.2.1) (s.2.2.2.2.2.1) (s.2.2.2.2.2.2.1) (s.2.2.2.2.2.2.2) H) (fun s H => μ (s.1) (s.2.1) (s.2.2.1) (s.2.2.2.1) (s.2.2.2.2.1) (s.2.2.2.2.2.1) (s.2.2.2.2.2.2.1) (s.2.2.2.2.2.2.2) H) (fun s H hI X hX => h (s.1) (s.2.1) (s.2.2.1) (s.2.2.2.1) (s.2.2.2.2.1) (s.2.2.2.2.2.1) (s.2.2.2.2.2.2.1) (s.2.2.2.2.2.2.2) H hI X fun le0p' le0n' le0c' ou3p' ou3n' ou3c' co4' v5' H' hI' hlt => hX (le0p', le0n', le0c', ou3p', ou3n', ou3c', co4', v5') H' hI' hlt) (s := (le0p, le0n, le0c, ou3p, ou3n, ou3c, co4, v5)) rfl hI
theorem compassref04_Numbered.nok : nodesOk compassref04_Numbered.code [[0, 1, 0, 1, 1, 1], [1, 1, 0, 0, 1, 0, 1, 1, 1]] = true := by kernel_rfl
def compassref04_Numbered.run_t (l1 : (Option Addr) → Nat → Nat → (Option Addr) → Nat → Nat → Int → Int → Hp → Prop) (le0p : Option Addr) (le0n : Nat) (le0c : Nat)  (E : Value → Hp → Prop) (H : Hp) (K : (Option Addr) → Nat → Nat → Hp → Prop) : Prop :=
  mkS (le0n : Int) (le0n : Int) 3 [.i .i64] 8 H fun b_1 H_1 =>
  l1 le0p le0n le0c (some ⟨b_1, 0, none⟩) ((le0n : Int).toNat) ((le0n : Int).toNat) 0 0 H_1
theorem compassref04_Numbered.run_eq {le0p : Option Addr} {le0n : Nat} {le0c : Nat} { E : Value → Hp → Prop} {H : Hp} {K : (Option Addr) → Nat → Nat → Hp → Prop} (h : compassref04_Numbered.run_t (fun le0p le0n le0c ou3p ou3n ou3c co4 v5 H => compassref04_Numbered.l1 le0p le0n le0c ou3p ou3n ou3c co4 v5  E H K) le0p le0n le0c  E H K) : compassref04_Numbered.run le0p le0n le0c  E H K := by
  exact nodeR_imp2 (fun G => compassref04_Numbered.run_t (fun le0p le0n le0c ou3p ou3n ou3c co4 v5 H => G [0, 1, 0, 1, 1, 1] [(0, .slice le0p le0n le0c), (3, .slice ou3p ou3n ou3c), (4, .int .i64 co4), (5, .int .i64 v5)] H) le0p le0n le0c  E H K) compassref04_Numbered.nok rfl (fun G => by kernel_rfl) (Eq.mp (by kernel_rfl) h)
def compassref04_Numbered.j1_t  (le0p : Option Addr) (le0n : Nat) (le0c : Nat) (ou3p : Option Addr) (ou3n : Nat) (ou3c : Nat) (co4 : Int) (v5 : Int) (X1 : Fr → Hp → Prop) (E : Value → Hp → Prop) (H : Hp) (K : (Option Addr) → Nat → Nat → Hp → Prop) : Prop :=
  X1 (compassref04_Numbered.f1 le0p le0n le0c ou3p ou3n ou3c co4 (IntKind.wrap .i64 (v5 + 1))) H
theorem compassref04_Numbered.j1_eq {le0p : Option Addr} {le0n : Nat} {le0c : Nat} {ou3p : Option Addr} {ou3n : Nat} {ou3c : Nat} {co4 : Int} {v5 : Int} {X1 : Fr → Hp → Prop} { E : Value → Hp → Prop} {H : Hp} {K : (Option Addr) → Nat → Nat → Hp → Prop} (h : compassref04_Numbered.j1_t  le0p le0n le0c ou3p ou3n ou3c co4 v5 X1 E H K) : compassref04_Numbered.j1 le0p le0n le0c ou3p ou3n ou3c co4 v5 X1 E H K := by
  exact nodeR_imp2 (fun _ => compassref04_Numbered.j1_t  le0p le0n le0c ou3p ou3n ou3c co4 v5 X1 E H K) compassref04_Numbered.nok rfl (fun G => by kernel_rfl) h
def compassref04_Numbered.b1_t (j1 : (Option Addr) → Nat → Nat → (Option Addr) → Nat → Nat → Int → Int → Hp → Prop) (le0p : Option Addr) (le0n : Nat) (le0c : Nat) (ou3p : Option Addr) (ou3n : Nat) (ou3c : Nat) (co4 : Int) (v5 : Int) (X1 : Fr → Hp → Prop) (E : Value → Hp → Prop) (H : Hp) (K : (Option Addr) → Nat → Nat → Hp → Prop) : Prop :=
  bcase (decide ((v5 : Int) < (le0n : Int))) (
  ix le0p le0n v5 1 fun b_1 o_1 =>
  ldI .i64 (H.get b_1 o_1) fun x_1 =>
  bcase (decide ((x_1 : Int) = v5)) (
  ix ou3p ou3n v5 1 fun b_2 o_2 =>
  stC H b_2 o_2 [.int .i64 co4] fun H_1 =>
  j1 le0p le0n le0c ou3p ou3n ou3c (IntKind.wrap .i64 (co4 + 1)) v5 H_1)
  (ix le0p le0n v5 1 fun b_3 o_3 =>
  ldI .i64 (H.get b_3 o_3) fun x_2 =>
  ix ou3p ou3n x_2 1 fun b_4 o_4 =>
  ldI .i64 (H.get b_4 o_4) fun x_3 =>
  ix ou3p ou3n v5 1 fun b_5 o_5 =>
  stC H b_5 o_5 [.int .i64 x_3] fun H_2 =>
  j1 le0p le0n le0c ou3p ou3n ou3c co4 v5 H_2))
  (K ou3p ou3n ou3c H)
theorem compassref04_Numbered.b1_eq {le0p : Option Addr} {le0n : Nat} {le0c : Nat} {ou3p : Option Addr} {ou3n : Nat} {ou3c : Nat} {co4 : Int} {v5 : Int} {X1 : Fr → Hp → Prop} { E : Value → Hp → Prop} {H : Hp} {K : (Option Addr) → Nat → Nat → Hp → Prop} (h : compassref04_Numbered.b1_t (fun le0p le0n le0c ou3p ou3n ou3c co4 v5 H => compassref04_Numbered.j1 le0p le0n le0c ou3p ou3n ou3c co4 v5 X1 E H K) le0p le0n le0c ou3p ou3n ou3c co4 v5 X1 E H K) : compassref04_Numbered.b1 le0p le0n le0c ou3p ou3n ou3c co4 v5 X1 E H K := by
  exact nodeR_imp2 (fun G => compassref04_Numbered.b1_t (fun le0p le0n le0c ou3p ou3n ou3c co4 v5 H => G [1, 1, 0, 0, 1, 0, 1, 1, 1] [(0, .slice le0p le0n le0c), (3, .slice ou3p ou3n ou3c), (4, .int .i64 co4), (5, .int .i64 v5)] H) le0p le0n le0c ou3p ou3n ou3c co4 v5 X1 E H K) compassref04_Numbered.nok rfl (fun G => by kernel_rfl) (Eq.mp (by kernel_rfl) h)
end Go.Mz
