/-
  The shallow texts of functions (R10), each with a kernel-checked equation to the translated code. It proves nothing of the program by itself.
-/
import Derived.Test.YthcehonpfnmpiaaGreatTab
set_option linter.unusedVariables false
set_option maxRecDepth 100000
namespace Go.Mz
/-! ### compass/compassref10.Forest (9) -/
/-! ### compass/compassref10.Neck (12) -/
/-! ### compass/compassref10.Upto (14) -/
noncomputable def compassref10_Upto.A : An := { live := [(0, [0, 1, 2]), (1, [1, 2, 3, 6]), (2, [1, 2, 3, 6, 7]), (3, [1, 2, 3, 6, 7, 8]), (4, [1, 2, 3, 6, 7, 8]), (5, [1, 2, 3, 6, 7, 8]), (6, [1, 2, 3, 6, 7, 8]), (7, [6, 7])], ord := [(6, [0, 1, 2, 3, 4, 5, 6, 7, 8, 9, 10])], stb := [], pre := [(6, [[], [0], [], [2], [], [2, 3, 4], [2, 3, 4, 5], [2, 3, 4, 5, 6], [0, 1, 2, 3, 4, 5, 6, 7], [0, 1, 2, 3, 4, 5, 6, 7, 8], [0, 1, 2, 3, 4, 5, 6, 7, 8, 9]])] }
noncomputable def compassref10_Upto.code : Code := bodyOf Go.Proofs.Tryz.f14
theorem compassref10_Upto.ok : okCode compassref10_Upto.A 42 compassref10_Upto.code = true := by kernel_rfl
def compassref10_Upto.rq (E : Value → Hp → Prop) (K : Int → (Option Addr) → Nat → Nat → Hp → Prop) : Ex → Fr → Hp → Prop := retQ T0 [.cell 6 24] [24] (fun r H => ldR (.one true [.i .i64, .sl]) r fun u => K (asI (cellV u 0)) (asS1 (cellV u 1)) (asS2 (cellV u 1)) (asS3 (cellV u 1)) H) E
def compassref10_Upto.run (g0_Nodes : Int) (g0_Edgesp : Option Addr) (g0_Edgesn : Nat) (g0_Edgesc : Nat) (k1 : Int) (wi2 : Bool) (E : Value → Hp → Prop) (H : Hp) (K : Int → (Option Addr) → Nat → Nat → Hp → Prop) : Prop := nodeM P0 T0 compassref10_Upto.A compassref10_Upto.code [] [] (compassref10_Upto.rq E K) (argF 0 [.agg ⟨[.int .i64 g0_Nodes, .slice g0_Edgesp g0_Edgesn g0_Edgesc]⟩, .int .i64 k1, .bool wi2]) H
theorem compassref10_Upto.of {g0_Nodes : Int} {g0_Edgesp : Option Addr} {g0_Edgesn : Nat} {g0_Edgesc : Nat} {k1 : Int} {wi2 : Bool} {E : Value → Hp → Prop} {H : Hp} {K : Int → (Option Addr) → Nat → Nat → Hp → Prop} (h : compassref10_Upto.run g0_Nodes g0_Edgesp g0_Edgesn g0_Edgesc k1 wi2 E H K) : compassref10_Upto.call g0_Nodes g0_Edgesp g0_Edgesn g0_Edgesc k1 wi2 E H K :=
  callW_of T0_ok P0_mixed (A := compassref10_Upto.A) (fn := Go.Proofs.Tryz.f14) Go.Proofs.Tryz.func14 rfl compassref10_Upto.ok rfl h
noncomputable def compassref10_Upto.f1 (k1 : Int) (wi2 : Bool) (g3 : Nat) (t6 : Nat) (ou7 : Nat) (i8 : Int) : Fr := [(1, .int .i64 k1), (2, .bool wi2), (3, .pointer (some ⟨g3, 0, none⟩)), (6, .pointer (some ⟨t6, 0, none⟩)), (7, .pointer (some ⟨ou7, 0, none⟩)), (8, .int .i64 i8)]
def compassref10_Upto.j1 (k1 : Int) (wi2 : Bool) (g3 : Nat) (t6 : Nat) (ou7 : Nat) (i8 : Int) (X1 : Fr → Hp → Prop) (E : Value → Hp → Prop) (H : Hp) (K : Int → (Option Addr) → Nat → Nat → Hp → Prop) : Prop := nodeM P0 T0 compassref10_Upto.A compassref10_Upto.code [1, 1, 0, 1, 0, 0, 1, 0, 0, 1, 0] [X1] (compassref10_Upto.rq E K) [(1, .int .i64 k1), (2, .bool wi2), (3, .pointer (some ⟨g3, 0, none⟩)), (6, .pointer (some ⟨t6, 0, none⟩)), (7, .pointer (some ⟨ou7, 0, none⟩)), (8, .int .i64 i8)] H
def compassref10_Upto.j2 (k1 : Int) (wi2 : Bool) (g3 : Nat) (t6 : Nat) (ou7 : Nat) (i8 : Int) (X1 : Fr → Hp → Prop) (E : Value → Hp → Prop) (H : Hp) (K : Int → (Option Addr) → Nat → Nat → Hp → Prop) : Prop := nodeM P0 T0 compassref10_Upto.A compassref10_Upto.code [1, 1, 0, 1, 0, 0, 1, 1] [X1] (compassref10_Upto.rq E K) [(1, .int .i64 k1), (2, .bool wi2), (3, .pointer (some ⟨g3, 0, none⟩)), (6, .pointer (some ⟨t6, 0, none⟩)), (7, .pointer (some ⟨ou7, 0, none⟩)), (8, .int .i64 i8)] H
def compassref10_Upto.j3 (t6 : Nat) (ou7 : Nat)  (E : Value → Hp → Prop) (H : Hp) (K : Int → (Option Addr) → Nat → Nat → Hp → Prop) : Prop := nodeM P0 T0 compassref10_Upto.A compassref10_Upto.code [1, 1, 1] [] (compassref10_Upto.rq E K) [(6, .pointer (some ⟨t6, 0, none⟩)), (7, .pointer (some ⟨ou7, 0, none⟩))] H
def compassref10_Upto.l1 (k1 : Int) (wi2 : Bool) (g3 : Nat) (t6 : Nat) (ou7 : Nat) (i8 : Int)  (E : Value → Hp → Prop) (H : Hp) (K : Int → (Option Addr) → Nat → Nat → Hp → Prop) : Prop := nodeM P0 T0 compassref10_Upto.A compassref10_Upto.code [1, 1, 0, 1, 0] [] (compassref10_Upto.rq E K) (compassref10_Upto.f1 k1 wi2 g3 t6 ou7 i8) H
def compassref10_Upto.b1 (k1 : Int) (wi2 : Bool) (g3 : Nat) (t6 : Nat) (ou7 : Nat) (i8 : Int)  (X1 : Fr → Hp → Prop) (E : Value → Hp → Prop) (H : Hp) (K : Int → (Option Addr) → Nat → Nat → Hp → Prop) : Prop := nodeM P0 T0 compassref10_Upto.A compassref10_Upto.code [1, 1, 0, 1, 0, 0] [X1] (compassref10_Upto.rq E K) (compassref10_Upto.f1 k1 wi2 g3 t6 ou7 i8) H
theorem compassref10_Upto.l1_rule { E : Value → Hp → Prop} {K : Int → (Option Addr) → Nat → Nat → Hp → Prop} (I : Int → Bool → Nat → Nat → Nat → Int → Hp → Prop) (μ : Int → Bool → Nat → Nat → Nat → Int → Hp → Nat)
    (h : ∀ k1 wi2 g3 t6 ou7 i8 H, I k1 wi2 g3 t6 ou7 i8 H → ∀ X : Fr → Hp → Prop, (∀ k1' wi2' g3' t6' ou7' i8' H', I k1' wi2' g3' t6' ou7' i8' H' → μ k1' wi2' g3' t6' ou7' i8' H' < μ k1 wi2 g3 t6 ou7 i8 H → X (compassref10_Upto.f1 k1' wi2' g3' t6' ou7' i8') H') → compassref10_Upto.b1 k1 wi2 g3 t6 ou7 i8  X E H K)
    {k1 : Int} {wi2 : Bool} {g3 : Nat} {t6 : Nat} {ou7 : Nat} {i8 : Int} {H : Hp} (hI : I k1 wi2 g3 t6 ou7 i8 H) : compassref10_Upto.l1 k1 wi2 g3 t6 ou7 i8  E H K :=
  loop_rule (S := Int × Bool × Nat × Nat × Nat × Int) (fun s => compassref10_Upto.f1 (s.1) (s.2.1) (s.2.2.1) (s.2.2.2.1) (s.2.2.2.2.1) (s.2.2.2.2.2)) (fun s H => I (s.1) (s.2.1) (s.2.2.1) (s.2.2.2.1) (s.2.2.2.2.1) (s.2.2.2.2.2) H) (fun s H => μ (s.1) (s.2.1) (s.2.2.1) (s.2.2.2.1) (s.2.2.2.2.1) (s.2.2.2.2.2) H) (fun s H hI X hX => h (s.1) (s.2.1) (s.2.2.1) (s.2.2.2.1) (s.2.2.2.2.1) (s.2.2.2.2.2) H hI X fun k1' wi2' g3' t6' ou7' i8' H' hI' hlt => hX (k1', wi2', g3', t6', ou7', i8') H' hI' hlt) (s := (k1, wi2, g3, t6, ou7, i8)) rfl hI
theorem compassref10_Upto.nok : nodesOk compassref10_Upto.code [[0, 1, 0, 1, 1], [0, 1, 0, 0, 1, 0, 0, 1, 0, 1, 1], [1, 1, 0, 0, 1, 0, 1, 1], [1, 1, 1]] = true := by kernel_rfl
def compassref10_Upto.run_t (l1 : Int → Bool → Nat → Nat → Nat → Int → Hp → Prop) (g0_Nodes : Int) (g0_Edgesp : Option Addr) (g0_Edgesn : Nat) (g0_Edgesc : Nat) (k1 : Int) (wi2 : Bool)  (E : Value → Hp → Prop) (H : Hp) (K : Int → (Option Addr) → Nat → Nat → Hp → Prop) : Prop :=
  nw H ⟨[.int .i64 g0_Nodes, .slice g0_Edgesp g0_Edgesn g0_Edgesc], 24⟩ fun b_1 H_1 =>
  nw H_1 ⟨[.int .i64 0, .slice none 0 0], 24⟩ fun b_2 H_2 =>
  ldI .i64 (H_2.get b_1 0) fun x_1 =>
  nw H_2 ⟨[.int .i64 0, .slice none 0 0], 24⟩ fun b_3 H_3 =>
  stC H_3 b_3 0 [.int .i64 x_1, .slice none 0 0] fun H_4 =>
  l1 k1 wi2 b_1 b_2 b_3 0 H_4
theorem compassref10_Upto.run_eq {g0_Nodes : Int} {g0_Edgesp : Option Addr} {g0_Edgesn : Nat} {g0_Edgesc : Nat} {k1 : Int} {wi2 : Bool} { E : Value → Hp → Prop} {H : Hp} {K : Int → (Option Addr) → Nat → Nat → Hp → Prop} (h : compassref10_Upto.run_t (fun k1 wi2 g3 t6 ou7 i8 H => compassref10_Upto.l1 k1 wi2 g3 t6 ou7 i8  E H K) g0_Nodes g0_Edgesp g0_Edgesn g0_Edgesc k1 wi2  E H K) : compassref10_Upto.run g0_Nodes g0_Edgesp g0_Edgesn g0_Edgesc k1 wi2  E H K := by
  exact nodeR_imp2 (fun G => compassref10_Upto.run_t (fun k1 wi2 g3 t6 ou7 i8 H => G [0, 1, 0, 1, 1] [(1, .int .i64 k1), (2, .bool wi2), (3, .pointer (some ⟨g3, 0, none⟩)), (6, .pointer (some ⟨t6, 0, none⟩)), (7, .pointer (some ⟨ou7, 0, none⟩)), (8, .int .i64 i8)] H) g0_Nodes g0_Edgesp g0_Edgesn g0_Edgesc k1 wi2  E H K) compassref10_Upto.nok rfl (fun G => by kernel_rfl) (Eq.mp (by kernel_rfl) h)
def compassref10_Upto.j1_t (j2 : Int → Bool → Nat → Nat → Nat → Int → Hp → Prop) (k1 : Int) (wi2 : Bool) (g3 : Nat) (t6 : Nat) (ou7 : Nat) (i8 : Int) (X1 : Fr → Hp → Prop) (E : Value → Hp → Prop) (H : Hp) (K : Int → (Option Addr) → Nat → Nat → Hp → Prop) : Prop :=
  ldS (H.get ou7 1) fun x_1p x_1n x_1c =>
  ldS (H.get g3 1) fun x_2p x_2n x_2c =>
  ix x_2p x_2n i8 4 fun b_1 o_1 =>
  ldI .i64 (H.get b_1 o_1) fun x_3 =>
  ldI .i64 (H.get b_1 (o_1 + 1)) fun x_4 =>
  ldI .i64 (H.get b_1 (o_1 + 2)) fun x_5 =>
  ldI .i64 (H.get b_1 (o_1 + 3)) fun x_6 =>
  nw H ⟨[.int .i64 x_3, .int .i64 x_4, .int .i64 x_5, .int .i64 x_6], 44⟩ fun b_2 H_1 =>
  appM 44 [.i .i64, .i .i64, .i .i64, .i .i64] 32 x_1p x_1n x_1c (some ⟨b_2, 0, none⟩) 1 H_1 fun a_1p a_1n a_1c H_2 =>
  stC H_2 ou7 1 [.slice a_1p a_1n a_1c] fun H_3 =>
  j2 k1 wi2 g3 t6 ou7 i8 H_3
theorem compassref10_Upto.j1_eq {k1 : Int} {wi2 : Bool} {g3 : Nat} {t6 : Nat} {ou7 : Nat} {i8 : Int} {X1 : Fr → Hp → Prop} { E : Value → Hp → Prop} {H : Hp} {K : Int → (Option Addr) → Nat → Nat → Hp → Prop} (h : compassref10_Upto.j1_t (fun k1 wi2 g3 t6 ou7 i8 H => compassref10_Upto.j2 k1 wi2 g3 t6 ou7 i8 X1 E H K) k1 wi2 g3 t6 ou7 i8 X1 E H K) : compassref10_Upto.j1 k1 wi2 g3 t6 ou7 i8 X1 E H K := by
  exact nodeR_imp2 (fun G => compassref10_Upto.j1_t (fun k1 wi2 g3 t6 ou7 i8 H => G [1, 1, 0, 0, 1, 0, 1, 1] [(1, .int .i64 k1), (2, .bool wi2), (3, .pointer (some ⟨g3, 0, none⟩)), (6, .pointer (some ⟨t6, 0, none⟩)), (7, .pointer (some ⟨ou7, 0, none⟩)), (8, .int .i64 i8)] H) k1 wi2 g3 t6 ou7 i8 X1 E H K) compassref10_Upto.nok rfl (fun G => by kernel_rfl) (Eq.mp (by kernel_rfl) h)
def compassref10_Upto.j2_t  (k1 : Int) (wi2 : Bool) (g3 : Nat) (t6 : Nat) (ou7 : Nat) (i8 : Int) (X1 : Fr → Hp → Prop) (E : Value → Hp → Prop) (H : Hp) (K : Int → (Option Addr) → Nat → Nat → Hp → Prop) : Prop :=
  X1 (compassref10_Upto.f1 k1 wi2 g3 t6 ou7 (IntKind.wrap .i64 (i8 + 1))) H
theorem compassref10_Upto.j2_eq {k1 : Int} {wi2 : Bool} {g3 : Nat} {t6 : Nat} {ou7 : Nat} {i8 : Int} {X1 : Fr → Hp → Prop} { E : Value → Hp → Prop} {H : Hp} {K : Int → (Option Addr) → Nat → Nat → Hp → Prop} (h : compassref10_Upto.j2_t  k1 wi2 g3 t6 ou7 i8 X1 E H K) : compassref10_Upto.j2 k1 wi2 g3 t6 ou7 i8 X1 E H K := by
  exact nodeR_imp2 (fun _ => compassref10_Upto.j2_t  k1 wi2 g3 t6 ou7 i8 X1 E H K) compassref10_Upto.nok rfl (fun G => by kernel_rfl) h
def compassref10_Upto.j3_t  (t6 : Nat) (ou7 : Nat)  (E : Value → Hp → Prop) (H : Hp) (K : Int → (Option Addr) → Nat → Nat → Hp → Prop) : Prop :=
  ldI .i64 (H.get ou7 0) fun x_1 =>
  ldS (H.get ou7 1) fun x_2p x_2n x_2c =>
  stC H t6 0 [.int .i64 x_1, .slice x_2p x_2n x_2c] fun H_1 =>
  ldI .i64 (H_1.get t6 0) fun x_3 =>
  ldS (H_1.get t6 1) fun x_4p x_4n x_4c =>
  K x_3 x_4p x_4n x_4c H_1
theorem compassref10_Upto.j3_eq {t6 : Nat} {ou7 : Nat} { E : Value → Hp → Prop} {H : Hp} {K : Int → (Option Addr) → Nat → Nat → Hp → Prop} (h : compassref10_Upto.j3_t  t6 ou7  E H K) : compassref10_Upto.j3 t6 ou7  E H K := by
  exact nodeR_imp2 (fun _ => compassref10_Upto.j3_t  t6 ou7  E H K) compassref10_Upto.nok rfl (fun G => by kernel_rfl) h
def compassref10_Upto.b1_t (j1 : Int → Bool → Nat → Nat → Nat → Int → Hp → Prop) (j2 : Int → Bool → Nat → Nat → Nat → Int → Hp → Prop) (j3 : Nat → Nat → Hp → Prop) (k1 : Int) (wi2 : Bool) (g3 : Nat) (t6 : Nat) (ou7 : Nat) (i8 : Int) (X1 : Fr → Hp → Prop) (E : Value → Hp → Prop) (H : Hp) (K : Int → (Option Addr) → Nat → Nat → Hp → Prop) : Prop :=
  ldS (H.get g3 1) fun x_1p x_1n x_1c =>
  bcase (decide ((i8 : Int) < (x_1n : Int))) (
  ldI .i64 (H.get g3 0) fun x_2 =>
  ldS (H.get g3 1) fun x_3p x_3n x_3c =>
  compassref10_Ahead.call x_2 x_3p x_3n x_3c i8 k1 E H fun r_1 H_1 =>
  bcase (r_1) (
  j1 k1 wi2 g3 t6 ou7 i8 H_1)
  (bcase (wi2) (
  bcase (decide ((i8 : Int) = k1)) (
  j1 k1 wi2 g3 t6 ou7 i8 H_1)
  (j2 k1 wi2 g3 t6 ou7 i8 H_1))
  (j2 k1 wi2 g3 t6 ou7 i8 H_1)))
  (j3 t6 ou7 H)
theorem compassref10_Upto.b1_eq {k1 : Int} {wi2 : Bool} {g3 : Nat} {t6 : Nat} {ou7 : Nat} {i8 : Int} {X1 : Fr → Hp → Prop} { E : Value → Hp → Prop} {H : Hp} {K : Int → (Option Addr) → Nat → Nat → Hp → Prop} (h : compassref10_Upto.b1_t (fun k1 wi2 g3 t6 ou7 i8 H => compassref10_Upto.j1 k1 wi2 g3 t6 ou7 i8 X1 E H K) (fun k1 wi2 g3 t6 ou7 i8 H => compassref10_Upto.j2 k1 wi2 g3 t6 ou7 i8 X1 E H K) (fun t6 ou7 H => compassref10_Upto.j3 t6 ou7  E H K) k1 wi2 g3 t6 ou7 i8 X1 E H K) : compassref10_Upto.b1 k1 wi2 g3 t6 ou7 i8 X1 E H K := by
  exact nodeR_imp2 (fun G => compassref10_Upto.b1_t (fun k1 wi2 g3 t6 ou7 i8 H => G [0, 1, 0, 0, 1, 0, 0, 1, 0, 1, 1] [(1, .int .i64 k1), (2, .bool wi2), (3, .pointer (some ⟨g3, 0, none⟩)), (6, .pointer (some ⟨t6, 0, none⟩)), (7, .pointer (some ⟨ou7, 0, none⟩)), (8, .int .i64 i8)] H) (fun k1 wi2 g3 t6 ou7 i8 H => G [1, 1, 0, 0, 1, 0, 1, 1] [(1, .int .i64 k1), (2, .bool wi2), (3, .pointer (some ⟨g3, 0, none⟩)), (6, .pointer (some ⟨t6, 0, none⟩)), (7, .pointer (some ⟨ou7, 0, none⟩)), (8, .int .i64 i8)] H) (fun t6 ou7 H => G [1, 1, 1] [(6, .pointer (some ⟨t6, 0, none⟩)), (7, .pointer (some ⟨ou7, 0, none⟩))] H) k1 wi2 g3 t6 ou7 i8 X1 E H K) compassref10_Upto.nok rfl (fun G => by kernel_rfl) (Eq.mp (by kernel_rfl) h)
/-! ### compass/compassref10.Ahead (31) -/
noncomputable def compassref10_Ahead.A : An := { live := [(0, [0, 1, 2]), (1, [1, 2, 3])], ord := [(1, [0, 1, 2, 3, 4, 5, 6, 7, 8, 9, 10, 11, 12, 13, 14, 15, 16, 17, 18, 19, 20, 21, 22, 23, 24, 25, 26, 27, 28, 29, 30, 31, 32, 33])], stb := [], pre := [(1, [[], [0], [], [0, 1, 2], [0, 1, 2, 3], [0, 1, 2, 3, 4], [], [6], [], [6, 7, 8], [6, 7, 8, 9], [6, 7, 8, 9, 10], [0, 1, 2, 3, 4, 5, 6, 7, 8, 9, 10, 11], [0, 1, 2, 3, 4, 5, 6, 7, 8, 9, 10, 11, 12], [0, 1, 2, 3, 4, 5, 6, 7, 8, 9, 10, 11, 12, 13], [0, 1, 2, 3, 4, 5, 6, 7, 8, 9, 10, 11, 12, 13, 14], [0, 1, 2, 3, 4, 5, 6, 7, 8, 9, 10, 11, 12, 13], [0, 1, 2, 3, 4, 5, 6, 7, 8, 9, 10, 11, 12, 13, 14, 15, 16], [0, 1, 2, 3, 4, 5, 6, 7, 8, 9, 10, 11, 12, 13, 14, 15, 16, 17], [0, 1, 2, 3, 4, 5, 6, 7, 8, 9, 10, 11, 12, 13, 14, 15, 16, 17, 18], [0, 1, 2, 3, 4, 5, 6, 7, 8, 9, 10, 11, 12, 13], [0, 1, 2, 3, 4, 5, 6, 7, 8, 9, 10, 11, 12, 13, 20], [0, 1, 2, 3, 4, 5, 6, 7, 8, 9, 10, 11, 12, 13], [0, 1, 2, 3, 4, 5, 6, 7, 8, 9, 10, 11, 12, 13, 20, 21, 22], [0, 1, 2, 3, 4, 5, 6, 7, 8, 9, 10, 11, 12, 13, 20, 21, 22, 23], [0, 1, 2, 3, 4, 5, 6, 7, 8, 9, 10, 11, 12, 13, 20, 21, 22, 23, 24], [0, 1, 2, 3, 4, 5, 6, 7, 8, 9, 10, 11, 12, 13, 14, 15, 16, 17, 18, 19, 20, 21, 22, 23, 24, 25], [0, 1, 2, 3, 4, 5, 6, 7, 8, 9, 10, 11, 12, 13, 14, 15, 16, 17, 18, 19, 20, 21, 22, 23, 24, 25, 26], [0, 1, 2, 3, 4, 5, 6, 7, 8, 9, 10, 11, 12, 13, 14, 15, 16, 17, 18, 19, 20, 21, 22, 23, 24, 25, 26, 27], [0, 1, 2, 3, 4, 5, 6, 7, 8, 9, 10, 11, 12, 13, 14, 15, 16, 17, 18, 19, 20, 21, 22, 23, 24, 25, 26, 27], [0, 1, 2, 3, 4, 5, 6, 7, 8, 9, 10, 11, 12, 13, 14, 15, 16, 17, 18, 19, 20, 21, 22, 23, 24, 25, 26, 27, 28, 29], [0, 1, 2, 3, 4, 5, 6, 7, 8, 9, 10, 11, 12, 13, 14, 15, 16, 17, 18, 19, 20, 21, 22, 23, 24, 25, 26, 27, 28, 29, 30], [0, 1, 2, 3, 4, 5, 6, 7, 8, 9, 10, 11, 12, 13, 14, 15, 16, 17, 18, 19, 20, 21, 22, 23, 24, 25, 26, 27, 28, 29, 30, 31], [0, 1, 2, 3, 4, 5, 6, 7, 8, 9, 10, 11, 12, 13, 14, 15, 16, 17, 18, 19, 20, 21, 22, 23, 24, 25, 26, 27, 28, 29, 30, 31, 32]])] }
noncomputable def compassref10_Ahead.code : Code := bodyOf Go.Proofs.Tryz.f31
theorem compassref10_Ahead.ok : okCode compassref10_Ahead.A 40 compassref10_Ahead.code = true := by kernel_rfl
def compassref10_Ahead.rq (E : Value → Hp → Prop) (K : Bool → Hp → Prop) : Ex → Fr → Hp → Prop := retQ T0 [.tmp 6] [4] (fun r H => ldR (.one false [.bool]) r fun u => K (asB u) H) E
def compassref10_Ahead.run (g0_Nodes : Int) (g0_Edgesp : Option Addr) (g0_Edgesn : Nat) (g0_Edgesc : Nat) (a1 : Int) (bb2 : Int) (E : Value → Hp → Prop) (H : Hp) (K : Bool → Hp → Prop) : Prop := nodeM P0 T0 compassref10_Ahead.A compassref10_Ahead.code [] [] (compassref10_Ahead.rq E K) (argF 0 [.agg ⟨[.int .i64 g0_Nodes, .slice g0_Edgesp g0_Edgesn g0_Edgesc]⟩, .int .i64 a1, .int .i64 bb2]) H
theorem compassref10_Ahead.of {g0_Nodes : Int} {g0_Edgesp : Option Addr} {g0_Edgesn : Nat} {g0_Edgesc : Nat} {a1 : Int} {bb2 : Int} {E : Value → Hp → Prop} {H : Hp} {K : Bool → Hp → Prop} (h : compassref10_Ahead.run g0_Nodes g0_Edgesp g0_Edgesn g0_Edgesc a1 bb2 E H K) : compassref10_Ahead.call g0_Nodes g0_Edgesp g0_Edgesn g0_Edgesc a1 bb2 E H K :=
  callW_of T0_ok P0_mixed (A := compassref10_Ahead.A) (fn := Go.Proofs.Tryz.f31) Go.Proofs.Tryz.func31 rfl compassref10_Ahead.ok rfl h
theorem compassref10_Ahead.nok : nodesOk compassref10_Ahead.code [] = true := by kernel_rfl
def compassref10_Ahead.run_t  (g0_Nodes : Int) (g0_Edgesp : Option Addr) (g0_Edgesn : Nat) (g0_Edgesc : Nat) (a1 : Int) (bb2 : Int)  (E : Value → Hp → Prop) (H : Hp) (K : Bool → Hp → Prop) : Prop :=
  nw H ⟨[.int .i64 g0_Nodes, .slice g0_Edgesp g0_Edgesn g0_Edgesc], 24⟩ fun b_1 H_1 =>
  ldS (H_1.get b_1 1) fun x_1p x_1n x_1c =>
  ix x_1p x_1n a1 4 fun b_2 o_1 =>
  ldI .i64 (H_1.get b_2 (o_1 + 3)) fun x_2 =>
  ldS (H_1.get b_1 1) fun x_3p x_3n x_3c =>
  ix x_3p x_3n bb2 4 fun b_3 o_2 =>
  ldI .i64 (H_1.get b_3 (o_2 + 3)) fun x_4 =>
  bcase (decide ((x_2 : Int) < x_4)) (
  K true H_1)
  (ldS (H_1.get b_1 1) fun x_5p x_5n x_5c =>
  ix x_5p x_5n a1 4 fun b_4 o_3 =>
  ldI .i64 (H_1.get b_4 (o_3 + 3)) fun x_6 =>
  ldS (H_1.get b_1 1) fun x_7p x_7n x_7c =>
  ix x_7p x_7n bb2 4 fun b_5 o_4 =>
  ldI .i64 (H_1.get b_5 (o_4 + 3)) fun x_8 =>
  bcase (decide ((x_6 : Int) = x_8)) (
  K (decide ((a1 : Int) < bb2)) H_1)
  (K false H_1))
theorem compassref10_Ahead.run_eq {g0_Nodes : Int} {g0_Edgesp : Option Addr} {g0_Edgesn : Nat} {g0_Edgesc : Nat} {a1 : Int} {bb2 : Int} { E : Value → Hp → Prop} {H : Hp} {K : Bool → Hp → Prop} (h : compassref10_Ahead.run_t  g0_Nodes g0_Edgesp g0_Edgesn g0_Edgesc a1 bb2  E H K) : compassref10_Ahead.run g0_Nodes g0_Edgesp g0_Edgesn g0_Edgesc a1 bb2  E H K := by
  exact nodeR_imp2 (fun _ => compassref10_Ahead.run_t  g0_Nodes g0_Edgesp g0_Edgesn g0_Edgesc a1 bb2  E H K) compassref10_Ahead.nok rfl (fun G => by kernel_rfl) h
end Go.Mz
