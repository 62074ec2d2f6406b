/-
  The shallow texts of functions (Gra), each with a kernel-checked equation to the translated code. It proves nothing of the program by itself.
-/
import Derived.Test.YthcehonpfnmpiaaGreatTab
set_option linter.unusedVariables false
set_option maxRecDepth 100000
namespace Go.Mz
/-! ### compass/graph.Check (17) -/
noncomputable def graph_Check.A : An := { live := [(0, [0]), (1, [1, 2]), (2, [2]), (3, [1, 2]), (4, [1, 2, 21, 22, 23]), (5, [1, 2, 21, 22, 23]), (6, [1, 2, 3, 4, 21, 22, 23]), (7, [2, 3]), (8, [1, 2, 3, 4, 21, 22, 23]), (9, [2, 3]), (10, [1, 2, 21, 22, 23]), (11, [2])], ord := [], stb := [], pre := [] }
noncomputable def graph_Check.code : Code := bodyOf Go.Proofs.Tryz.f17
theorem graph_Check.ok : okCode graph_Check.A 61 graph_Check.code = true := by kernel_rfl
def graph_Check.rq (E : Value → Hp → Prop) (K : Int → Int → Hp → Prop) : Ex → Fr → Hp → Prop := retQ T0 [.cell 2 47] [47] (fun r H => ldR (.one true [.i .i64, .i .i64]) r fun u => K (asI (cellV u 0)) (asI (cellV u 1)) H) E
def graph_Check.run (g0_Nodes : Int) (g0_Edgesp : Option Addr) (g0_Edgesn : Nat) (g0_Edgesc : Nat) (E : Value → Hp → Prop) (H : Hp) (K : Int → Int → Hp → Prop) : Prop := nodeM P0 T0 graph_Check.A graph_Check.code [] [] (graph_Check.rq E K) (argF 0 [.agg ⟨[.int .i64 g0_Nodes, .slice g0_Edgesp g0_Edgesn g0_Edgesc]⟩]) H
theorem graph_Check.of {g0_Nodes : Int} {g0_Edgesp : Option Addr} {g0_Edgesn : Nat} {g0_Edgesc : Nat} {E : Value → Hp → Prop} {H : Hp} {K : Int → Int → Hp → Prop} (h : graph_Check.run g0_Nodes g0_Edgesp g0_Edgesn g0_Edgesc E H K) : graph_Check.call g0_Nodes g0_Edgesp g0_Edgesn g0_Edgesc E H K :=
  callW_of T0_ok P0_mixed (A := graph_Check.A) (fn := Go.Proofs.Tryz.f17) Go.Proofs.Tryz.func17 rfl graph_Check.ok rfl h
noncomputable def graph_Check.f1 (g1 : Nat) (t2 : Nat) (t21p : Option Addr) (t21n : Nat) (t21c : Nat) (t22 : Int) (t23 : Int) : Fr := [(1, .pointer (some ⟨g1, 0, none⟩)), (2, .pointer (some ⟨t2, 0, none⟩)), (21, .slice t21p t21n t21c), (22, .int .i64 t22), (23, .int .i64 t23)]
def graph_Check.j1 (t2 : Nat)  (E : Value → Hp → Prop) (H : Hp) (K : Int → Int → Hp → Prop) : Prop := nodeM P0 T0 graph_Check.A graph_Check.code [1, 0, 1, 0] [] (graph_Check.rq E K) [(2, .pointer (some ⟨t2, 0, none⟩))] H
def graph_Check.j2 (t2 : Nat) (i3 : Int) (X1 : Fr → Hp → Prop) (E : Value → Hp → Prop) (H : Hp) (K : Int → Int → Hp → Prop) : Prop := nodeM P0 T0 graph_Check.A graph_Check.code [1, 1, 0, 1, 0, 0, 1, 1, 0, 0, 1, 0, 1, 0] [X1] (graph_Check.rq E K) [(2, .pointer (some ⟨t2, 0, none⟩)), (3, .int .i64 i3)] H
def graph_Check.j3 (t2 : Nat)  (E : Value → Hp → Prop) (H : Hp) (K : Int → Int → Hp → Prop) : Prop := nodeM P0 T0 graph_Check.A graph_Check.code [1, 1, 1] [] (graph_Check.rq E K) [(2, .pointer (some ⟨t2, 0, none⟩))] H
def graph_Check.l1 (g1 : Nat) (t2 : Nat) (t21p : Option Addr) (t21n : Nat) (t21c : Nat) (t22 : Int) (t23 : Int)  (E : Value → Hp → Prop) (H : Hp) (K : Int → Int → Hp → Prop) : Prop := nodeM P0 T0 graph_Check.A graph_Check.code [1, 1, 0, 1, 0] [] (graph_Check.rq E K) (graph_Check.f1 g1 t2 t21p t21n t21c t22 t23) H
def graph_Check.b1 (g1 : Nat) (t2 : Nat) (t21p : Option Addr) (t21n : Nat) (t21c : Nat) (t22 : Int) (t23 : Int)  (X1 : Fr → Hp → Prop) (E : Value → Hp → Prop) (H : Hp) (K : Int → Int → Hp → Prop) : Prop := nodeM P0 T0 graph_Check.A graph_Check.code [1, 1, 0, 1, 0, 0] [X1] (graph_Check.rq E K) (graph_Check.f1 g1 t2 t21p t21n t21c t22 t23) H
theorem graph_Check.l1_rule { E : Value → Hp → Prop} {K : Int → Int → Hp → Prop} (I : Nat → Nat → (Option Addr) → Nat → Nat → Int → Int → Hp → Prop) (μ : Nat → Nat → (Option Addr) → Nat → Nat → Int → Int → Hp → Nat)
    (h : ∀ g1 t2 t21p t21n t21c t22 t23 H, I g1 t2 t21p t21n t21c t22 t23 H → ∀ X : Fr → Hp → Prop, (∀ g1' t2' t21p' t21n' t21c' t22' t23' H', I g1' t2' t21p' t21n' t21c' t22' t23' H' → μ g1' t2' t21p' t21n' t21c' t22' t23' H' < μ g1 t2 t21p t21n t21c t22 t23 H → X (graph_Check.f1 g1' t2' t21p' t21n' t21c' t22' t23') H') → graph_Check.b1 g1 t2 t21p t21n t21c t22 t23  X E H K)
    {g1 : Nat} {t2 : Nat} {t21p : Option Addr} {t21n : Nat} {t21c : Nat} {t22 : Int} {t23 : Int} {H : Hp} (hI : I g1 t2 t21p t21n t21c t22 t23 H) : graph_Check.l1 g1 t2 t21p t21n t21c t22 t23  E H K :=
  loop_rule (S := Nat × Nat × (Option Addr) × Nat × Nat × Int × Int) (fun s => graph_Check.f1 (s.1) (s.2.1) (s.2.2.1) (s.2.2.2.1) (s.2.2.2.2.1) (s.2.2.2.2.2.1) (s.2.2.2.2.2.2)) (fun s H => I (s.1) (s.2.1) (s.2.2.1) (s.2.2.2.1) (s.2.2.2.2.1) (s.2.2.2.2.2.1) (s.2.2.2.2.2.2) H) (fun s H => μ (s.1) (s.2.1) (s.2.2.1) (s.2.2.2.1) (s.2.2.2.2.1) (s.2.2.2.2.2.1) (s.2.2.2.2.2.2) H) (fun s H hI X hX => h (s.1) (s.2.1) (s.2.2.1) (s.2.2.2.1) (s.2.2.2.2.1) (s.2.2.2.2.2.1) (s.2.2.2.2.2.2) H hI X fun g1' t2' t21p' t21n' t21c' t22' t23' H' hI' hlt => hX (g1', t2', t21p', t21n', t21c', t22', t23') H' hI' hlt) (s := (g1, t2, t21p, t21n, t21c, t22, t23)) rfl hI
theorem graph_Check.nok : nodesOk graph_Check.code [[0, 1, 0, 1], [0, 1, 0, 1, 1], [0, 1, 0, 1, 0, 0, 1, 1, 0, 0, 1, 0, 1, 1], [1, 1, 1]] = true := by kernel_rfl
def graph_Check.run_t (j1 : Nat → Hp → Prop) (l1 : Nat → Nat → (Option Addr) → Nat → Nat → Int → Int → Hp → Prop) (g0_Nodes : Int) (g0_Edgesp : Option Addr) (g0_Edgesn : Nat) (g0_Edgesc : Nat)  (E : Value → Hp → Prop) (H : Hp) (K : Int → Int → Hp → Prop) : Prop :=
  nw H ⟨[.int .i64 g0_Nodes, .slice g0_Edgesp g0_Edgesn g0_Edgesc], 24⟩ fun b_1 H_1 =>
  nw H_1 ⟨[.int .i64 0, .int .i64 0], 47⟩ fun b_2 H_2 =>
  ldI .i64 (H_2.get b_1 0) fun x_1 =>
  bcase (decide ((x_1 : Int) < 0)) (
  j1 b_2 H_2)
  (ldI .i64 (H_2.get b_1 0) fun x_2 =>
  bcase (decide ((1024 : Int) < x_2)) (
  j1 b_2 H_2)
  (ldS (H_2.get b_1 1) fun x_3p x_3n x_3c =>
  bcase (decide ((4096 : Int) < (x_3n : Int))) (
  j1 b_2 H_2)
  (ldS (H_2.get b_1 1) fun x_4p x_4n x_4c =>
  l1 b_1 b_2 x_4p x_4n x_4c (x_4n : Int) 0 H_2)))
theorem graph_Check.run_eq {g0_Nodes : Int} {g0_Edgesp : Option Addr} {g0_Edgesn : Nat} {g0_Edgesc : Nat} { E : Value → Hp → Prop} {H : Hp} {K : Int → Int → Hp → Prop} (h : graph_Check.run_t (fun t2 H => graph_Check.j1 t2  E H K) (fun g1 t2 t21p t21n t21c t22 t23 H => graph_Check.l1 g1 t2 t21p t21n t21c t22 t23  E H K) g0_Nodes g0_Edgesp g0_Edgesn g0_Edgesc  E H K) : graph_Check.run g0_Nodes g0_Edgesp g0_Edgesn g0_Edgesc  E H K := by
  exact nodeR_imp2 (fun G => graph_Check.run_t (fun t2 H => G [0, 1, 0, 1] [(2, .pointer (some ⟨t2, 0, none⟩))] H) (fun g1 t2 t21p t21n t21c t22 t23 H => G [0, 1, 0, 1, 1] [(1, .pointer (some ⟨g1, 0, none⟩)), (2, .pointer (some ⟨t2, 0, none⟩)), (21, .slice t21p t21n t21c), (22, .int .i64 t22), (23, .int .i64 t23)] H) g0_Nodes g0_Edgesp g0_Edgesn g0_Edgesc  E H K) graph_Check.nok rfl (fun G => by kernel_rfl) (Eq.mp (by kernel_rfl) h)
def graph_Check.j1_t  (t2 : Nat)  (E : Value → Hp → Prop) (H : Hp) (K : Int → Int → Hp → Prop) : Prop :=
  stC H t2 0 [.int .i64 3, .int .i64 0] fun H_1 =>
  ldI .i64 (H_1.get t2 0) fun x_1 =>
  ldI .i64 (H_1.get t2 1) fun x_2 =>
  K x_1 x_2 H_1
theorem graph_Check.j1_eq {t2 : Nat} { E : Value → Hp → Prop} {H : Hp} {K : Int → Int → Hp → Prop} (h : graph_Check.j1_t  t2  E H K) : graph_Check.j1 t2  E H K := by
  exact nodeR_imp2 (fun _ => graph_Check.j1_t  t2  E H K) graph_Check.nok rfl (fun G => by kernel_rfl) h
def graph_Check.j2_t  (t2 : Nat) (i3 : Int) (X1 : Fr → Hp → Prop) (E : Value → Hp → Prop) (H : Hp) (K : Int → Int → Hp → Prop) : Prop :=
  stC H t2 0 [.int .i64 30, .int .i64 i3] fun H_1 =>
  ldI .i64 (H_1.get t2 0) fun x_1 =>
  ldI .i64 (H_1.get t2 1) fun x_2 =>
  K x_1 x_2 H_1
theorem graph_Check.j2_eq {t2 : Nat} {i3 : Int} {X1 : Fr → Hp → Prop} { E : Value → Hp → Prop} {H : Hp} {K : Int → Int → Hp → Prop} (h : graph_Check.j2_t  t2 i3 X1 E H K) : graph_Check.j2 t2 i3 X1 E H K := by
  exact nodeR_imp2 (fun _ => graph_Check.j2_t  t2 i3 X1 E H K) graph_Check.nok rfl (fun G => by kernel_rfl) h
def graph_Check.j3_t  (t2 : Nat)  (E : Value → Hp → Prop) (H : Hp) (K : Int → Int → Hp → Prop) : Prop :=
  stC H t2 0 [.int .i64 0, .int .i64 0] fun H_1 =>
  ldI .i64 (H_1.get t2 0) fun x_1 =>
  ldI .i64 (H_1.get t2 1) fun x_2 =>
  K x_1 x_2 H_1
theorem graph_Check.j3_eq {t2 : Nat} { E : Value → Hp → Prop} {H : Hp} {K : Int → Int → Hp → Prop} (h : graph_Check.j3_t  t2  E H K) : graph_Check.j3 t2  E H K := by
  exact nodeR_imp2 (fun _ => graph_Check.j3_t  t2  E H K) graph_Check.nok rfl (fun G => by kernel_rfl) h
def graph_Check.b1_t (j2 : Nat → Int → Hp → Prop) (j3 : Nat → Hp → Prop) (g1 : Nat) (t2 : Nat) (t21p : Option Addr) (t21n : Nat) (t21c : Nat) (t22 : Int) (t23 : Int) (X1 : Fr → Hp → Prop) (E : Value → Hp → Prop) (H : Hp) (K : Int → Int → Hp → Prop) : Prop :=
  bcase (decide ((t23 : Int) < t22)) (
  ix t21p t21n t23 4 fun b_1 o_1 =>
  ldI .i64 (H.get b_1 o_1) fun x_1 =>
  ldI .i64 (H.get b_1 (o_1 + 1)) fun x_2 =>
  ldI .i64 (H.get b_1 (o_1 + 2)) fun x_3 =>
  ldI .i64 (H.get b_1 (o_1 + 3)) fun x_4 =>
  nw H ⟨[.int .i64 0, .int .i64 0, .int .i64 0, .int .i64 0], 44⟩ fun b_2 H_1 =>
  stC H_1 b_2 0 [.int .i64 x_1, .int .i64 x_2, .int .i64 x_3, .int .i64 x_4] fun H_2 =>
  ldI .i64 (H_2.get b_2 0) fun x_5 =>
  bcase (decide ((x_5 : Int) < 0)) (
  j2 t2 t23 H_2)
  (ldI .i64 (H_2.get b_2 0) fun x_6 =>
  ldI .i64 (H_2.get g1 0) fun x_7 =>
  bcase (decide ((x_7 : Int) ≤ x_6)) (
  j2 t2 t23 H_2)
  (ldI .i64 (H_2.get b_2 1) fun x_8 =>
  bcase (decide ((x_8 : Int) < 0)) (
  j2 t2 t23 H_2)
  (ldI .i64 (H_2.get b_2 1) fun x_9 =>
  ldI .i64 (H_2.get g1 0) fun x_10 =>
  bcase (decide ((x_10 : Int) ≤ x_9)) (
  j2 t2 t23 H_2)
  (ldI .i64 (H_2.get b_2 0) fun x_11 =>
  ldI .i64 (H_2.get b_2 1) fun x_12 =>
  ldI .i64 (H_2.get b_2 2) fun x_13 =>
  ldI .i64 (H_2.get b_2 3) fun x_14 =>
  graph_label.call x_11 x_12 x_13 x_14 E H_2 fun r_1 H_3 =>
  bcase ((!r_1)) (
  stC H_3 t2 0 [.int .i64 31, .int .i64 t23] fun H_4 =>
  ldI .i64 (H_4.get t2 0) fun x_15 =>
  ldI .i64 (H_4.get t2 1) fun x_16 =>
  K x_15 x_16 H_4)
  (X1 (graph_Check.f1 g1 t2 t21p t21n t21c t22 (IntKind.wrap .i64 (t23 + 1))) H_3))))))
  (j3 t2 H)
theorem graph_Check.b1_eq {g1 : Nat} {t2 : Nat} {t21p : Option Addr} {t21n : Nat} {t21c : Nat} {t22 : Int} {t23 : Int} {X1 : Fr → Hp → Prop} { E : Value → Hp → Prop} {H : Hp} {K : Int → Int → Hp → Prop} (h : graph_Check.b1_t (fun t2 i3 H => graph_Check.j2 t2 i3 X1 E H K) (fun t2 H => graph_Check.j3 t2  E H K) g1 t2 t21p t21n t21c t22 t23 X1 E H K) : graph_Check.b1 g1 t2 t21p t21n t21c t22 t23 X1 E H K := by
  exact nodeR_imp2 (fun G => graph_Check.b1_t (fun t2 i3 H => G [0, 1, 0, 1, 0, 0, 1, 1, 0, 0, 1, 0, 1, 1] [(2, .pointer (some ⟨t2, 0, none⟩)), (3, .int .i64 i3)] H) (fun t2 H => G [1, 1, 1] [(2, .pointer (some ⟨t2, 0, none⟩))] H) g1 t2 t21p t21n t21c t22 t23 X1 E H K) graph_Check.nok rfl (fun G => by kernel_rfl) (Eq.mp (by kernel_rfl) h)
/-! ### compass/graph.label (32) -/
noncomputable def graph_label.A : An := { live := [(0, [0]), (1, [1])], ord := [], stb := [], pre := [] }
noncomputable def graph_label.code : Code := bodyOf Go.Proofs.Tryz.f32
theorem graph_label.ok : okCode graph_label.A 21 graph_label.code = true := by kernel_rfl
def graph_label.rq (E : Value → Hp → Prop) (K : Bool → Hp → Prop) : Ex → Fr → Hp → Prop := retQ T0 [.tmp 2] [4] (fun r H => ldR (.one false [.bool]) r fun u => K (asB u) H) E
def graph_label.run (e0_From : Int) (e0_To : Int) (e0_Cap : Int) (e0_Cost : Int) (E : Value → Hp → Prop) (H : Hp) (K : Bool → Hp → Prop) : Prop := nodeM P0 T0 graph_label.A graph_label.code [] [] (graph_label.rq E K) (argF 0 [.agg ⟨[.int .i64 e0_From, .int .i64 e0_To, .int .i64 e0_Cap, .int .i64 e0_Cost]⟩]) H
theorem graph_label.of {e0_From : Int} {e0_To : Int} {e0_Cap : Int} {e0_Cost : Int} {E : Value → Hp → Prop} {H : Hp} {K : Bool → Hp → Prop} (h : graph_label.run e0_From e0_To e0_Cap e0_Cost E H K) : graph_label.call e0_From e0_To e0_Cap e0_Cost E H K :=
  callW_of T0_ok P0_mixed (A := graph_label.A) (fn := Go.Proofs.Tryz.f32) Go.Proofs.Tryz.func32 rfl graph_label.ok rfl h
theorem graph_label.nok : nodesOk graph_label.code [] = true := by kernel_rfl
def graph_label.run_t  (e0_From : Int) (e0_To : Int) (e0_Cap : Int) (e0_Cost : Int)  (E : Value → Hp → Prop) (H : Hp) (K : Bool → Hp → Prop) : Prop :=
  nw H ⟨[.int .i64 e0_From, .int .i64 e0_To, .int .i64 e0_Cap, .int .i64 e0_Cost], 44⟩ fun b_1 H_1 =>
  ldI .i64 (H_1.get b_1 2) fun x_1 =>
  bcase (decide ((0 : Int) ≤ x_1)) (
  ldI .i64 (H_1.get b_1 2) fun x_2 =>
  bcase (decide ((x_2 : Int) ≤ 1048576)) (
  ldI .i64 (H_1.get b_1 3) fun x_3 =>
  bcase (decide (((-1048576) : Int) ≤ x_3)) (
  ldI .i64 (H_1.get b_1 3) fun x_4 =>
  K (decide ((x_4 : Int) ≤ 1048576)) H_1)
  (K false H_1))
  (K false H_1))
  (K false H_1)
theorem graph_label.run_eq {e0_From : Int} {e0_To : Int} {e0_Cap : Int} {e0_Cost : Int} { E : Value → Hp → Prop} {H : Hp} {K : Bool → Hp → Prop} (h : graph_label.run_t  e0_From e0_To e0_Cap e0_Cost  E H K) : graph_label.run e0_From e0_To e0_Cap e0_Cost  E H K := by
  exact nodeR_imp2 (fun _ => graph_label.run_t  e0_From e0_To e0_Cap e0_Cost  E H K) graph_label.nok rfl (fun G => by kernel_rfl) h
end Go.Mz
