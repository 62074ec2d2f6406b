/-
  The shallow texts of functions (Rfc), each with a kernel-checked equation to the translated code. It proves nothing of the program by itself.
-/
import Derived.Test.YthcehonpfnmpiaaGreatTab
set_option linter.unusedVariables false
set_option maxRecDepth 100000
namespace Go.Mz
/-! ### compass/compassref03.Copy (15) -/
noncomputable def compassref03_Copy.A : An := { live := [(0, [0]), (1, [1, 2]), (2, [1, 2, 3]), (3, [1, 2, 3, 4]), (4, [1, 2, 3, 4]), (5, [1, 2, 3, 4]), (6, [2, 3])], ord := [(5, [0, 1, 2, 3, 4, 5, 6, 7, 8, 9, 10])], stb := [], pre := [(5, [[], [0], [], [2], [], [2, 3, 4], [2, 3, 4, 5], [2, 3, 4, 5, 6], [0, 1, 2, 3, 4, 5, 6, 7], [0, 1, 2, 3, 4, 5, 6, 7, 8], [0, 1, 2, 3, 4, 5, 6, 7, 8, 9]])] }
noncomputable def compassref03_Copy.code : Code := bodyOf Go.Proofs.Tryz.f15
theorem compassref03_Copy.ok : okCode compassref03_Copy.A 26 compassref03_Copy.code = true := by kernel_rfl
def compassref03_Copy.rq (E : Value → Hp → Prop) (K : Int → (Option Addr) → Nat → Nat → Hp → Prop) : Ex → Fr → Hp → Prop := retQ T0 [.cell 2 24] [24] (fun r H => ldR (.one true [.i .i64, .sl]) r fun u => K (asI (cellV u 0)) (asS1 (cellV u 1)) (asS2 (cellV u 1)) (asS3 (cellV u 1)) H) E
def compassref03_Copy.run (g0_Nodes : Int) (g0_Edgesp : Option Addr) (g0_Edgesn : Nat) (g0_Edgesc : Nat) (E : Value → Hp → Prop) (H : Hp) (K : Int → (Option Addr) → Nat → Nat → Hp → Prop) : Prop := nodeM P0 T0 compassref03_Copy.A compassref03_Copy.code [] [] (compassref03_Copy.rq E K) (argF 0 [.agg ⟨[.int .i64 g0_Nodes, .slice g0_Edgesp g0_Edgesn g0_Edgesc]⟩]) H
theorem compassref03_Copy.of {g0_Nodes : Int} {g0_Edgesp : Option Addr} {g0_Edgesn : Nat} {g0_Edgesc : Nat} {E : Value → Hp → Prop} {H : Hp} {K : Int → (Option Addr) → Nat → Nat → Hp → Prop} (h : compassref03_Copy.run g0_Nodes g0_Edgesp g0_Edgesn g0_Edgesc E H K) : compassref03_Copy.call g0_Nodes g0_Edgesp g0_Edgesn g0_Edgesc E H K :=
  callW_of T0_ok P0_mixed (A := compassref03_Copy.A) (fn := Go.Proofs.Tryz.f15) Go.Proofs.Tryz.func15 rfl compassref03_Copy.ok rfl h
noncomputable def compassref03_Copy.f1 (g1 : Nat) (t2 : Nat) (ou3 : Nat) (i4 : Int) : Fr := [(1, .pointer (some ⟨g1, 0, none⟩)), (2, .pointer (some ⟨t2, 0, none⟩)), (3, .pointer (some ⟨ou3, 0, none⟩)), (4, .int .i64 i4)]
def compassref03_Copy.j1 (t2 : Nat) (ou3 : Nat)  (E : Value → Hp → Prop) (H : Hp) (K : Int → (Option Addr) → Nat → Nat → Hp → Prop) : Prop := nodeM P0 T0 compassref03_Copy.A compassref03_Copy.code [1, 1, 1] [] (compassref03_Copy.rq E K) [(2, .pointer (some ⟨t2, 0, none⟩)), (3, .pointer (some ⟨ou3, 0, none⟩))] H
def compassref03_Copy.l1 (g1 : Nat) (t2 : Nat) (ou3 : Nat) (i4 : Int)  (E : Value → Hp → Prop) (H : Hp) (K : Int → (Option Addr) → Nat → Nat → Hp → Prop) : Prop := nodeM P0 T0 compassref03_Copy.A compassref03_Copy.code [1, 1, 0, 1, 0] [] (compassref03_Copy.rq E K) (compassref03_Copy.f1 g1 t2 ou3 i4) H
def compassref03_Copy.b1 (g1 : Nat) (t2 : Nat) (ou3 : Nat) (i4 : Int)  (X1 : Fr → Hp → Prop) (E : Value → Hp → Prop) (H : Hp) (K : Int → (Option Addr) → Nat → Nat → Hp → Prop) : Prop := nodeM P0 T0 compassref03_Copy.A compassref03_Copy.code [1, 1, 0, 1, 0, 0] [X1] (compassref03_Copy.rq E K) (compassref03_Copy.f1 g1 t2 ou3 i4) H
theorem compassref03_Copy.l1_rule { E : Value → Hp → Prop} {K : Int → (Option Addr) → Nat → Nat → Hp → Prop} (I : Nat → Nat → Nat → Int → Hp → Prop) (μ : Nat → Nat → Nat → Int → Hp → Nat)
    (h : ∀ g1 t2 ou3 i4 H, I g1 t2 ou3 i4 H → ∀ X : Fr → Hp → Prop, (∀ g1' t2' ou3' i4' H', I g1' t2' ou3' i4' H' → μ g1' t2' ou3' i4' H' < μ g1 t2 ou3 i4 H → X (compassref03_Copy.f1 g1' t2' ou3' i4') H') → compassref03_Copy.b1 g1 t2 ou3 i4  X E H K)
    {g1 : Nat} {t2 : Nat} {ou3 : Nat} {i4 : Int} {H : Hp} (hI : I g1 t2 ou3 i4 H) : compassref03_Copy.l1 g1 t2 ou3 i4  E H K :=
  loop_rule (S := Nat × Nat × Nat × Int) (fun s => compassref03_Copy.f1 (s.1) (s.2.1) (s.2.2.1) (s.2.2.2)) (fun s H => I (s.1) (s.2.1) (s.2.2.1) (s.2.2.2) H) (fun s H => μ (s.1) (s.2.1) (s.2.2.1) (s.2.2.2) H) (fun s H hI X hX => h (s.1) (s.2.1) (s.2.2.1) (s.2.2.2) H hI X fun g1' t2' ou3' i4' H' hI' hlt => hX (g1', t2', ou3', i4') H' hI' hlt) (s := (g1, t2, ou3, i4)) rfl hI
theorem compassref03_Copy.nok : nodesOk compassref03_Copy.code [[0, 1, 0, 1, 1], [1, 1, 1]] = true := by kernel_rfl
def compassref03_Copy.run_t (l1 : Nat → Nat → Nat → Int → Hp → Prop) (g0_Nodes : Int) (g0_Edgesp : Option Addr) (g0_Edgesn : Nat) (g0_Edgesc : Nat)  (E : Value → Hp → Prop) (H : Hp) (K : Int → (Option Addr) → Nat → Nat → Hp → Prop) : Prop :=
  nw H ⟨[.int .i64 g0_Nodes, .slice g0_Edgesp g0_Edgesn g0_Edgesc], 24⟩ fun b_1 H_1 =>
  nw H_1 ⟨[.int .i64 0, .slice none 0 0], 24⟩ fun b_2 H_2 =>
  ldI .i64 (H_2.get b_1 0) fun x_1 =>
  nw H_2 ⟨[.int .i64 0, .slice none 0 0], 24⟩ fun b_3 H_3 =>
  stC H_3 b_3 0 [.int .i64 x_1, .slice none 0 0] fun H_4 =>
  l1 b_1 b_2 b_3 0 H_4
theorem compassref03_Copy.run_eq {g0_Nodes : Int} {g0_Edgesp : Option Addr} {g0_Edgesn : Nat} {g0_Edgesc : Nat} { E : Value → Hp → Prop} {H : Hp} {K : Int → (Option Addr) → Nat → Nat → Hp → Prop} (h : compassref03_Copy.run_t (fun g1 t2 ou3 i4 H => compassref03_Copy.l1 g1 t2 ou3 i4  E H K) g0_Nodes g0_Edgesp g0_Edgesn g0_Edgesc  E H K) : compassref03_Copy.run g0_Nodes g0_Edgesp g0_Edgesn g0_Edgesc  E H K := by
  exact nodeR_imp2 (fun G => compassref03_Copy.run_t (fun g1 t2 ou3 i4 H => G [0, 1, 0, 1, 1] [(1, .pointer (some ⟨g1, 0, none⟩)), (2, .pointer (some ⟨t2, 0, none⟩)), (3, .pointer (some ⟨ou3, 0, none⟩)), (4, .int .i64 i4)] H) g0_Nodes g0_Edgesp g0_Edgesn g0_Edgesc  E H K) compassref03_Copy.nok rfl (fun G => by kernel_rfl) (Eq.mp (by kernel_rfl) h)
def compassref03_Copy.j1_t  (t2 : Nat) (ou3 : Nat)  (E : Value → Hp → Prop) (H : Hp) (K : Int → (Option Addr) → Nat → Nat → Hp → Prop) : Prop :=
  ldI .i64 (H.get ou3 0) fun x_1 =>
  ldS (H.get ou3 1) fun x_2p x_2n x_2c =>
  stC H t2 0 [.int .i64 x_1, .slice x_2p x_2n x_2c] fun H_1 =>
  ldI .i64 (H_1.get t2 0) fun x_3 =>
  ldS (H_1.get t2 1) fun x_4p x_4n x_4c =>
  K x_3 x_4p x_4n x_4c H_1
theorem compassref03_Copy.j1_eq {t2 : Nat} {ou3 : Nat} { E : Value → Hp → Prop} {H : Hp} {K : Int → (Option Addr) → Nat → Nat → Hp → Prop} (h : compassref03_Copy.j1_t  t2 ou3  E H K) : compassref03_Copy.j1 t2 ou3  E H K := by
  exact nodeR_imp2 (fun _ => compassref03_Copy.j1_t  t2 ou3  E H K) compassref03_Copy.nok rfl (fun G => by kernel_rfl) h
def compassref03_Copy.b1_t (j1 : Nat → Nat → Hp → Prop) (g1 : Nat) (t2 : Nat) (ou3 : Nat) (i4 : Int) (X1 : Fr → Hp → Prop) (E : Value → Hp → Prop) (H : Hp) (K : Int → (Option Addr) → Nat → Nat → Hp → Prop) : Prop :=
  ldS (H.get g1 1) fun x_1p x_1n x_1c =>
  bcase (decide ((i4 : Int) < (x_1n : Int))) (
  ldS (H.get ou3 1) fun x_2p x_2n x_2c =>
  ldS (H.get g1 1) fun x_3p x_3n x_3c =>
  ix x_3p x_3n i4 4 fun b_1 o_1 =>
  ldI .i64 (H.get b_1 o_1) fun x_4 =>
  ldI .i64 (H.get b_1 (o_1 + 1)) fun x_5 =>
  ldI .i64 (H.get b_1 (o_1 + 2)) fun x_6 =>
  ldI .i64 (H.get b_1 (o_1 + 3)) fun x_7 =>
  nw H ⟨[.int .i64 x_4, .int .i64 x_5, .int .i64 x_6, .int .i64 x_7], 44⟩ fun b_2 H_1 =>
  appM 44 [.i .i64, .i .i64, .i .i64, .i .i64] 32 x_2p x_2n x_2c (some ⟨b_2, 0, none⟩) 1 H_1 fun a_1p a_1n a_1c H_2 =>
  stC H_2 ou3 1 [.slice a_1p a_1n a_1c] fun H_3 =>
  X1 (compassref03_Copy.f1 g1 t2 ou3 (IntKind.wrap .i64 (i4 + 1))) H_3)
  (j1 t2 ou3 H)
theorem compassref03_Copy.b1_eq {g1 : Nat} {t2 : Nat} {ou3 : Nat} {i4 : Int} {X1 : Fr → Hp → Prop} { E : Value → Hp → Prop} {H : Hp} {K : Int → (Option Addr) → Nat → Nat → Hp → Prop} (h : compassref03_Copy.b1_t (fun t2 ou3 H => compassref03_Copy.j1 t2 ou3  E H K) g1 t2 ou3 i4 X1 E H K) : compassref03_Copy.b1 g1 t2 ou3 i4 X1 E H K := by
  exact nodeR_imp2 (fun G => compassref03_Copy.b1_t (fun t2 ou3 H => G [1, 1, 1] [(2, .pointer (some ⟨t2, 0, none⟩)), (3, .pointer (some ⟨ou3, 0, none⟩))] H) g1 t2 ou3 i4 X1 E H K) compassref03_Copy.nok rfl (fun G => by kernel_rfl) (Eq.mp (by kernel_rfl) h)
/-! ### compass/compassref03.Same (16) -/
noncomputable def compassref03_Same.A : An := { live := [(0, [0, 1]), (1, [2, 3]), (2, []), (3, [2, 3]), (4, [2, 3, 5]), (5, [2, 3, 5]), (6, [2, 3, 5]), (7, []), (8, [])], ord := [(6, [0, 1, 2, 3, 4, 5, 6, 7, 8, 9, 10])], stb := [], pre := [(6, [[], [0], [], [0, 1, 2], [0, 1, 2, 3], [], [5], [], [5, 6, 7], [5, 6, 7, 8], [0, 1, 2, 3, 4, 5, 6, 7, 8, 9]])] }
noncomputable def compassref03_Same.code : Code := bodyOf Go.Proofs.Tryz.f16
theorem compassref03_Same.ok : okCode compassref03_Same.A 38 compassref03_Same.code = true := by kernel_rfl
def compassref03_Same.rq (E : Value → Hp → Prop) (K : Bool → Hp → Prop) : Ex → Fr → Hp → Prop := retQ T0 [.tmp 4] [4] (fun r H => ldR (.one false [.bool]) r fun u => K (asB u) H) E
def compassref03_Same.run (a0_Nodes : Int) (a0_Edgesp : Option Addr) (a0_Edgesn : Nat) (a0_Edgesc : Nat) (bb1_Nodes : Int) (bb1_Edgesp : Option Addr) (bb1_Edgesn : Nat) (bb1_Edgesc : Nat) (E : Value → Hp → Prop) (H : Hp) (K : Bool → Hp → Prop) : Prop := nodeM P0 T0 compassref03_Same.A compassref03_Same.code [] [] (compassref03_Same.rq E K) (argF 0 [.agg ⟨[.int .i64 a0_Nodes, .slice a0_Edgesp a0_Edgesn a0_Edgesc]⟩, .agg ⟨[.int .i64 bb1_Nodes, .slice bb1_Edgesp bb1_Edgesn bb1_Edgesc]⟩]) H
theorem compassref03_Same.of {a0_Nodes : Int} {a0_Edgesp : Option Addr} {a0_Edgesn : Nat} {a0_Edgesc : Nat} {bb1_Nodes : Int} {bb1_Edgesp : Option Addr} {bb1_Edgesn : Nat} {bb1_Edgesc : Nat} {E : Value → Hp → Prop} {H : Hp} {K : Bool → Hp → Prop} (h : compassref03_Same.run a0_Nodes a0_Edgesp a0_Edgesn a0_Edgesc bb1_Nodes bb1_Edgesp bb1_Edgesn bb1_Edgesc E H K) : compassref03_Same.call a0_Nodes a0_Edgesp a0_Edgesn a0_Edgesc bb1_Nodes bb1_Edgesp bb1_Edgesn bb1_Edgesc E H K :=
  callW_of T0_ok P0_mixed (A := compassref03_Same.A) (fn := Go.Proofs.Tryz.f16) Go.Proofs.Tryz.func16 rfl compassref03_Same.ok rfl h
noncomputable def compassref03_Same.f1 (a2 : Nat) (bb3 : Nat) (i5 : Int) : Fr := [(2, .pointer (some ⟨a2, 0, none⟩)), (3, .pointer (some ⟨bb3, 0, none⟩)), (5, .int .i64 i5)]
def compassref03_Same.l1 (a2 : Nat) (bb3 : Nat) (i5 : Int)  (E : Value → Hp → Prop) (H : Hp) (K : Bool → Hp → Prop) : Prop := nodeM P0 T0 compassref03_Same.A compassref03_Same.code [1, 1, 0, 1, 0] [] (compassref03_Same.rq E K) (compassref03_Same.f1 a2 bb3 i5) H
def compassref03_Same.b1 (a2 : Nat) (bb3 : Nat) (i5 : Int)  (X1 : Fr → Hp → Prop) (E : Value → Hp → Prop) (H : Hp) (K : Bool → Hp → Prop) : Prop := nodeM P0 T0 compassref03_Same.A compassref03_Same.code [1, 1, 0, 1, 0, 0] [X1] (compassref03_Same.rq E K) (compassref03_Same.f1 a2 bb3 i5) H
theorem compassref03_Same.l1_rule { E : Value → Hp → Prop} {K : Bool → Hp → Prop} (I : Nat → Nat → Int → Hp → Prop) (μ : Nat → Nat → Int → Hp → Nat)
    (h : ∀ a2 bb3 i5 H, I a2 bb3 i5 H → ∀ X : Fr → Hp → Prop, (∀ a2' bb3' i5' H', I a2' bb3' i5' H' → μ a2' bb3' i5' H' < μ a2 bb3 i5 H → X (compassref03_Same.f1 a2' bb3' i5') H') → compassref03_Same.b1 a2 bb3 i5  X E H K)
    {a2 : Nat} {bb3 : Nat} {i5 : Int} {H : Hp} (hI : I a2 bb3 i5 H) : compassref03_Same.l1 a2 bb3 i5  E H K :=
  loop_rule (S := Nat × Nat × Int) (fun s => compassref03_Same.f1 (s.1) (s.2.1) (s.2.2)) (fun s H => I (s.1) (s.2.1) (s.2.2) H) (fun s H => μ (s.1) (s.2.1) (s.2.2) H) (fun s H hI X hX => h (s.1) (s.2.1) (s.2.2) H hI X fun a2' bb3' i5' H' hI' hlt => hX (a2', bb3', i5') H' hI' hlt) (s := (a2, bb3, i5)) rfl hI
theorem compassref03_Same.nok : nodesOk compassref03_Same.code [[0, 1, 0, 1, 1]] = true := by kernel_rfl
def compassref03_Same.run_t (l1 : Nat → Nat → Int → Hp → Prop) (a0_Nodes : Int) (a0_Edgesp : Option Addr) (a0_Edgesn : Nat) (a0_Edgesc : Nat) (bb1_Nodes : Int) (bb1_Edgesp : Option Addr) (bb1_Edgesn : Nat) (bb1_Edgesc : Nat)  (E : Value → Hp → Prop) (H : Hp) (K : Bool → Hp → Prop) : Prop :=
  nw H ⟨[.int .i64 a0_Nodes, .slice a0_Edgesp a0_Edgesn a0_Edgesc], 24⟩ fun b_1 H_1 =>
  nw H_1 ⟨[.int .i64 bb1_Nodes, .slice bb1_Edgesp bb1_Edgesn bb1_Edgesc], 24⟩ fun b_2 H_2 =>
  ldI .i64 (H_2.get b_1 0) fun x_1 =>
  ldI .i64 (H_2.get b_2 0) fun x_2 =>
  bcase (!decide ((x_1 : Int) = x_2)) (
  K false H_2)
  (ldS (H_2.get b_1 1) fun x_3p x_3n x_3c =>
  ldS (H_2.get b_2 1) fun x_4p x_4n x_4c =>
  bcase (!decide (((x_3n : Int) : Int) = (x_4n : Int))) (
  K false H_2)
  (l1 b_1 b_2 0 H_2))
theorem compassref03_Same.run_eq {a0_Nodes : Int} {a0_Edgesp : Option Addr} {a0_Edgesn : Nat} {a0_Edgesc : Nat} {bb1_Nodes : Int} {bb1_Edgesp : Option Addr} {bb1_Edgesn : Nat} {bb1_Edgesc : Nat} { E : Value → Hp → Prop} {H : Hp} {K : Bool → Hp → Prop} (h : compassref03_Same.run_t (fun a2 bb3 i5 H => compassref03_Same.l1 a2 bb3 i5  E H K) a0_Nodes a0_Edgesp a0_Edgesn a0_Edgesc bb1_Nodes bb1_Edgesp bb1_Edgesn bb1_Edgesc  E H K) : compassref03_Same.run a0_Nodes a0_Edgesp a0_Edgesn a0_Edgesc bb1_Nodes bb1_Edgesp bb1_Edgesn bb1_Edgesc  E H K := by
  exact nodeR_imp2 (fun G => compassref03_Same.run_t (fun a2 bb3 i5 H => G [0, 1, 0, 1, 1] [(2, .pointer (some ⟨a2, 0, none⟩)), (3, .pointer (some ⟨bb3, 0, none⟩)), (5, .int .i64 i5)] H) a0_Nodes a0_Edgesp a0_Edgesn a0_Edgesc bb1_Nodes bb1_Edgesp bb1_Edgesn bb1_Edgesc  E H K) compassref03_Same.nok rfl (fun G => by kernel_rfl) (Eq.mp (by kernel_rfl) h)
def compassref03_Same.b1_t  (a2 : Nat) (bb3 : Nat) (i5 : Int) (X1 : Fr → Hp → Prop) (E : Value → Hp → Prop) (H : Hp) (K : Bool → Hp → Prop) : Prop :=
  ldS (H.get a2 1) fun x_1p x_1n x_1c =>
  bcase (decide ((i5 : Int) < (x_1n : Int))) (
  ldS (H.get a2 1) fun x_2p x_2n x_2c =>
  ix x_2p x_2n i5 4 fun b_1 o_1 =>
  ldI .i64 (H.get b_1 o_1) fun x_3 =>
  ldI .i64 (H.get b_1 (o_1 + 1)) fun x_4 =>
  ldI .i64 (H.get b_1 (o_1 + 2)) fun x_5 =>
  ldI .i64 (H.get b_1 (o_1 + 3)) fun x_6 =>
  ldS (H.get bb3 1) fun x_7p x_7n x_7c =>
  ix x_7p x_7n i5 4 fun b_2 o_2 =>
  ldI .i64 (H.get b_2 o_2) fun x_8 =>
  ldI .i64 (H.get b_2 (o_2 + 1)) fun x_9 =>
  ldI .i64 (H.get b_2 (o_2 + 2)) fun x_10 =>
  ldI .i64 (H.get b_2 (o_2 + 3)) fun x_11 =>
  bcase (!(decide ((x_3 : Int) = x_8) && (decide ((x_4 : Int) = x_9) && (decide ((x_5 : Int) = x_10) && (decide ((x_6 : Int) = x_11) && true))))) (
  K false H)
  (X1 (compassref03_Same.f1 a2 bb3 (IntKind.wrap .i64 (i5 + 1))) H))
  (K true H)
theorem compassref03_Same.b1_eq {a2 : Nat} {bb3 : Nat} {i5 : Int} {X1 : Fr → Hp → Prop} { E : Value → Hp → Prop} {H : Hp} {K : Bool → Hp → Prop} (h : compassref03_Same.b1_t  a2 bb3 i5 X1 E H K) : compassref03_Same.b1 a2 bb3 i5 X1 E H K := by
  exact nodeR_imp2 (fun _ => compassref03_Same.b1_t  a2 bb3 i5 X1 E H K) compassref03_Same.nok rfl (fun G => by kernel_rfl) h
/-! ### compass/compassref03.Check (22) -/
noncomputable def compassref03_Check.A : An := { live := [(0, [0]), (1, [1]), (2, []), (3, [1]), (4, [1, 4]), (5, [1, 4]), (6, [1, 4]), (7, [1, 4, 5]), (8, [4, 5]), (9, [])], ord := [(6, [0, 1, 2, 3, 4, 5, 6, 7, 8])], stb := [], pre := [(6, [[], [0], [], [2], [], [2, 3, 4], [2, 3, 4, 5], [0, 1, 2, 3, 4, 5, 6], [0, 1, 2, 3, 4, 5, 6, 7]])] }
noncomputable def compassref03_Check.code : Code := bodyOf Go.Proofs.Tryz.f22
theorem compassref03_Check.ok : okCode compassref03_Check.A 39 compassref03_Check.code = true := by kernel_rfl
def compassref03_Check.rq (E : Value → Hp → Prop) (K : Int → Int → Hp → Prop) : Ex → Fr → Hp → Prop := retQ T0 [.tmp 2, .tmp 3] [3, 3] (fun r H => ldR (.tup [(false, [.i .i64]), (false, [.i .i64])]) r fun u => K (asI (tupV u 0)) (asI (tupV u 1)) H) E
def compassref03_Check.run (g0_Nodes : Int) (g0_Edgesp : Option Addr) (g0_Edgesn : Nat) (g0_Edgesc : Nat) (E : Value → Hp → Prop) (H : Hp) (K : Int → Int → Hp → Prop) : Prop := nodeM P0 T0 compassref03_Check.A compassref03_Check.code [] [] (compassref03_Check.rq E K) (argF 0 [.agg ⟨[.int .i64 g0_Nodes, .slice g0_Edgesp g0_Edgesn g0_Edgesc]⟩]) H
theorem compassref03_Check.of {g0_Nodes : Int} {g0_Edgesp : Option Addr} {g0_Edgesn : Nat} {g0_Edgesc : Nat} {E : Value → Hp → Prop} {H : Hp} {K : Int → Int → Hp → Prop} (h : compassref03_Check.run g0_Nodes g0_Edgesp g0_Edgesn g0_Edgesc E H K) : compassref03_Check.call g0_Nodes g0_Edgesp g0_Edgesn g0_Edgesc E H K :=
  callW_of T0_ok P0_mixed (A := compassref03_Check.A) (fn := Go.Proofs.Tryz.f22) Go.Proofs.Tryz.func22 rfl compassref03_Check.ok rfl h
noncomputable def compassref03_Check.f1 (g1 : Nat) (i4 : Int) : Fr := [(1, .pointer (some ⟨g1, 0, none⟩)), (4, .int .i64 i4)]
def compassref03_Check.l1 (g1 : Nat) (i4 : Int)  (E : Value → Hp → Prop) (H : Hp) (K : Int → Int → Hp → Prop) : Prop := nodeM P0 T0 compassref03_Check.A compassref03_Check.code [1, 1, 0, 1, 0] [] (compassref03_Check.rq E K) (compassref03_Check.f1 g1 i4) H
def compassref03_Check.b1 (g1 : Nat) (i4 : Int)  (X1 : Fr → Hp → Prop) (E : Value → Hp → Prop) (H : Hp) (K : Int → Int → Hp → Prop) : Prop := nodeM P0 T0 compassref03_Check.A compassref03_Check.code [1, 1, 0, 1, 0, 0] [X1] (compassref03_Check.rq E K) (compassref03_Check.f1 g1 i4) H
theorem compassref03_Check.l1_rule { E : Value → Hp → Prop} {K : Int → Int → Hp → Prop} (I : Nat → Int → Hp → Prop) (μ : Nat → Int → Hp → Nat)
    (h : ∀ g1 i4 H, I g1 i4 H → ∀ X : Fr → Hp → Prop, (∀ g1' i4' H', I g1' i4' H' → μ g1' i4' H' < μ g1 i4 H → X (compassref03_Check.f1 g1' i4') H') → compassref03_Check.b1 g1 i4  X E H K)
    {g1 : Nat} {i4 : Int} {H : Hp} (hI : I g1 i4 H) : compassref03_Check.l1 g1 i4  E H K :=
  loop_rule (S := Nat × Int) (fun s => compassref03_Check.f1 (s.1) (s.2)) (fun s H => I (s.1) (s.2) H) (fun s H => μ (s.1) (s.2) H) (fun s H hI X hX => h (s.1) (s.2) H hI X fun g1' i4' H' hI' hlt => hX (g1', i4') H' hI' hlt) (s := (g1, i4)) rfl hI
theorem compassref03_Check.nok : nodesOk compassref03_Check.code [[0, 1, 0, 1, 1]] = true := by kernel_rfl
def compassref03_Check.run_t (l1 : Nat → Int → Hp → Prop) (g0_Nodes : Int) (g0_Edgesp : Option Addr) (g0_Edgesn : Nat) (g0_Edgesc : Nat)  (E : Value → Hp → Prop) (H : Hp) (K : Int → Int → Hp → Prop) : Prop :=
  nw H ⟨[.int .i64 g0_Nodes, .slice g0_Edgesp g0_Edgesn g0_Edgesc], 24⟩ fun b_1 H_1 =>
  ldI .i64 (H_1.get b_1 0) fun x_1 =>
  bcase (decide ((x_1 : Int) < 0)) (
  K 3 0 H_1)
  (ldI .i64 (H_1.get b_1 0) fun x_2 =>
  bcase (decide ((1024 : Int) < x_2)) (
  K 3 0 H_1)
  (ldS (H_1.get b_1 1) fun x_3p x_3n x_3c =>
  bcase (decide ((4096 : Int) < (x_3n : Int))) (
  K 3 0 H_1)
  (l1 b_1 0 H_1)))
theorem compassref03_Check.run_eq {g0_Nodes : Int} {g0_Edgesp : Option Addr} {g0_Edgesn : Nat} {g0_Edgesc : Nat} { E : Value → Hp → Prop} {H : Hp} {K : Int → Int → Hp → Prop} (h : compassref03_Check.run_t (fun g1 i4 H => compassref03_Check.l1 g1 i4  E H K) g0_Nodes g0_Edgesp g0_Edgesn g0_Edgesc  E H K) : compassref03_Check.run g0_Nodes g0_Edgesp g0_Edgesn g0_Edgesc  E H K := by
  exact nodeR_imp2 (fun G => compassref03_Check.run_t (fun g1 i4 H => G [0, 1, 0, 1, 1] [(1, .pointer (some ⟨g1, 0, none⟩)), (4, .int .i64 i4)] H) g0_Nodes g0_Edgesp g0_Edgesn g0_Edgesc  E H K) compassref03_Check.nok rfl (fun G => by kernel_rfl) (Eq.mp (by kernel_rfl) h)
def compassref03_Check.b1_t  (g1 : Nat) (i4 : Int) (X1 : Fr → Hp → Prop) (E : Value → Hp → Prop) (H : Hp) (K : Int → Int → Hp → Prop) : Prop :=
  ldS (H.get g1 1) fun x_1p x_1n x_1c =>
  bcase (decide ((i4 : Int) < (x_1n : Int))) (
  ldI .i64 (H.get g1 0) fun x_2 =>
  ldS (H.get g1 1) fun x_3p x_3n x_3c =>
  ix x_3p x_3n i4 4 fun b_1 o_1 =>
  ldI .i64 (H.get b_1 o_1) fun x_4 =>
  ldI .i64 (H.get b_1 (o_1 + 1)) fun x_5 =>
  ldI .i64 (H.get b_1 (o_1 + 2)) fun x_6 =>
  ldI .i64 (H.get b_1 (o_1 + 3)) fun x_7 =>
  compassref03_Bad.call x_2 x_4 x_5 x_6 x_7 E H fun r_1 H_1 =>
  bcase (!decide ((r_1 : Int) = 0)) (
  K r_1 i4 H_1)
  (X1 (compassref03_Check.f1 g1 (IntKind.wrap .i64 (i4 + 1))) H_1))
  (K 0 0 H)
theorem compassref03_Check.b1_eq {g1 : Nat} {i4 : Int} {X1 : Fr → Hp → Prop} { E : Value → Hp → Prop} {H : Hp} {K : Int → Int → Hp → Prop} (h : compassref03_Check.b1_t  g1 i4 X1 E H K) : compassref03_Check.b1 g1 i4 X1 E H K := by
  exact nodeR_imp2 (fun _ => compassref03_Check.b1_t  g1 i4 X1 E H K) compassref03_Check.nok rfl (fun G => by kernel_rfl) h
/-! ### compass/compassref03.Bad (42) -/
noncomputable def compassref03_Bad.A : An := { live := [(0, [0, 1]), (1, [0, 3]), (2, []), (3, [3]), (4, []), (5, [])], ord := [], stb := [], pre := [] }
noncomputable def compassref03_Bad.code : Code := bodyOf Go.Proofs.Tryz.f42
theorem compassref03_Bad.ok : okCode compassref03_Bad.A 43 compassref03_Bad.code = true := by kernel_rfl
def compassref03_Bad.rq (E : Value → Hp → Prop) (K : Int → Hp → Prop) : Ex → Fr → Hp → Prop := retQ T0 [.tmp 4] [3] (fun r H => ldR (.one false [.i .i64]) r fun u => K (asI u) H) E
def compassref03_Bad.run (no0 : Int) (e1_From : Int) (e1_To : Int) (e1_Cap : Int) (e1_Cost : Int) (E : Value → Hp → Prop) (H : Hp) (K : Int → Hp → Prop) : Prop := nodeM P0 T0 compassref03_Bad.A compassref03_Bad.code [] [] (compassref03_Bad.rq E K) (argF 0 [.int .i64 no0, .agg ⟨[.int .i64 e1_From, .int .i64 e1_To, .int .i64 e1_Cap, .int .i64 e1_Cost]⟩]) H
theorem compassref03_Bad.of {no0 : Int} {e1_From : Int} {e1_To : Int} {e1_Cap : Int} {e1_Cost : Int} {E : Value → Hp → Prop} {H : Hp} {K : Int → Hp → Prop} (h : compassref03_Bad.run no0 e1_From e1_To e1_Cap e1_Cost E H K) : compassref03_Bad.call no0 e1_From e1_To e1_Cap e1_Cost E H K :=
  callW_of T0_ok P0_mixed (A := compassref03_Bad.A) (fn := Go.Proofs.Tryz.f42) Go.Proofs.Tryz.func42 rfl compassref03_Bad.ok rfl h
theorem compassref03_Bad.nok : nodesOk compassref03_Bad.code [] = true := by kernel_rfl
def compassref03_Bad.run_t  (no0 : Int) (e1_From : Int) (e1_To : Int) (e1_Cap : Int) (e1_Cost : Int)  (E : Value → Hp → Prop) (H : Hp) (K : Int → Hp → Prop) : Prop :=
  nw H ⟨[.int .i64 e1_From, .int .i64 e1_To, .int .i64 e1_Cap, .int .i64 e1_Cost], 44⟩ fun b_1 H_1 =>
  ldI .i64 (H_1.get b_1 0) fun x_1 =>
  bcase (decide ((x_1 : Int) < 0)) (
  K 30 H_1)
  (ldI .i64 (H_1.get b_1 1) fun x_2 =>
  bcase (decide ((x_2 : Int) < 0)) (
  K 30 H_1)
  (ldI .i64 (H_1.get b_1 0) fun x_3 =>
  bcase (decide ((no0 : Int) ≤ x_3)) (
  K 30 H_1)
  (ldI .i64 (H_1.get b_1 1) fun x_4 =>
  bcase (decide ((no0 : Int) ≤ x_4)) (
  K 30 H_1)
  (ldI .i64 (H_1.get b_1 2) fun x_5 =>
  bcase (decide ((x_5 : Int) < 0)) (
  K 31 H_1)
  (ldI .i64 (H_1.get b_1 2) fun x_6 =>
  bcase (decide ((1048576 : Int) < x_6)) (
  K 31 H_1)
  (ldI .i64 (H_1.get b_1 3) fun x_7 =>
  bcase (decide ((x_7 : Int) < (-1048576))) (
  K 31 H_1)
  (ldI .i64 (H_1.get b_1 3) fun x_8 =>
  bcase (decide ((1048576 : Int) < x_8)) (
  K 31 H_1)
  (K 0 H_1))))))))
theorem compassref03_Bad.run_eq {no0 : Int} {e1_From : Int} {e1_To : Int} {e1_Cap : Int} {e1_Cost : Int} { E : Value → Hp → Prop} {H : Hp} {K : Int → Hp → Prop} (h : compassref03_Bad.run_t  no0 e1_From e1_To e1_Cap e1_Cost  E H K) : compassref03_Bad.run no0 e1_From e1_To e1_Cap e1_Cost  E H K := by
  exact nodeR_imp2 (fun _ => compassref03_Bad.run_t  no0 e1_From e1_To e1_Cap e1_Cost  E H K) compassref03_Bad.nok rfl (fun G => by kernel_rfl) h
end Go.Mz
