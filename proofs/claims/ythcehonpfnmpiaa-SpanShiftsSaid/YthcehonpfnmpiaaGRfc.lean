/-
  The shallow texts of functions (Rfc), each with a kernel-checked equation to the translated code. It proves nothing of the program by itself.
-/
import Derived.Test.YthcehonpfnmpiaaTab
set_option linter.unusedVariables false
set_option maxRecDepth 100000
namespace Go.Mz
/-! ### compass/compassref03.Copy (11) -/
noncomputable def compassref03_Copy.A : An := { live := [(0, [0]), (1, [1, 2]), (2, [1, 2, 3]), (3, [1, 2, 3, 4]), (4, [1, 2, 3, 4]), (5, [1, 2, 3, 4]), (6, [2, 3])], ord := [(5, [0, 1, 2, 3, 4, 5, 6, 7, 8, 9, 10])], stb := [], pre := [(5, [[], [0], [], [2], [], [2, 3, 4], [2, 3, 4, 5], [2, 3, 4, 5, 6], [0, 1, 2, 3, 4, 5, 6, 7], [0, 1, 2, 3, 4, 5, 6, 7, 8], [0, 1, 2, 3, 4, 5, 6, 7, 8, 9]])] }
noncomputable def compassref03_Copy.code : Code := bodyOf Go.Proofs.Try.f11
theorem compassref03_Copy.ok : okCode compassref03_Copy.A 26 compassref03_Copy.code = true := by kernel_rfl
def compassref03_Copy.rq (E : Value → Hp → Prop) (K : Int → (Option Addr) → Nat → Nat → Hp → Prop) : Ex → Fr → Hp → Prop := retQ T0 [.cell 2 24] [24] (fun r H => ldR (.one true [.i .i64, .sl]) r fun u => K (asI (cellV u 0)) (asS1 (cellV u 1)) (asS2 (cellV u 1)) (asS3 (cellV u 1)) H) E
def compassref03_Copy.run (g0_Nodes : Int) (g0_Edgesp : Option Addr) (g0_Edgesn : Nat) (g0_Edgesc : Nat) (E : Value → Hp → Prop) (H : Hp) (K : Int → (Option Addr) → Nat → Nat → Hp → Prop) : Prop := nodeM P0 T0 compassref03_Copy.A compassref03_Copy.code [] [] (compassref03_Copy.rq E K) (argF 0 [.agg ⟨[.int .i64 g0_Nodes, .slice g0_Edgesp g0_Edgesn g0_Edgesc]⟩]) H
theorem compassref03_Copy.of {g0_Nodes : Int} {g0_Edgesp : Option Addr} {g0_Edgesn : Nat} {g0_Edgesc : Nat} {E : Value → Hp → Prop} {H : Hp} {K : Int → (Option Addr) → Nat → Nat → Hp → Prop} (h : compassref03_Copy.run g0_Nodes g0_Edgesp g0_Edgesn g0_Edgesc E H K) : compassref03_Copy.call g0_Nodes g0_Edgesp g0_Edgesn g0_Edgesc E H K :=
  callW_of T0_ok P0_mixed (A := compassref03_Copy.A) (fn := Go.Proofs.Try.f11) Go.Proofs.Try.func11 rfl compassref03_Copy.ok rfl h
noncomputable def compassref03_Copy.f1 (g1 : Nat) (t2 : Nat) (ou3 : Nat) (i4 : Int) : Fr := [(1, .pointer (some ⟨g1, 0, none⟩)), (2, .pointer (some ⟨t2, 0, none⟩)), (3, .pointer (some ⟨ou3, 0, none⟩)), (4, .int .i64 i4)]
def compassref03_Copy.j1 (t2 : Nat) (ou3 : Nat)  (E : Value → Hp → Prop) (H : Hp) (K : Int → (Option Addr) → Nat → Nat → Hp → Prop) : Prop := nodeM P0 T0 compassref03_Copy.A compassref03_Copy.code [1, 1, 1] [] (compassref03_Copy.rq E K) [(2, .pointer (some ⟨t2, 0, none⟩)), (3, .pointer (some ⟨ou3, 0, none⟩))] H
def compassref03_Copy.l1 (g1 : Nat) (t2 : Nat) (ou3 : Nat) (i4 : Int)  (E : Value → Hp → Prop) (H : Hp) (K : Int → (Option Addr) → Nat → Nat → Hp → Prop) : Prop := nodeM P0 T0 compassref03_Copy.A compassref03_Copy.code [1, 1, 0, 1, 0] [] (compassref03_Copy.rq E K) (compassref03_Copy.f1 g1 t2 ou3 i4) H
def compassref03_Copy.b1 (g1 : Nat) (t2 : Nat) (ou3 : Nat) (i4 : Int)  (X1 : Fr → Hp → Prop) (E : Value → Hp → Prop) (H : Hp) (K : Int → (Option Addr) → Nat → Nat → Hp → Prop) : Prop := nodeM P0 T0 compassref03_Copy.A compassref03_Copy.code [1, 1, 0, 1, 0, 0] [X1] (compassref03_Copy.rq E K) (compassref03_Copy.f1 g1 t2 ou3 i4) H
theorem compassref03_Copy.l1_rule { E : Value → Hp → Prop} {K : Int → (Option Addr) → Nat → Nat → Hp → Prop} (I : Nat → Nat → Nat → Int → Hp → Prop) (μ : Nat → Nat → Nat → Int → Hp → Nat)
    (h : ∀ g1 t2 ou3 i4 H, I g1 t2 ou3 i4 H → ∀ X : Fr → Hp → Prop, (∀ g1' t2' ou3' i4' H', I g1' t2' ou3' i4' H' → μ g1' t2' ou3' i4' H' < μ g1 t2 ou3 i4 H → X (compassref03_Copy.f1 g1' t2' ou3' i4') H') → compassref03_Copy.b1 g1 t2 ou3 i4  X E H K)
    {g1 : Nat} {t2 : Nat} {ou3 : Nat} {i4 : Int} {H : Hp} (hI : I g1 t2 ou3 i4 H) : compassref03_Copy.l1 g1 t2 ou3 i4  E H K :=
  loop_rule (S := Nat × Nat × Nat × Int) (fun s => compassref03_Copy.f1 (s.1) (s.2.1) (s.2.2.1) (s.2.2.2)) (fun s H => I (s.1) (s.2.1) (s.2.2.1) (s.2.2.2) H) (fun s H => μ (s.1) (s.2.1) (s.2.2.1) (s.2.2.2) H) (fun s H hI X hX => h (s.1) (s.2.1) (s.2.2.1) (s.2.2.2) H hI X fun g1' t2' ou3' i4' H' hI' hlt => hX (g1', t2', ou3', i4') H' hI' hlt) (s := (g1, t2, ou3, i4)) rfl hI
theorem compassref03_Copy.nok : nodesOk compassref03_Copy.code [[0, 1, 0, 1, 1], [1, 1, 1]] = true := by kernel_rfl
def compassref03_Copy.run_t (l1 : Nat → Nat → Nat → Int → Hp → Prop) (g0_Nodes : Int) (g0_Edgesp : Option Addr) (g0_Edgesn : Nat) (g0_Edgesc : Nat)  (E : Value → Hp → Prop) (H : Hp) (K : Int → (Option Addr) → Nat → Nat → Hp → Prop) : Prop :=
  nw H ⟨[.int .i64 g0_Nodes, .slice g0_Edgesp g0_Edgesn g0_Edgesc], 24⟩ fun b_1 H_1 =>
  nw H_1 ⟨[.int .i64 0, .slice none 0 0], 24⟩ fun b_2 H_2 =>
  ldI .i64 (H_2.get b_1 0) fun x_1 =>
  nw H_2 ⟨[.int .i64 0, .slice none 0 0], 24⟩ fun b_3 H_3 =>
  stC H_3 b_3 0 [.int .i64 x_1, .slice none 0 0] fun H_4 =>
  l1 b_1 b_2 b_3 0 H_4
theorem compassref03_Copy.run_eq {g0_Nodes : Int} {g0_Edgesp : Option Addr} {g0_Edgesn : Nat} {g0_Edgesc : Nat} { E : Value → Hp → Prop} {H : Hp} {K : Int → (Option Addr) → Nat → Nat → Hp → Prop} (h : compassref03_Copy.run_t (fun g1 t2 ou3 i4 H => compassref03_Copy.l1 g1 t2 ou3 i4  E H K) g0_Nodes g0_Edgesp g0_Edgesn g0_Edgesc  E H K) : compassref03_Copy.run g0_Nodes g0_Edgesp g0_Edgesn g0_Edgesc  E H K := by
  exact nodeR_imp2 (fun G => compassref03_Copy.run_t (fun g1 t2 ou3 i4 H => G [0, 1, 0, 1, 1] [(1, .pointer (some ⟨g1, 0, none⟩)), (2, .pointer (some ⟨t2, 0, none⟩)), (3, .pointer (some ⟨ou3, 0, none⟩)), (4, .int .i64 i4)] H) g0_Nodes g0_Edgesp g0_Edgesn g0_Edgesc  E H K) compassref03_Copy.nok rfl (fun G => by kernel_rfl) (Eq.mp (by kernel_rfl) h)
def compassref03_Copy.j1_t  (t2 : Nat) (ou3 : Nat)  (E : Value → Hp → Prop) (H : Hp) (K : Int → (Option Addr) → Nat → Nat → Hp → Prop) : Prop :=
  ldI .i64 (H.get ou3 0) fun x_1 =>
  ldS (H.get ou3 1) fun x_2p x_2n x_2c =>
  stC H t2 0 [.int .i64 x_1, .slice x_2p x_2n x_2c] fun H_1 =>
  ldI .i64 (H_1.get t2 0) fun x_3 =>
  ldS (H_1.get t2 1) fun x_4p x_4n x_4c =>
  K x_3 x_4p x_4n x_4c H_1
theorem compassref03_Copy.j1_eq {t2 : Nat} {ou3 : Nat} { E : Value → Hp → Prop} {H : Hp} {K : Int → (Option Addr) → Nat → Nat → Hp → Prop} (h : compassref03_Copy.j1_t  t2 ou3  E H K) : compassref03_Copy.j1 t2 ou3  E H K := by
  exact nodeR_imp2 (fun _ => compassref03_Copy.j1_t  t2 ou3  E H K) compassref03_Copy.nok rfl (fun G => by kernel_rfl) h
def compassref03_Copy.b1_t (j1 : Nat → Nat → Hp → Prop) (g1 : Nat) (t2 : Nat) (ou3 : Nat) (i4 : Int) (X1 : Fr → Hp → Prop) (E : Value → Hp → Prop) (H : Hp) (K : Int → (Option Addr) → Nat → Nat → Hp → Prop) : Prop :=
  ldS (H.get g1 1) fun x_1p x_1n x_1c =>
  bcase (decide ((i4 : Int) < (x_1n : Int))) (
  ldS (H.get ou3 1) fun x_2p x_2n x_2c =>
  ldS (H.get g1 1) fun x_3p x_3n x_3c =>
  ix x_3p x_3n i4 4 fun b_1 o_1 =>
  ldI .i64 (H.get b_1 o_1) fun x_4 =>
  ldI .i64 (H.get b_1 (o_1 + 1)) fun x_5 =>
  ldI .i64 (H.get b_1 (o_1 + 2)) fun x_6 =>
  ldI .i64 (H.get b_1 (o_1 + 3)) fun x_7 =>
  nw H ⟨[.int .i64 x_4, .int .i64 x_5, .int .i64 x_6, .int .i64 x_7], 35⟩ fun b_2 H_1 =>
  appM 35 [.i .i64, .i .i64, .i .i64, .i .i64] 32 x_2p x_2n x_2c (some ⟨b_2, 0, none⟩) 1 H_1 fun a_1p a_1n a_1c H_2 =>
  stC H_2 ou3 1 [.slice a_1p a_1n a_1c] fun H_3 =>
  X1 (compassref03_Copy.f1 g1 t2 ou3 (IntKind.wrap .i64 (i4 + 1))) H_3)
  (j1 t2 ou3 H)
theorem compassref03_Copy.b1_eq {g1 : Nat} {t2 : Nat} {ou3 : Nat} {i4 : Int} {X1 : Fr → Hp → Prop} { E : Value → Hp → Prop} {H : Hp} {K : Int → (Option Addr) → Nat → Nat → Hp → Prop} (h : compassref03_Copy.b1_t (fun t2 ou3 H => compassref03_Copy.j1 t2 ou3  E H K) g1 t2 ou3 i4 X1 E H K) : compassref03_Copy.b1 g1 t2 ou3 i4 X1 E H K := by
  exact nodeR_imp2 (fun G => compassref03_Copy.b1_t (fun t2 ou3 H => G [1, 1, 1] [(2, .pointer (some ⟨t2, 0, none⟩)), (3, .pointer (some ⟨ou3, 0, none⟩))] H) g1 t2 ou3 i4 X1 E H K) compassref03_Copy.nok rfl (fun G => by kernel_rfl) (Eq.mp (by kernel_rfl) h)
/-! ### compass/compassref03.Check (18) -/
/-! ### compass/compassref03.Bad (36) -/
end Go.Mz
