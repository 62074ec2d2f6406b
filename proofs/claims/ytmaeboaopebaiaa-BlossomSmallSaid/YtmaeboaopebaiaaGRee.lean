/-
  The shallow texts of functions (Ree), each with a kernel-checked equation to the translated code. It proves nothing of the program by itself.
-/
import Derived.Test.YtmaeboaopebaiaaTab
set_option linter.unusedVariables false
set_option maxRecDepth 100000
namespace Go.Mz
/-! ### compass/compassref17.Set (21) -/
noncomputable def compassref17_Set.A : An := { live := [(0, [0]), (1, [1]), (2, [1, 3]), (3, [1, 3, 4]), (4, [1, 3, 4]), (5, [1, 3, 4]), (6, [1, 3, 4, 5]), (7, [1, 3, 4, 5, 6]), (8, [1, 3, 4, 5, 6]), (9, [1, 3, 4, 5, 6]), (10, [1, 3, 4, 5, 6, 7]), (11, [1, 3, 4, 6]), (12, [1, 3, 4, 5]), (13, [1, 3, 4]), (14, [3])], ord := [], stb := [], pre := [] }
noncomputable def compassref17_Set.code : Code := bodyOf Go.Proofs.Try.f21
theorem compassref17_Set.ok : okCode compassref17_Set.A 72 compassref17_Set.code = true := by kernel_rfl
def compassref17_Set.rq (E : Value → Hp → Prop) (K : (Option Addr) → Nat → Nat → Hp → Prop) : Ex → Fr → Hp → Prop := retQ T0 [.tmp 2] [26] (fun r H => ldR (.one false [.sl]) r fun u => K (asS1 u) (asS2 u) (asS3 u) H) E
def compassref17_Set.run (g0_Nodes : Int) (g0_Edgesp : Option Addr) (g0_Edgesn : Nat) (g0_Edgesc : Nat) (E : Value → Hp → Prop) (H : Hp) (K : (Option Addr) → Nat → Nat → Hp → Prop) : Prop := nodeM P0 T0 compassref17_Set.A compassref17_Set.code [] [] (compassref17_Set.rq E K) (argF 0 [.agg ⟨[.int .i64 g0_Nodes, .slice g0_Edgesp g0_Edgesn g0_Edgesc]⟩]) H
theorem compassref17_Set.of {g0_Nodes : Int} {g0_Edgesp : Option Addr} {g0_Edgesn : Nat} {g0_Edgesc : Nat} {E : Value → Hp → Prop} {H : Hp} {K : (Option Addr) → Nat → Nat → Hp → Prop} (h : compassref17_Set.run g0_Nodes g0_Edgesp g0_Edgesn g0_Edgesc E H K) : compassref17_Set.call g0_Nodes g0_Edgesp g0_Edgesn g0_Edgesc E H K :=
  callW_of T0_ok P0_mixed (A := compassref17_Set.A) (fn := Go.Proofs.Try.f21) Go.Proofs.Try.func21 rfl compassref17_Set.ok rfl h
noncomputable def compassref17_Set.f1 (g1 : Nat) (out3p : Option Addr) (out3n : Nat) (out3c : Nat) (v4 : Int) : Fr := [(1, .pointer (some ⟨g1, 0, none⟩)), (3, .slice out3p out3n out3c), (4, .int .i64 v4)]
noncomputable def compassref17_Set.f2 (g1 : Nat) (out3p : Option Addr) (out3n : Nat) (out3c : Nat) (v4 : Int) (near5 : Bool) (i6 : Int) : Fr := [(1, .pointer (some ⟨g1, 0, none⟩)), (3, .slice out3p out3n out3c), (4, .int .i64 v4), (5, .bool near5), (6, .int .i64 i6)]
def compassref17_Set.j1 (g1 : Nat) (out3p : Option Addr) (out3n : Nat) (out3c : Nat) (v4 : Int) (near5 : Bool) (i6 : Int) (X1 : Fr → Hp → Prop) (X2 : Fr → Hp → Prop) (E : Value → Hp → Prop) (H : Hp) (K : (Option Addr) → Nat → Nat → Hp → Prop) : Prop := nodeM P0 T0 compassref17_Set.A compassref17_Set.code [1, 1, 0, 1, 0, 0, 1, 0, 0, 1, 0, 1, 0, 0, 1, 1] [X1, X2] (compassref17_Set.rq E K) [(1, .pointer (some ⟨g1, 0, none⟩)), (3, .slice out3p out3n out3c), (4, .int .i64 v4), (5, .bool near5), (6, .int .i64 i6)] H
def compassref17_Set.j2 (g1 : Nat) (out3p : Option Addr) (out3n : Nat) (out3c : Nat) (v4 : Int) (near5 : Bool) (X1 : Fr → Hp → Prop) (E : Value → Hp → Prop) (H : Hp) (K : (Option Addr) → Nat → Nat → Hp → Prop) : Prop := nodeM P0 T0 compassref17_Set.A compassref17_Set.code [1, 1, 0, 1, 0, 0, 1, 0, 0, 1, 1] [X1] (compassref17_Set.rq E K) [(1, .pointer (some ⟨g1, 0, none⟩)), (3, .slice out3p out3n out3c), (4, .int .i64 v4), (5, .bool near5)] H
def compassref17_Set.j3 (g1 : Nat) (out3p : Option Addr) (out3n : Nat) (out3c : Nat) (v4 : Int) (X1 : Fr → Hp → Prop) (E : Value → Hp → Prop) (H : Hp) (K : (Option Addr) → Nat → Nat → Hp → Prop) : Prop := nodeM P0 T0 compassref17_Set.A compassref17_Set.code [1, 1, 0, 1, 0, 0, 1, 1] [X1] (compassref17_Set.rq E K) [(1, .pointer (some ⟨g1, 0, none⟩)), (3, .slice out3p out3n out3c), (4, .int .i64 v4)] H
def compassref17_Set.l1 (g1 : Nat) (out3p : Option Addr) (out3n : Nat) (out3c : Nat) (v4 : Int)  (E : Value → Hp → Prop) (H : Hp) (K : (Option Addr) → Nat → Nat → Hp → Prop) : Prop := nodeM P0 T0 compassref17_Set.A compassref17_Set.code [1, 1, 0, 1, 0] [] (compassref17_Set.rq E K) (compassref17_Set.f1 g1 out3p out3n out3c v4) H
def compassref17_Set.b1 (g1 : Nat) (out3p : Option Addr) (out3n : Nat) (out3c : Nat) (v4 : Int)  (X1 : Fr → Hp → Prop) (E : Value → Hp → Prop) (H : Hp) (K : (Option Addr) → Nat → Nat → Hp → Prop) : Prop := nodeM P0 T0 compassref17_Set.A compassref17_Set.code [1, 1, 0, 1, 0, 0] [X1] (compassref17_Set.rq E K) (compassref17_Set.f1 g1 out3p out3n out3c v4) H
theorem compassref17_Set.l1_rule { E : Value → Hp → Prop} {K : (Option Addr) → Nat → Nat → Hp → Prop} (I : Nat → (Option Addr) → Nat → Nat → Int → Hp → Prop) (μ : Nat → (Option Addr) → Nat → Nat → Int → Hp → Nat)
    (h : ∀ g1 out3p out3n out3c v4 H, I g1 out3p out3n out3c v4 H → ∀ X : Fr → Hp → Prop, (∀ g1' out3p' out3n' out3c' v4' H', I g1' out3p' out3n' out3c' v4' H' → μ g1' out3p' out3n' out3c' v4' H' < μ g1 out3p out3n out3c v4 H → X (compassref17_Set.f1 g1' out3p' out3n' out3c' v4') H') → compassref17_Set.b1 g1 out3p out3n out3c v4  X E H K)
    {g1 : Nat} {out3p : Option Addr} {out3n : Nat} {out3c : Nat} {v4 : Int} {H : Hp} (hI : I g1 out3p out3n out3c v4 H) : compassref17_Set.l1 g1 out3p out3n out3c v4  E H K :=
  loop_rule (S := Nat × (Option Addr) × Nat × Nat × Int) (fun s => compassref17_Set.f1 (s.1) (s.2.1) (s.2.2.1) (s.2.2.2.1) (s.2.2.2.2)) (fun s H => I (s.1) (s.2.1) (s.2.2.1) (s.2.2.2.1) (s.2.2.2.2) H) (fun s H => μ (s.1) (s.2.1) (s.2.2.1) (s.2.2.2.1) (s.2.2.2.2) H) (fun s H hI X hX => h (s.1) (s.2.1) (s.2.2.1) (s.2.2.2.1) (s.2.2.2.2) H hI X fun g1' out3p' out3n' out3c' v4' H' hI' hlt => hX (g1', out3p', out3n', out3c', v4') H' hI' hlt) (s := (g1, out3p, out3n, out3c, v4)) rfl hI
def compassref17_Set.l2 (g1 : Nat) (out3p : Option Addr) (out3n : Nat) (out3c : Nat) (v4 : Int) (near5 : Bool) (i6 : Int) (X1 : Fr → Hp → Prop) (E : Value → Hp → Prop) (H : Hp) (K : (Option Addr) → Nat → Nat → Hp → Prop) : Prop := nodeM P0 T0 compassref17_Set.A compassref17_Set.code [1, 1, 0, 1, 0, 0, 1, 0, 0, 1, 0, 1, 0] [X1] (compassref17_Set.rq E K) (compassref17_Set.f2 g1 out3p out3n out3c v4 near5 i6) H
def compassref17_Set.b2 (g1 : Nat) (out3p : Option Addr) (out3n : Nat) (out3c : Nat) (v4 : Int) (near5 : Bool) (i6 : Int) (X1 : Fr → Hp → Prop) (X2 : Fr → Hp → Prop) (E : Value → Hp → Prop) (H : Hp) (K : (Option Addr) → Nat → Nat → Hp → Prop) : Prop := nodeM P0 T0 compassref17_Set.A compassref17_Set.code [1, 1, 0, 1, 0, 0, 1, 0, 0, 1, 0, 1, 0, 0] [X1, X2] (compassref17_Set.rq E K) (compassref17_Set.f2 g1 out3p out3n out3c v4 near5 i6) H
theorem compassref17_Set.l2_rule {X1 : Fr → Hp → Prop} { E : Value → Hp → Prop} {K : (Option Addr) → Nat → Nat → Hp → Prop} (I : Nat → (Option Addr) → Nat → Nat → Int → Bool → Int → Hp → Prop) (μ : Nat → (Option Addr) → Nat → Nat → Int → Bool → Int → Hp → Nat)
    (h : ∀ g1 out3p out3n out3c v4 near5 i6 H, I g1 out3p out3n out3c v4 near5 i6 H → ∀ X : Fr → Hp → Prop, (∀ g1' out3p' out3n' out3c' v4' near5' i6' H', I g1' out3p' out3n' out3c' v4' near5' i6' H' → μ g1' out3p' out3n' out3c' v4' near5' i6' H' < μ g1 out3p out3n out3c v4 near5 i6 H → X (compassref17_Set.f2 g1' out3p' out3n' out3c' v4' near5' i6') H') → compassref17_Set.b2 g1 out3p out3n out3c v4 near5 i6 X1 X E H K)
    {g1 : Nat} {out3p : Option Addr} {out3n : Nat} {out3c : Nat} {v4 : Int} {near5 : Bool} {i6 : Int} {H : Hp} (hI : I g1 out3p out3n out3c v4 near5 i6 H) : compassref17_Set.l2 g1 out3p out3n out3c v4 near5 i6 X1 E H K :=
  loop_rule (S := Nat × (Option Addr) × Nat × Nat × Int × Bool × Int) (fun s => compassref17_Set.f2 (s.1) (s.2.1) (s.2.2.1) (s.2.2.2.1) (s.2.2.2.2.1) (s.2.2.2.2.2.1) (s.2.2.2.2.2.2)) (fun s H => I (s.1) (s.2.1) (s.2.2.1) (s.2.2.2.1) (s.2.2.2.2.1) (s.2.2.2.2.2.1) (s.2.2.2.2.2.2) H) (fun s H => μ (s.1) (s.2.1) (s.2.2.1) (s.2.2.2.1) (s.2.2.2.2.1) (s.2.2.2.2.2.1) (s.2.2.2.2.2.2) H) (fun s H hI X hX => h (s.1) (s.2.1) (s.2.2.1) (s.2.2.2.1) (s.2.2.2.2.1) (s.2.2.2.2.2.1) (s.2.2.2.2.2.2) H hI X fun g1' out3p' out3n' out3c' v4' near5' i6' H' hI' hlt => hX (g1', out3p', out3n', out3c', v4', near5', i6') H' hI' hlt) (s := (g1, out3p, out3n, out3c, v4, near5, i6)) rfl hI
theorem compassref17_Set.nok : nodesOk compassref17_Set.code [[0, 1, 0, 1, 1], [0, 1, 0, 1, 0, 0, 1, 0, 0, 1, 0, 1, 1], [1, 1, 0, 0, 1, 0, 1, 0, 0, 1, 0, 0, 1, 0, 1, 1], [1, 1, 0, 0, 1, 0, 0, 1, 0, 1, 1], [1, 1, 0, 0, 1, 0, 1, 1]] = true := by kernel_rfl
def compassref17_Set.run_t (l1 : Nat → (Option Addr) → Nat → Nat → Int → Hp → Prop) (g0_Nodes : Int) (g0_Edgesp : Option Addr) (g0_Edgesn : Nat) (g0_Edgesc : Nat)  (E : Value → Hp → Prop) (H : Hp) (K : (Option Addr) → Nat → Nat → Hp → Prop) : Prop :=
  nw H ⟨[.int .i64 g0_Nodes, .slice g0_Edgesp g0_Edgesn g0_Edgesc], 24⟩ fun b_1 H_1 =>
  l1 b_1 none 0 0 0 H_1
theorem compassref17_Set.run_eq {g0_Nodes : Int} {g0_Edgesp : Option Addr} {g0_Edgesn : Nat} {g0_Edgesc : Nat} { E : Value → Hp → Prop} {H : Hp} {K : (Option Addr) → Nat → Nat → Hp → Prop} (h : compassref17_Set.run_t (fun g1 out3p out3n out3c v4 H => compassref17_Set.l1 g1 out3p out3n out3c v4  E H K) g0_Nodes g0_Edgesp g0_Edgesn g0_Edgesc  E H K) : compassref17_Set.run g0_Nodes g0_Edgesp g0_Edgesn g0_Edgesc  E H K := by
  have k1 : ∀ G : List Nat → Fr → Hp → Prop, nodeR P0 T0 compassref17_Set.A [[0, 1, 0, 1, 1], [0, 1, 0, 1, 0, 0, 1, 0, 0, 1, 0, 1, 1], [1, 1, 0, 0, 1, 0, 1, 0, 0, 1, 0, 0, 1, 0, 1, 1], [1, 1, 0, 0, 1, 0, 0, 1, 0, 1, 1], [1, 1, 0, 0, 1, 0, 1, 1]] G compassref17_Set.code [] [] (compassref17_Set.rq E K) (argF 0 [.agg ⟨[.int .i64 g0_Nodes, .slice g0_Edgesp g0_Edgesn g0_Edgesc]⟩]) H = compassref17_Set.run_t (fun g1 out3p out3n out3c v4 H => G [0, 1, 0, 1, 1] [(1, .pointer (some ⟨g1, 0, none⟩)), (3, .slice out3p out3n out3c), (4, .int .i64 v4)] H) g0_Nodes g0_Edgesp g0_Edgesn g0_Edgesc  E H K := fun G => by kernel_rfl
  have k2 : compassref17_Set.run_t (fun g1 out3p out3n out3c v4 H => compassref17_Set.l1 g1 out3p out3n out3c v4  E H K) g0_Nodes g0_Edgesp g0_Edgesn g0_Edgesc  E H K = compassref17_Set.run_t (fun g1 out3p out3n out3c v4 H => (fun q F H => nodeM P0 T0 compassref17_Set.A compassref17_Set.code q.reverse [] (compassref17_Set.rq E K) F H) [0, 1, 0, 1, 1] [(1, .pointer (some ⟨g1, 0, none⟩)), (3, .slice out3p out3n out3c), (4, .int .i64 v4)] H) g0_Nodes g0_Edgesp g0_Edgesn g0_Edgesc  E H K := by kernel_rfl
  exact nodeR_imp compassref17_Set.nok rfl ((k1 _).mpr (k2.mp h))
def compassref17_Set.j1_t  (g1 : Nat) (out3p : Option Addr) (out3n : Nat) (out3c : Nat) (v4 : Int) (near5 : Bool) (i6 : Int) (X1 : Fr → Hp → Prop) (X2 : Fr → Hp → Prop) (E : Value → Hp → Prop) (H : Hp) (K : (Option Addr) → Nat → Nat → Hp → Prop) : Prop :=
  X2 (compassref17_Set.f2 g1 out3p out3n out3c v4 near5 (IntKind.wrap .i64 (i6 + 1))) H
theorem compassref17_Set.j1_eq {g1 : Nat} {out3p : Option Addr} {out3n : Nat} {out3c : Nat} {v4 : Int} {near5 : Bool} {i6 : Int} {X1 X2 : Fr → Hp → Prop} { E : Value → Hp → Prop} {H : Hp} {K : (Option Addr) → Nat → Nat → Hp → Prop} (h : compassref17_Set.j1_t  g1 out3p out3n out3c v4 near5 i6 X1 X2 E H K) : compassref17_Set.j1 g1 out3p out3n out3c v4 near5 i6 X1 X2 E H K := by
  have k1 : ∀ G : List Nat → Fr → Hp → Prop, nodeR P0 T0 compassref17_Set.A [[0, 1, 0, 1, 1], [0, 1, 0, 1, 0, 0, 1, 0, 0, 1, 0, 1, 1], [1, 1, 0, 0, 1, 0, 1, 0, 0, 1, 0, 0, 1, 0, 1, 1], [1, 1, 0, 0, 1, 0, 0, 1, 0, 1, 1], [1, 1, 0, 0, 1, 0, 1, 1]] G compassref17_Set.code [1, 1, 0, 1, 0, 0, 1, 0, 0, 1, 0, 1, 0, 0, 1, 1] [X1, X2] (compassref17_Set.rq E K) [(1, .pointer (some ⟨g1, 0, none⟩)), (3, .slice out3p out3n out3c), (4, .int .i64 v4), (5, .bool near5), (6, .int .i64 i6)] H = compassref17_Set.j1_t  g1 out3p out3n out3c v4 near5 i6 X1 X2 E H K := fun G => by kernel_rfl
  exact nodeR_imp compassref17_Set.nok rfl ((k1 _).mpr h)
def compassref17_Set.j2_t (j3 : Nat → (Option Addr) → Nat → Nat → Int → Hp → Prop) (g1 : Nat) (out3p : Option Addr) (out3n : Nat) (out3c : Nat) (v4 : Int) (near5 : Bool) (X1 : Fr → Hp → Prop) (E : Value → Hp → Prop) (H : Hp) (K : (Option Addr) → Nat → Nat → Hp → Prop) : Prop :=
  bcase (near5) (
  ldI .i64 (H.get g1 0) fun x_1 =>
  ldS (H.get g1 1) fun x_2p x_2n x_2c =>
  compassref17_Missed.call x_1 x_2p x_2n x_2c v4 E H fun r_1 H_1 =>
  bcase ((!r_1)) (
  nw H_1 ⟨[.int .i64 v4], 3⟩ fun b_1 H_2 =>
  appM 3 [.i .i64] 8 out3p out3n out3c (some ⟨b_1, 0, none⟩) 1 H_2 fun a_1p a_1n a_1c H_3 =>
  j3 g1 a_1p a_1n a_1c v4 H_3)
  (j3 g1 out3p out3n out3c v4 H_1))
  (j3 g1 out3p out3n out3c v4 H)
theorem compassref17_Set.j2_eq {g1 : Nat} {out3p : Option Addr} {out3n : Nat} {out3c : Nat} {v4 : Int} {near5 : Bool} {X1 : Fr → Hp → Prop} { E : Value → Hp → Prop} {H : Hp} {K : (Option Addr) → Nat → Nat → Hp → Prop} (h : compassref17_Set.j2_t (fun g1 out3p out3n out3c v4 H => compassref17_Set.j3 g1 out3p out3n out3c v4 X1 E H K) g1 out3p out3n out3c v4 near5 X1 E H K) : compassref17_Set.j2 g1 out3p out3n out3c v4 near5 X1 E H K := by
  have k1 : ∀ G : List Nat → Fr → Hp → Prop, nodeR P0 T0 compassref17_Set.A [[0, 1, 0, 1, 1], [0, 1, 0, 1, 0, 0, 1, 0, 0, 1, 0, 1, 1], [1, 1, 0, 0, 1, 0, 1, 0, 0, 1, 0, 0, 1, 0, 1, 1], [1, 1, 0, 0, 1, 0, 0, 1, 0, 1, 1], [1, 1, 0, 0, 1, 0, 1, 1]] G compassref17_Set.code [1, 1, 0, 1, 0, 0, 1, 0, 0, 1, 1] [X1] (compassref17_Set.rq E K) [(1, .pointer (some ⟨g1, 0, none⟩)), (3, .slice out3p out3n out3c), (4, .int .i64 v4), (5, .bool near5)] H = compassref17_Set.j2_t (fun g1 out3p out3n out3c v4 H => G [1, 1, 0, 0, 1, 0, 1, 1] [(1, .pointer (some ⟨g1, 0, none⟩)), (3, .slice out3p out3n out3c), (4, .int .i64 v4)] H) g1 out3p out3n out3c v4 near5 X1 E H K := fun G => by kernel_rfl
  have k2 : compassref17_Set.j2_t (fun g1 out3p out3n out3c v4 H => compassref17_Set.j3 g1 out3p out3n out3c v4 X1 E H K) g1 out3p out3n out3c v4 near5 X1 E H K = compassref17_Set.j2_t (fun g1 out3p out3n out3c v4 H => (fun q F H => nodeM P0 T0 compassref17_Set.A compassref17_Set.code q.reverse [X1] (compassref17_Set.rq E K) F H) [1, 1, 0, 0, 1, 0, 1, 1] [(1, .pointer (some ⟨g1, 0, none⟩)), (3, .slice out3p out3n out3c), (4, .int .i64 v4)] H) g1 out3p out3n out3c v4 near5 X1 E H K := by kernel_rfl
  exact nodeR_imp compassref17_Set.nok rfl ((k1 _).mpr (k2.mp h))
def compassref17_Set.j3_t  (g1 : Nat) (out3p : Option Addr) (out3n : Nat) (out3c : Nat) (v4 : Int) (X1 : Fr → Hp → Prop) (E : Value → Hp → Prop) (H : Hp) (K : (Option Addr) → Nat → Nat → Hp → Prop) : Prop :=
  X1 (compassref17_Set.f1 g1 out3p out3n out3c (IntKind.wrap .i64 (v4 + 1))) H
theorem compassref17_Set.j3_eq {g1 : Nat} {out3p : Option Addr} {out3n : Nat} {out3c : Nat} {v4 : Int} {X1 : Fr → Hp → Prop} { E : Value → Hp → Prop} {H : Hp} {K : (Option Addr) → Nat → Nat → Hp → Prop} (h : compassref17_Set.j3_t  g1 out3p out3n out3c v4 X1 E H K) : compassref17_Set.j3 g1 out3p out3n out3c v4 X1 E H K := by
  have k1 : ∀ G : List Nat → Fr → Hp → Prop, nodeR P0 T0 compassref17_Set.A [[0, 1, 0, 1, 1], [0, 1, 0, 1, 0, 0, 1, 0, 0, 1, 0, 1, 1], [1, 1, 0, 0, 1, 0, 1, 0, 0, 1, 0, 0, 1, 0, 1, 1], [1, 1, 0, 0, 1, 0, 0, 1, 0, 1, 1], [1, 1, 0, 0, 1, 0, 1, 1]] G compassref17_Set.code [1, 1, 0, 1, 0, 0, 1, 1] [X1] (compassref17_Set.rq E K) [(1, .pointer (some ⟨g1, 0, none⟩)), (3, .slice out3p out3n out3c), (4, .int .i64 v4)] H = compassref17_Set.j3_t  g1 out3p out3n out3c v4 X1 E H K := fun G => by kernel_rfl
  exact nodeR_imp compassref17_Set.nok rfl ((k1 _).mpr h)
def compassref17_Set.b1_t (l2 : Nat → (Option Addr) → Nat → Nat → Int → Bool → Int → Hp → Prop) (g1 : Nat) (out3p : Option Addr) (out3n : Nat) (out3c : Nat) (v4 : Int) (X1 : Fr → Hp → Prop) (E : Value → Hp → Prop) (H : Hp) (K : (Option Addr) → Nat → Nat → Hp → Prop) : Prop :=
  ldI .i64 (H.get g1 0) fun x_1 =>
  bcase (decide ((v4 : Int) < x_1)) (
  l2 g1 out3p out3n out3c v4 false 0 H)
  (K out3p out3n out3c H)
theorem compassref17_Set.b1_eq {g1 : Nat} {out3p : Option Addr} {out3n : Nat} {out3c : Nat} {v4 : Int} {X1 : Fr → Hp → Prop} { E : Value → Hp → Prop} {H : Hp} {K : (Option Addr) → Nat → Nat → Hp → Prop} (h : compassref17_Set.b1_t (fun g1 out3p out3n out3c v4 near5 i6 H => compassref17_Set.l2 g1 out3p out3n out3c v4 near5 i6 X1 E H K) g1 out3p out3n out3c v4 X1 E H K) : compassref17_Set.b1 g1 out3p out3n out3c v4 X1 E H K := by
  have k1 : ∀ G : List Nat → Fr → Hp → Prop, nodeR P0 T0 compassref17_Set.A [[0, 1, 0, 1, 1], [0, 1, 0, 1, 0, 0, 1, 0, 0, 1, 0, 1, 1], [1, 1, 0, 0, 1, 0, 1, 0, 0, 1, 0, 0, 1, 0, 1, 1], [1, 1, 0, 0, 1, 0, 0, 1, 0, 1, 1], [1, 1, 0, 0, 1, 0, 1, 1]] G compassref17_Set.code [1, 1, 0, 1, 0, 0] [X1] (compassref17_Set.rq E K) (compassref17_Set.f1 g1 out3p out3n out3c v4) H = compassref17_Set.b1_t (fun g1 out3p out3n out3c v4 near5 i6 H => G [0, 1, 0, 1, 0, 0, 1, 0, 0, 1, 0, 1, 1] [(1, .pointer (some ⟨g1, 0, none⟩)), (3, .slice out3p out3n out3c), (4, .int .i64 v4), (5, .bool near5), (6, .int .i64 i6)] H) g1 out3p out3n out3c v4 X1 E H K := fun G => by kernel_rfl
  have k2 : compassref17_Set.b1_t (fun g1 out3p out3n out3c v4 near5 i6 H => compassref17_Set.l2 g1 out3p out3n out3c v4 near5 i6 X1 E H K) g1 out3p out3n out3c v4 X1 E H K = compassref17_Set.b1_t (fun g1 out3p out3n out3c v4 near5 i6 H => (fun q F H => nodeM P0 T0 compassref17_Set.A compassref17_Set.code q.reverse [X1] (compassref17_Set.rq E K) F H) [0, 1, 0, 1, 0, 0, 1, 0, 0, 1, 0, 1, 1] [(1, .pointer (some ⟨g1, 0, none⟩)), (3, .slice out3p out3n out3c), (4, .int .i64 v4), (5, .bool near5), (6, .int .i64 i6)] H) g1 out3p out3n out3c v4 X1 E H K := by kernel_rfl
  exact nodeR_imp compassref17_Set.nok rfl ((k1 _).mpr (k2.mp h))
def compassref17_Set.b2_t (j1 : Nat → (Option Addr) → Nat → Nat → Int → Bool → Int → Hp → Prop) (j2 : Nat → (Option Addr) → Nat → Nat → Int → Bool → Hp → Prop) (g1 : Nat) (out3p : Option Addr) (out3n : Nat) (out3c : Nat) (v4 : Int) (near5 : Bool) (i6 : Int) (X1 : Fr → Hp → Prop) (X2 : Fr → Hp → Prop) (E : Value → Hp → Prop) (H : Hp) (K : (Option Addr) → Nat → Nat → Hp → Prop) : Prop :=
  ldS (H.get g1 1) fun x_1p x_1n x_1c =>
  bcase (decide ((i6 : Int) < (x_1n : Int))) (
  ldS (H.get g1 1) fun x_2p x_2n x_2c =>
  ix x_2p x_2n i6 4 fun b_1 o_1 =>
  ldI .i64 (H.get b_1 o_1) fun x_3 =>
  ldI .i64 (H.get b_1 (o_1 + 1)) fun x_4 =>
  ldI .i64 (H.get b_1 (o_1 + 2)) fun x_5 =>
  ldI .i64 (H.get b_1 (o_1 + 3)) fun x_6 =>
  nw H ⟨[.int .i64 0, .int .i64 0, .int .i64 0, .int .i64 0], 37⟩ fun b_2 H_1 =>
  stC H_1 b_2 0 [.int .i64 x_3, .int .i64 x_4, .int .i64 x_5, .int .i64 x_6] fun H_2 =>
  ldI .i64 (H_2.get b_2 0) fun x_7 =>
  bcase (decide ((x_7 : Int) = v4)) (
  ldI .i64 (H_2.get b_2 1) fun x_8 =>
  bcase (!decide ((x_8 : Int) = v4)) (
  ldI .i64 (H_2.get g1 0) fun x_9 =>
  ldS (H_2.get g1 1) fun x_10p x_10n x_10c =>
  ldI .i64 (H_2.get b_2 1) fun x_11 =>
  compassref17_Missed.call x_9 x_10p x_10n x_10c x_11 E H_2 fun r_1 H_3 =>
  bcase (r_1) (
  j1 g1 out3p out3n out3c v4 true i6 H_3)
  (ldI .i64 (H_3.get b_2 1) fun x_12 =>
  bcase (decide ((x_12 : Int) = v4)) (
  ldI .i64 (H_3.get b_2 0) fun x_13 =>
  bcase (!decide ((x_13 : Int) = v4)) (
  ldI .i64 (H_3.get g1 0) fun x_14 =>
  ldS (H_3.get g1 1) fun x_15p x_15n x_15c =>
  ldI .i64 (H_3.get b_2 0) fun x_16 =>
  compassref17_Missed.call x_14 x_15p x_15n x_15c x_16 E H_3 fun r_2 H_4 =>
  bcase (r_2) (
  j1 g1 out3p out3n out3c v4 true i6 H_4)
  (j1 g1 out3p out3n out3c v4 near5 i6 H_4))
  (j1 g1 out3p out3n out3c v4 near5 i6 H_3))
  (j1 g1 out3p out3n out3c v4 near5 i6 H_3)))
  (ldI .i64 (H_2.get b_2 1) fun x_17 =>
  bcase (decide ((x_17 : Int) = v4)) (
  ldI .i64 (H_2.get b_2 0) fun x_18 =>
  bcase (!decide ((x_18 : Int) = v4)) (
  ldI .i64 (H_2.get g1 0) fun x_19 =>
  ldS (H_2.get g1 1) fun x_20p x_20n x_20c =>
  ldI .i64 (H_2.get b_2 0) fun x_21 =>
  compassref17_Missed.call x_19 x_20p x_20n x_20c x_21 E H_2 fun r_3 H_5 =>
  bcase (r_3) (
  j1 g1 out3p out3n out3c v4 true i6 H_5)
  (j1 g1 out3p out3n out3c v4 near5 i6 H_5))
  (j1 g1 out3p out3n out3c v4 near5 i6 H_2))
  (j1 g1 out3p out3n out3c v4 near5 i6 H_2)))
  (ldI .i64 (H_2.get b_2 1) fun x_22 =>
  bcase (decide ((x_22 : Int) = v4)) (
  ldI .i64 (H_2.get b_2 0) fun x_23 =>
  bcase (!decide ((x_23 : Int) = v4)) (
  ldI .i64 (H_2.get g1 0) fun x_24 =>
  ldS (H_2.get g1 1) fun x_25p x_25n x_25c =>
  ldI .i64 (H_2.get b_2 0) fun x_26 =>
  compassref17_Missed.call x_24 x_25p x_25n x_25c x_26 E H_2 fun r_4 H_6 =>
  bcase (r_4) (
  j1 g1 out3p out3n out3c v4 true i6 H_6)
  (j1 g1 out3p out3n out3c v4 near5 i6 H_6))
  (j1 g1 out3p out3n out3c v4 near5 i6 H_2))
  (j1 g1 out3p out3n out3c v4 near5 i6 H_2)))
  (j2 g1 out3p out3n out3c v4 near5 H)
theorem compassref17_Set.b2_eq {g1 : Nat} {out3p : Option Addr} {out3n : Nat} {out3c : Nat} {v4 : Int} {near5 : Bool} {i6 : Int} {X1 X2 : Fr → Hp → Prop} { E : Value → Hp → Prop} {H : Hp} {K : (Option Addr) → Nat → Nat → Hp → Prop} (h : compassref17_Set.b2_t (fun g1 out3p out3n out3c v4 near5 i6 H => compassref17_Set.j1 g1 out3p out3n out3c v4 near5 i6 X1 X2 E H K) (fun g1 out3p out3n out3c v4 near5 H => compassref17_Set.j2 g1 out3p out3n out3c v4 near5 X1 E H K) g1 out3p out3n out3c v4 near5 i6 X1 X2 E H K) : compassref17_Set.b2 g1 out3p out3n out3c v4 near5 i6 X1 X2 E H K := by
  have k1 : ∀ G : List Nat → Fr → Hp → Prop, nodeR P0 T0 compassref17_Set.A [[0, 1, 0, 1, 1], [0, 1, 0, 1, 0, 0, 1, 0, 0, 1, 0, 1, 1], [1, 1, 0, 0, 1, 0, 1, 0, 0, 1, 0, 0, 1, 0, 1, 1], [1, 1, 0, 0, 1, 0, 0, 1, 0, 1, 1], [1, 1, 0, 0, 1, 0, 1, 1]] G compassref17_Set.code [1, 1, 0, 1, 0, 0, 1, 0, 0, 1, 0, 1, 0, 0] [X1, X2] (compassref17_Set.rq E K) (compassref17_Set.f2 g1 out3p out3n out3c v4 near5 i6) H = compassref17_Set.b2_t (fun g1 out3p out3n out3c v4 near5 i6 H => G [1, 1, 0, 0, 1, 0, 1, 0, 0, 1, 0, 0, 1, 0, 1, 1] [(1, .pointer (some ⟨g1, 0, none⟩)), (3, .slice out3p out3n out3c), (4, .int .i64 v4), (5, .bool near5), (6, .int .i64 i6)] H) (fun g1 out3p out3n out3c v4 near5 H => G [1, 1, 0, 0, 1, 0, 0, 1, 0, 1, 1] [(1, .pointer (some ⟨g1, 0, none⟩)), (3, .slice out3p out3n out3c), (4, .int .i64 v4), (5, .bool near5)] H) g1 out3p out3n out3c v4 near5 i6 X1 X2 E H K := fun G => by kernel_rfl
  have k2 : compassref17_Set.b2_t (fun g1 out3p out3n out3c v4 near5 i6 H => compassref17_Set.j1 g1 out3p out3n out3c v4 near5 i6 X1 X2 E H K) (fun g1 out3p out3n out3c v4 near5 H => compassref17_Set.j2 g1 out3p out3n out3c v4 near5 X1 E H K) g1 out3p out3n out3c v4 near5 i6 X1 X2 E H K = compassref17_Set.b2_t (fun g1 out3p out3n out3c v4 near5 i6 H => (fun q F H => nodeM P0 T0 compassref17_Set.A compassref17_Set.code q.reverse [X1, X2] (compassref17_Set.rq E K) F H) [1, 1, 0, 0, 1, 0, 1, 0, 0, 1, 0, 0, 1, 0, 1, 1] [(1, .pointer (some ⟨g1, 0, none⟩)), (3, .slice out3p out3n out3c), (4, .int .i64 v4), (5, .bool near5), (6, .int .i64 i6)] H) (fun g1 out3p out3n out3c v4 near5 H => (fun q F H => nodeM P0 T0 compassref17_Set.A compassref17_Set.code q.reverse [X1, X2] (compassref17_Set.rq E K) F H) [1, 1, 0, 0, 1, 0, 0, 1, 0, 1, 1] [(1, .pointer (some ⟨g1, 0, none⟩)), (3, .slice out3p out3n out3c), (4, .int .i64 v4), (5, .bool near5)] H) g1 out3p out3n out3c v4 near5 i6 X1 X2 E H K := by kernel_rfl
  exact nodeR_imp compassref17_Set.nok rfl ((k1 _).mpr (k2.mp h))
/-! ### compass/compassref17.Missed (53) -/
noncomputable def compassref17_Missed.A : An := { live := [(0, [0, 1]), (1, [1, 2]), (2, [1, 2, 5]), (3, [1, 2, 5, 6]), (4, [1, 2, 5, 6]), (5, [1, 2, 5, 6]), (6, [1, 2, 5, 6]), (7, [2, 5])], ord := [(6, [0, 1, 2, 3, 4, 5, 6, 7, 8, 9, 10]), (7, [0, 3, 1, 2, 4, 5, 6, 7])], stb := [(7, [(1, [3])])], pre := [(6, [[], [0], [], [2], [], [2, 3, 4], [2, 3, 4, 5], [2, 3, 4, 5, 6], [0, 1, 2, 3, 4, 5, 6, 7], [0, 1, 2, 3, 4, 5, 6, 7, 8], [0, 1, 2, 3, 4, 5, 6, 7, 8, 9]]), (7, [[], [0], [0, 1], [], [0, 1, 3], [0, 1, 3, 4], [0, 1, 2, 3, 4, 5], [0, 1, 2, 3, 4, 5, 6]])] }
noncomputable def compassref17_Missed.code : Code := bodyOf Go.Proofs.Try.f53
theorem compassref17_Missed.ok : okCode compassref17_Missed.A 52 compassref17_Missed.code = true := by kernel_rfl
def compassref17_Missed.rq (E : Value → Hp → Prop) (K : Bool → Hp → Prop) : Ex → Fr → Hp → Prop := retQ T0 [.tmp 4] [4] (fun r H => ldR (.one false [.bool]) r fun u => K (asB u) H) E
def compassref17_Missed.run (g0_Nodes : Int) (g0_Edgesp : Option Addr) (g0_Edgesn : Nat) (g0_Edgesc : Nat) (v1 : Int) (E : Value → Hp → Prop) (H : Hp) (K : Bool → Hp → Prop) : Prop := nodeM P0 T0 compassref17_Missed.A compassref17_Missed.code [] [] (compassref17_Missed.rq E K) (argF 0 [.agg ⟨[.int .i64 g0_Nodes, .slice g0_Edgesp g0_Edgesn g0_Edgesc]⟩, .int .i64 v1]) H
theorem compassref17_Missed.of {g0_Nodes : Int} {g0_Edgesp : Option Addr} {g0_Edgesn : Nat} {g0_Edgesc : Nat} {v1 : Int} {E : Value → Hp → Prop} {H : Hp} {K : Bool → Hp → Prop} (h : compassref17_Missed.run g0_Nodes g0_Edgesp g0_Edgesn g0_Edgesc v1 E H K) : compassref17_Missed.call g0_Nodes g0_Edgesp g0_Edgesn g0_Edgesc v1 E H K :=
  callW_of T0_ok P0_mixed (A := compassref17_Missed.A) (fn := Go.Proofs.Try.f53) Go.Proofs.Try.func53 rfl compassref17_Missed.ok rfl h
noncomputable def compassref17_Missed.f1 (v1 : Int) (g2 : Nat) (less5 : Nat) (i6 : Int) : Fr := [(1, .int .i64 v1), (2, .pointer (some ⟨g2, 0, none⟩)), (5, .pointer (some ⟨less5, 0, none⟩)), (6, .int .i64 i6)]
def compassref17_Missed.j1 (v1 : Int) (g2 : Nat) (less5 : Nat) (i6 : Int) (X1 : Fr → Hp → Prop) (E : Value → Hp → Prop) (H : Hp) (K : Bool → Hp → Prop) : Prop := nodeM P0 T0 compassref17_Missed.A compassref17_Missed.code [1, 1, 0, 1, 0, 0, 1, 1] [X1] (compassref17_Missed.rq E K) [(1, .int .i64 v1), (2, .pointer (some ⟨g2, 0, none⟩)), (5, .pointer (some ⟨less5, 0, none⟩)), (6, .int .i64 i6)] H
def compassref17_Missed.j2 (g2 : Nat) (less5 : Nat)  (E : Value → Hp → Prop) (H : Hp) (K : Bool → Hp → Prop) : Prop := nodeM P0 T0 compassref17_Missed.A compassref17_Missed.code [1, 1, 1] [] (compassref17_Missed.rq E K) [(2, .pointer (some ⟨g2, 0, none⟩)), (5, .pointer (some ⟨less5, 0, none⟩))] H
def compassref17_Missed.l1 (v1 : Int) (g2 : Nat) (less5 : Nat) (i6 : Int)  (E : Value → Hp → Prop) (H : Hp) (K : Bool → Hp → Prop) : Prop := nodeM P0 T0 compassref17_Missed.A compassref17_Missed.code [1, 1, 0, 1, 0] [] (compassref17_Missed.rq E K) (compassref17_Missed.f1 v1 g2 less5 i6) H
def compassref17_Missed.b1 (v1 : Int) (g2 : Nat) (less5 : Nat) (i6 : Int)  (X1 : Fr → Hp → Prop) (E : Value → Hp → Prop) (H : Hp) (K : Bool → Hp → Prop) : Prop := nodeM P0 T0 compassref17_Missed.A compassref17_Missed.code [1, 1, 0, 1, 0, 0] [X1] (compassref17_Missed.rq E K) (compassref17_Missed.f1 v1 g2 less5 i6) H
theorem compassref17_Missed.l1_rule { E : Value → Hp → Prop} {K : Bool → Hp → Prop} (I : Int → Nat → Nat → Int → Hp → Prop) (μ : Int → Nat → Nat → Int → Hp → Nat)
    (h : ∀ v1 g2 less5 i6 H, I v1 g2 less5 i6 H → ∀ X : Fr → Hp → Prop, (∀ v1' g2' less5' i6' H', I v1' g2' less5' i6' H' → μ v1' g2' less5' i6' H' < μ v1 g2 less5 i6 H → X (compassref17_Missed.f1 v1' g2' less5' i6') H') → compassref17_Missed.b1 v1 g2 less5 i6  X E H K)
    {v1 : Int} {g2 : Nat} {less5 : Nat} {i6 : Int} {H : Hp} (hI : I v1 g2 less5 i6 H) : compassref17_Missed.l1 v1 g2 less5 i6  E H K :=
  loop_rule (S := Int × Nat × Nat × Int) (fun s => compassref17_Missed.f1 (s.1) (s.2.1) (s.2.2.1) (s.2.2.2)) (fun s H => I (s.1) (s.2.1) (s.2.2.1) (s.2.2.2) H) (fun s H => μ (s.1) (s.2.1) (s.2.2.1) (s.2.2.2) H) (fun s H hI X hX => h (s.1) (s.2.1) (s.2.2.1) (s.2.2.2) H hI X fun v1' g2' less5' i6' H' hI' hlt => hX (v1', g2', less5', i6') H' hI' hlt) (s := (v1, g2, less5, i6)) rfl hI
theorem compassref17_Missed.nok : nodesOk compassref17_Missed.code [[0, 1, 0, 1, 1], [1, 1, 0, 0, 1, 0, 1, 1], [1, 1, 1]] = true := by kernel_rfl
def compassref17_Missed.run_t (l1 : Int → Nat → Nat → Int → Hp → Prop) (g0_Nodes : Int) (g0_Edgesp : Option Addr) (g0_Edgesn : Nat) (g0_Edgesc : Nat) (v1 : Int)  (E : Value → Hp → Prop) (H : Hp) (K : Bool → Hp → Prop) : Prop :=
  nw H ⟨[.int .i64 g0_Nodes, .slice g0_Edgesp g0_Edgesn g0_Edgesc], 24⟩ fun b_1 H_1 =>
  ldI .i64 (H_1.get b_1 0) fun x_1 =>
  nw H_1 ⟨[.int .i64 0, .slice none 0 0], 24⟩ fun b_2 H_2 =>
  stC H_2 b_2 0 [.int .i64 x_1, .slice none 0 0] fun H_3 =>
  l1 v1 b_1 b_2 0 H_3
theorem compassref17_Missed.run_eq {g0_Nodes : Int} {g0_Edgesp : Option Addr} {g0_Edgesn : Nat} {g0_Edgesc : Nat} {v1 : Int} { E : Value → Hp → Prop} {H : Hp} {K : Bool → Hp → Prop} (h : compassref17_Missed.run_t (fun v1 g2 less5 i6 H => compassref17_Missed.l1 v1 g2 less5 i6  E H K) g0_Nodes g0_Edgesp g0_Edgesn g0_Edgesc v1  E H K) : compassref17_Missed.run g0_Nodes g0_Edgesp g0_Edgesn g0_Edgesc v1  E H K := by
  have k1 : ∀ G : List Nat → Fr → Hp → Prop, nodeR P0 T0 compassref17_Missed.A [[0, 1, 0, 1, 1], [1, 1, 0, 0, 1, 0, 1, 1], [1, 1, 1]] G compassref17_Missed.code [] [] (compassref17_Missed.rq E K) (argF 0 [.agg ⟨[.int .i64 g0_Nodes, .slice g0_Edgesp g0_Edgesn g0_Edgesc]⟩, .int .i64 v1]) H = compassref17_Missed.run_t (fun v1 g2 less5 i6 H => G [0, 1, 0, 1, 1] [(1, .int .i64 v1), (2, .pointer (some ⟨g2, 0, none⟩)), (5, .pointer (some ⟨less5, 0, none⟩)), (6, .int .i64 i6)] H) g0_Nodes g0_Edgesp g0_Edgesn g0_Edgesc v1  E H K := fun G => by kernel_rfl
  have k2 : compassref17_Missed.run_t (fun v1 g2 less5 i6 H => compassref17_Missed.l1 v1 g2 less5 i6  E H K) g0_Nodes g0_Edgesp g0_Edgesn g0_Edgesc v1  E H K = compassref17_Missed.run_t (fun v1 g2 less5 i6 H => (fun q F H => nodeM P0 T0 compassref17_Missed.A compassref17_Missed.code q.reverse [] (compassref17_Missed.rq E K) F H) [0, 1, 0, 1, 1] [(1, .int .i64 v1), (2, .pointer (some ⟨g2, 0, none⟩)), (5, .pointer (some ⟨less5, 0, none⟩)), (6, .int .i64 i6)] H) g0_Nodes g0_Edgesp g0_Edgesn g0_Edgesc v1  E H K := by kernel_rfl
  exact nodeR_imp compassref17_Missed.nok rfl ((k1 _).mpr (k2.mp h))
def compassref17_Missed.j1_t  (v1 : Int) (g2 : Nat) (less5 : Nat) (i6 : Int) (X1 : Fr → Hp → Prop) (E : Value → Hp → Prop) (H : Hp) (K : Bool → Hp → Prop) : Prop :=
  X1 (compassref17_Missed.f1 v1 g2 less5 (IntKind.wrap .i64 (i6 + 1))) H
theorem compassref17_Missed.j1_eq {v1 : Int} {g2 : Nat} {less5 : Nat} {i6 : Int} {X1 : Fr → Hp → Prop} { E : Value → Hp → Prop} {H : Hp} {K : Bool → Hp → Prop} (h : compassref17_Missed.j1_t  v1 g2 less5 i6 X1 E H K) : compassref17_Missed.j1 v1 g2 less5 i6 X1 E H K := by
  have k1 : ∀ G : List Nat → Fr → Hp → Prop, nodeR P0 T0 compassref17_Missed.A [[0, 1, 0, 1, 1], [1, 1, 0, 0, 1, 0, 1, 1], [1, 1, 1]] G compassref17_Missed.code [1, 1, 0, 1, 0, 0, 1, 1] [X1] (compassref17_Missed.rq E K) [(1, .int .i64 v1), (2, .pointer (some ⟨g2, 0, none⟩)), (5, .pointer (some ⟨less5, 0, none⟩)), (6, .int .i64 i6)] H = compassref17_Missed.j1_t  v1 g2 less5 i6 X1 E H K := fun G => by kernel_rfl
  exact nodeR_imp compassref17_Missed.nok rfl ((k1 _).mpr h)
def compassref17_Missed.j2_t  (g2 : Nat) (less5 : Nat)  (E : Value → Hp → Prop) (H : Hp) (K : Bool → Hp → Prop) : Prop :=
  ldI .i64 (H.get less5 0) fun x_1 =>
  ldS (H.get less5 1) fun x_2p x_2n x_2c =>
  ldI .i64 (H.get g2 0) fun x_3 =>
  ldS (H.get g2 1) fun x_4p x_4n x_4c =>
  compassref12_Most.call x_1 x_2p x_2n x_2c E H fun r_1p r_1n r_1c H_1 =>
  (ldI .i64 (H_1.get g2 0) fun x_5 =>
  ldS (H_1.get g2 1) fun x_6p x_6n x_6c =>
  Value.agg ⟨[.int .i64 x_5, .slice x_6p x_6n x_6c]⟩ = Value.agg ⟨[.int .i64 x_3, .slice x_4p x_4n x_4c]⟩) ∧
  compassref12_Most.call x_3 x_4p x_4n x_4c E H_1 fun r_2p r_2n r_2c H_2 =>
  K (decide (((r_1n : Int) : Int) = (r_2n : Int))) H_2
theorem compassref17_Missed.j2_eq {g2 : Nat} {less5 : Nat} { E : Value → Hp → Prop} {H : Hp} {K : Bool → Hp → Prop} (h : compassref17_Missed.j2_t  g2 less5  E H K) : compassref17_Missed.j2 g2 less5  E H K := by
  have k1 : ∀ G : List Nat → Fr → Hp → Prop, nodeR P0 T0 compassref17_Missed.A [[0, 1, 0, 1, 1], [1, 1, 0, 0, 1, 0, 1, 1], [1, 1, 1]] G compassref17_Missed.code [1, 1, 1] [] (compassref17_Missed.rq E K) [(2, .pointer (some ⟨g2, 0, none⟩)), (5, .pointer (some ⟨less5, 0, none⟩))] H = compassref17_Missed.j2_t  g2 less5  E H K := fun G => by kernel_rfl
  exact nodeR_imp compassref17_Missed.nok rfl ((k1 _).mpr h)
def compassref17_Missed.b1_t (j1 : Int → Nat → Nat → Int → Hp → Prop) (j2 : Nat → Nat → Hp → Prop) (v1 : Int) (g2 : Nat) (less5 : Nat) (i6 : Int) (X1 : Fr → Hp → Prop) (E : Value → Hp → Prop) (H : Hp) (K : Bool → Hp → Prop) : Prop :=
  ldS (H.get g2 1) fun x_1p x_1n x_1c =>
  bcase (decide ((i6 : Int) < (x_1n : Int))) (
  ldS (H.get g2 1) fun x_2p x_2n x_2c =>
  ix x_2p x_2n i6 4 fun b_1 o_1 =>
  ldI .i64 (H.get b_1 o_1) fun x_3 =>
  bcase (!decide ((x_3 : Int) = v1)) (
  ldS (H.get g2 1) fun x_4p x_4n x_4c =>
  ix x_4p x_4n i6 4 fun b_2 o_2 =>
  ldI .i64 (H.get b_2 (o_2 + 1)) fun x_5 =>
  bcase (!decide ((x_5 : Int) = v1)) (
  ldS (H.get less5 1) fun x_6p x_6n x_6c =>
  ldS (H.get g2 1) fun x_7p x_7n x_7c =>
  ix x_7p x_7n i6 4 fun b_3 o_3 =>
  ldI .i64 (H.get b_3 o_3) fun x_8 =>
  ldI .i64 (H.get b_3 (o_3 + 1)) fun x_9 =>
  ldI .i64 (H.get b_3 (o_3 + 2)) fun x_10 =>
  ldI .i64 (H.get b_3 (o_3 + 3)) fun x_11 =>
  nw H ⟨[.int .i64 x_8, .int .i64 x_9, .int .i64 x_10, .int .i64 x_11], 37⟩ fun b_4 H_1 =>
  appM 37 [.i .i64, .i .i64, .i .i64, .i .i64] 32 x_6p x_6n x_6c (some ⟨b_4, 0, none⟩) 1 H_1 fun a_1p a_1n a_1c H_2 =>
  stC H_2 less5 1 [.slice a_1p a_1n a_1c] fun H_3 =>
  j1 v1 g2 less5 i6 H_3)
  (j1 v1 g2 less5 i6 H))
  (j1 v1 g2 less5 i6 H))
  (j2 g2 less5 H)
theorem compassref17_Missed.b1_eq {v1 : Int} {g2 : Nat} {less5 : Nat} {i6 : Int} {X1 : Fr → Hp → Prop} { E : Value → Hp → Prop} {H : Hp} {K : Bool → Hp → Prop} (h : compassref17_Missed.b1_t (fun v1 g2 less5 i6 H => compassref17_Missed.j1 v1 g2 less5 i6 X1 E H K) (fun g2 less5 H => compassref17_Missed.j2 g2 less5  E H K) v1 g2 less5 i6 X1 E H K) : compassref17_Missed.b1 v1 g2 less5 i6 X1 E H K := by
  have k1 : ∀ G : List Nat → Fr → Hp → Prop, nodeR P0 T0 compassref17_Missed.A [[0, 1, 0, 1, 1], [1, 1, 0, 0, 1, 0, 1, 1], [1, 1, 1]] G compassref17_Missed.code [1, 1, 0, 1, 0, 0] [X1] (compassref17_Missed.rq E K) (compassref17_Missed.f1 v1 g2 less5 i6) H = compassref17_Missed.b1_t (fun v1 g2 less5 i6 H => G [1, 1, 0, 0, 1, 0, 1, 1] [(1, .int .i64 v1), (2, .pointer (some ⟨g2, 0, none⟩)), (5, .pointer (some ⟨less5, 0, none⟩)), (6, .int .i64 i6)] H) (fun g2 less5 H => G [1, 1, 1] [(2, .pointer (some ⟨g2, 0, none⟩)), (5, .pointer (some ⟨less5, 0, none⟩))] H) v1 g2 less5 i6 X1 E H K := fun G => by kernel_rfl
  have k2 : compassref17_Missed.b1_t (fun v1 g2 less5 i6 H => compassref17_Missed.j1 v1 g2 less5 i6 X1 E H K) (fun g2 less5 H => compassref17_Missed.j2 g2 less5  E H K) v1 g2 less5 i6 X1 E H K = compassref17_Missed.b1_t (fun v1 g2 less5 i6 H => (fun q F H => nodeM P0 T0 compassref17_Missed.A compassref17_Missed.code q.reverse [X1] (compassref17_Missed.rq E K) F H) [1, 1, 0, 0, 1, 0, 1, 1] [(1, .int .i64 v1), (2, .pointer (some ⟨g2, 0, none⟩)), (5, .pointer (some ⟨less5, 0, none⟩)), (6, .int .i64 i6)] H) (fun g2 less5 H => (fun q F H => nodeM P0 T0 compassref17_Missed.A compassref17_Missed.code q.reverse [X1] (compassref17_Missed.rq E K) F H) [1, 1, 1] [(2, .pointer (some ⟨g2, 0, none⟩)), (5, .pointer (some ⟨less5, 0, none⟩))] H) v1 g2 less5 i6 X1 E H K := by kernel_rfl
  exact nodeR_imp compassref17_Missed.nok rfl ((k1 _).mpr (k2.mp h))
end Go.Mz
