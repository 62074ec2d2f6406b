/-
  The shallow texts of functions (Rea), each with a kernel-checked equation to the translated code. It proves nothing of the program by itself.
-/
import Derived.Test.YtmaeboaopebaiaaTab
set_option linter.unusedVariables false
set_option maxRecDepth 100000
namespace Go.Mz
/-! ### compass/compassref03.Check (17) -/
noncomputable def compassref03_Check.A : An := { live := [(0, [0]), (1, [1]), (2, []), (3, [1]), (4, [1, 4]), (5, [1, 4]), (6, [1, 4]), (7, [1, 4, 5]), (8, [4, 5]), (9, [])], ord := [(6, [0, 1, 2, 3, 4, 5, 6, 7, 8])], stb := [], pre := [(6, [[], [0], [], [2], [], [2, 3, 4], [2, 3, 4, 5], [0, 1, 2, 3, 4, 5, 6], [0, 1, 2, 3, 4, 5, 6, 7]])] }
noncomputable def compassref03_Check.code : Code := bodyOf Go.Proofs.Try.f17
theorem compassref03_Check.ok : okCode compassref03_Check.A 39 compassref03_Check.code = true := by kernel_rfl
def compassref03_Check.rq (E : Value → Hp → Prop) (K : Int → Int → Hp → Prop) : Ex → Fr → Hp → Prop := retQ T0 [.tmp 2, .tmp 3] [3, 3] (fun r H => ldR (.tup [(false, [.i .i64]), (false, [.i .i64])]) r fun u => K (asI (tupV u 0)) (asI (tupV u 1)) H) E
def compassref03_Check.run (g0_Nodes : Int) (g0_Edgesp : Option Addr) (g0_Edgesn : Nat) (g0_Edgesc : Nat) (E : Value → Hp → Prop) (H : Hp) (K : Int → Int → Hp → Prop) : Prop := nodeM P0 T0 compassref03_Check.A compassref03_Check.code [] [] (compassref03_Check.rq E K) (argF 0 [.agg ⟨[.int .i64 g0_Nodes, .slice g0_Edgesp g0_Edgesn g0_Edgesc]⟩]) H
theorem compassref03_Check.of {g0_Nodes : Int} {g0_Edgesp : Option Addr} {g0_Edgesn : Nat} {g0_Edgesc : Nat} {E : Value → Hp → Prop} {H : Hp} {K : Int → Int → Hp → Prop} (h : compassref03_Check.run g0_Nodes g0_Edgesp g0_Edgesn g0_Edgesc E H K) : compassref03_Check.call g0_Nodes g0_Edgesp g0_Edgesn g0_Edgesc E H K :=
  callW_of T0_ok P0_mixed (A := compassref03_Check.A) (fn := Go.Proofs.Try.f17) Go.Proofs.Try.func17 rfl compassref03_Check.ok rfl h
noncomputable def compassref03_Check.f1 (g1 : Nat) (i4 : Int) : Fr := [(1, .pointer (some ⟨g1, 0, none⟩)), (4, .int .i64 i4)]
def compassref03_Check.l1 (g1 : Nat) (i4 : Int)  (E : Value → Hp → Prop) (H : Hp) (K : Int → Int → Hp → Prop) : Prop := nodeM P0 T0 compassref03_Check.A compassref03_Check.code [1, 1, 0, 1, 0] [] (compassref03_Check.rq E K) (compassref03_Check.f1 g1 i4) H
def compassref03_Check.b1 (g1 : Nat) (i4 : Int)  (X1 : Fr → Hp → Prop) (E : Value → Hp → Prop) (H : Hp) (K : Int → Int → Hp → Prop) : Prop := nodeM P0 T0 compassref03_Check.A compassref03_Check.code [1, 1, 0, 1, 0, 0] [X1] (compassref03_Check.rq E K) (compassref03_Check.f1 g1 i4) H
theorem compassref03_Check.l1_rule { E : Value → Hp → Prop} {K : Int → Int → Hp → Prop} (I : Nat → Int → Hp → Prop) (μ : Nat → Int → Hp → Nat)
    (h : ∀ g1 i4 H, I g1 i4 H → ∀ X : Fr → Hp → Prop, (∀ g1' i4' H', I g1' i4' H' → μ g1' i4' H' < μ g1 i4 H → X (compassref03_Check.f1 g1' i4') H') → compassref03_Check.b1 g1 i4  X E H K)
    {g1 : Nat} {i4 : Int} {H : Hp} (hI : I g1 i4 H) : compassref03_Check.l1 g1 i4  E H K :=
  loop_rule (S := Nat × Int) (fun s => compassref03_Check.f1 (s.1) (s.2)) (fun s H => I (s.1) (s.2) H) (fun s H => μ (s.1) (s.2) H) (fun s H hI X hX => h (s.1) (s.2) H hI X fun g1' i4' H' hI' hlt => hX (g1', i4') H' hI' hlt) (s := (g1, i4)) rfl hI
theorem compassref03_Check.nok : nodesOk compassref03_Check.code [[0, 1, 0, 1, 1]] = true := by kernel_rfl
def compassref03_Check.run_t (l1 : Nat → Int → Hp → Prop) (g0_Nodes : Int) (g0_Edgesp : Option Addr) (g0_Edgesn : Nat) (g0_Edgesc : Nat)  (E : Value → Hp → Prop) (H : Hp) (K : Int → Int → Hp → Prop) : Prop :=
  nw H ⟨[.int .i64 g0_Nodes, .slice g0_Edgesp g0_Edgesn g0_Edgesc], 24⟩ fun b_1 H_1 =>
  ldI .i64 (H_1.get b_1 0) fun x_1 =>
  bcase (decide ((x_1 : Int) < 0)) (
  K 3 0 H_1)
  (ldI .i64 (H_1.get b_1 0) fun x_2 =>
  bcase (decide ((1024 : Int) < x_2)) (
  K 3 0 H_1)
  (ldS (H_1.get b_1 1) fun x_3p x_3n x_3c =>
  bcase (decide ((4096 : Int) < (x_3n : Int))) (
  K 3 0 H_1)
  (l1 b_1 0 H_1)))
theorem compassref03_Check.run_eq {g0_Nodes : Int} {g0_Edgesp : Option Addr} {g0_Edgesn : Nat} {g0_Edgesc : Nat} { E : Value → Hp → Prop} {H : Hp} {K : Int → Int → Hp → Prop} (h : compassref03_Check.run_t (fun g1 i4 H => compassref03_Check.l1 g1 i4  E H K) g0_Nodes g0_Edgesp g0_Edgesn g0_Edgesc  E H K) : compassref03_Check.run g0_Nodes g0_Edgesp g0_Edgesn g0_Edgesc  E H K := by
  have k1 : ∀ G : List Nat → Fr → Hp → Prop, nodeR P0 T0 compassref03_Check.A [[0, 1, 0, 1, 1]] G compassref03_Check.code [] [] (compassref03_Check.rq E K) (argF 0 [.agg ⟨[.int .i64 g0_Nodes, .slice g0_Edgesp g0_Edgesn g0_Edgesc]⟩]) H = compassref03_Check.run_t (fun g1 i4 H => G [0, 1, 0, 1, 1] [(1, .pointer (some ⟨g1, 0, none⟩)), (4, .int .i64 i4)] H) g0_Nodes g0_Edgesp g0_Edgesn g0_Edgesc  E H K := fun G => by kernel_rfl
  have k2 : compassref03_Check.run_t (fun g1 i4 H => compassref03_Check.l1 g1 i4  E H K) g0_Nodes g0_Edgesp g0_Edgesn g0_Edgesc  E H K = compassref03_Check.run_t (fun g1 i4 H => (fun q F H => nodeM P0 T0 compassref03_Check.A compassref03_Check.code q.reverse [] (compassref03_Check.rq E K) F H) [0, 1, 0, 1, 1] [(1, .pointer (some ⟨g1, 0, none⟩)), (4, .int .i64 i4)] H) g0_Nodes g0_Edgesp g0_Edgesn g0_Edgesc  E H K := by kernel_rfl
  exact nodeR_imp compassref03_Check.nok rfl ((k1 _).mpr (k2.mp h))
def compassref03_Check.b1_t  (g1 : Nat) (i4 : Int) (X1 : Fr → Hp → Prop) (E : Value → Hp → Prop) (H : Hp) (K : Int → Int → Hp → Prop) : Prop :=
  ldS (H.get g1 1) fun x_1p x_1n x_1c =>
  bcase (decide ((i4 : Int) < (x_1n : Int))) (
  ldI .i64 (H.get g1 0) fun x_2 =>
  ldS (H.get g1 1) fun x_3p x_3n x_3c =>
  ix x_3p x_3n i4 4 fun b_1 o_1 =>
  ldI .i64 (H.get b_1 o_1) fun x_4 =>
  ldI .i64 (H.get b_1 (o_1 + 1)) fun x_5 =>
  ldI .i64 (H.get b_1 (o_1 + 2)) fun x_6 =>
  ldI .i64 (H.get b_1 (o_1 + 3)) fun x_7 =>
  compassref03_Bad.call x_2 x_4 x_5 x_6 x_7 E H fun r_1 H_1 =>
  bcase (!decide ((r_1 : Int) = 0)) (
  K r_1 i4 H_1)
  (X1 (compassref03_Check.f1 g1 (IntKind.wrap .i64 (i4 + 1))) H_1))
  (K 0 0 H)
theorem compassref03_Check.b1_eq {g1 : Nat} {i4 : Int} {X1 : Fr → Hp → Prop} { E : Value → Hp → Prop} {H : Hp} {K : Int → Int → Hp → Prop} (h : compassref03_Check.b1_t  g1 i4 X1 E H K) : compassref03_Check.b1 g1 i4 X1 E H K := by
  have k1 : ∀ G : List Nat → Fr → Hp → Prop, nodeR P0 T0 compassref03_Check.A [[0, 1, 0, 1, 1]] G compassref03_Check.code [1, 1, 0, 1, 0, 0] [X1] (compassref03_Check.rq E K) (compassref03_Check.f1 g1 i4) H = compassref03_Check.b1_t  g1 i4 X1 E H K := fun G => by kernel_rfl
  exact nodeR_imp compassref03_Check.nok rfl ((k1 _).mpr h)
/-! ### compass/compassref12.Matches (22) -/
noncomputable def compassref12_Matches.A : An := { live := [(0, [0, 1]), (1, [1, 2])], ord := [(1, [0, 1, 2, 3, 4, 5])], stb := [(1, [(3, [0])])], pre := [(1, [[], [], [], [2], [0, 1, 2, 3], [0, 1, 2, 3, 4]])] }
noncomputable def compassref12_Matches.code : Code := bodyOf Go.Proofs.Try.f22
theorem compassref12_Matches.ok : okCode compassref12_Matches.A 10 compassref12_Matches.code = true := by kernel_rfl
def compassref12_Matches.rq (E : Value → Hp → Prop) (K : Bool → Hp → Prop) : Ex → Fr → Hp → Prop := retQ T0 [.tmp 4] [4] (fun r H => ldR (.one false [.bool]) r fun u => K (asB u) H) E
def compassref12_Matches.run (g0_Nodes : Int) (g0_Edgesp : Option Addr) (g0_Edgesn : Nat) (g0_Edgesc : Nat) (m1p : Option Addr) (m1n : Nat) (m1c : Nat) (E : Value → Hp → Prop) (H : Hp) (K : Bool → Hp → Prop) : Prop := nodeM P0 T0 compassref12_Matches.A compassref12_Matches.code [] [] (compassref12_Matches.rq E K) (argF 0 [.agg ⟨[.int .i64 g0_Nodes, .slice g0_Edgesp g0_Edgesn g0_Edgesc]⟩, .slice m1p m1n m1c]) H
theorem compassref12_Matches.of {g0_Nodes : Int} {g0_Edgesp : Option Addr} {g0_Edgesn : Nat} {g0_Edgesc : Nat} {m1p : Option Addr} {m1n : Nat} {m1c : Nat} {E : Value → Hp → Prop} {H : Hp} {K : Bool → Hp → Prop} (h : compassref12_Matches.run g0_Nodes g0_Edgesp g0_Edgesn g0_Edgesc m1p m1n m1c E H K) : compassref12_Matches.call g0_Nodes g0_Edgesp g0_Edgesn g0_Edgesc m1p m1n m1c E H K :=
  callW_of T0_ok P0_mixed (A := compassref12_Matches.A) (fn := Go.Proofs.Try.f22) Go.Proofs.Try.func22 rfl compassref12_Matches.ok rfl h
theorem compassref12_Matches.nok : nodesOk compassref12_Matches.code [] = true := by kernel_rfl
def compassref12_Matches.run_t  (g0_Nodes : Int) (g0_Edgesp : Option Addr) (g0_Edgesn : Nat) (g0_Edgesc : Nat) (m1p : Option Addr) (m1n : Nat) (m1c : Nat)  (E : Value → Hp → Prop) (H : Hp) (K : Bool → Hp → Prop) : Prop :=
  nw H ⟨[.int .i64 g0_Nodes, .slice g0_Edgesp g0_Edgesn g0_Edgesc], 24⟩ fun b_1 H_1 =>
  ldI .i64 (H_1.get b_1 0) fun x_1 =>
  ldS (H_1.get b_1 1) fun x_2p x_2n x_2c =>
  ldI .i64 (H_1.get b_1 0) fun x_3 =>
  ldS (H_1.get b_1 1) fun x_4p x_4n x_4c =>
  compassref12_ones.call x_3 x_4p x_4n x_4c E H_1 fun r_1p r_1n r_1c H_2 =>
  (ldI .i64 (H_2.get b_1 0) fun x_5 =>
  ldS (H_2.get b_1 1) fun x_6p x_6n x_6c =>
  Value.agg ⟨[.int .i64 x_5, .slice x_6p x_6n x_6c]⟩ = Value.agg ⟨[.int .i64 x_1, .slice x_2p x_2n x_2c]⟩) ∧
  compassref12_Taken.call x_1 x_2p x_2n x_2c m1p m1n m1c r_1p r_1n r_1c E H_2 fun r_2 H_3 =>
  K r_2 H_3
theorem compassref12_Matches.run_eq {g0_Nodes : Int} {g0_Edgesp : Option Addr} {g0_Edgesn : Nat} {g0_Edgesc : Nat} {m1p : Option Addr} {m1n : Nat} {m1c : Nat} { E : Value → Hp → Prop} {H : Hp} {K : Bool → Hp → Prop} (h : compassref12_Matches.run_t  g0_Nodes g0_Edgesp g0_Edgesn g0_Edgesc m1p m1n m1c  E H K) : compassref12_Matches.run g0_Nodes g0_Edgesp g0_Edgesn g0_Edgesc m1p m1n m1c  E H K := by
  have k1 : ∀ G : List Nat → Fr → Hp → Prop, nodeR P0 T0 compassref12_Matches.A [] G compassref12_Matches.code [] [] (compassref12_Matches.rq E K) (argF 0 [.agg ⟨[.int .i64 g0_Nodes, .slice g0_Edgesp g0_Edgesn g0_Edgesc]⟩, .slice m1p m1n m1c]) H = compassref12_Matches.run_t  g0_Nodes g0_Edgesp g0_Edgesn g0_Edgesc m1p m1n m1c  E H K := fun G => by kernel_rfl
  exact nodeR_imp compassref12_Matches.nok rfl ((k1 _).mpr h)
/-! ### compass/compassref12.At (23) -/
noncomputable def compassref12_At.A : An := { live := [(0, [0, 1, 2]), (1, [1, 2, 3]), (2, [1, 2, 3, 7]), (3, [1, 2, 3, 7, 8]), (4, [1, 2, 3, 7, 8]), (5, [1, 2, 3, 7, 8]), (6, [1, 2, 3, 7, 8]), (7, [1, 2, 3, 7, 8]), (8, [1, 2, 3, 7, 8]), (9, [7])], ord := [(5, [0, 1, 2, 3, 4, 5, 6, 7, 8, 9, 10]), (7, [0, 1, 2, 3, 4, 5, 6, 7, 8, 9, 10])], stb := [], pre := [(5, [[], [0], [], [], [2, 3], [2, 3, 4], [0, 1, 2, 3, 4, 5], [0, 1, 2, 3, 4, 5, 6], [0, 1, 2, 3, 4, 5, 6, 7], [], [0, 1, 2, 3, 4, 5, 6, 7, 8, 9]]), (7, [[], [0], [], [], [2, 3], [2, 3, 4], [0, 1, 2, 3, 4, 5], [0, 1, 2, 3, 4, 5, 6], [0, 1, 2, 3, 4, 5, 6, 7], [], [0, 1, 2, 3, 4, 5, 6, 7, 8, 9]])] }
noncomputable def compassref12_At.code : Code := bodyOf Go.Proofs.Try.f23
theorem compassref12_At.ok : okCode compassref12_At.A 42 compassref12_At.code = true := by kernel_rfl
def compassref12_At.rq (E : Value → Hp → Prop) (K : Int → Hp → Prop) : Ex → Fr → Hp → Prop := retQ T0 [.tmp 6] [3] (fun r H => ldR (.one false [.i .i64]) r fun u => K (asI u) H) E
def compassref12_At.run (g0_Nodes : Int) (g0_Edgesp : Option Addr) (g0_Edgesn : Nat) (g0_Edgesc : Nat) (list1p : Option Addr) (list1n : Nat) (list1c : Nat) (v2 : Int) (E : Value → Hp → Prop) (H : Hp) (K : Int → Hp → Prop) : Prop := nodeM P0 T0 compassref12_At.A compassref12_At.code [] [] (compassref12_At.rq E K) (argF 0 [.agg ⟨[.int .i64 g0_Nodes, .slice g0_Edgesp g0_Edgesn g0_Edgesc]⟩, .slice list1p list1n list1c, .int .i64 v2]) H
theorem compassref12_At.of {g0_Nodes : Int} {g0_Edgesp : Option Addr} {g0_Edgesn : Nat} {g0_Edgesc : Nat} {list1p : Option Addr} {list1n : Nat} {list1c : Nat} {v2 : Int} {E : Value → Hp → Prop} {H : Hp} {K : Int → Hp → Prop} (h : compassref12_At.run g0_Nodes g0_Edgesp g0_Edgesn g0_Edgesc list1p list1n list1c v2 E H K) : compassref12_At.call g0_Nodes g0_Edgesp g0_Edgesn g0_Edgesc list1p list1n list1c v2 E H K :=
  callW_of T0_ok P0_mixed (A := compassref12_At.A) (fn := Go.Proofs.Try.f23) Go.Proofs.Try.func23 rfl compassref12_At.ok rfl h
noncomputable def compassref12_At.f1 (list1p : Option Addr) (list1n : Nat) (list1c : Nat) (v2 : Int) (g3 : Nat) (n7 : Int) (i8 : Int) : Fr := [(1, .slice list1p list1n list1c), (2, .int .i64 v2), (3, .pointer (some ⟨g3, 0, none⟩)), (7, .int .i64 n7), (8, .int .i64 i8)]
def compassref12_At.j1 (list1p : Option Addr) (list1n : Nat) (list1c : Nat) (v2 : Int) (g3 : Nat) (n7 : Int) (i8 : Int) (X1 : Fr → Hp → Prop) (E : Value → Hp → Prop) (H : Hp) (K : Int → Hp → Prop) : Prop := nodeM P0 T0 compassref12_At.A compassref12_At.code [1, 1, 0, 1, 0, 0, 1, 0, 0, 1] [X1] (compassref12_At.rq E K) [(1, .slice list1p list1n list1c), (2, .int .i64 v2), (3, .pointer (some ⟨g3, 0, none⟩)), (7, .int .i64 n7), (8, .int .i64 i8)] H
def compassref12_At.j2 (list1p : Option Addr) (list1n : Nat) (list1c : Nat) (v2 : Int) (g3 : Nat) (n7 : Int) (i8 : Int) (X1 : Fr → Hp → Prop) (E : Value → Hp → Prop) (H : Hp) (K : Int → Hp → Prop) : Prop := nodeM P0 T0 compassref12_At.A compassref12_At.code [1, 1, 0, 1, 0, 0, 1, 1] [X1] (compassref12_At.rq E K) [(1, .slice list1p list1n list1c), (2, .int .i64 v2), (3, .pointer (some ⟨g3, 0, none⟩)), (7, .int .i64 n7), (8, .int .i64 i8)] H
def compassref12_At.l1 (list1p : Option Addr) (list1n : Nat) (list1c : Nat) (v2 : Int) (g3 : Nat) (n7 : Int) (i8 : Int)  (E : Value → Hp → Prop) (H : Hp) (K : Int → Hp → Prop) : Prop := nodeM P0 T0 compassref12_At.A compassref12_At.code [1, 1, 0, 1, 0] [] (compassref12_At.rq E K) (compassref12_At.f1 list1p list1n list1c v2 g3 n7 i8) H
def compassref12_At.b1 (list1p : Option Addr) (list1n : Nat) (list1c : Nat) (v2 : Int) (g3 : Nat) (n7 : Int) (i8 : Int)  (X1 : Fr → Hp → Prop) (E : Value → Hp → Prop) (H : Hp) (K : Int → Hp → Prop) : Prop := nodeM P0 T0 compassref12_At.A compassref12_At.code [1, 1, 0, 1, 0, 0] [X1] (compassref12_At.rq E K) (compassref12_At.f1 list1p list1n list1c v2 g3 n7 i8) H
theorem compassref12_At.l1_rule { E : Value → Hp → Prop} {K : Int → Hp → Prop} (I : (Option Addr) → Nat → Nat → Int → Nat → Int → Int → Hp → Prop) (μ : (Option Addr) → Nat → Nat → Int → Nat → Int → Int → Hp → Nat)
    (h : ∀ list1p list1n list1c v2 g3 n7 i8 H, I list1p list1n list1c v2 g3 n7 i8 H → ∀ X : Fr → Hp → Prop, (∀ list1p' list1n' list1c' v2' g3' n7' i8' H', I list1p' list1n' list1c' v2' g3' n7' i8' H' → μ list1p' list1n' list1c' v2' g3' n7' i8' H' < μ list1p list1n list1c v2 g3 n7 i8 H → X (compassref12_At.f1 list1p' list1n' list1c' v2' g3' n7' i8') H') → compassref12_At.b1 list1p list1n list1c v2 g3 n7 i8  X E H K)
    {list1p : Option Addr} {list1n : Nat} {list1c : Nat} {v2 : Int} {g3 : Nat} {n7 : Int} {i8 : Int} {H : Hp} (hI : I list1p list1n list1c v2 g3 n7 i8 H) : compassref12_At.l1 list1p list1n list1c v2 g3 n7 i8  E H K :=
  loop_rule (S := (Option Addr) × Nat × Nat × Int × Nat × Int × Int) (fun s => compassref12_At.f1 (s.1) (s.2.1) (s.2.2.1) (s.2.2.2.1) (s.2.2.2.2.1) (s.2.2.2.2.2.1) (s.2.2.2.2.2.2)) (fun s H => I (s.1) (s.2.1) (s.2.2.1) (s.2.2.2.1) (s.2.2.2.2.1) (s.2.2.2.2.2.1) (s.2.2.2.2.2.2) H) (fun s H => μ (s.1) (s.2.1) (s.2.2.1) (s.2.2.2.1) (s.2.2.2.2.1) (s.2.2.2.2.2.1) (s.2.2.2.2.2.2) H) (fun s H hI X hX => h (s.1) (s.2.1) (s.2.2.1) (s.2.2.2.1) (s.2.2.2.2.1) (s.2.2.2.2.2.1) (s.2.2.2.2.2.2) H hI X fun list1p' list1n' list1c' v2' g3' n7' i8' H' hI' hlt => hX (list1p', list1n', list1c', v2', g3', n7', i8') H' hI' hlt) (s := (list1p, list1n, list1c, v2, g3, n7, i8)) rfl hI
theorem compassref12_At.nok : nodesOk compassref12_At.code [[0, 1, 0, 1, 1], [1, 0, 0, 1, 0, 0, 1, 0, 1, 1], [1, 1, 0, 0, 1, 0, 1, 1]] = true := by kernel_rfl
def compassref12_At.run_t (l1 : (Option Addr) → Nat → Nat → Int → Nat → Int → Int → Hp → Prop) (g0_Nodes : Int) (g0_Edgesp : Option Addr) (g0_Edgesn : Nat) (g0_Edgesc : Nat) (list1p : Option Addr) (list1n : Nat) (list1c : Nat) (v2 : Int)  (E : Value → Hp → Prop) (H : Hp) (K : Int → Hp → Prop) : Prop :=
  nw H ⟨[.int .i64 g0_Nodes, .slice g0_Edgesp g0_Edgesn g0_Edgesc], 24⟩ fun b_1 H_1 =>
  l1 list1p list1n list1c v2 b_1 0 0 H_1
theorem compassref12_At.run_eq {g0_Nodes : Int} {g0_Edgesp : Option Addr} {g0_Edgesn : Nat} {g0_Edgesc : Nat} {list1p : Option Addr} {list1n : Nat} {list1c : Nat} {v2 : Int} { E : Value → Hp → Prop} {H : Hp} {K : Int → Hp → Prop} (h : compassref12_At.run_t (fun list1p list1n list1c v2 g3 n7 i8 H => compassref12_At.l1 list1p list1n list1c v2 g3 n7 i8  E H K) g0_Nodes g0_Edgesp g0_Edgesn g0_Edgesc list1p list1n list1c v2  E H K) : compassref12_At.run g0_Nodes g0_Edgesp g0_Edgesn g0_Edgesc list1p list1n list1c v2  E H K := by
  have k1 : ∀ G : List Nat → Fr → Hp → Prop, nodeR P0 T0 compassref12_At.A [[0, 1, 0, 1, 1], [1, 0, 0, 1, 0, 0, 1, 0, 1, 1], [1, 1, 0, 0, 1, 0, 1, 1]] G compassref12_At.code [] [] (compassref12_At.rq E K) (argF 0 [.agg ⟨[.int .i64 g0_Nodes, .slice g0_Edgesp g0_Edgesn g0_Edgesc]⟩, .slice list1p list1n list1c, .int .i64 v2]) H = compassref12_At.run_t (fun list1p list1n list1c v2 g3 n7 i8 H => G [0, 1, 0, 1, 1] [(1, .slice list1p list1n list1c), (2, .int .i64 v2), (3, .pointer (some ⟨g3, 0, none⟩)), (7, .int .i64 n7), (8, .int .i64 i8)] H) g0_Nodes g0_Edgesp g0_Edgesn g0_Edgesc list1p list1n list1c v2  E H K := fun G => by kernel_rfl
  have k2 : compassref12_At.run_t (fun list1p list1n list1c v2 g3 n7 i8 H => compassref12_At.l1 list1p list1n list1c v2 g3 n7 i8  E H K) g0_Nodes g0_Edgesp g0_Edgesn g0_Edgesc list1p list1n list1c v2  E H K = compassref12_At.run_t (fun list1p list1n list1c v2 g3 n7 i8 H => (fun q F H => nodeM P0 T0 compassref12_At.A compassref12_At.code q.reverse [] (compassref12_At.rq E K) F H) [0, 1, 0, 1, 1] [(1, .slice list1p list1n list1c), (2, .int .i64 v2), (3, .pointer (some ⟨g3, 0, none⟩)), (7, .int .i64 n7), (8, .int .i64 i8)] H) g0_Nodes g0_Edgesp g0_Edgesn g0_Edgesc list1p list1n list1c v2  E H K := by kernel_rfl
  exact nodeR_imp compassref12_At.nok rfl ((k1 _).mpr (k2.mp h))
def compassref12_At.j1_t (j2 : (Option Addr) → Nat → Nat → Int → Nat → Int → Int → Hp → Prop) (list1p : Option Addr) (list1n : Nat) (list1c : Nat) (v2 : Int) (g3 : Nat) (n7 : Int) (i8 : Int) (X1 : Fr → Hp → Prop) (E : Value → Hp → Prop) (H : Hp) (K : Int → Hp → Prop) : Prop :=
  ldS (H.get g3 1) fun x_1p x_1n x_1c =>
  ix list1p list1n i8 1 fun b_1 o_1 =>
  ldI .i64 (H.get b_1 o_1) fun x_2 =>
  ix x_1p x_1n x_2 4 fun b_2 o_2 =>
  ldI .i64 (H.get b_2 (o_2 + 1)) fun x_3 =>
  bcase (decide ((x_3 : Int) = v2)) (
  j2 list1p list1n list1c v2 g3 (IntKind.wrap .i64 (n7 + 1)) i8 H)
  (j2 list1p list1n list1c v2 g3 n7 i8 H)
theorem compassref12_At.j1_eq {list1p : Option Addr} {list1n : Nat} {list1c : Nat} {v2 : Int} {g3 : Nat} {n7 : Int} {i8 : Int} {X1 : Fr → Hp → Prop} { E : Value → Hp → Prop} {H : Hp} {K : Int → Hp → Prop} (h : compassref12_At.j1_t (fun list1p list1n list1c v2 g3 n7 i8 H => compassref12_At.j2 list1p list1n list1c v2 g3 n7 i8 X1 E H K) list1p list1n list1c v2 g3 n7 i8 X1 E H K) : compassref12_At.j1 list1p list1n list1c v2 g3 n7 i8 X1 E H K := by
  have k1 : ∀ G : List Nat → Fr → Hp → Prop, nodeR P0 T0 compassref12_At.A [[0, 1, 0, 1, 1], [1, 0, 0, 1, 0, 0, 1, 0, 1, 1], [1, 1, 0, 0, 1, 0, 1, 1]] G compassref12_At.code [1, 1, 0, 1, 0, 0, 1, 0, 0, 1] [X1] (compassref12_At.rq E K) [(1, .slice list1p list1n list1c), (2, .int .i64 v2), (3, .pointer (some ⟨g3, 0, none⟩)), (7, .int .i64 n7), (8, .int .i64 i8)] H = compassref12_At.j1_t (fun list1p list1n list1c v2 g3 n7 i8 H => G [1, 1, 0, 0, 1, 0, 1, 1] [(1, .slice list1p list1n list1c), (2, .int .i64 v2), (3, .pointer (some ⟨g3, 0, none⟩)), (7, .int .i64 n7), (8, .int .i64 i8)] H) list1p list1n list1c v2 g3 n7 i8 X1 E H K := fun G => by kernel_rfl
  have k2 : compassref12_At.j1_t (fun list1p list1n list1c v2 g3 n7 i8 H => compassref12_At.j2 list1p list1n list1c v2 g3 n7 i8 X1 E H K) list1p list1n list1c v2 g3 n7 i8 X1 E H K = compassref12_At.j1_t (fun list1p list1n list1c v2 g3 n7 i8 H => (fun q F H => nodeM P0 T0 compassref12_At.A compassref12_At.code q.reverse [X1] (compassref12_At.rq E K) F H) [1, 1, 0, 0, 1, 0, 1, 1] [(1, .slice list1p list1n list1c), (2, .int .i64 v2), (3, .pointer (some ⟨g3, 0, none⟩)), (7, .int .i64 n7), (8, .int .i64 i8)] H) list1p list1n list1c v2 g3 n7 i8 X1 E H K := by kernel_rfl
  exact nodeR_imp compassref12_At.nok rfl ((k1 _).mpr (k2.mp h))
def compassref12_At.j2_t  (list1p : Option Addr) (list1n : Nat) (list1c : Nat) (v2 : Int) (g3 : Nat) (n7 : Int) (i8 : Int) (X1 : Fr → Hp → Prop) (E : Value → Hp → Prop) (H : Hp) (K : Int → Hp → Prop) : Prop :=
  X1 (compassref12_At.f1 list1p list1n list1c v2 g3 n7 (IntKind.wrap .i64 (i8 + 1))) H
theorem compassref12_At.j2_eq {list1p : Option Addr} {list1n : Nat} {list1c : Nat} {v2 : Int} {g3 : Nat} {n7 : Int} {i8 : Int} {X1 : Fr → Hp → Prop} { E : Value → Hp → Prop} {H : Hp} {K : Int → Hp → Prop} (h : compassref12_At.j2_t  list1p list1n list1c v2 g3 n7 i8 X1 E H K) : compassref12_At.j2 list1p list1n list1c v2 g3 n7 i8 X1 E H K := by
  have k1 : ∀ G : List Nat → Fr → Hp → Prop, nodeR P0 T0 compassref12_At.A [[0, 1, 0, 1, 1], [1, 0, 0, 1, 0, 0, 1, 0, 1, 1], [1, 1, 0, 0, 1, 0, 1, 1]] G compassref12_At.code [1, 1, 0, 1, 0, 0, 1, 1] [X1] (compassref12_At.rq E K) [(1, .slice list1p list1n list1c), (2, .int .i64 v2), (3, .pointer (some ⟨g3, 0, none⟩)), (7, .int .i64 n7), (8, .int .i64 i8)] H = compassref12_At.j2_t  list1p list1n list1c v2 g3 n7 i8 X1 E H K := fun G => by kernel_rfl
  exact nodeR_imp compassref12_At.nok rfl ((k1 _).mpr h)
def compassref12_At.b1_t (j1 : (Option Addr) → Nat → Nat → Int → Nat → Int → Int → Hp → Prop) (list1p : Option Addr) (list1n : Nat) (list1c : Nat) (v2 : Int) (g3 : Nat) (n7 : Int) (i8 : Int) (X1 : Fr → Hp → Prop) (E : Value → Hp → Prop) (H : Hp) (K : Int → Hp → Prop) : Prop :=
  bcase (decide ((i8 : Int) < (list1n : Int))) (
  ldS (H.get g3 1) fun x_1p x_1n x_1c =>
  ix list1p list1n i8 1 fun b_1 o_1 =>
  ldI .i64 (H.get b_1 o_1) fun x_2 =>
  ix x_1p x_1n x_2 4 fun b_2 o_2 =>
  ldI .i64 (H.get b_2 o_2) fun x_3 =>
  bcase (decide ((x_3 : Int) = v2)) (
  j1 list1p list1n list1c v2 g3 (IntKind.wrap .i64 (n7 + 1)) i8 H)
  (j1 list1p list1n list1c v2 g3 n7 i8 H))
  (K n7 H)
theorem compassref12_At.b1_eq {list1p : Option Addr} {list1n : Nat} {list1c : Nat} {v2 : Int} {g3 : Nat} {n7 : Int} {i8 : Int} {X1 : Fr → Hp → Prop} { E : Value → Hp → Prop} {H : Hp} {K : Int → Hp → Prop} (h : compassref12_At.b1_t (fun list1p list1n list1c v2 g3 n7 i8 H => compassref12_At.j1 list1p list1n list1c v2 g3 n7 i8 X1 E H K) list1p list1n list1c v2 g3 n7 i8 X1 E H K) : compassref12_At.b1 list1p list1n list1c v2 g3 n7 i8 X1 E H K := by
  have k1 : ∀ G : List Nat → Fr → Hp → Prop, nodeR P0 T0 compassref12_At.A [[0, 1, 0, 1, 1], [1, 0, 0, 1, 0, 0, 1, 0, 1, 1], [1, 1, 0, 0, 1, 0, 1, 1]] G compassref12_At.code [1, 1, 0, 1, 0, 0] [X1] (compassref12_At.rq E K) (compassref12_At.f1 list1p list1n list1c v2 g3 n7 i8) H = compassref12_At.b1_t (fun list1p list1n list1c v2 g3 n7 i8 H => G [1, 0, 0, 1, 0, 0, 1, 0, 1, 1] [(1, .slice list1p list1n list1c), (2, .int .i64 v2), (3, .pointer (some ⟨g3, 0, none⟩)), (7, .int .i64 n7), (8, .int .i64 i8)] H) list1p list1n list1c v2 g3 n7 i8 X1 E H K := fun G => by kernel_rfl
  have k2 : compassref12_At.b1_t (fun list1p list1n list1c v2 g3 n7 i8 H => compassref12_At.j1 list1p list1n list1c v2 g3 n7 i8 X1 E H K) list1p list1n list1c v2 g3 n7 i8 X1 E H K = compassref12_At.b1_t (fun list1p list1n list1c v2 g3 n7 i8 H => (fun q F H => nodeM P0 T0 compassref12_At.A compassref12_At.code q.reverse [X1] (compassref12_At.rq E K) F H) [1, 0, 0, 1, 0, 0, 1, 0, 1, 1] [(1, .slice list1p list1n list1c), (2, .int .i64 v2), (3, .pointer (some ⟨g3, 0, none⟩)), (7, .int .i64 n7), (8, .int .i64 i8)] H) list1p list1n list1c v2 g3 n7 i8 X1 E H K := by kernel_rfl
  exact nodeR_imp compassref12_At.nok rfl ((k1 _).mpr (k2.mp h))
/-! ### compass/compassref03.Bad (48) -/
noncomputable def compassref03_Bad.A : An := { live := [(0, [0, 1]), (1, [0, 3]), (2, []), (3, [3]), (4, []), (5, [])], ord := [], stb := [], pre := [] }
noncomputable def compassref03_Bad.code : Code := bodyOf Go.Proofs.Try.f48
theorem compassref03_Bad.ok : okCode compassref03_Bad.A 43 compassref03_Bad.code = true := by kernel_rfl
def compassref03_Bad.rq (E : Value → Hp → Prop) (K : Int → Hp → Prop) : Ex → Fr → Hp → Prop := retQ T0 [.tmp 4] [3] (fun r H => ldR (.one false [.i .i64]) r fun u => K (asI u) H) E
def compassref03_Bad.run (nodes0 : Int) (e1_From : Int) (e1_To : Int) (e1_Cap : Int) (e1_Cost : Int) (E : Value → Hp → Prop) (H : Hp) (K : Int → Hp → Prop) : Prop := nodeM P0 T0 compassref03_Bad.A compassref03_Bad.code [] [] (compassref03_Bad.rq E K) (argF 0 [.int .i64 nodes0, .agg ⟨[.int .i64 e1_From, .int .i64 e1_To, .int .i64 e1_Cap, .int .i64 e1_Cost]⟩]) H
theorem compassref03_Bad.of {nodes0 : Int} {e1_From : Int} {e1_To : Int} {e1_Cap : Int} {e1_Cost : Int} {E : Value → Hp → Prop} {H : Hp} {K : Int → Hp → Prop} (h : compassref03_Bad.run nodes0 e1_From e1_To e1_Cap e1_Cost E H K) : compassref03_Bad.call nodes0 e1_From e1_To e1_Cap e1_Cost E H K :=
  callW_of T0_ok P0_mixed (A := compassref03_Bad.A) (fn := Go.Proofs.Try.f48) Go.Proofs.Try.func48 rfl compassref03_Bad.ok rfl h
theorem compassref03_Bad.nok : nodesOk compassref03_Bad.code [] = true := by kernel_rfl
def compassref03_Bad.run_t  (nodes0 : Int) (e1_From : Int) (e1_To : Int) (e1_Cap : Int) (e1_Cost : Int)  (E : Value → Hp → Prop) (H : Hp) (K : Int → Hp → Prop) : Prop :=
  nw H ⟨[.int .i64 e1_From, .int .i64 e1_To, .int .i64 e1_Cap, .int .i64 e1_Cost], 37⟩ fun b_1 H_1 =>
  ldI .i64 (H_1.get b_1 0) fun x_1 =>
  bcase (decide ((x_1 : Int) < 0)) (
  K 30 H_1)
  (ldI .i64 (H_1.get b_1 1) fun x_2 =>
  bcase (decide ((x_2 : Int) < 0)) (
  K 30 H_1)
  (ldI .i64 (H_1.get b_1 0) fun x_3 =>
  bcase (decide ((nodes0 : Int) ≤ x_3)) (
  K 30 H_1)
  (ldI .i64 (H_1.get b_1 1) fun x_4 =>
  bcase (decide ((nodes0 : Int) ≤ x_4)) (
  K 30 H_1)
  (ldI .i64 (H_1.get b_1 2) fun x_5 =>
  bcase (decide ((x_5 : Int) < 0)) (
  K 31 H_1)
  (ldI .i64 (H_1.get b_1 2) fun x_6 =>
  bcase (decide ((1048576 : Int) < x_6)) (
  K 31 H_1)
  (ldI .i64 (H_1.get b_1 3) fun x_7 =>
  bcase (decide ((x_7 : Int) < (-1048576))) (
  K 31 H_1)
  (ldI .i64 (H_1.get b_1 3) fun x_8 =>
  bcase (decide ((1048576 : Int) < x_8)) (
  K 31 H_1)
  (K 0 H_1))))))))
theorem compassref03_Bad.run_eq {nodes0 : Int} {e1_From : Int} {e1_To : Int} {e1_Cap : Int} {e1_Cost : Int} { E : Value → Hp → Prop} {H : Hp} {K : Int → Hp → Prop} (h : compassref03_Bad.run_t  nodes0 e1_From e1_To e1_Cap e1_Cost  E H K) : compassref03_Bad.run nodes0 e1_From e1_To e1_Cap e1_Cost  E H K := by
  have k1 : ∀ G : List Nat → Fr → Hp → Prop, nodeR P0 T0 compassref03_Bad.A [] G compassref03_Bad.code [] [] (compassref03_Bad.rq E K) (argF 0 [.int .i64 nodes0, .agg ⟨[.int .i64 e1_From, .int .i64 e1_To, .int .i64 e1_Cap, .int .i64 e1_Cost]⟩]) H = compassref03_Bad.run_t  nodes0 e1_From e1_To e1_Cap e1_Cost  E H K := fun G => by kernel_rfl
  exact nodeR_imp compassref03_Bad.nok rfl ((k1 _).mpr h)
/-! ### compass/compassref12.Matching (49) -/
noncomputable def compassref12_Matching.A : An := { live := [(0, [0, 1]), (1, [1, 2]), (2, [1, 2, 5]), (3, []), (4, [5])], ord := [], stb := [], pre := [] }
noncomputable def compassref12_Matching.code : Code := bodyOf Go.Proofs.Try.f49
theorem compassref12_Matching.ok : okCode compassref12_Matching.A 21 compassref12_Matching.code = true := by kernel_rfl
def compassref12_Matching.rq (E : Value → Hp → Prop) (K : Int → Hp → Prop) : Ex → Fr → Hp → Prop := retQ T0 [.tmp 4] [3] (fun r H => ldR (.one false [.i .i64]) r fun u => K (asI u) H) E
def compassref12_Matching.run (g0_Nodes : Int) (g0_Edgesp : Option Addr) (g0_Edgesn : Nat) (g0_Edgesc : Nat) (m1p : Option Addr) (m1n : Nat) (m1c : Nat) (E : Value → Hp → Prop) (H : Hp) (K : Int → Hp → Prop) : Prop := nodeM P0 T0 compassref12_Matching.A compassref12_Matching.code [] [] (compassref12_Matching.rq E K) (argF 0 [.agg ⟨[.int .i64 g0_Nodes, .slice g0_Edgesp g0_Edgesn g0_Edgesc]⟩, .slice m1p m1n m1c]) H
theorem compassref12_Matching.of {g0_Nodes : Int} {g0_Edgesp : Option Addr} {g0_Edgesn : Nat} {g0_Edgesc : Nat} {m1p : Option Addr} {m1n : Nat} {m1c : Nat} {E : Value → Hp → Prop} {H : Hp} {K : Int → Hp → Prop} (h : compassref12_Matching.run g0_Nodes g0_Edgesp g0_Edgesn g0_Edgesc m1p m1n m1c E H K) : compassref12_Matching.call g0_Nodes g0_Edgesp g0_Edgesn g0_Edgesc m1p m1n m1c E H K :=
  callW_of T0_ok P0_mixed (A := compassref12_Matching.A) (fn := Go.Proofs.Try.f49) Go.Proofs.Try.func49 rfl compassref12_Matching.ok rfl h
theorem compassref12_Matching.nok : nodesOk compassref12_Matching.code [] = true := by kernel_rfl
def compassref12_Matching.run_t  (g0_Nodes : Int) (g0_Edgesp : Option Addr) (g0_Edgesn : Nat) (g0_Edgesc : Nat) (m1p : Option Addr) (m1n : Nat) (m1c : Nat)  (E : Value → Hp → Prop) (H : Hp) (K : Int → Hp → Prop) : Prop :=
  nw H ⟨[.int .i64 g0_Nodes, .slice g0_Edgesp g0_Edgesn g0_Edgesc], 24⟩ fun b_1 H_1 =>
  ldI .i64 (H_1.get b_1 0) fun x_1 =>
  ldS (H_1.get b_1 1) fun x_2p x_2n x_2c =>
  compassref03_Check.call x_1 x_2p x_2n x_2c E H_1 fun r_1 r_2 H_2 =>
  bcase (decide ((r_1 : Int) = 0)) (
  ldI .i64 (H_2.get b_1 0) fun x_3 =>
  ldS (H_2.get b_1 1) fun x_4p x_4n x_4c =>
  compassref12_Matches.call x_3 x_4p x_4n x_4c m1p m1n m1c E H_2 fun r_3 H_3 =>
  bcase ((!r_3)) (
  K 221 H_3)
  (K r_1 H_3))
  (K r_1 H_2)
theorem compassref12_Matching.run_eq {g0_Nodes : Int} {g0_Edgesp : Option Addr} {g0_Edgesn : Nat} {g0_Edgesc : Nat} {m1p : Option Addr} {m1n : Nat} {m1c : Nat} { E : Value → Hp → Prop} {H : Hp} {K : Int → Hp → Prop} (h : compassref12_Matching.run_t  g0_Nodes g0_Edgesp g0_Edgesn g0_Edgesc m1p m1n m1c  E H K) : compassref12_Matching.run g0_Nodes g0_Edgesp g0_Edgesn g0_Edgesc m1p m1n m1c  E H K := by
  have k1 : ∀ G : List Nat → Fr → Hp → Prop, nodeR P0 T0 compassref12_Matching.A [] G compassref12_Matching.code [] [] (compassref12_Matching.rq E K) (argF 0 [.agg ⟨[.int .i64 g0_Nodes, .slice g0_Edgesp g0_Edgesn g0_Edgesc]⟩, .slice m1p m1n m1c]) H = compassref12_Matching.run_t  g0_Nodes g0_Edgesp g0_Edgesn g0_Edgesc m1p m1n m1c  E H K := fun G => by kernel_rfl
  exact nodeR_imp compassref12_Matching.nok rfl ((k1 _).mpr h)
/-! ### compass/compassref12.Rising (50) -/
noncomputable def compassref12_Rising.A : An := { live := [(0, [0, 1]), (1, [0, 1]), (2, [0, 1, 5]), (3, [0, 1, 5]), (4, [0, 1, 5]), (5, []), (6, [])], ord := [(4, [0, 1, 2, 3, 4, 5, 6, 7, 8, 9, 10, 11, 12, 13, 14, 15, 16, 17, 18, 19, 20, 21, 22, 23, 24, 25, 26, 27, 28])], stb := [], pre := [(4, [[], [], [0, 1], [0, 1, 2], [0, 1, 2, 3], [0, 1, 2, 3, 4], [0, 1, 2, 3, 4, 5], [0, 1, 2, 3, 4, 5], [0, 1, 2, 3, 4, 5, 6, 7], [0, 1, 2, 3, 4, 5, 6, 7, 8], [0, 1, 2, 3, 4, 5], [0, 1, 2, 3, 4, 5, 6, 7, 8, 9, 10], [0, 1, 2, 3, 4, 5, 6, 7, 8, 9, 10, 11], [0, 1, 2, 3, 4, 5, 6, 7, 8, 9, 10, 11, 12], [0, 1, 2, 3, 4, 5, 6, 7, 8, 9, 10, 11, 12, 13], [0, 1, 2, 3, 4, 5, 6, 7, 8, 9, 10, 11, 12, 13, 14], [0, 1, 2, 3, 4, 5, 6, 7, 8, 9, 10, 11, 12, 13, 14, 15], [0, 1, 2, 3, 4, 5, 6, 7, 8, 9, 10, 11, 12, 13, 14, 15, 16], [0, 1, 2, 3, 4, 5, 6, 7, 8, 9, 10, 11, 12, 13, 14, 15, 16], [0, 1, 2, 3, 4, 5, 6, 7, 8, 9, 10, 11, 12, 13, 14, 15, 16, 17, 18], [0, 1, 2, 3, 4, 5, 6, 7, 8, 9, 10, 11, 12, 13, 14, 15, 16, 17, 18, 19], [0, 1, 2, 3, 4, 5, 6, 7, 8, 9, 10, 11, 12, 13, 14, 15, 16], [0, 1, 2, 3, 4, 5, 6, 7, 8, 9, 10, 11, 12, 13, 14, 15, 16], [0, 1, 2, 3, 4, 5, 6, 7, 8, 9, 10, 11, 12, 13, 14, 15, 16, 22], [0, 1, 2, 3, 4, 5, 6, 7, 8, 9, 10, 11, 12, 13, 14, 15, 16, 21, 22, 23], [0, 1, 2, 3, 4, 5, 6, 7, 8, 9, 10, 11, 12, 13, 14, 15, 16, 21, 22, 23, 24], [0, 1, 2, 3, 4, 5, 6, 7, 8, 9, 10, 11, 12, 13, 14, 15, 16, 17, 18, 19, 20, 21, 22, 23, 24, 25], [0, 1, 2, 3, 4, 5, 6, 7, 8, 9, 10, 11, 12, 13, 14, 15, 16, 17, 18, 19, 20, 21, 22, 23, 24, 25, 26], [0, 1, 2, 3, 4, 5, 6, 7, 8, 9, 10, 11, 12, 13, 14, 15, 16, 17, 18, 19, 20, 21, 22, 23, 24, 25, 26, 27]])] }
noncomputable def compassref12_Rising.code : Code := bodyOf Go.Proofs.Try.f50
theorem compassref12_Rising.ok : okCode compassref12_Rising.A 41 compassref12_Rising.code = true := by kernel_rfl
def compassref12_Rising.rq (E : Value → Hp → Prop) (K : Bool → Hp → Prop) : Ex → Fr → Hp → Prop := retQ T0 [.tmp 4] [4] (fun r H => ldR (.one false [.bool]) r fun u => K (asB u) H) E
def compassref12_Rising.run (list0p : Option Addr) (list0n : Nat) (list0c : Nat) (n1 : Int) (E : Value → Hp → Prop) (H : Hp) (K : Bool → Hp → Prop) : Prop := nodeM P0 T0 compassref12_Rising.A compassref12_Rising.code [] [] (compassref12_Rising.rq E K) (argF 0 [.slice list0p list0n list0c, .int .i64 n1]) H
theorem compassref12_Rising.of {list0p : Option Addr} {list0n : Nat} {list0c : Nat} {n1 : Int} {E : Value → Hp → Prop} {H : Hp} {K : Bool → Hp → Prop} (h : compassref12_Rising.run list0p list0n list0c n1 E H K) : compassref12_Rising.call list0p list0n list0c n1 E H K :=
  callW_of T0_ok P0_mixed (A := compassref12_Rising.A) (fn := Go.Proofs.Try.f50) Go.Proofs.Try.func50 rfl compassref12_Rising.ok rfl h
noncomputable def compassref12_Rising.f1 (list0p : Option Addr) (list0n : Nat) (list0c : Nat) (n1 : Int) (i5 : Int) : Fr := [(0, .slice list0p list0n list0c), (1, .int .i64 n1), (5, .int .i64 i5)]
def compassref12_Rising.j1 (list0p : Option Addr) (list0n : Nat) (list0c : Nat) (n1 : Int) (i5 : Int) (X1 : Fr → Hp → Prop) (E : Value → Hp → Prop) (H : Hp) (K : Bool → Hp → Prop) : Prop := nodeM P0 T0 compassref12_Rising.A compassref12_Rising.code [1, 0, 1, 0, 0, 1, 1] [X1] (compassref12_Rising.rq E K) [(0, .slice list0p list0n list0c), (1, .int .i64 n1), (5, .int .i64 i5)] H
def compassref12_Rising.l1 (list0p : Option Addr) (list0n : Nat) (list0c : Nat) (n1 : Int) (i5 : Int)  (E : Value → Hp → Prop) (H : Hp) (K : Bool → Hp → Prop) : Prop := nodeM P0 T0 compassref12_Rising.A compassref12_Rising.code [1, 0, 1, 0] [] (compassref12_Rising.rq E K) (compassref12_Rising.f1 list0p list0n list0c n1 i5) H
def compassref12_Rising.b1 (list0p : Option Addr) (list0n : Nat) (list0c : Nat) (n1 : Int) (i5 : Int)  (X1 : Fr → Hp → Prop) (E : Value → Hp → Prop) (H : Hp) (K : Bool → Hp → Prop) : Prop := nodeM P0 T0 compassref12_Rising.A compassref12_Rising.code [1, 0, 1, 0, 0] [X1] (compassref12_Rising.rq E K) (compassref12_Rising.f1 list0p list0n list0c n1 i5) H
theorem compassref12_Rising.l1_rule { E : Value → Hp → Prop} {K : Bool → Hp → Prop} (I : (Option Addr) → Nat → Nat → Int → Int → Hp → Prop) (μ : (Option Addr) → Nat → Nat → Int → Int → Hp → Nat)
    (h : ∀ list0p list0n list0c n1 i5 H, I list0p list0n list0c n1 i5 H → ∀ X : Fr → Hp → Prop, (∀ list0p' list0n' list0c' n1' i5' H', I list0p' list0n' list0c' n1' i5' H' → μ list0p' list0n' list0c' n1' i5' H' < μ list0p list0n list0c n1 i5 H → X (compassref12_Rising.f1 list0p' list0n' list0c' n1' i5') H') → compassref12_Rising.b1 list0p list0n list0c n1 i5  X E H K)
    {list0p : Option Addr} {list0n : Nat} {list0c : Nat} {n1 : Int} {i5 : Int} {H : Hp} (hI : I list0p list0n list0c n1 i5 H) : compassref12_Rising.l1 list0p list0n list0c n1 i5  E H K :=
  loop_rule (S := (Option Addr) × Nat × Nat × Int × Int) (fun s => compassref12_Rising.f1 (s.1) (s.2.1) (s.2.2.1) (s.2.2.2.1) (s.2.2.2.2)) (fun s H => I (s.1) (s.2.1) (s.2.2.1) (s.2.2.2.1) (s.2.2.2.2) H) (fun s H => μ (s.1) (s.2.1) (s.2.2.1) (s.2.2.2.1) (s.2.2.2.2) H) (fun s H hI X hX => h (s.1) (s.2.1) (s.2.2.1) (s.2.2.2.1) (s.2.2.2.2) H hI X fun list0p' list0n' list0c' n1' i5' H' hI' hlt => hX (list0p', list0n', list0c', n1', i5') H' hI' hlt) (s := (list0p, list0n, list0c, n1, i5)) rfl hI
theorem compassref12_Rising.nok : nodesOk compassref12_Rising.code [[0, 1, 0, 1], [1, 1, 0, 0, 1, 0, 1]] = true := by kernel_rfl
def compassref12_Rising.run_t (l1 : (Option Addr) → Nat → Nat → Int → Int → Hp → Prop) (list0p : Option Addr) (list0n : Nat) (list0c : Nat) (n1 : Int)  (E : Value → Hp → Prop) (H : Hp) (K : Bool → Hp → Prop) : Prop :=
  l1 list0p list0n list0c n1 0 H
theorem compassref12_Rising.run_eq {list0p : Option Addr} {list0n : Nat} {list0c : Nat} {n1 : Int} { E : Value → Hp → Prop} {H : Hp} {K : Bool → Hp → Prop} (h : compassref12_Rising.run_t (fun list0p list0n list0c n1 i5 H => compassref12_Rising.l1 list0p list0n list0c n1 i5  E H K) list0p list0n list0c n1  E H K) : compassref12_Rising.run list0p list0n list0c n1  E H K := by
  have k1 : ∀ G : List Nat → Fr → Hp → Prop, nodeR P0 T0 compassref12_Rising.A [[0, 1, 0, 1], [1, 1, 0, 0, 1, 0, 1]] G compassref12_Rising.code [] [] (compassref12_Rising.rq E K) (argF 0 [.slice list0p list0n list0c, .int .i64 n1]) H = compassref12_Rising.run_t (fun list0p list0n list0c n1 i5 H => G [0, 1, 0, 1] [(0, .slice list0p list0n list0c), (1, .int .i64 n1), (5, .int .i64 i5)] H) list0p list0n list0c n1  E H K := fun G => by kernel_rfl
  have k2 : compassref12_Rising.run_t (fun list0p list0n list0c n1 i5 H => compassref12_Rising.l1 list0p list0n list0c n1 i5  E H K) list0p list0n list0c n1  E H K = compassref12_Rising.run_t (fun list0p list0n list0c n1 i5 H => (fun q F H => nodeM P0 T0 compassref12_Rising.A compassref12_Rising.code q.reverse [] (compassref12_Rising.rq E K) F H) [0, 1, 0, 1] [(0, .slice list0p list0n list0c), (1, .int .i64 n1), (5, .int .i64 i5)] H) list0p list0n list0c n1  E H K := by kernel_rfl
  exact nodeR_imp compassref12_Rising.nok rfl ((k1 _).mpr (k2.mp h))
def compassref12_Rising.j1_t  (list0p : Option Addr) (list0n : Nat) (list0c : Nat) (n1 : Int) (i5 : Int) (X1 : Fr → Hp → Prop) (E : Value → Hp → Prop) (H : Hp) (K : Bool → Hp → Prop) : Prop :=
  X1 (compassref12_Rising.f1 list0p list0n list0c n1 (IntKind.wrap .i64 (i5 + 1))) H
theorem compassref12_Rising.j1_eq {list0p : Option Addr} {list0n : Nat} {list0c : Nat} {n1 : Int} {i5 : Int} {X1 : Fr → Hp → Prop} { E : Value → Hp → Prop} {H : Hp} {K : Bool → Hp → Prop} (h : compassref12_Rising.j1_t  list0p list0n list0c n1 i5 X1 E H K) : compassref12_Rising.j1 list0p list0n list0c n1 i5 X1 E H K := by
  have k1 : ∀ G : List Nat → Fr → Hp → Prop, nodeR P0 T0 compassref12_Rising.A [[0, 1, 0, 1], [1, 1, 0, 0, 1, 0, 1]] G compassref12_Rising.code [1, 0, 1, 0, 0, 1, 1] [X1] (compassref12_Rising.rq E K) [(0, .slice list0p list0n list0c), (1, .int .i64 n1), (5, .int .i64 i5)] H = compassref12_Rising.j1_t  list0p list0n list0c n1 i5 X1 E H K := fun G => by kernel_rfl
  exact nodeR_imp compassref12_Rising.nok rfl ((k1 _).mpr h)
def compassref12_Rising.b1_t (j1 : (Option Addr) → Nat → Nat → Int → Int → Hp → Prop) (list0p : Option Addr) (list0n : Nat) (list0c : Nat) (n1 : Int) (i5 : Int) (X1 : Fr → Hp → Prop) (E : Value → Hp → Prop) (H : Hp) (K : Bool → Hp → Prop) : Prop :=
  bcase (decide ((i5 : Int) < (list0n : Int))) (
  ix list0p list0n i5 1 fun b_1 o_1 =>
  ldI .i64 (H.get b_1 o_1) fun x_1 =>
  bcase (decide ((x_1 : Int) < 0)) (
  K false H)
  (ix list0p list0n i5 1 fun b_2 o_2 =>
  ldI .i64 (H.get b_2 o_2) fun x_2 =>
  bcase (decide ((n1 : Int) ≤ x_2)) (
  K false H)
  (bcase (decide ((0 : Int) < i5)) (
  ix list0p list0n i5 1 fun b_3 o_3 =>
  ldI .i64 (H.get b_3 o_3) fun x_3 =>
  ix list0p list0n (IntKind.wrap .i64 (i5 - 1)) 1 fun b_4 o_4 =>
  ldI .i64 (H.get b_4 o_4) fun x_4 =>
  bcase (decide ((x_3 : Int) ≤ x_4)) (
  K false H)
  (j1 list0p list0n list0c n1 i5 H))
  (j1 list0p list0n list0c n1 i5 H))))
  (K true H)
theorem compassref12_Rising.b1_eq {list0p : Option Addr} {list0n : Nat} {list0c : Nat} {n1 : Int} {i5 : Int} {X1 : Fr → Hp → Prop} { E : Value → Hp → Prop} {H : Hp} {K : Bool → Hp → Prop} (h : compassref12_Rising.b1_t (fun list0p list0n list0c n1 i5 H => compassref12_Rising.j1 list0p list0n list0c n1 i5 X1 E H K) list0p list0n list0c n1 i5 X1 E H K) : compassref12_Rising.b1 list0p list0n list0c n1 i5 X1 E H K := by
  have k1 : ∀ G : List Nat → Fr → Hp → Prop, nodeR P0 T0 compassref12_Rising.A [[0, 1, 0, 1], [1, 1, 0, 0, 1, 0, 1]] G compassref12_Rising.code [1, 0, 1, 0, 0] [X1] (compassref12_Rising.rq E K) (compassref12_Rising.f1 list0p list0n list0c n1 i5) H = compassref12_Rising.b1_t (fun list0p list0n list0c n1 i5 H => G [1, 1, 0, 0, 1, 0, 1] [(0, .slice list0p list0n list0c), (1, .int .i64 n1), (5, .int .i64 i5)] H) list0p list0n list0c n1 i5 X1 E H K := fun G => by kernel_rfl
  have k2 : compassref12_Rising.b1_t (fun list0p list0n list0c n1 i5 H => compassref12_Rising.j1 list0p list0n list0c n1 i5 X1 E H K) list0p list0n list0c n1 i5 X1 E H K = compassref12_Rising.b1_t (fun list0p list0n list0c n1 i5 H => (fun q F H => nodeM P0 T0 compassref12_Rising.A compassref12_Rising.code q.reverse [X1] (compassref12_Rising.rq E K) F H) [1, 1, 0, 0, 1, 0, 1] [(0, .slice list0p list0n list0c), (1, .int .i64 n1), (5, .int .i64 i5)] H) list0p list0n list0c n1 i5 X1 E H K := by kernel_rfl
  exact nodeR_imp compassref12_Rising.nok rfl ((k1 _).mpr (k2.mp h))
/-! ### compass/compassref12.Taken (54) -/
noncomputable def compassref12_Taken.A : An := { live := [(0, [0, 1, 2]), (1, [1, 2, 3]), (2, []), (3, [1, 2, 3]), (4, [1, 2, 3, 7]), (5, [1, 2, 3, 7]), (6, [1, 2, 3, 7]), (7, []), (8, [1, 2, 3]), (9, [1, 2, 3, 8]), (10, [1, 2, 3, 8]), (11, [1, 2, 3, 8]), (12, []), (13, [])], ord := [(6, [0, 1, 2, 3, 4, 5, 6, 7, 8, 9, 10, 11, 12, 13, 14, 15, 16, 17, 18]), (11, [0, 1, 2, 4, 5, 6, 7, 3, 8])], stb := [(11, [(3, [7])])], pre := [(6, [[], [0], [], [], [2, 3], [2, 3, 4], [0, 1, 2, 3, 4, 5], [0, 1, 2, 3, 4, 5, 6], [0, 1, 2, 3, 4, 5, 6, 7], [], [9], [], [], [11, 12], [11, 12, 13], [9, 10, 11, 12, 13, 14], [9, 10, 11, 12, 13, 14, 15], [9, 10, 11, 12, 13, 14, 15, 16], [0, 1, 2, 3, 4, 5, 6, 7, 8, 9, 10, 11, 12, 13, 14, 15, 16, 17]]), (11, [[], [], [], [0, 1, 2], [], [], [4, 5], [4, 5, 6], [0, 1, 2, 3, 4, 5, 6, 7]])] }
noncomputable def compassref12_Taken.code : Code := bodyOf Go.Proofs.Try.f54
theorem compassref12_Taken.ok : okCode compassref12_Taken.A 55 compassref12_Taken.code = true := by kernel_rfl
def compassref12_Taken.rq (E : Value → Hp → Prop) (K : Bool → Hp → Prop) : Ex → Fr → Hp → Prop := retQ T0 [.tmp 6] [4] (fun r H => ldR (.one false [.bool]) r fun u => K (asB u) H) E
def compassref12_Taken.run (g0_Nodes : Int) (g0_Edgesp : Option Addr) (g0_Edgesn : Nat) (g0_Edgesc : Nat) (m1p : Option Addr) (m1n : Nat) (m1c : Nat) (most2p : Option Addr) (most2n : Nat) (most2c : Nat) (E : Value → Hp → Prop) (H : Hp) (K : Bool → Hp → Prop) : Prop := nodeM P0 T0 compassref12_Taken.A compassref12_Taken.code [] [] (compassref12_Taken.rq E K) (argF 0 [.agg ⟨[.int .i64 g0_Nodes, .slice g0_Edgesp g0_Edgesn g0_Edgesc]⟩, .slice m1p m1n m1c, .slice most2p most2n most2c]) H
theorem compassref12_Taken.of {g0_Nodes : Int} {g0_Edgesp : Option Addr} {g0_Edgesn : Nat} {g0_Edgesc : Nat} {m1p : Option Addr} {m1n : Nat} {m1c : Nat} {most2p : Option Addr} {most2n : Nat} {most2c : Nat} {E : Value → Hp → Prop} {H : Hp} {K : Bool → Hp → Prop} (h : compassref12_Taken.run g0_Nodes g0_Edgesp g0_Edgesn g0_Edgesc m1p m1n m1c most2p most2n most2c E H K) : compassref12_Taken.call g0_Nodes g0_Edgesp g0_Edgesn g0_Edgesc m1p m1n m1c most2p most2n most2c E H K :=
  callW_of T0_ok P0_mixed (A := compassref12_Taken.A) (fn := Go.Proofs.Try.f54) Go.Proofs.Try.func54 rfl compassref12_Taken.ok rfl h
noncomputable def compassref12_Taken.f1 (m1p : Option Addr) (m1n : Nat) (m1c : Nat) (most2p : Option Addr) (most2n : Nat) (most2c : Nat) (g3 : Nat) (i7 : Int) : Fr := [(1, .slice m1p m1n m1c), (2, .slice most2p most2n most2c), (3, .pointer (some ⟨g3, 0, none⟩)), (7, .int .i64 i7)]
noncomputable def compassref12_Taken.f2 (m1p : Option Addr) (m1n : Nat) (m1c : Nat) (most2p : Option Addr) (most2n : Nat) (most2c : Nat) (g3 : Nat) (v8 : Int) : Fr := [(1, .slice m1p m1n m1c), (2, .slice most2p most2n most2c), (3, .pointer (some ⟨g3, 0, none⟩)), (8, .int .i64 v8)]
def compassref12_Taken.j1 (m1p : Option Addr) (m1n : Nat) (m1c : Nat) (most2p : Option Addr) (most2n : Nat) (most2c : Nat) (g3 : Nat)  (E : Value → Hp → Prop) (H : Hp) (K : Bool → Hp → Prop) : Prop := nodeM P0 T0 compassref12_Taken.A compassref12_Taken.code [1, 1, 1] [] (compassref12_Taken.rq E K) [(1, .slice m1p m1n m1c), (2, .slice most2p most2n most2c), (3, .pointer (some ⟨g3, 0, none⟩))] H
def compassref12_Taken.l1 (m1p : Option Addr) (m1n : Nat) (m1c : Nat) (most2p : Option Addr) (most2n : Nat) (most2c : Nat) (g3 : Nat) (i7 : Int)  (E : Value → Hp → Prop) (H : Hp) (K : Bool → Hp → Prop) : Prop := nodeM P0 T0 compassref12_Taken.A compassref12_Taken.code [1, 1, 0, 1, 0] [] (compassref12_Taken.rq E K) (compassref12_Taken.f1 m1p m1n m1c most2p most2n most2c g3 i7) H
def compassref12_Taken.b1 (m1p : Option Addr) (m1n : Nat) (m1c : Nat) (most2p : Option Addr) (most2n : Nat) (most2c : Nat) (g3 : Nat) (i7 : Int)  (X1 : Fr → Hp → Prop) (E : Value → Hp → Prop) (H : Hp) (K : Bool → Hp → Prop) : Prop := nodeM P0 T0 compassref12_Taken.A compassref12_Taken.code [1, 1, 0, 1, 0, 0] [X1] (compassref12_Taken.rq E K) (compassref12_Taken.f1 m1p m1n m1c most2p most2n most2c g3 i7) H
theorem compassref12_Taken.l1_rule { E : Value → Hp → Prop} {K : Bool → Hp → Prop} (I : (Option Addr) → Nat → Nat → (Option Addr) → Nat → Nat → Nat → Int → Hp → Prop) (μ : (Option Addr) → Nat → Nat → (Option Addr) → Nat → Nat → Nat → Int → Hp → Nat)
    (h : ∀ m1p m1n m1c most2p most2n most2c g3 i7 H, I m1p m1n m1c most2p most2n most2c g3 i7 H → ∀ X : Fr → Hp → Prop, (∀ m1p' m1n' m1c' most2p' most2n' most2c' g3' i7' H', I m1p' m1n' m1c' most2p' most2n' most2c' g3' i7' H' → μ m1p' m1n' m1c' most2p' most2n' most2c' g3' i7' H' < μ m1p m1n m1c most2p most2n most2c g3 i7 H → X (compassref12_Taken.f1 m1p' m1n' m1c' most2p' most2n' most2c' g3' i7') H') → compassref12_Taken.b1 m1p m1n m1c most2p most2n most2c g3 i7  X E H K)
    {m1p : Option Addr} {m1n : Nat} {m1c : Nat} {most2p : Option Addr} {most2n : Nat} {most2c : Nat} {g3 : Nat} {i7 : Int} {H : Hp} (hI : I m1p m1n m1c most2p most2n most2c g3 i7 H) : compassref12_Taken.l1 m1p m1n m1c most2p most2n most2c g3 i7  E H K :=
  loop_rule (S := (Option Addr) × Nat × Nat × (Option Addr) × Nat × Nat × Nat × Int) (fun s => compassref12_Taken.f1 (s.1) (s.2.1) (s.2.2.1) (s.2.2.2.1) (s.2.2.2.2.1) (s.2.2.2.2.2.1) (s.2.2.2.2.2.2.1) (s.2.2.2.2.2.2.2)) (fun s H => I (s.1) (s.2.1) (s.2.2.1) (s.2.2.2.1) (s.2.2.2.2.1) (s.2.2.2.2.2.1) (s.2.2.2.2.2.2.1) (s.2.2.2.2.2.2.2) H) (fun s H => μ (s.1) (s.2.1) (s.2.2.1) (s.2.2.2.1) (s.2.2.2.2.1) (s.2.2.2.2.2.1) (s.2.2.2.2.2.2.1) (s.2.2.2.2.2.2.2) H) (fun s H hI X hX => h (s.1) (s.2.1) (s.2.2.1) (s.2.2.2.1) (s.2.2.2.2.1) (s.2.2.2.2.2.1) (s.2.2.2.2.2.2.1) (s.2.2.2.2.2.2.2) H hI X fun m1p' m1n' m1c' most2p' most2n' most2c' g3' i7' H' hI' hlt => hX (m1p', m1n', m1c', most2p', most2n', most2c', g3', i7') H' hI' hlt) (s := (m1p, m1n, m1c, most2p, most2n, most2c, g3, i7)) rfl hI
def compassref12_Taken.l2 (m1p : Option Addr) (m1n : Nat) (m1c : Nat) (most2p : Option Addr) (most2n : Nat) (most2c : Nat) (g3 : Nat) (v8 : Int)  (E : Value → Hp → Prop) (H : Hp) (K : Bool → Hp → Prop) : Prop := nodeM P0 T0 compassref12_Taken.A compassref12_Taken.code [1, 1, 1, 0, 1, 0] [] (compassref12_Taken.rq E K) (compassref12_Taken.f2 m1p m1n m1c most2p most2n most2c g3 v8) H
def compassref12_Taken.b2 (m1p : Option Addr) (m1n : Nat) (m1c : Nat) (most2p : Option Addr) (most2n : Nat) (most2c : Nat) (g3 : Nat) (v8 : Int)  (X1 : Fr → Hp → Prop) (E : Value → Hp → Prop) (H : Hp) (K : Bool → Hp → Prop) : Prop := nodeM P0 T0 compassref12_Taken.A compassref12_Taken.code [1, 1, 1, 0, 1, 0, 0] [X1] (compassref12_Taken.rq E K) (compassref12_Taken.f2 m1p m1n m1c most2p most2n most2c g3 v8) H
theorem compassref12_Taken.l2_rule { E : Value → Hp → Prop} {K : Bool → Hp → Prop} (I : (Option Addr) → Nat → Nat → (Option Addr) → Nat → Nat → Nat → Int → Hp → Prop) (μ : (Option Addr) → Nat → Nat → (Option Addr) → Nat → Nat → Nat → Int → Hp → Nat)
    (h : ∀ m1p m1n m1c most2p most2n most2c g3 v8 H, I m1p m1n m1c most2p most2n most2c g3 v8 H → ∀ X : Fr → Hp → Prop, (∀ m1p' m1n' m1c' most2p' most2n' most2c' g3' v8' H', I m1p' m1n' m1c' most2p' most2n' most2c' g3' v8' H' → μ m1p' m1n' m1c' most2p' most2n' most2c' g3' v8' H' < μ m1p m1n m1c most2p most2n most2c g3 v8 H → X (compassref12_Taken.f2 m1p' m1n' m1c' most2p' most2n' most2c' g3' v8') H') → compassref12_Taken.b2 m1p m1n m1c most2p most2n most2c g3 v8  X E H K)
    {m1p : Option Addr} {m1n : Nat} {m1c : Nat} {most2p : Option Addr} {most2n : Nat} {most2c : Nat} {g3 : Nat} {v8 : Int} {H : Hp} (hI : I m1p m1n m1c most2p most2n most2c g3 v8 H) : compassref12_Taken.l2 m1p m1n m1c most2p most2n most2c g3 v8  E H K :=
  loop_rule (S := (Option Addr) × Nat × Nat × (Option Addr) × Nat × Nat × Nat × Int) (fun s => compassref12_Taken.f2 (s.1) (s.2.1) (s.2.2.1) (s.2.2.2.1) (s.2.2.2.2.1) (s.2.2.2.2.2.1) (s.2.2.2.2.2.2.1) (s.2.2.2.2.2.2.2)) (fun s H => I (s.1) (s.2.1) (s.2.2.1) (s.2.2.2.1) (s.2.2.2.2.1) (s.2.2.2.2.2.1) (s.2.2.2.2.2.2.1) (s.2.2.2.2.2.2.2) H) (fun s H => μ (s.1) (s.2.1) (s.2.2.1) (s.2.2.2.1) (s.2.2.2.2.1) (s.2.2.2.2.2.1) (s.2.2.2.2.2.2.1) (s.2.2.2.2.2.2.2) H) (fun s H hI X hX => h (s.1) (s.2.1) (s.2.2.1) (s.2.2.2.1) (s.2.2.2.2.1) (s.2.2.2.2.2.1) (s.2.2.2.2.2.2.1) (s.2.2.2.2.2.2.2) H hI X fun m1p' m1n' m1c' most2p' most2n' most2c' g3' v8' H' hI' hlt => hX (m1p', m1n', m1c', most2p', most2n', most2c', g3', v8') H' hI' hlt) (s := (m1p, m1n, m1c, most2p, most2n, most2c, g3, v8)) rfl hI
theorem compassref12_Taken.nok : nodesOk compassref12_Taken.code [[0, 1, 0, 1, 1], [1, 1, 1], [0, 1, 0, 1, 1, 1]] = true := by kernel_rfl
def compassref12_Taken.run_t (l1 : (Option Addr) → Nat → Nat → (Option Addr) → Nat → Nat → Nat → Int → Hp → Prop) (g0_Nodes : Int) (g0_Edgesp : Option Addr) (g0_Edgesn : Nat) (g0_Edgesc : Nat) (m1p : Option Addr) (m1n : Nat) (m1c : Nat) (most2p : Option Addr) (most2n : Nat) (most2c : Nat)  (E : Value → Hp → Prop) (H : Hp) (K : Bool → Hp → Prop) : Prop :=
  nw H ⟨[.int .i64 g0_Nodes, .slice g0_Edgesp g0_Edgesn g0_Edgesc], 24⟩ fun b_1 H_1 =>
  ldS (H_1.get b_1 1) fun x_1p x_1n x_1c =>
  compassref12_Rising.call m1p m1n m1c (x_1n : Int) E H_1 fun r_1 H_2 =>
  bcase ((!r_1)) (
  K false H_2)
  (l1 m1p m1n m1c most2p most2n most2c b_1 0 H_2)
theorem compassref12_Taken.run_eq {g0_Nodes : Int} {g0_Edgesp : Option Addr} {g0_Edgesn : Nat} {g0_Edgesc : Nat} {m1p : Option Addr} {m1n : Nat} {m1c : Nat} {most2p : Option Addr} {most2n : Nat} {most2c : Nat} { E : Value → Hp → Prop} {H : Hp} {K : Bool → Hp → Prop} (h : compassref12_Taken.run_t (fun m1p m1n m1c most2p most2n most2c g3 i7 H => compassref12_Taken.l1 m1p m1n m1c most2p most2n most2c g3 i7  E H K) g0_Nodes g0_Edgesp g0_Edgesn g0_Edgesc m1p m1n m1c most2p most2n most2c  E H K) : compassref12_Taken.run g0_Nodes g0_Edgesp g0_Edgesn g0_Edgesc m1p m1n m1c most2p most2n most2c  E H K := by
  have k1 : ∀ G : List Nat → Fr → Hp → Prop, nodeR P0 T0 compassref12_Taken.A [[0, 1, 0, 1, 1], [1, 1, 1], [0, 1, 0, 1, 1, 1]] G compassref12_Taken.code [] [] (compassref12_Taken.rq E K) (argF 0 [.agg ⟨[.int .i64 g0_Nodes, .slice g0_Edgesp g0_Edgesn g0_Edgesc]⟩, .slice m1p m1n m1c, .slice most2p most2n most2c]) H = compassref12_Taken.run_t (fun m1p m1n m1c most2p most2n most2c g3 i7 H => G [0, 1, 0, 1, 1] [(1, .slice m1p m1n m1c), (2, .slice most2p most2n most2c), (3, .pointer (some ⟨g3, 0, none⟩)), (7, .int .i64 i7)] H) g0_Nodes g0_Edgesp g0_Edgesn g0_Edgesc m1p m1n m1c most2p most2n most2c  E H K := fun G => by kernel_rfl
  have k2 : compassref12_Taken.run_t (fun m1p m1n m1c most2p most2n most2c g3 i7 H => compassref12_Taken.l1 m1p m1n m1c most2p most2n most2c g3 i7  E H K) g0_Nodes g0_Edgesp g0_Edgesn g0_Edgesc m1p m1n m1c most2p most2n most2c  E H K = compassref12_Taken.run_t (fun m1p m1n m1c most2p most2n most2c g3 i7 H => (fun q F H => nodeM P0 T0 compassref12_Taken.A compassref12_Taken.code q.reverse [] (compassref12_Taken.rq E K) F H) [0, 1, 0, 1, 1] [(1, .slice m1p m1n m1c), (2, .slice most2p most2n most2c), (3, .pointer (some ⟨g3, 0, none⟩)), (7, .int .i64 i7)] H) g0_Nodes g0_Edgesp g0_Edgesn g0_Edgesc m1p m1n m1c most2p most2n most2c  E H K := by kernel_rfl
  exact nodeR_imp compassref12_Taken.nok rfl ((k1 _).mpr (k2.mp h))
def compassref12_Taken.j1_t (l2 : (Option Addr) → Nat → Nat → (Option Addr) → Nat → Nat → Nat → Int → Hp → Prop) (m1p : Option Addr) (m1n : Nat) (m1c : Nat) (most2p : Option Addr) (most2n : Nat) (most2c : Nat) (g3 : Nat)  (E : Value → Hp → Prop) (H : Hp) (K : Bool → Hp → Prop) : Prop :=
  l2 m1p m1n m1c most2p most2n most2c g3 0 H
theorem compassref12_Taken.j1_eq {m1p : Option Addr} {m1n : Nat} {m1c : Nat} {most2p : Option Addr} {most2n : Nat} {most2c : Nat} {g3 : Nat} { E : Value → Hp → Prop} {H : Hp} {K : Bool → Hp → Prop} (h : compassref12_Taken.j1_t (fun m1p m1n m1c most2p most2n most2c g3 v8 H => compassref12_Taken.l2 m1p m1n m1c most2p most2n most2c g3 v8  E H K) m1p m1n m1c most2p most2n most2c g3  E H K) : compassref12_Taken.j1 m1p m1n m1c most2p most2n most2c g3  E H K := by
  have k1 : ∀ G : List Nat → Fr → Hp → Prop, nodeR P0 T0 compassref12_Taken.A [[0, 1, 0, 1, 1], [1, 1, 1], [0, 1, 0, 1, 1, 1]] G compassref12_Taken.code [1, 1, 1] [] (compassref12_Taken.rq E K) [(1, .slice m1p m1n m1c), (2, .slice most2p most2n most2c), (3, .pointer (some ⟨g3, 0, none⟩))] H = compassref12_Taken.j1_t (fun m1p m1n m1c most2p most2n most2c g3 v8 H => G [0, 1, 0, 1, 1, 1] [(1, .slice m1p m1n m1c), (2, .slice most2p most2n most2c), (3, .pointer (some ⟨g3, 0, none⟩)), (8, .int .i64 v8)] H) m1p m1n m1c most2p most2n most2c g3  E H K := fun G => by kernel_rfl
  have k2 : compassref12_Taken.j1_t (fun m1p m1n m1c most2p most2n most2c g3 v8 H => compassref12_Taken.l2 m1p m1n m1c most2p most2n most2c g3 v8  E H K) m1p m1n m1c most2p most2n most2c g3  E H K = compassref12_Taken.j1_t (fun m1p m1n m1c most2p most2n most2c g3 v8 H => (fun q F H => nodeM P0 T0 compassref12_Taken.A compassref12_Taken.code q.reverse [] (compassref12_Taken.rq E K) F H) [0, 1, 0, 1, 1, 1] [(1, .slice m1p m1n m1c), (2, .slice most2p most2n most2c), (3, .pointer (some ⟨g3, 0, none⟩)), (8, .int .i64 v8)] H) m1p m1n m1c most2p most2n most2c g3  E H K := by kernel_rfl
  exact nodeR_imp compassref12_Taken.nok rfl ((k1 _).mpr (k2.mp h))
def compassref12_Taken.b1_t (j1 : (Option Addr) → Nat → Nat → (Option Addr) → Nat → Nat → Nat → Hp → Prop) (m1p : Option Addr) (m1n : Nat) (m1c : Nat) (most2p : Option Addr) (most2n : Nat) (most2c : Nat) (g3 : Nat) (i7 : Int) (X1 : Fr → Hp → Prop) (E : Value → Hp → Prop) (H : Hp) (K : Bool → Hp → Prop) : Prop :=
  bcase (decide ((i7 : Int) < (m1n : Int))) (
  ldS (H.get g3 1) fun x_1p x_1n x_1c =>
  ix m1p m1n i7 1 fun b_1 o_1 =>
  ldI .i64 (H.get b_1 o_1) fun x_2 =>
  ix x_1p x_1n x_2 4 fun b_2 o_2 =>
  ldI .i64 (H.get b_2 o_2) fun x_3 =>
  ldS (H.get g3 1) fun x_4p x_4n x_4c =>
  ix m1p m1n i7 1 fun b_3 o_3 =>
  ldI .i64 (H.get b_3 o_3) fun x_5 =>
  ix x_4p x_4n x_5 4 fun b_4 o_4 =>
  ldI .i64 (H.get b_4 (o_4 + 1)) fun x_6 =>
  bcase (decide ((x_3 : Int) = x_6)) (
  K false H)
  (X1 (compassref12_Taken.f1 m1p m1n m1c most2p most2n most2c g3 (IntKind.wrap .i64 (i7 + 1))) H))
  (j1 m1p m1n m1c most2p most2n most2c g3 H)
theorem compassref12_Taken.b1_eq {m1p : Option Addr} {m1n : Nat} {m1c : Nat} {most2p : Option Addr} {most2n : Nat} {most2c : Nat} {g3 : Nat} {i7 : Int} {X1 : Fr → Hp → Prop} { E : Value → Hp → Prop} {H : Hp} {K : Bool → Hp → Prop} (h : compassref12_Taken.b1_t (fun m1p m1n m1c most2p most2n most2c g3 H => compassref12_Taken.j1 m1p m1n m1c most2p most2n most2c g3  E H K) m1p m1n m1c most2p most2n most2c g3 i7 X1 E H K) : compassref12_Taken.b1 m1p m1n m1c most2p most2n most2c g3 i7 X1 E H K := by
  have k1 : ∀ G : List Nat → Fr → Hp → Prop, nodeR P0 T0 compassref12_Taken.A [[0, 1, 0, 1, 1], [1, 1, 1], [0, 1, 0, 1, 1, 1]] G compassref12_Taken.code [1, 1, 0, 1, 0, 0] [X1] (compassref12_Taken.rq E K) (compassref12_Taken.f1 m1p m1n m1c most2p most2n most2c g3 i7) H = compassref12_Taken.b1_t (fun m1p m1n m1c most2p most2n most2c g3 H => G [1, 1, 1] [(1, .slice m1p m1n m1c), (2, .slice most2p most2n most2c), (3, .pointer (some ⟨g3, 0, none⟩))] H) m1p m1n m1c most2p most2n most2c g3 i7 X1 E H K := fun G => by kernel_rfl
  have k2 : compassref12_Taken.b1_t (fun m1p m1n m1c most2p most2n most2c g3 H => compassref12_Taken.j1 m1p m1n m1c most2p most2n most2c g3  E H K) m1p m1n m1c most2p most2n most2c g3 i7 X1 E H K = compassref12_Taken.b1_t (fun m1p m1n m1c most2p most2n most2c g3 H => (fun q F H => nodeM P0 T0 compassref12_Taken.A compassref12_Taken.code q.reverse [X1] (compassref12_Taken.rq E K) F H) [1, 1, 1] [(1, .slice m1p m1n m1c), (2, .slice most2p most2n most2c), (3, .pointer (some ⟨g3, 0, none⟩))] H) m1p m1n m1c most2p most2n most2c g3 i7 X1 E H K := by kernel_rfl
  exact nodeR_imp compassref12_Taken.nok rfl ((k1 _).mpr (k2.mp h))
def compassref12_Taken.b2_t  (m1p : Option Addr) (m1n : Nat) (m1c : Nat) (most2p : Option Addr) (most2n : Nat) (most2c : Nat) (g3 : Nat) (v8 : Int) (X1 : Fr → Hp → Prop) (E : Value → Hp → Prop) (H : Hp) (K : Bool → Hp → Prop) : Prop :=
  ldI .i64 (H.get g3 0) fun x_1 =>
  bcase (decide ((v8 : Int) < x_1)) (
  ldI .i64 (H.get g3 0) fun x_2 =>
  ldS (H.get g3 1) fun x_3p x_3n x_3c =>
  ix most2p most2n v8 1 fun b_1 o_1 =>
  ldI .i64 (H.get b_1 o_1) fun x_4 =>
  compassref12_At.call x_2 x_3p x_3n x_3c m1p m1n m1c v8 E H fun r_1 H_1 =>
  (ldI .i64 (H_1.get b_1 o_1) fun x_5 =>
  Value.int .i64 x_5 = Value.int .i64 x_4) ∧
  bcase (decide ((x_4 : Int) < r_1)) (
  K false H_1)
  (X1 (compassref12_Taken.f2 m1p m1n m1c most2p most2n most2c g3 (IntKind.wrap .i64 (v8 + 1))) H_1))
  (K true H)
theorem compassref12_Taken.b2_eq {m1p : Option Addr} {m1n : Nat} {m1c : Nat} {most2p : Option Addr} {most2n : Nat} {most2c : Nat} {g3 : Nat} {v8 : Int} {X1 : Fr → Hp → Prop} { E : Value → Hp → Prop} {H : Hp} {K : Bool → Hp → Prop} (h : compassref12_Taken.b2_t  m1p m1n m1c most2p most2n most2c g3 v8 X1 E H K) : compassref12_Taken.b2 m1p m1n m1c most2p most2n most2c g3 v8 X1 E H K := by
  have k1 : ∀ G : List Nat → Fr → Hp → Prop, nodeR P0 T0 compassref12_Taken.A [[0, 1, 0, 1, 1], [1, 1, 1], [0, 1, 0, 1, 1, 1]] G compassref12_Taken.code [1, 1, 1, 0, 1, 0, 0] [X1] (compassref12_Taken.rq E K) (compassref12_Taken.f2 m1p m1n m1c most2p most2n most2c g3 v8) H = compassref12_Taken.b2_t  m1p m1n m1c most2p most2n most2c g3 v8 X1 E H K := fun G => by kernel_rfl
  exact nodeR_imp compassref12_Taken.nok rfl ((k1 _).mpr h)
/-! ### compass/compassref12.ones (55) -/
noncomputable def compassref12_ones.A : An := { live := [(0, [0]), (1, [1]), (2, [1, 3]), (3, [1, 3, 4]), (4, [1, 3, 4]), (5, [1, 3, 4]), (6, [3])], ord := [], stb := [], pre := [] }
noncomputable def compassref12_ones.code : Code := bodyOf Go.Proofs.Try.f55
theorem compassref12_ones.ok : okCode compassref12_ones.A 18 compassref12_ones.code = true := by kernel_rfl
def compassref12_ones.rq (E : Value → Hp → Prop) (K : (Option Addr) → Nat → Nat → Hp → Prop) : Ex → Fr → Hp → Prop := retQ T0 [.tmp 2] [26] (fun r H => ldR (.one false [.sl]) r fun u => K (asS1 u) (asS2 u) (asS3 u) H) E
def compassref12_ones.run (g0_Nodes : Int) (g0_Edgesp : Option Addr) (g0_Edgesn : Nat) (g0_Edgesc : Nat) (E : Value → Hp → Prop) (H : Hp) (K : (Option Addr) → Nat → Nat → Hp → Prop) : Prop := nodeM P0 T0 compassref12_ones.A compassref12_ones.code [] [] (compassref12_ones.rq E K) (argF 0 [.agg ⟨[.int .i64 g0_Nodes, .slice g0_Edgesp g0_Edgesn g0_Edgesc]⟩]) H
theorem compassref12_ones.of {g0_Nodes : Int} {g0_Edgesp : Option Addr} {g0_Edgesn : Nat} {g0_Edgesc : Nat} {E : Value → Hp → Prop} {H : Hp} {K : (Option Addr) → Nat → Nat → Hp → Prop} (h : compassref12_ones.run g0_Nodes g0_Edgesp g0_Edgesn g0_Edgesc E H K) : compassref12_ones.call g0_Nodes g0_Edgesp g0_Edgesn g0_Edgesc E H K :=
  callW_of T0_ok P0_mixed (A := compassref12_ones.A) (fn := Go.Proofs.Try.f55) Go.Proofs.Try.func55 rfl compassref12_ones.ok rfl h
noncomputable def compassref12_ones.f1 (g1 : Nat) (out3p : Option Addr) (out3n : Nat) (out3c : Nat) (v4 : Int) : Fr := [(1, .pointer (some ⟨g1, 0, none⟩)), (3, .slice out3p out3n out3c), (4, .int .i64 v4)]
def compassref12_ones.l1 (g1 : Nat) (out3p : Option Addr) (out3n : Nat) (out3c : Nat) (v4 : Int)  (E : Value → Hp → Prop) (H : Hp) (K : (Option Addr) → Nat → Nat → Hp → Prop) : Prop := nodeM P0 T0 compassref12_ones.A compassref12_ones.code [1, 1, 0, 1, 0] [] (compassref12_ones.rq E K) (compassref12_ones.f1 g1 out3p out3n out3c v4) H
def compassref12_ones.b1 (g1 : Nat) (out3p : Option Addr) (out3n : Nat) (out3c : Nat) (v4 : Int)  (X1 : Fr → Hp → Prop) (E : Value → Hp → Prop) (H : Hp) (K : (Option Addr) → Nat → Nat → Hp → Prop) : Prop := nodeM P0 T0 compassref12_ones.A compassref12_ones.code [1, 1, 0, 1, 0, 0] [X1] (compassref12_ones.rq E K) (compassref12_ones.f1 g1 out3p out3n out3c v4) H
theorem compassref12_ones.l1_rule { E : Value → Hp → Prop} {K : (Option Addr) → Nat → Nat → Hp → Prop} (I : Nat → (Option Addr) → Nat → Nat → Int → Hp → Prop) (μ : Nat → (Option Addr) → Nat → Nat → Int → Hp → Nat)
    (h : ∀ g1 out3p out3n out3c v4 H, I g1 out3p out3n out3c v4 H → ∀ X : Fr → Hp → Prop, (∀ g1' out3p' out3n' out3c' v4' H', I g1' out3p' out3n' out3c' v4' H' → μ g1' out3p' out3n' out3c' v4' H' < μ g1 out3p out3n out3c v4 H → X (compassref12_ones.f1 g1' out3p' out3n' out3c' v4') H') → compassref12_ones.b1 g1 out3p out3n out3c v4  X E H K)
    {g1 : Nat} {out3p : Option Addr} {out3n : Nat} {out3c : Nat} {v4 : Int} {H : Hp} (hI : I g1 out3p out3n out3c v4 H) : compassref12_ones.l1 g1 out3p out3n out3c v4  E H K :=
  loop_rule (S := Nat × (Option Addr) × Nat × Nat × Int) (fun s => compassref12_ones.f1 (s.1) (s.2.1) (s.2.2.1) (s.2.2.2.1) (s.2.2.2.2)) (fun s H => I (s.1) (s.2.1) (s.2.2.1) (s.2.2.2.1) (s.2.2.2.2) H) (fun s H => μ (s.1) (s.2.1) (s.2.2.1) (s.2.2.2.1) (s.2.2.2.2) H) (fun s H hI X hX => h (s.1) (s.2.1) (s.2.2.1) (s.2.2.2.1) (s.2.2.2.2) H hI X fun g1' out3p' out3n' out3c' v4' H' hI' hlt => hX (g1', out3p', out3n', out3c', v4') H' hI' hlt) (s := (g1, out3p, out3n, out3c, v4)) rfl hI
theorem compassref12_ones.nok : nodesOk compassref12_ones.code [[0, 1, 0, 1, 1]] = true := by kernel_rfl
def compassref12_ones.run_t (l1 : Nat → (Option Addr) → Nat → Nat → Int → Hp → Prop) (g0_Nodes : Int) (g0_Edgesp : Option Addr) (g0_Edgesn : Nat) (g0_Edgesc : Nat)  (E : Value → Hp → Prop) (H : Hp) (K : (Option Addr) → Nat → Nat → Hp → Prop) : Prop :=
  nw H ⟨[.int .i64 g0_Nodes, .slice g0_Edgesp g0_Edgesn g0_Edgesc], 24⟩ fun b_1 H_1 =>
  ldI .i64 (H_1.get b_1 0) fun x_1 =>
  mkS x_1 x_1 3 [.i .i64] 8 H_1 fun b_2 H_2 =>
  l1 b_1 (some ⟨b_2, 0, none⟩) x_1.toNat x_1.toNat 0 H_2
theorem compassref12_ones.run_eq {g0_Nodes : Int} {g0_Edgesp : Option Addr} {g0_Edgesn : Nat} {g0_Edgesc : Nat} { E : Value → Hp → Prop} {H : Hp} {K : (Option Addr) → Nat → Nat → Hp → Prop} (h : compassref12_ones.run_t (fun g1 out3p out3n out3c v4 H => compassref12_ones.l1 g1 out3p out3n out3c v4  E H K) g0_Nodes g0_Edgesp g0_Edgesn g0_Edgesc  E H K) : compassref12_ones.run g0_Nodes g0_Edgesp g0_Edgesn g0_Edgesc  E H K := by
  have k1 : ∀ G : List Nat → Fr → Hp → Prop, nodeR P0 T0 compassref12_ones.A [[0, 1, 0, 1, 1]] G compassref12_ones.code [] [] (compassref12_ones.rq E K) (argF 0 [.agg ⟨[.int .i64 g0_Nodes, .slice g0_Edgesp g0_Edgesn g0_Edgesc]⟩]) H = compassref12_ones.run_t (fun g1 out3p out3n out3c v4 H => G [0, 1, 0, 1, 1] [(1, .pointer (some ⟨g1, 0, none⟩)), (3, .slice out3p out3n out3c), (4, .int .i64 v4)] H) g0_Nodes g0_Edgesp g0_Edgesn g0_Edgesc  E H K := fun G => by kernel_rfl
  have k2 : compassref12_ones.run_t (fun g1 out3p out3n out3c v4 H => compassref12_ones.l1 g1 out3p out3n out3c v4  E H K) g0_Nodes g0_Edgesp g0_Edgesn g0_Edgesc  E H K = compassref12_ones.run_t (fun g1 out3p out3n out3c v4 H => (fun q F H => nodeM P0 T0 compassref12_ones.A compassref12_ones.code q.reverse [] (compassref12_ones.rq E K) F H) [0, 1, 0, 1, 1] [(1, .pointer (some ⟨g1, 0, none⟩)), (3, .slice out3p out3n out3c), (4, .int .i64 v4)] H) g0_Nodes g0_Edgesp g0_Edgesn g0_Edgesc  E H K := by kernel_rfl
  exact nodeR_imp compassref12_ones.nok rfl ((k1 _).mpr (k2.mp h))
def compassref12_ones.b1_t  (g1 : Nat) (out3p : Option Addr) (out3n : Nat) (out3c : Nat) (v4 : Int) (X1 : Fr → Hp → Prop) (E : Value → Hp → Prop) (H : Hp) (K : (Option Addr) → Nat → Nat → Hp → Prop) : Prop :=
  ldI .i64 (H.get g1 0) fun x_1 =>
  bcase (decide ((v4 : Int) < x_1)) (
  ix out3p out3n v4 1 fun b_1 o_1 =>
  stC H b_1 o_1 [.int .i64 1] fun H_1 =>
  X1 (compassref12_ones.f1 g1 out3p out3n out3c (IntKind.wrap .i64 (v4 + 1))) H_1)
  (K out3p out3n out3c H)
theorem compassref12_ones.b1_eq {g1 : Nat} {out3p : Option Addr} {out3n : Nat} {out3c : Nat} {v4 : Int} {X1 : Fr → Hp → Prop} { E : Value → Hp → Prop} {H : Hp} {K : (Option Addr) → Nat → Nat → Hp → Prop} (h : compassref12_ones.b1_t  g1 out3p out3n out3c v4 X1 E H K) : compassref12_ones.b1 g1 out3p out3n out3c v4 X1 E H K := by
  have k1 : ∀ G : List Nat → Fr → Hp → Prop, nodeR P0 T0 compassref12_ones.A [[0, 1, 0, 1, 1]] G compassref12_ones.code [1, 1, 0, 1, 0, 0] [X1] (compassref12_ones.rq E K) (compassref12_ones.f1 g1 out3p out3n out3c v4) H = compassref12_ones.b1_t  g1 out3p out3n out3c v4 X1 E H K := fun G => by kernel_rfl
  exact nodeR_imp compassref12_ones.nok rfl ((k1 _).mpr h)
end Go.Mz
