/-
  The shallow texts of functions (Ref), each with a kernel-checked equation to the translated code. It proves nothing of the program by itself.
-/
import Derived.Test.YtjdhhepphbhjgaaTab
set_option linter.unusedVariables false
set_option maxRecDepth 100000
namespace Go.Mz
/-! ### compass/compassref12.Doubled (30) -/
/-! ### compass/compassref12.All (36) -/
noncomputable def compassref12_All.A : An := { live := [(0, [0]), (1, [1]), (2, [1, 3]), (3, [1, 3, 4]), (4, [1, 3, 4]), (5, [1, 3, 4]), (6, [3])], ord := [], stb := [], pre := [] }
noncomputable def compassref12_All.code : Code := bodyOf Go.Proofs.Try.f36
theorem compassref12_All.ok : okCode compassref12_All.A 17 compassref12_All.code = true := by kernel_rfl
def compassref12_All.rq (E : Value → Hp → Prop) (K : (Option Addr) → Nat → Nat → Hp → Prop) : Ex → Fr → Hp → Prop := retQ T0 [.tmp 2] [25] (fun r H => ldR (.one false [.sl]) r fun u => K (asS1 u) (asS2 u) (asS3 u) H) E
def compassref12_All.run (g0_Nodes : Int) (g0_Edgesp : Option Addr) (g0_Edgesn : Nat) (g0_Edgesc : Nat) (E : Value → Hp → Prop) (H : Hp) (K : (Option Addr) → Nat → Nat → Hp → Prop) : Prop := nodeM P0 T0 compassref12_All.A compassref12_All.code [] [] (compassref12_All.rq E K) (argF 0 [.agg ⟨[.int .i64 g0_Nodes, .slice g0_Edgesp g0_Edgesn g0_Edgesc]⟩]) H
theorem compassref12_All.of {g0_Nodes : Int} {g0_Edgesp : Option Addr} {g0_Edgesn : Nat} {g0_Edgesc : Nat} {E : Value → Hp → Prop} {H : Hp} {K : (Option Addr) → Nat → Nat → Hp → Prop} (h : compassref12_All.run g0_Nodes g0_Edgesp g0_Edgesn g0_Edgesc E H K) : compassref12_All.call g0_Nodes g0_Edgesp g0_Edgesn g0_Edgesc E H K :=
  callW_of T0_ok P0_mixed (A := compassref12_All.A) (fn := Go.Proofs.Try.f36) Go.Proofs.Try.func36 rfl compassref12_All.ok rfl h
noncomputable def compassref12_All.f1 (g1 : Nat) (out3p : Option Addr) (out3n : Nat) (out3c : Nat) (i4 : Int) : Fr := [(1, .pointer (some ⟨g1, 0, none⟩)), (3, .slice out3p out3n out3c), (4, .int .i64 i4)]
def compassref12_All.l1 (g1 : Nat) (out3p : Option Addr) (out3n : Nat) (out3c : Nat) (i4 : Int)  (E : Value → Hp → Prop) (H : Hp) (K : (Option Addr) → Nat → Nat → Hp → Prop) : Prop := nodeM P0 T0 compassref12_All.A compassref12_All.code [1, 1, 0, 1, 0] [] (compassref12_All.rq E K) (compassref12_All.f1 g1 out3p out3n out3c i4) H
def compassref12_All.b1 (g1 : Nat) (out3p : Option Addr) (out3n : Nat) (out3c : Nat) (i4 : Int)  (X1 : Fr → Hp → Prop) (E : Value → Hp → Prop) (H : Hp) (K : (Option Addr) → Nat → Nat → Hp → Prop) : Prop := nodeM P0 T0 compassref12_All.A compassref12_All.code [1, 1, 0, 1, 0, 0] [X1] (compassref12_All.rq E K) (compassref12_All.f1 g1 out3p out3n out3c i4) H
theorem compassref12_All.l1_rule { E : Value → Hp → Prop} {K : (Option Addr) → Nat → Nat → Hp → Prop} (I : Nat → (Option Addr) → Nat → Nat → Int → Hp → Prop) (μ : Nat → (Option Addr) → Nat → Nat → Int → Hp → Nat)
    (h : ∀ g1 out3p out3n out3c i4 H, I g1 out3p out3n out3c i4 H → ∀ X : Fr → Hp → Prop, (∀ g1' out3p' out3n' out3c' i4' H', I g1' out3p' out3n' out3c' i4' H' → μ g1' out3p' out3n' out3c' i4' H' < μ g1 out3p out3n out3c i4 H → X (compassref12_All.f1 g1' out3p' out3n' out3c' i4') H') → compassref12_All.b1 g1 out3p out3n out3c i4  X E H K)
    {g1 : Nat} {out3p : Option Addr} {out3n : Nat} {out3c : Nat} {i4 : Int} {H : Hp} (hI : I g1 out3p out3n out3c i4 H) : compassref12_All.l1 g1 out3p out3n out3c i4  E H K :=
  loop_rule (S := Nat × (Option Addr) × Nat × Nat × Int) (fun s => compassref12_All.f1 (s.1) (s.2.1) (s.2.2.1) (s.2.2.2.1) (s.2.2.2.2)) (fun s H => I (s.1) (s.2.1) (s.2.2.1) (s.2.2.2.1) (s.2.2.2.2) H) (fun s H => μ (s.1) (s.2.1) (s.2.2.1) (s.2.2.2.1) (s.2.2.2.2) H) (fun s H hI X hX => h (s.1) (s.2.1) (s.2.2.1) (s.2.2.2.1) (s.2.2.2.2) H hI X fun g1' out3p' out3n' out3c' i4' H' hI' hlt => hX (g1', out3p', out3n', out3c', i4') H' hI' hlt) (s := (g1, out3p, out3n, out3c, i4)) rfl hI
theorem compassref12_All.nok : nodesOk compassref12_All.code [[0, 1, 0, 1, 1]] = true := by kernel_rfl
def compassref12_All.run_t (l1 : Nat → (Option Addr) → Nat → Nat → Int → Hp → Prop) (g0_Nodes : Int) (g0_Edgesp : Option Addr) (g0_Edgesn : Nat) (g0_Edgesc : Nat)  (E : Value → Hp → Prop) (H : Hp) (K : (Option Addr) → Nat → Nat → Hp → Prop) : Prop :=
  nw H ⟨[.int .i64 g0_Nodes, .slice g0_Edgesp g0_Edgesn g0_Edgesc], 24⟩ fun b_1 H_1 =>
  l1 b_1 none 0 0 0 H_1
theorem compassref12_All.run_eq {g0_Nodes : Int} {g0_Edgesp : Option Addr} {g0_Edgesn : Nat} {g0_Edgesc : Nat} { E : Value → Hp → Prop} {H : Hp} {K : (Option Addr) → Nat → Nat → Hp → Prop} (h : compassref12_All.run_t (fun g1 out3p out3n out3c i4 H => compassref12_All.l1 g1 out3p out3n out3c i4  E H K) g0_Nodes g0_Edgesp g0_Edgesn g0_Edgesc  E H K) : compassref12_All.run g0_Nodes g0_Edgesp g0_Edgesn g0_Edgesc  E H K := by
  have k1 : ∀ G : List Nat → Fr → Hp → Prop, nodeR P0 T0 compassref12_All.A [[0, 1, 0, 1, 1]] G compassref12_All.code [] [] (compassref12_All.rq E K) (argF 0 [.agg ⟨[.int .i64 g0_Nodes, .slice g0_Edgesp g0_Edgesn g0_Edgesc]⟩]) H = compassref12_All.run_t (fun g1 out3p out3n out3c i4 H => G [0, 1, 0, 1, 1] [(1, .pointer (some ⟨g1, 0, none⟩)), (3, .slice out3p out3n out3c), (4, .int .i64 i4)] H) g0_Nodes g0_Edgesp g0_Edgesn g0_Edgesc  E H K := fun G => by kernel_rfl
  have k2 : compassref12_All.run_t (fun g1 out3p out3n out3c i4 H => compassref12_All.l1 g1 out3p out3n out3c i4  E H K) g0_Nodes g0_Edgesp g0_Edgesn g0_Edgesc  E H K = compassref12_All.run_t (fun g1 out3p out3n out3c i4 H => (fun q F H => nodeM P0 T0 compassref12_All.A compassref12_All.code q.reverse [] (compassref12_All.rq E K) F H) [0, 1, 0, 1, 1] [(1, .pointer (some ⟨g1, 0, none⟩)), (3, .slice out3p out3n out3c), (4, .int .i64 i4)] H) g0_Nodes g0_Edgesp g0_Edgesn g0_Edgesc  E H K := by kernel_rfl
  exact nodeR_imp compassref12_All.nok rfl ((k1 _).mpr (k2.mp h))
def compassref12_All.b1_t  (g1 : Nat) (out3p : Option Addr) (out3n : Nat) (out3c : Nat) (i4 : Int) (X1 : Fr → Hp → Prop) (E : Value → Hp → Prop) (H : Hp) (K : (Option Addr) → Nat → Nat → Hp → Prop) : Prop :=
  ldS (H.get g1 1) fun x_1p x_1n x_1c =>
  bcase (decide ((i4 : Int) < (x_1n : Int))) (
  nw H ⟨[.int .i64 i4], 3⟩ fun b_1 H_1 =>
  appM 3 [.i .i64] 8 out3p out3n out3c (some ⟨b_1, 0, none⟩) 1 H_1 fun a_1p a_1n a_1c H_2 =>
  X1 (compassref12_All.f1 g1 a_1p a_1n a_1c (IntKind.wrap .i64 (i4 + 1))) H_2)
  (K out3p out3n out3c H)
theorem compassref12_All.b1_eq {g1 : Nat} {out3p : Option Addr} {out3n : Nat} {out3c : Nat} {i4 : Int} {X1 : Fr → Hp → Prop} { E : Value → Hp → Prop} {H : Hp} {K : (Option Addr) → Nat → Nat → Hp → Prop} (h : compassref12_All.b1_t  g1 out3p out3n out3c i4 X1 E H K) : compassref12_All.b1 g1 out3p out3n out3c i4 X1 E H K := by
  have k1 : ∀ G : List Nat → Fr → Hp → Prop, nodeR P0 T0 compassref12_All.A [[0, 1, 0, 1, 1]] G compassref12_All.code [1, 1, 0, 1, 0, 0] [X1] (compassref12_All.rq E K) (compassref12_All.f1 g1 out3p out3n out3c i4) H = compassref12_All.b1_t  g1 out3p out3n out3c i4 X1 E H K := fun G => by kernel_rfl
  exact nodeR_imp compassref12_All.nok rfl ((k1 _).mpr h)
/-! ### compass/compassref12.Evens (37) -/
noncomputable def compassref12_Evens.A : An := { live := [(0, [0, 1]), (1, [1, 2])], ord := [(1, [0, 1, 2, 3, 4, 5, 6, 7, 9, 10, 8, 11, 12, 13, 14, 15])], stb := [(1, [(8, [9, 10]), (11, [9])])], pre := [(1, [[], [], [1], [1, 2], [0, 1, 2, 3], [0, 1, 2, 3, 4], [0, 1, 2, 3, 4, 5], [0, 1, 2, 3, 4, 5], [0, 1, 2, 3, 4, 5, 6, 7], [0, 1, 2, 3, 4, 5], [0, 1, 2, 3, 4, 5], [0, 1, 2, 3, 4, 5, 6, 7, 8, 10], [0, 1, 2, 3, 4, 5, 6, 7, 8, 9, 10, 11], [0, 1, 2, 3, 4, 5, 6, 7, 8, 9, 10, 11, 12], [0, 1, 2, 3, 4, 5, 6, 7, 8, 9, 10, 11, 12, 13], [0, 1, 2, 3, 4, 5, 6, 7, 8, 9, 10, 11, 12, 13, 14]])] }
noncomputable def compassref12_Evens.code : Code := bodyOf Go.Proofs.Try.f37
theorem compassref12_Evens.ok : okCode compassref12_Evens.A 20 compassref12_Evens.code = true := by kernel_rfl
def compassref12_Evens.rq (E : Value → Hp → Prop) (K : Bool → Hp → Prop) : Ex → Fr → Hp → Prop := retQ T0 [.tmp 4] [4] (fun r H => ldR (.one false [.bool]) r fun u => K (asB u) H) E
def compassref12_Evens.run (g0_Nodes : Int) (g0_Edgesp : Option Addr) (g0_Edgesn : Nat) (g0_Edgesc : Nat) (twice1p : Option Addr) (twice1n : Nat) (twice1c : Nat) (E : Value → Hp → Prop) (H : Hp) (K : Bool → Hp → Prop) : Prop := nodeM P0 T0 compassref12_Evens.A compassref12_Evens.code [] [] (compassref12_Evens.rq E K) (argF 0 [.agg ⟨[.int .i64 g0_Nodes, .slice g0_Edgesp g0_Edgesn g0_Edgesc]⟩, .slice twice1p twice1n twice1c]) H
theorem compassref12_Evens.of {g0_Nodes : Int} {g0_Edgesp : Option Addr} {g0_Edgesn : Nat} {g0_Edgesc : Nat} {twice1p : Option Addr} {twice1n : Nat} {twice1c : Nat} {E : Value → Hp → Prop} {H : Hp} {K : Bool → Hp → Prop} (h : compassref12_Evens.run g0_Nodes g0_Edgesp g0_Edgesn g0_Edgesc twice1p twice1n twice1c E H K) : compassref12_Evens.call g0_Nodes g0_Edgesp g0_Edgesn g0_Edgesc twice1p twice1n twice1c E H K :=
  callW_of T0_ok P0_mixed (A := compassref12_Evens.A) (fn := Go.Proofs.Try.f37) Go.Proofs.Try.func37 rfl compassref12_Evens.ok rfl h
theorem compassref12_Evens.nok : nodesOk compassref12_Evens.code [] = true := by kernel_rfl
def compassref12_Evens.run_t  (g0_Nodes : Int) (g0_Edgesp : Option Addr) (g0_Edgesn : Nat) (g0_Edgesc : Nat) (twice1p : Option Addr) (twice1n : Nat) (twice1c : Nat)  (E : Value → Hp → Prop) (H : Hp) (K : Bool → Hp → Prop) : Prop :=
  nw H ⟨[.int .i64 g0_Nodes, .slice g0_Edgesp g0_Edgesn g0_Edgesc], 24⟩ fun b_1 H_1 =>
  ldS (H_1.get b_1 1) fun x_1p x_1n x_1c =>
  compassref12_Rising.call twice1p twice1n twice1c (x_1n : Int) E H_1 fun r_1 H_2 =>
  bcase (r_1) (
  ldI .i64 (H_2.get b_1 0) fun x_2 =>
  ldS (H_2.get b_1 1) fun x_3p x_3n x_3c =>
  ldI .i64 (H_2.get b_1 0) fun x_4 =>
  ldS (H_2.get b_1 1) fun x_5p x_5n x_5c =>
  ldI .i64 (H_2.get b_1 0) fun x_6 =>
  ldS (H_2.get b_1 1) fun x_7p x_7n x_7c =>
  compassref12_Uneven.call x_2 x_3p x_3n x_3c twice1p twice1n twice1c E H_2 fun r_2p r_2n r_2c H_3 =>
  (ldI .i64 (H_3.get b_1 0) fun x_12 =>
  ldS (H_3.get b_1 1) fun x_13p x_13n x_13c =>
  Value.agg ⟨[.int .i64 x_12, .slice x_13p x_13n x_13c]⟩ = Value.agg ⟨[.int .i64 x_4, .slice x_5p x_5n x_5c]⟩) ∧
  (ldI .i64 (H_3.get b_1 0) fun x_10 =>
  ldS (H_3.get b_1 1) fun x_11p x_11n x_11c =>
  Value.agg ⟨[.int .i64 x_10, .slice x_11p x_11n x_11c]⟩ = Value.agg ⟨[.int .i64 x_6, .slice x_7p x_7n x_7c]⟩) ∧
  compassref12_All.call x_6 x_7p x_7n x_7c E H_3 fun r_3p r_3n r_3c H_4 =>
  (ldI .i64 (H_4.get b_1 0) fun x_8 =>
  ldS (H_4.get b_1 1) fun x_9p x_9n x_9c =>
  Value.agg ⟨[.int .i64 x_8, .slice x_9p x_9n x_9c]⟩ = Value.agg ⟨[.int .i64 x_4, .slice x_5p x_5n x_5c]⟩) ∧
  compassref12_Uneven.call x_4 x_5p x_5n x_5c r_3p r_3n r_3c E H_4 fun r_4p r_4n r_4c H_5 =>
  compassref12_ints.call r_2p r_2n r_2c r_4p r_4n r_4c E H_5 fun r_5 H_6 =>
  K r_5 H_6)
  (K false H_2)
theorem compassref12_Evens.run_eq {g0_Nodes : Int} {g0_Edgesp : Option Addr} {g0_Edgesn : Nat} {g0_Edgesc : Nat} {twice1p : Option Addr} {twice1n : Nat} {twice1c : Nat} { E : Value → Hp → Prop} {H : Hp} {K : Bool → Hp → Prop} (h : compassref12_Evens.run_t  g0_Nodes g0_Edgesp g0_Edgesn g0_Edgesc twice1p twice1n twice1c  E H K) : compassref12_Evens.run g0_Nodes g0_Edgesp g0_Edgesn g0_Edgesc twice1p twice1n twice1c  E H K := by
  have k1 : ∀ G : List Nat → Fr → Hp → Prop, nodeR P0 T0 compassref12_Evens.A [] G compassref12_Evens.code [] [] (compassref12_Evens.rq E K) (argF 0 [.agg ⟨[.int .i64 g0_Nodes, .slice g0_Edgesp g0_Edgesn g0_Edgesc]⟩, .slice twice1p twice1n twice1c]) H = compassref12_Evens.run_t  g0_Nodes g0_Edgesp g0_Edgesn g0_Edgesc twice1p twice1n twice1c  E H K := fun G => by kernel_rfl
  exact nodeR_imp compassref12_Evens.nok rfl ((k1 _).mpr h)
/-! ### compass/compassref12.Uneven (75) -/
noncomputable def compassref12_Uneven.A : An := { live := [(0, [0, 1]), (1, [1, 2]), (2, [1, 2, 5]), (3, [1, 2, 5, 6]), (4, [1, 2, 5, 6]), (5, [1, 2, 5, 6]), (6, [1, 2, 5, 6]), (7, [5])], ord := [], stb := [], pre := [] }
noncomputable def compassref12_Uneven.code : Code := bodyOf Go.Proofs.Try.f75
theorem compassref12_Uneven.ok : okCode compassref12_Uneven.A 24 compassref12_Uneven.code = true := by kernel_rfl
def compassref12_Uneven.rq (E : Value → Hp → Prop) (K : (Option Addr) → Nat → Nat → Hp → Prop) : Ex → Fr → Hp → Prop := retQ T0 [.tmp 4] [25] (fun r H => ldR (.one false [.sl]) r fun u => K (asS1 u) (asS2 u) (asS3 u) H) E
def compassref12_Uneven.run (g0_Nodes : Int) (g0_Edgesp : Option Addr) (g0_Edgesn : Nat) (g0_Edgesc : Nat) (list1p : Option Addr) (list1n : Nat) (list1c : Nat) (E : Value → Hp → Prop) (H : Hp) (K : (Option Addr) → Nat → Nat → Hp → Prop) : Prop := nodeM P0 T0 compassref12_Uneven.A compassref12_Uneven.code [] [] (compassref12_Uneven.rq E K) (argF 0 [.agg ⟨[.int .i64 g0_Nodes, .slice g0_Edgesp g0_Edgesn g0_Edgesc]⟩, .slice list1p list1n list1c]) H
theorem compassref12_Uneven.of {g0_Nodes : Int} {g0_Edgesp : Option Addr} {g0_Edgesn : Nat} {g0_Edgesc : Nat} {list1p : Option Addr} {list1n : Nat} {list1c : Nat} {E : Value → Hp → Prop} {H : Hp} {K : (Option Addr) → Nat → Nat → Hp → Prop} (h : compassref12_Uneven.run g0_Nodes g0_Edgesp g0_Edgesn g0_Edgesc list1p list1n list1c E H K) : compassref12_Uneven.call g0_Nodes g0_Edgesp g0_Edgesn g0_Edgesc list1p list1n list1c E H K :=
  callW_of T0_ok P0_mixed (A := compassref12_Uneven.A) (fn := Go.Proofs.Try.f75) Go.Proofs.Try.func75 rfl compassref12_Uneven.ok rfl h
noncomputable def compassref12_Uneven.f1 (list1p : Option Addr) (list1n : Nat) (list1c : Nat) (g2 : Nat) (out5p : Option Addr) (out5n : Nat) (out5c : Nat) (v6 : Int) : Fr := [(1, .slice list1p list1n list1c), (2, .pointer (some ⟨g2, 0, none⟩)), (5, .slice out5p out5n out5c), (6, .int .i64 v6)]
def compassref12_Uneven.j1 (list1p : Option Addr) (list1n : Nat) (list1c : Nat) (g2 : Nat) (out5p : Option Addr) (out5n : Nat) (out5c : Nat) (v6 : Int) (X1 : Fr → Hp → Prop) (E : Value → Hp → Prop) (H : Hp) (K : (Option Addr) → Nat → Nat → Hp → Prop) : Prop := nodeM P0 T0 compassref12_Uneven.A compassref12_Uneven.code [1, 1, 0, 1, 0, 0, 1, 1] [X1] (compassref12_Uneven.rq E K) [(1, .slice list1p list1n list1c), (2, .pointer (some ⟨g2, 0, none⟩)), (5, .slice out5p out5n out5c), (6, .int .i64 v6)] H
def compassref12_Uneven.l1 (list1p : Option Addr) (list1n : Nat) (list1c : Nat) (g2 : Nat) (out5p : Option Addr) (out5n : Nat) (out5c : Nat) (v6 : Int)  (E : Value → Hp → Prop) (H : Hp) (K : (Option Addr) → Nat → Nat → Hp → Prop) : Prop := nodeM P0 T0 compassref12_Uneven.A compassref12_Uneven.code [1, 1, 0, 1, 0] [] (compassref12_Uneven.rq E K) (compassref12_Uneven.f1 list1p list1n list1c g2 out5p out5n out5c v6) H
def compassref12_Uneven.b1 (list1p : Option Addr) (list1n : Nat) (list1c : Nat) (g2 : Nat) (out5p : Option Addr) (out5n : Nat) (out5c : Nat) (v6 : Int)  (X1 : Fr → Hp → Prop) (E : Value → Hp → Prop) (H : Hp) (K : (Option Addr) → Nat → Nat → Hp → Prop) : Prop := nodeM P0 T0 compassref12_Uneven.A compassref12_Uneven.code [1, 1, 0, 1, 0, 0] [X1] (compassref12_Uneven.rq E K) (compassref12_Uneven.f1 list1p list1n list1c g2 out5p out5n out5c v6) H
theorem compassref12_Uneven.l1_rule { E : Value → Hp → Prop} {K : (Option Addr) → Nat → Nat → Hp → Prop} (I : (Option Addr) → Nat → Nat → Nat → (Option Addr) → Nat → Nat → Int → Hp → Prop) (μ : (Option Addr) → Nat → Nat → Nat → (Option Addr) → Nat → Nat → Int → Hp → Nat)
    (h : ∀ list1p list1n list1c g2 out5p out5n out5c v6 H, I list1p list1n list1c g2 out5p out5n out5c v6 H → ∀ X : Fr → Hp → Prop, (∀ list1p' list1n' list1c' g2' out5p' out5n' out5c' v6' H', I list1p' list1n' list1c' g2' out5p' out5n' out5c' v6' H' → μ list1p' list1n' list1c' g2' out5p' out5n' out5c' v6' H' < μ list1p list1n list1c g2 out5p out5n out5c v6 H → X (compassref12_Uneven.f1 list1p' list1n' list1c' g2' out5p' out5n' out5c' v6') H') → compassref12_Uneven.b1 list1p list1n list1c g2 out5p out5n out5c v6  X E H K)
    {list1p : Option Addr} {list1n : Nat} {list1c : Nat} {g2 : Nat} {out5p : Option Addr} {out5n : Nat} {out5c : Nat} {v6 : Int} {H : Hp} (hI : I list1p list1n list1c g2 out5p out5n out5c v6 H) : compassref12_Uneven.l1 list1p list1n list1c g2 out5p out5n out5c v6  E H K :=
  loop_rule (S := (Option Addr) × Nat × Nat × Nat × (Option Addr) × Nat × Nat × Int) (fun s => compassref12_Uneven.f1 (s.1) (s.2.1) (s.2.2.1) (s.2.2.2.1) (s.2.2.2.2.1) (s.2.2.2.2.2.1) (s.2.2.2.2.2.2.1) (s.2.2.2.2.2.2.2)) (fun s H => I (s.1) (s.2.1) (s.2.2.1) (s.2.2.2.1) (s.2.2.2.2.1) (s.2.2.2.2.2.1) (s.2.2.2.2.2.2.1) (s.2.2.2.2.2.2.2) H) (fun s H => μ (s.1) (s.2.1) (s.2.2.1) (s.2.2.2.1) (s.2.2.2.2.1) (s.2.2.2.2.2.1) (s.2.2.2.2.2.2.1) (s.2.2.2.2.2.2.2) H) (fun s H hI X hX => h (s.1) (s.2.1) (s.2.2.1) (s.2.2.2.1) (s.2.2.2.2.1) (s.2.2.2.2.2.1) (s.2.2.2.2.2.2.1) (s.2.2.2.2.2.2.2) H hI X fun list1p' list1n' list1c' g2' out5p' out5n' out5c' v6' H' hI' hlt => hX (list1p', list1n', list1c', g2', out5p', out5n', out5c', v6') H' hI' hlt) (s := (list1p, list1n, list1c, g2, out5p, out5n, out5c, v6)) rfl hI
theorem compassref12_Uneven.nok : nodesOk compassref12_Uneven.code [[0, 1, 0, 1, 1], [1, 1, 0, 0, 1, 0, 1, 1]] = true := by kernel_rfl
def compassref12_Uneven.run_t (l1 : (Option Addr) → Nat → Nat → Nat → (Option Addr) → Nat → Nat → Int → Hp → Prop) (g0_Nodes : Int) (g0_Edgesp : Option Addr) (g0_Edgesn : Nat) (g0_Edgesc : Nat) (list1p : Option Addr) (list1n : Nat) (list1c : Nat)  (E : Value → Hp → Prop) (H : Hp) (K : (Option Addr) → Nat → Nat → Hp → Prop) : Prop :=
  nw H ⟨[.int .i64 g0_Nodes, .slice g0_Edgesp g0_Edgesn g0_Edgesc], 24⟩ fun b_1 H_1 =>
  l1 list1p list1n list1c b_1 none 0 0 0 H_1
theorem compassref12_Uneven.run_eq {g0_Nodes : Int} {g0_Edgesp : Option Addr} {g0_Edgesn : Nat} {g0_Edgesc : Nat} {list1p : Option Addr} {list1n : Nat} {list1c : Nat} { E : Value → Hp → Prop} {H : Hp} {K : (Option Addr) → Nat → Nat → Hp → Prop} (h : compassref12_Uneven.run_t (fun list1p list1n list1c g2 out5p out5n out5c v6 H => compassref12_Uneven.l1 list1p list1n list1c g2 out5p out5n out5c v6  E H K) g0_Nodes g0_Edgesp g0_Edgesn g0_Edgesc list1p list1n list1c  E H K) : compassref12_Uneven.run g0_Nodes g0_Edgesp g0_Edgesn g0_Edgesc list1p list1n list1c  E H K := by
  have k1 : ∀ G : List Nat → Fr → Hp → Prop, nodeR P0 T0 compassref12_Uneven.A [[0, 1, 0, 1, 1], [1, 1, 0, 0, 1, 0, 1, 1]] G compassref12_Uneven.code [] [] (compassref12_Uneven.rq E K) (argF 0 [.agg ⟨[.int .i64 g0_Nodes, .slice g0_Edgesp g0_Edgesn g0_Edgesc]⟩, .slice list1p list1n list1c]) H = compassref12_Uneven.run_t (fun list1p list1n list1c g2 out5p out5n out5c v6 H => G [0, 1, 0, 1, 1] [(1, .slice list1p list1n list1c), (2, .pointer (some ⟨g2, 0, none⟩)), (5, .slice out5p out5n out5c), (6, .int .i64 v6)] H) g0_Nodes g0_Edgesp g0_Edgesn g0_Edgesc list1p list1n list1c  E H K := fun G => by kernel_rfl
  have k2 : compassref12_Uneven.run_t (fun list1p list1n list1c g2 out5p out5n out5c v6 H => compassref12_Uneven.l1 list1p list1n list1c g2 out5p out5n out5c v6  E H K) g0_Nodes g0_Edgesp g0_Edgesn g0_Edgesc list1p list1n list1c  E H K = compassref12_Uneven.run_t (fun list1p list1n list1c g2 out5p out5n out5c v6 H => (fun q F H => nodeM P0 T0 compassref12_Uneven.A compassref12_Uneven.code q.reverse [] (compassref12_Uneven.rq E K) F H) [0, 1, 0, 1, 1] [(1, .slice list1p list1n list1c), (2, .pointer (some ⟨g2, 0, none⟩)), (5, .slice out5p out5n out5c), (6, .int .i64 v6)] H) g0_Nodes g0_Edgesp g0_Edgesn g0_Edgesc list1p list1n list1c  E H K := by kernel_rfl
  exact nodeR_imp compassref12_Uneven.nok rfl ((k1 _).mpr (k2.mp h))
def compassref12_Uneven.j1_t  (list1p : Option Addr) (list1n : Nat) (list1c : Nat) (g2 : Nat) (out5p : Option Addr) (out5n : Nat) (out5c : Nat) (v6 : Int) (X1 : Fr → Hp → Prop) (E : Value → Hp → Prop) (H : Hp) (K : (Option Addr) → Nat → Nat → Hp → Prop) : Prop :=
  X1 (compassref12_Uneven.f1 list1p list1n list1c g2 out5p out5n out5c (IntKind.wrap .i64 (v6 + 1))) H
theorem compassref12_Uneven.j1_eq {list1p : Option Addr} {list1n : Nat} {list1c : Nat} {g2 : Nat} {out5p : Option Addr} {out5n : Nat} {out5c : Nat} {v6 : Int} {X1 : Fr → Hp → Prop} { E : Value → Hp → Prop} {H : Hp} {K : (Option Addr) → Nat → Nat → Hp → Prop} (h : compassref12_Uneven.j1_t  list1p list1n list1c g2 out5p out5n out5c v6 X1 E H K) : compassref12_Uneven.j1 list1p list1n list1c g2 out5p out5n out5c v6 X1 E H K := by
  have k1 : ∀ G : List Nat → Fr → Hp → Prop, nodeR P0 T0 compassref12_Uneven.A [[0, 1, 0, 1, 1], [1, 1, 0, 0, 1, 0, 1, 1]] G compassref12_Uneven.code [1, 1, 0, 1, 0, 0, 1, 1] [X1] (compassref12_Uneven.rq E K) [(1, .slice list1p list1n list1c), (2, .pointer (some ⟨g2, 0, none⟩)), (5, .slice out5p out5n out5c), (6, .int .i64 v6)] H = compassref12_Uneven.j1_t  list1p list1n list1c g2 out5p out5n out5c v6 X1 E H K := fun G => by kernel_rfl
  exact nodeR_imp compassref12_Uneven.nok rfl ((k1 _).mpr h)
def compassref12_Uneven.b1_t (j1 : (Option Addr) → Nat → Nat → Nat → (Option Addr) → Nat → Nat → Int → Hp → Prop) (list1p : Option Addr) (list1n : Nat) (list1c : Nat) (g2 : Nat) (out5p : Option Addr) (out5n : Nat) (out5c : Nat) (v6 : Int) (X1 : Fr → Hp → Prop) (E : Value → Hp → Prop) (H : Hp) (K : (Option Addr) → Nat → Nat → Hp → Prop) : Prop :=
  ldI .i64 (H.get g2 0) fun x_1 =>
  bcase (decide ((v6 : Int) < x_1)) (
  ldI .i64 (H.get g2 0) fun x_2 =>
  ldS (H.get g2 1) fun x_3p x_3n x_3c =>
  compassref12_At.call x_2 x_3p x_3n x_3c list1p list1n list1c v6 E H fun r_1 H_1 =>
  2 ≠ (0 : Int) ∧
  bcase (decide (((Int.tmod r_1 2) : Int) = 1)) (
  nw H_1 ⟨[.int .i64 v6], 3⟩ fun b_1 H_2 =>
  appM 3 [.i .i64] 8 out5p out5n out5c (some ⟨b_1, 0, none⟩) 1 H_2 fun a_1p a_1n a_1c H_3 =>
  j1 list1p list1n list1c g2 a_1p a_1n a_1c v6 H_3)
  (j1 list1p list1n list1c g2 out5p out5n out5c v6 H_1))
  (K out5p out5n out5c H)
theorem compassref12_Uneven.b1_eq {list1p : Option Addr} {list1n : Nat} {list1c : Nat} {g2 : Nat} {out5p : Option Addr} {out5n : Nat} {out5c : Nat} {v6 : Int} {X1 : Fr → Hp → Prop} { E : Value → Hp → Prop} {H : Hp} {K : (Option Addr) → Nat → Nat → Hp → Prop} (h : compassref12_Uneven.b1_t (fun list1p list1n list1c g2 out5p out5n out5c v6 H => compassref12_Uneven.j1 list1p list1n list1c g2 out5p out5n out5c v6 X1 E H K) list1p list1n list1c g2 out5p out5n out5c v6 X1 E H K) : compassref12_Uneven.b1 list1p list1n list1c g2 out5p out5n out5c v6 X1 E H K := by
  have k1 : ∀ G : List Nat → Fr → Hp → Prop, nodeR P0 T0 compassref12_Uneven.A [[0, 1, 0, 1, 1], [1, 1, 0, 0, 1, 0, 1, 1]] G compassref12_Uneven.code [1, 1, 0, 1, 0, 0] [X1] (compassref12_Uneven.rq E K) (compassref12_Uneven.f1 list1p list1n list1c g2 out5p out5n out5c v6) H = compassref12_Uneven.b1_t (fun list1p list1n list1c g2 out5p out5n out5c v6 H => G [1, 1, 0, 0, 1, 0, 1, 1] [(1, .slice list1p list1n list1c), (2, .pointer (some ⟨g2, 0, none⟩)), (5, .slice out5p out5n out5c), (6, .int .i64 v6)] H) list1p list1n list1c g2 out5p out5n out5c v6 X1 E H K := fun G => by kernel_rfl
  have k2 : compassref12_Uneven.b1_t (fun list1p list1n list1c g2 out5p out5n out5c v6 H => compassref12_Uneven.j1 list1p list1n list1c g2 out5p out5n out5c v6 X1 E H K) list1p list1n list1c g2 out5p out5n out5c v6 X1 E H K = compassref12_Uneven.b1_t (fun list1p list1n list1c g2 out5p out5n out5c v6 H => (fun q F H => nodeM P0 T0 compassref12_Uneven.A compassref12_Uneven.code q.reverse [X1] (compassref12_Uneven.rq E K) F H) [1, 1, 0, 0, 1, 0, 1, 1] [(1, .slice list1p list1n list1c), (2, .pointer (some ⟨g2, 0, none⟩)), (5, .slice out5p out5n out5c), (6, .int .i64 v6)] H) list1p list1n list1c g2 out5p out5n out5c v6 X1 E H K := by kernel_rfl
  exact nodeR_imp compassref12_Uneven.nok rfl ((k1 _).mpr (k2.mp h))
/-! ### compass/compassref12.Near (76) -/
/-! ### compass/compassref12.ints (81) -/
noncomputable def compassref12_ints.A : An := { live := [(0, [0, 1]), (1, [0, 1]), (2, []), (3, [0, 1]), (4, [0, 1, 5]), (5, [0, 1, 5]), (6, [0, 1, 5]), (7, []), (8, [])], ord := [(6, [0, 1, 2, 3, 4, 5, 6, 7, 8])], stb := [], pre := [(6, [[], [], [0, 1], [0, 1, 2], [], [], [4, 5], [4, 5, 6], [0, 1, 2, 3, 4, 5, 6, 7]])] }
noncomputable def compassref12_ints.code : Code := bodyOf Go.Proofs.Try.f81
theorem compassref12_ints.ok : okCode compassref12_ints.A 26 compassref12_ints.code = true := by kernel_rfl
def compassref12_ints.rq (E : Value → Hp → Prop) (K : Bool → Hp → Prop) : Ex → Fr → Hp → Prop := retQ T0 [.tmp 4] [4] (fun r H => ldR (.one false [.bool]) r fun u => K (asB u) H) E
def compassref12_ints.run (a0p : Option Addr) (a0n : Nat) (a0c : Nat) (b1p : Option Addr) (b1n : Nat) (b1c : Nat) (E : Value → Hp → Prop) (H : Hp) (K : Bool → Hp → Prop) : Prop := nodeM P0 T0 compassref12_ints.A compassref12_ints.code [] [] (compassref12_ints.rq E K) (argF 0 [.slice a0p a0n a0c, .slice b1p b1n b1c]) H
theorem compassref12_ints.of {a0p : Option Addr} {a0n : Nat} {a0c : Nat} {b1p : Option Addr} {b1n : Nat} {b1c : Nat} {E : Value → Hp → Prop} {H : Hp} {K : Bool → Hp → Prop} (h : compassref12_ints.run a0p a0n a0c b1p b1n b1c E H K) : compassref12_ints.call a0p a0n a0c b1p b1n b1c E H K :=
  callW_of T0_ok P0_mixed (A := compassref12_ints.A) (fn := Go.Proofs.Try.f81) Go.Proofs.Try.func81 rfl compassref12_ints.ok rfl h
noncomputable def compassref12_ints.f1 (a0p : Option Addr) (a0n : Nat) (a0c : Nat) (b1p : Option Addr) (b1n : Nat) (b1c : Nat) (i5 : Int) : Fr := [(0, .slice a0p a0n a0c), (1, .slice b1p b1n b1c), (5, .int .i64 i5)]
def compassref12_ints.l1 (a0p : Option Addr) (a0n : Nat) (a0c : Nat) (b1p : Option Addr) (b1n : Nat) (b1c : Nat) (i5 : Int)  (E : Value → Hp → Prop) (H : Hp) (K : Bool → Hp → Prop) : Prop := nodeM P0 T0 compassref12_ints.A compassref12_ints.code [1, 1, 0, 1, 0] [] (compassref12_ints.rq E K) (compassref12_ints.f1 a0p a0n a0c b1p b1n b1c i5) H
def compassref12_ints.b1 (a0p : Option Addr) (a0n : Nat) (a0c : Nat) (b1p : Option Addr) (b1n : Nat) (b1c : Nat) (i5 : Int)  (X1 : Fr → Hp → Prop) (E : Value → Hp → Prop) (H : Hp) (K : Bool → Hp → Prop) : Prop := nodeM P0 T0 compassref12_ints.A compassref12_ints.code [1, 1, 0, 1, 0, 0] [X1] (compassref12_ints.rq E K) (compassref12_ints.f1 a0p a0n a0c b1p b1n b1c i5) H
theorem compassref12_ints.l1_rule { E : Value → Hp → Prop} {K : Bool → Hp → Prop} (I : (Option Addr) → Nat → Nat → (Option Addr) → Nat → Nat → Int → Hp → Prop) (μ : (Option Addr) → Nat → Nat → (Option Addr) → Nat → Nat → Int → Hp → Nat)
    (h : ∀ a0p a0n a0c b1p b1n b1c i5 H, I a0p a0n a0c b1p b1n b1c i5 H → ∀ X : Fr → Hp → Prop, (∀ a0p' a0n' a0c' b1p' b1n' b1c' i5' H', I a0p' a0n' a0c' b1p' b1n' b1c' i5' H' → μ a0p' a0n' a0c' b1p' b1n' b1c' i5' H' < μ a0p a0n a0c b1p b1n b1c i5 H → X (compassref12_ints.f1 a0p' a0n' a0c' b1p' b1n' b1c' i5') H') → compassref12_ints.b1 a0p a0n a0c b1p b1n b1c i5  X E H K)
    {a0p : Option Addr} {a0n : Nat} {a0c : Nat} {b1p : Option Addr} {b1n : Nat} {b1c : Nat} {i5 : Int} {H : Hp} (hI : I a0p a0n a0c b1p b1n b1c i5 H) : compassref12_ints.l1 a0p a0n a0c b1p b1n b1c i5  E H K :=
  loop_rule (S := (Option Addr) × Nat × Nat × (Option Addr) × Nat × Nat × Int) (fun s => compassref12_ints.f1 (s.1) (s.2.1) (s.2.2.1) (s.2.2.2.1) (s.2.2.2.2.1) (s.2.2.2.2.2.1) (s.2.2.2.2.2.2)) (fun s H => I (s.1) (s.2.1) (s.2.2.1) (s.2.2.2.1) (s.2.2.2.2.1) (s.2.2.2.2.2.1) (s.2.2.2.2.2.2) H) (fun s H => μ (s.1) (s.2.1) (s.2.2.1) (s.2.2.2.1) (s.2.2.2.2.1) (s.2.2.2.2.2.1) (s.2.2.2.2.2.2) H) (fun s H hI X hX => h (s.1) (s.2.1) (s.2.2.1) (s.2.2.2.1) (s.2.2.2.2.1) (s.2.2.2.2.2.1) (s.2.2.2.2.2.2) H hI X fun a0p' a0n' a0c' b1p' b1n' b1c' i5' H' hI' hlt => hX (a0p', a0n', a0c', b1p', b1n', b1c', i5') H' hI' hlt) (s := (a0p, a0n, a0c, b1p, b1n, b1c, i5)) rfl hI
theorem compassref12_ints.nok : nodesOk compassref12_ints.code [[0, 1, 0, 1, 1]] = true := by kernel_rfl
def compassref12_ints.run_t (l1 : (Option Addr) → Nat → Nat → (Option Addr) → Nat → Nat → Int → Hp → Prop) (a0p : Option Addr) (a0n : Nat) (a0c : Nat) (b1p : Option Addr) (b1n : Nat) (b1c : Nat)  (E : Value → Hp → Prop) (H : Hp) (K : Bool → Hp → Prop) : Prop :=
  bcase (!decide (((a0n : Int) : Int) = (b1n : Int))) (
  K false H)
  (l1 a0p a0n a0c b1p b1n b1c 0 H)
theorem compassref12_ints.run_eq {a0p : Option Addr} {a0n : Nat} {a0c : Nat} {b1p : Option Addr} {b1n : Nat} {b1c : Nat} { E : Value → Hp → Prop} {H : Hp} {K : Bool → Hp → Prop} (h : compassref12_ints.run_t (fun a0p a0n a0c b1p b1n b1c i5 H => compassref12_ints.l1 a0p a0n a0c b1p b1n b1c i5  E H K) a0p a0n a0c b1p b1n b1c  E H K) : compassref12_ints.run a0p a0n a0c b1p b1n b1c  E H K := by
  have k1 : ∀ G : List Nat → Fr → Hp → Prop, nodeR P0 T0 compassref12_ints.A [[0, 1, 0, 1, 1]] G compassref12_ints.code [] [] (compassref12_ints.rq E K) (argF 0 [.slice a0p a0n a0c, .slice b1p b1n b1c]) H = compassref12_ints.run_t (fun a0p a0n a0c b1p b1n b1c i5 H => G [0, 1, 0, 1, 1] [(0, .slice a0p a0n a0c), (1, .slice b1p b1n b1c), (5, .int .i64 i5)] H) a0p a0n a0c b1p b1n b1c  E H K := fun G => by kernel_rfl
  have k2 : compassref12_ints.run_t (fun a0p a0n a0c b1p b1n b1c i5 H => compassref12_ints.l1 a0p a0n a0c b1p b1n b1c i5  E H K) a0p a0n a0c b1p b1n b1c  E H K = compassref12_ints.run_t (fun a0p a0n a0c b1p b1n b1c i5 H => (fun q F H => nodeM P0 T0 compassref12_ints.A compassref12_ints.code q.reverse [] (compassref12_ints.rq E K) F H) [0, 1, 0, 1, 1] [(0, .slice a0p a0n a0c), (1, .slice b1p b1n b1c), (5, .int .i64 i5)] H) a0p a0n a0c b1p b1n b1c  E H K := by kernel_rfl
  exact nodeR_imp compassref12_ints.nok rfl ((k1 _).mpr (k2.mp h))
def compassref12_ints.b1_t  (a0p : Option Addr) (a0n : Nat) (a0c : Nat) (b1p : Option Addr) (b1n : Nat) (b1c : Nat) (i5 : Int) (X1 : Fr → Hp → Prop) (E : Value → Hp → Prop) (H : Hp) (K : Bool → Hp → Prop) : Prop :=
  bcase (decide ((i5 : Int) < (a0n : Int))) (
  ix a0p a0n i5 1 fun b_1 o_1 =>
  ldI .i64 (H.get b_1 o_1) fun x_1 =>
  ix b1p b1n i5 1 fun b_2 o_2 =>
  ldI .i64 (H.get b_2 o_2) fun x_2 =>
  bcase (!decide ((x_1 : Int) = x_2)) (
  K false H)
  (X1 (compassref12_ints.f1 a0p a0n a0c b1p b1n b1c (IntKind.wrap .i64 (i5 + 1))) H))
  (K true H)
theorem compassref12_ints.b1_eq {a0p : Option Addr} {a0n : Nat} {a0c : Nat} {b1p : Option Addr} {b1n : Nat} {b1c : Nat} {i5 : Int} {X1 : Fr → Hp → Prop} { E : Value → Hp → Prop} {H : Hp} {K : Bool → Hp → Prop} (h : compassref12_ints.b1_t  a0p a0n a0c b1p b1n b1c i5 X1 E H K) : compassref12_ints.b1 a0p a0n a0c b1p b1n b1c i5 X1 E H K := by
  have k1 : ∀ G : List Nat → Fr → Hp → Prop, nodeR P0 T0 compassref12_ints.A [[0, 1, 0, 1, 1]] G compassref12_ints.code [1, 1, 0, 1, 0, 0] [X1] (compassref12_ints.rq E K) (compassref12_ints.f1 a0p a0n a0c b1p b1n b1c i5) H = compassref12_ints.b1_t  a0p a0n a0c b1p b1n b1c i5 X1 E H K := fun G => by kernel_rfl
  exact nodeR_imp compassref12_ints.nok rfl ((k1 _).mpr h)
end Go.Mz
