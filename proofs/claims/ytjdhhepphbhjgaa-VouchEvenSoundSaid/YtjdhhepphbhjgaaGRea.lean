/-
  The shallow texts of functions (Rea), each with a kernel-checked equation to the translated code. It proves nothing of the program by itself.
-/
import Derived.Test.YtjdhhepphbhjgaaTab
set_option linter.unusedVariables false
set_option maxRecDepth 100000
namespace Go.Mz
/-! ### compass/compassref12.Matching (33) -/
/-! ### compass/compassref12.Cost (34) -/
noncomputable def compassref12_Cost.A : An := { live := [(0, [0, 1]), (1, [1, 2]), (2, [1, 2, 5]), (3, [1, 2, 5, 6]), (4, [1, 2, 5, 6]), (5, [1, 2, 5, 6]), (6, [5])], ord := [(5, [0, 1, 2, 3, 4, 5, 6, 7, 8, 9, 10, 11])], stb := [], pre := [(5, [[], [], [1], [], [], [3, 4], [3, 4, 5], [1, 2, 3, 4, 5, 6], [1, 2, 3, 4, 5, 6, 7], [1, 2, 3, 4, 5, 6, 7, 8], [0, 1, 2, 3, 4, 5, 6, 7, 8, 9], [0, 1, 2, 3, 4, 5, 6, 7, 8, 9, 10]])] }
noncomputable def compassref12_Cost.code : Code := bodyOf Go.Proofs.Try.f34
theorem compassref12_Cost.ok : okCode compassref12_Cost.A 25 compassref12_Cost.code = true := by kernel_rfl
def compassref12_Cost.rq (E : Value → Hp → Prop) (K : Int → Hp → Prop) : Ex → Fr → Hp → Prop := retQ T0 [.tmp 4] [2] (fun r H => ldR (.one false [.i .i64]) r fun u => K (asI u) H) E
def compassref12_Cost.run (g0_Nodes : Int) (g0_Edgesp : Option Addr) (g0_Edgesn : Nat) (g0_Edgesc : Nat) (m1p : Option Addr) (m1n : Nat) (m1c : Nat) (E : Value → Hp → Prop) (H : Hp) (K : Int → Hp → Prop) : Prop := nodeM P0 T0 compassref12_Cost.A compassref12_Cost.code [] [] (compassref12_Cost.rq E K) (argF 0 [.agg ⟨[.int .i64 g0_Nodes, .slice g0_Edgesp g0_Edgesn g0_Edgesc]⟩, .slice m1p m1n m1c]) H
theorem compassref12_Cost.of {g0_Nodes : Int} {g0_Edgesp : Option Addr} {g0_Edgesn : Nat} {g0_Edgesc : Nat} {m1p : Option Addr} {m1n : Nat} {m1c : Nat} {E : Value → Hp → Prop} {H : Hp} {K : Int → Hp → Prop} (h : compassref12_Cost.run g0_Nodes g0_Edgesp g0_Edgesn g0_Edgesc m1p m1n m1c E H K) : compassref12_Cost.call g0_Nodes g0_Edgesp g0_Edgesn g0_Edgesc m1p m1n m1c E H K :=
  callW_of T0_ok P0_mixed (A := compassref12_Cost.A) (fn := Go.Proofs.Try.f34) Go.Proofs.Try.func34 rfl compassref12_Cost.ok rfl h
noncomputable def compassref12_Cost.f1 (m1p : Option Addr) (m1n : Nat) (m1c : Nat) (g2 : Nat) (n5 : Int) (i6 : Int) : Fr := [(1, .slice m1p m1n m1c), (2, .pointer (some ⟨g2, 0, none⟩)), (5, .int .i64 n5), (6, .int .i64 i6)]
def compassref12_Cost.l1 (m1p : Option Addr) (m1n : Nat) (m1c : Nat) (g2 : Nat) (n5 : Int) (i6 : Int)  (E : Value → Hp → Prop) (H : Hp) (K : Int → Hp → Prop) : Prop := nodeM P0 T0 compassref12_Cost.A compassref12_Cost.code [1, 1, 0, 1, 0] [] (compassref12_Cost.rq E K) (compassref12_Cost.f1 m1p m1n m1c g2 n5 i6) H
def compassref12_Cost.b1 (m1p : Option Addr) (m1n : Nat) (m1c : Nat) (g2 : Nat) (n5 : Int) (i6 : Int)  (X1 : Fr → Hp → Prop) (E : Value → Hp → Prop) (H : Hp) (K : Int → Hp → Prop) : Prop := nodeM P0 T0 compassref12_Cost.A compassref12_Cost.code [1, 1, 0, 1, 0, 0] [X1] (compassref12_Cost.rq E K) (compassref12_Cost.f1 m1p m1n m1c g2 n5 i6) H
theorem compassref12_Cost.l1_rule { E : Value → Hp → Prop} {K : Int → Hp → Prop} (I : (Option Addr) → Nat → Nat → Nat → Int → Int → Hp → Prop) (μ : (Option Addr) → Nat → Nat → Nat → Int → Int → Hp → Nat)
    (h : ∀ m1p m1n m1c g2 n5 i6 H, I m1p m1n m1c g2 n5 i6 H → ∀ X : Fr → Hp → Prop, (∀ m1p' m1n' m1c' g2' n5' i6' H', I m1p' m1n' m1c' g2' n5' i6' H' → μ m1p' m1n' m1c' g2' n5' i6' H' < μ m1p m1n m1c g2 n5 i6 H → X (compassref12_Cost.f1 m1p' m1n' m1c' g2' n5' i6') H') → compassref12_Cost.b1 m1p m1n m1c g2 n5 i6  X E H K)
    {m1p : Option Addr} {m1n : Nat} {m1c : Nat} {g2 : Nat} {n5 : Int} {i6 : Int} {H : Hp} (hI : I m1p m1n m1c g2 n5 i6 H) : compassref12_Cost.l1 m1p m1n m1c g2 n5 i6  E H K :=
  loop_rule (S := (Option Addr) × Nat × Nat × Nat × Int × Int) (fun s => compassref12_Cost.f1 (s.1) (s.2.1) (s.2.2.1) (s.2.2.2.1) (s.2.2.2.2.1) (s.2.2.2.2.2)) (fun s H => I (s.1) (s.2.1) (s.2.2.1) (s.2.2.2.1) (s.2.2.2.2.1) (s.2.2.2.2.2) H) (fun s H => μ (s.1) (s.2.1) (s.2.2.1) (s.2.2.2.1) (s.2.2.2.2.1) (s.2.2.2.2.2) H) (fun s H hI X hX => h (s.1) (s.2.1) (s.2.2.1) (s.2.2.2.1) (s.2.2.2.2.1) (s.2.2.2.2.2) H hI X fun m1p' m1n' m1c' g2' n5' i6' H' hI' hlt => hX (m1p', m1n', m1c', g2', n5', i6') H' hI' hlt) (s := (m1p, m1n, m1c, g2, n5, i6)) rfl hI
theorem compassref12_Cost.nok : nodesOk compassref12_Cost.code [[0, 1, 0, 1, 1]] = true := by kernel_rfl
def compassref12_Cost.run_t (l1 : (Option Addr) → Nat → Nat → Nat → Int → Int → Hp → Prop) (g0_Nodes : Int) (g0_Edgesp : Option Addr) (g0_Edgesn : Nat) (g0_Edgesc : Nat) (m1p : Option Addr) (m1n : Nat) (m1c : Nat)  (E : Value → Hp → Prop) (H : Hp) (K : Int → Hp → Prop) : Prop :=
  nw H ⟨[.int .i64 g0_Nodes, .slice g0_Edgesp g0_Edgesn g0_Edgesc], 24⟩ fun b_1 H_1 =>
  l1 m1p m1n m1c b_1 0 0 H_1
theorem compassref12_Cost.run_eq {g0_Nodes : Int} {g0_Edgesp : Option Addr} {g0_Edgesn : Nat} {g0_Edgesc : Nat} {m1p : Option Addr} {m1n : Nat} {m1c : Nat} { E : Value → Hp → Prop} {H : Hp} {K : Int → Hp → Prop} (h : compassref12_Cost.run_t (fun m1p m1n m1c g2 n5 i6 H => compassref12_Cost.l1 m1p m1n m1c g2 n5 i6  E H K) g0_Nodes g0_Edgesp g0_Edgesn g0_Edgesc m1p m1n m1c  E H K) : compassref12_Cost.run g0_Nodes g0_Edgesp g0_Edgesn g0_Edgesc m1p m1n m1c  E H K := by
  have k1 : ∀ G : List Nat → Fr → Hp → Prop, nodeR P0 T0 compassref12_Cost.A [[0, 1, 0, 1, 1]] G compassref12_Cost.code [] [] (compassref12_Cost.rq E K) (argF 0 [.agg ⟨[.int .i64 g0_Nodes, .slice g0_Edgesp g0_Edgesn g0_Edgesc]⟩, .slice m1p m1n m1c]) H = compassref12_Cost.run_t (fun m1p m1n m1c g2 n5 i6 H => G [0, 1, 0, 1, 1] [(1, .slice m1p m1n m1c), (2, .pointer (some ⟨g2, 0, none⟩)), (5, .int .i64 n5), (6, .int .i64 i6)] H) g0_Nodes g0_Edgesp g0_Edgesn g0_Edgesc m1p m1n m1c  E H K := fun G => by kernel_rfl
  have k2 : compassref12_Cost.run_t (fun m1p m1n m1c g2 n5 i6 H => compassref12_Cost.l1 m1p m1n m1c g2 n5 i6  E H K) g0_Nodes g0_Edgesp g0_Edgesn g0_Edgesc m1p m1n m1c  E H K = compassref12_Cost.run_t (fun m1p m1n m1c g2 n5 i6 H => (fun q F H => nodeM P0 T0 compassref12_Cost.A compassref12_Cost.code q.reverse [] (compassref12_Cost.rq E K) F H) [0, 1, 0, 1, 1] [(1, .slice m1p m1n m1c), (2, .pointer (some ⟨g2, 0, none⟩)), (5, .int .i64 n5), (6, .int .i64 i6)] H) g0_Nodes g0_Edgesp g0_Edgesn g0_Edgesc m1p m1n m1c  E H K := by kernel_rfl
  exact nodeR_imp compassref12_Cost.nok rfl ((k1 _).mpr (k2.mp h))
def compassref12_Cost.b1_t  (m1p : Option Addr) (m1n : Nat) (m1c : Nat) (g2 : Nat) (n5 : Int) (i6 : Int) (X1 : Fr → Hp → Prop) (E : Value → Hp → Prop) (H : Hp) (K : Int → Hp → Prop) : Prop :=
  bcase (decide ((i6 : Int) < (m1n : Int))) (
  ldS (H.get g2 1) fun x_1p x_1n x_1c =>
  ix m1p m1n i6 1 fun b_1 o_1 =>
  ldI .i64 (H.get b_1 o_1) fun x_2 =>
  ix x_1p x_1n x_2 4 fun b_2 o_2 =>
  ldI .i64 (H.get b_2 (o_2 + 3)) fun x_3 =>
  X1 (compassref12_Cost.f1 m1p m1n m1c g2 (IntKind.wrap .i64 (n5 + x_3)) (IntKind.wrap .i64 (i6 + 1))) H)
  (K n5 H)
theorem compassref12_Cost.b1_eq {m1p : Option Addr} {m1n : Nat} {m1c : Nat} {g2 : Nat} {n5 : Int} {i6 : Int} {X1 : Fr → Hp → Prop} { E : Value → Hp → Prop} {H : Hp} {K : Int → Hp → Prop} (h : compassref12_Cost.b1_t  m1p m1n m1c g2 n5 i6 X1 E H K) : compassref12_Cost.b1 m1p m1n m1c g2 n5 i6 X1 E H K := by
  have k1 : ∀ G : List Nat → Fr → Hp → Prop, nodeR P0 T0 compassref12_Cost.A [[0, 1, 0, 1, 1]] G compassref12_Cost.code [1, 1, 0, 1, 0, 0] [X1] (compassref12_Cost.rq E K) (compassref12_Cost.f1 m1p m1n m1c g2 n5 i6) H = compassref12_Cost.b1_t  m1p m1n m1c g2 n5 i6 X1 E H K := fun G => by kernel_rfl
  exact nodeR_imp compassref12_Cost.nok rfl ((k1 _).mpr h)
/-! ### compass/compassref12.Taken (35) -/
/-! ### compass/compassref03.Check (38) -/
/-! ### compass/compassref11.Costs (46) -/
/-! ### compass/compassref12.Rising (55) -/
noncomputable def compassref12_Rising.A : An := { live := [(0, [0, 1]), (1, [0, 1]), (2, [0, 1, 5]), (3, [0, 1, 5]), (4, [0, 1, 5]), (5, []), (6, [])], ord := [(4, [0, 1, 2, 3, 4, 5, 6, 7, 8, 9, 10, 11, 12, 13, 14, 15, 16, 17, 18, 19, 20, 21, 22, 23, 24, 25, 26, 27, 28])], stb := [], pre := [(4, [[], [], [0, 1], [0, 1, 2], [0, 1, 2, 3], [0, 1, 2, 3, 4], [0, 1, 2, 3, 4, 5], [0, 1, 2, 3, 4, 5], [0, 1, 2, 3, 4, 5, 6, 7], [0, 1, 2, 3, 4, 5, 6, 7, 8], [0, 1, 2, 3, 4, 5], [0, 1, 2, 3, 4, 5, 6, 7, 8, 9, 10], [0, 1, 2, 3, 4, 5, 6, 7, 8, 9, 10, 11], [0, 1, 2, 3, 4, 5, 6, 7, 8, 9, 10, 11, 12], [0, 1, 2, 3, 4, 5, 6, 7, 8, 9, 10, 11, 12, 13], [0, 1, 2, 3, 4, 5, 6, 7, 8, 9, 10, 11, 12, 13, 14], [0, 1, 2, 3, 4, 5, 6, 7, 8, 9, 10, 11, 12, 13, 14, 15], [0, 1, 2, 3, 4, 5, 6, 7, 8, 9, 10, 11, 12, 13, 14, 15, 16], [0, 1, 2, 3, 4, 5, 6, 7, 8, 9, 10, 11, 12, 13, 14, 15, 16], [0, 1, 2, 3, 4, 5, 6, 7, 8, 9, 10, 11, 12, 13, 14, 15, 16, 17, 18], [0, 1, 2, 3, 4, 5, 6, 7, 8, 9, 10, 11, 12, 13, 14, 15, 16, 17, 18, 19], [0, 1, 2, 3, 4, 5, 6, 7, 8, 9, 10, 11, 12, 13, 14, 15, 16], [0, 1, 2, 3, 4, 5, 6, 7, 8, 9, 10, 11, 12, 13, 14, 15, 16], [0, 1, 2, 3, 4, 5, 6, 7, 8, 9, 10, 11, 12, 13, 14, 15, 16, 22], [0, 1, 2, 3, 4, 5, 6, 7, 8, 9, 10, 11, 12, 13, 14, 15, 16, 21, 22, 23], [0, 1, 2, 3, 4, 5, 6, 7, 8, 9, 10, 11, 12, 13, 14, 15, 16, 21, 22, 23, 24], [0, 1, 2, 3, 4, 5, 6, 7, 8, 9, 10, 11, 12, 13, 14, 15, 16, 17, 18, 19, 20, 21, 22, 23, 24, 25], [0, 1, 2, 3, 4, 5, 6, 7, 8, 9, 10, 11, 12, 13, 14, 15, 16, 17, 18, 19, 20, 21, 22, 23, 24, 25, 26], [0, 1, 2, 3, 4, 5, 6, 7, 8, 9, 10, 11, 12, 13, 14, 15, 16, 17, 18, 19, 20, 21, 22, 23, 24, 25, 26, 27]])] }
noncomputable def compassref12_Rising.code : Code := bodyOf Go.Proofs.Try.f55
theorem compassref12_Rising.ok : okCode compassref12_Rising.A 41 compassref12_Rising.code = true := by kernel_rfl
def compassref12_Rising.rq (E : Value → Hp → Prop) (K : Bool → Hp → Prop) : Ex → Fr → Hp → Prop := retQ T0 [.tmp 4] [4] (fun r H => ldR (.one false [.bool]) r fun u => K (asB u) H) E
def compassref12_Rising.run (list0p : Option Addr) (list0n : Nat) (list0c : Nat) (n1 : Int) (E : Value → Hp → Prop) (H : Hp) (K : Bool → Hp → Prop) : Prop := nodeM P0 T0 compassref12_Rising.A compassref12_Rising.code [] [] (compassref12_Rising.rq E K) (argF 0 [.slice list0p list0n list0c, .int .i64 n1]) H
theorem compassref12_Rising.of {list0p : Option Addr} {list0n : Nat} {list0c : Nat} {n1 : Int} {E : Value → Hp → Prop} {H : Hp} {K : Bool → Hp → Prop} (h : compassref12_Rising.run list0p list0n list0c n1 E H K) : compassref12_Rising.call list0p list0n list0c n1 E H K :=
  callW_of T0_ok P0_mixed (A := compassref12_Rising.A) (fn := Go.Proofs.Try.f55) Go.Proofs.Try.func55 rfl compassref12_Rising.ok rfl h
noncomputable def compassref12_Rising.f1 (list0p : Option Addr) (list0n : Nat) (list0c : Nat) (n1 : Int) (i5 : Int) : Fr := [(0, .slice list0p list0n list0c), (1, .int .i64 n1), (5, .int .i64 i5)]
def compassref12_Rising.j1 (list0p : Option Addr) (list0n : Nat) (list0c : Nat) (n1 : Int) (i5 : Int) (X1 : Fr → Hp → Prop) (E : Value → Hp → Prop) (H : Hp) (K : Bool → Hp → Prop) : Prop := nodeM P0 T0 compassref12_Rising.A compassref12_Rising.code [1, 0, 1, 0, 0, 1, 1] [X1] (compassref12_Rising.rq E K) [(0, .slice list0p list0n list0c), (1, .int .i64 n1), (5, .int .i64 i5)] H
def compassref12_Rising.l1 (list0p : Option Addr) (list0n : Nat) (list0c : Nat) (n1 : Int) (i5 : Int)  (E : Value → Hp → Prop) (H : Hp) (K : Bool → Hp → Prop) : Prop := nodeM P0 T0 compassref12_Rising.A compassref12_Rising.code [1, 0, 1, 0] [] (compassref12_Rising.rq E K) (compassref12_Rising.f1 list0p list0n list0c n1 i5) H
def compassref12_Rising.b1 (list0p : Option Addr) (list0n : Nat) (list0c : Nat) (n1 : Int) (i5 : Int)  (X1 : Fr → Hp → Prop) (E : Value → Hp → Prop) (H : Hp) (K : Bool → Hp → Prop) : Prop := nodeM P0 T0 compassref12_Rising.A compassref12_Rising.code [1, 0, 1, 0, 0] [X1] (compassref12_Rising.rq E K) (compassref12_Rising.f1 list0p list0n list0c n1 i5) H
theorem compassref12_Rising.l1_rule { E : Value → Hp → Prop} {K : Bool → Hp → Prop} (I : (Option Addr) → Nat → Nat → Int → Int → Hp → Prop) (μ : (Option Addr) → Nat → Nat → Int → Int → Hp → Nat)
    (h : ∀ list0p list0n list0c n1 i5 H, I list0p list0n list0c n1 i5 H → ∀ X : Fr → Hp → Prop, (∀ list0p' list0n' list0c' n1' i5' H', I list0p' list0n' list0c' n1' i5' H' → μ list0p' list0n' list0c' n1' i5' H' < μ list0p list0n list0c n1 i5 H → X (compassref12_Rising.f1 list0p' list0n' list0c' n1' i5') H') → compassref12_Rising.b1 list0p list0n list0c n1 i5  X E H K)
    {list0p : Option Addr} {list0n : Nat} {list0c : Nat} {n1 : Int} {i5 : Int} {H : Hp} (hI : I list0p list0n list0c n1 i5 H) : compassref12_Rising.l1 list0p list0n list0c n1 i5  E H K :=
  loop_rule (S := (Option Addr) × Nat × Nat × Int × Int) (fun s => compassref12_Rising.f1 (s.1) (s.2.1) (s.2.2.1) (s.2.2.2.1) (s.2.2.2.2)) (fun s H => I (s.1) (s.2.1) (s.2.2.1) (s.2.2.2.1) (s.2.2.2.2) H) (fun s H => μ (s.1) (s.2.1) (s.2.2.1) (s.2.2.2.1) (s.2.2.2.2) H) (fun s H hI X hX => h (s.1) (s.2.1) (s.2.2.1) (s.2.2.2.1) (s.2.2.2.2) H hI X fun list0p' list0n' list0c' n1' i5' H' hI' hlt => hX (list0p', list0n', list0c', n1', i5') H' hI' hlt) (s := (list0p, list0n, list0c, n1, i5)) rfl hI
theorem compassref12_Rising.nok : nodesOk compassref12_Rising.code [[0, 1, 0, 1], [1, 1, 0, 0, 1, 0, 1]] = true := by kernel_rfl
def compassref12_Rising.run_t (l1 : (Option Addr) → Nat → Nat → Int → Int → Hp → Prop) (list0p : Option Addr) (list0n : Nat) (list0c : Nat) (n1 : Int)  (E : Value → Hp → Prop) (H : Hp) (K : Bool → Hp → Prop) : Prop :=
  l1 list0p list0n list0c n1 0 H
theorem compassref12_Rising.run_eq {list0p : Option Addr} {list0n : Nat} {list0c : Nat} {n1 : Int} { E : Value → Hp → Prop} {H : Hp} {K : Bool → Hp → Prop} (h : compassref12_Rising.run_t (fun list0p list0n list0c n1 i5 H => compassref12_Rising.l1 list0p list0n list0c n1 i5  E H K) list0p list0n list0c n1  E H K) : compassref12_Rising.run list0p list0n list0c n1  E H K := by
  have k1 : ∀ G : List Nat → Fr → Hp → Prop, nodeR P0 T0 compassref12_Rising.A [[0, 1, 0, 1], [1, 1, 0, 0, 1, 0, 1]] G compassref12_Rising.code [] [] (compassref12_Rising.rq E K) (argF 0 [.slice list0p list0n list0c, .int .i64 n1]) H = compassref12_Rising.run_t (fun list0p list0n list0c n1 i5 H => G [0, 1, 0, 1] [(0, .slice list0p list0n list0c), (1, .int .i64 n1), (5, .int .i64 i5)] H) list0p list0n list0c n1  E H K := fun G => by kernel_rfl
  have k2 : compassref12_Rising.run_t (fun list0p list0n list0c n1 i5 H => compassref12_Rising.l1 list0p list0n list0c n1 i5  E H K) list0p list0n list0c n1  E H K = compassref12_Rising.run_t (fun list0p list0n list0c n1 i5 H => (fun q F H => nodeM P0 T0 compassref12_Rising.A compassref12_Rising.code q.reverse [] (compassref12_Rising.rq E K) F H) [0, 1, 0, 1] [(0, .slice list0p list0n list0c), (1, .int .i64 n1), (5, .int .i64 i5)] H) list0p list0n list0c n1  E H K := by kernel_rfl
  exact nodeR_imp compassref12_Rising.nok rfl ((k1 _).mpr (k2.mp h))
def compassref12_Rising.j1_t  (list0p : Option Addr) (list0n : Nat) (list0c : Nat) (n1 : Int) (i5 : Int) (X1 : Fr → Hp → Prop) (E : Value → Hp → Prop) (H : Hp) (K : Bool → Hp → Prop) : Prop :=
  X1 (compassref12_Rising.f1 list0p list0n list0c n1 (IntKind.wrap .i64 (i5 + 1))) H
theorem compassref12_Rising.j1_eq {list0p : Option Addr} {list0n : Nat} {list0c : Nat} {n1 : Int} {i5 : Int} {X1 : Fr → Hp → Prop} { E : Value → Hp → Prop} {H : Hp} {K : Bool → Hp → Prop} (h : compassref12_Rising.j1_t  list0p list0n list0c n1 i5 X1 E H K) : compassref12_Rising.j1 list0p list0n list0c n1 i5 X1 E H K := by
  have k1 : ∀ G : List Nat → Fr → Hp → Prop, nodeR P0 T0 compassref12_Rising.A [[0, 1, 0, 1], [1, 1, 0, 0, 1, 0, 1]] G compassref12_Rising.code [1, 0, 1, 0, 0, 1, 1] [X1] (compassref12_Rising.rq E K) [(0, .slice list0p list0n list0c), (1, .int .i64 n1), (5, .int .i64 i5)] H = compassref12_Rising.j1_t  list0p list0n list0c n1 i5 X1 E H K := fun G => by kernel_rfl
  exact nodeR_imp compassref12_Rising.nok rfl ((k1 _).mpr h)
def compassref12_Rising.b1_t (j1 : (Option Addr) → Nat → Nat → Int → Int → Hp → Prop) (list0p : Option Addr) (list0n : Nat) (list0c : Nat) (n1 : Int) (i5 : Int) (X1 : Fr → Hp → Prop) (E : Value → Hp → Prop) (H : Hp) (K : Bool → Hp → Prop) : Prop :=
  bcase (decide ((i5 : Int) < (list0n : Int))) (
  ix list0p list0n i5 1 fun b_1 o_1 =>
  ldI .i64 (H.get b_1 o_1) fun x_1 =>
  bcase (decide ((x_1 : Int) < 0)) (
  K false H)
  (ix list0p list0n i5 1 fun b_2 o_2 =>
  ldI .i64 (H.get b_2 o_2) fun x_2 =>
  bcase (decide ((n1 : Int) ≤ x_2)) (
  K false H)
  (bcase (decide ((0 : Int) < i5)) (
  ix list0p list0n i5 1 fun b_3 o_3 =>
  ldI .i64 (H.get b_3 o_3) fun x_3 =>
  ix list0p list0n (IntKind.wrap .i64 (i5 - 1)) 1 fun b_4 o_4 =>
  ldI .i64 (H.get b_4 o_4) fun x_4 =>
  bcase (decide ((x_3 : Int) ≤ x_4)) (
  K false H)
  (j1 list0p list0n list0c n1 i5 H))
  (j1 list0p list0n list0c n1 i5 H))))
  (K true H)
theorem compassref12_Rising.b1_eq {list0p : Option Addr} {list0n : Nat} {list0c : Nat} {n1 : Int} {i5 : Int} {X1 : Fr → Hp → Prop} { E : Value → Hp → Prop} {H : Hp} {K : Bool → Hp → Prop} (h : compassref12_Rising.b1_t (fun list0p list0n list0c n1 i5 H => compassref12_Rising.j1 list0p list0n list0c n1 i5 X1 E H K) list0p list0n list0c n1 i5 X1 E H K) : compassref12_Rising.b1 list0p list0n list0c n1 i5 X1 E H K := by
  have k1 : ∀ G : List Nat → Fr → Hp → Prop, nodeR P0 T0 compassref12_Rising.A [[0, 1, 0, 1], [1, 1, 0, 0, 1, 0, 1]] G compassref12_Rising.code [1, 0, 1, 0, 0] [X1] (compassref12_Rising.rq E K) (compassref12_Rising.f1 list0p list0n list0c n1 i5) H = compassref12_Rising.b1_t (fun list0p list0n list0c n1 i5 H => G [1, 1, 0, 0, 1, 0, 1] [(0, .slice list0p list0n list0c), (1, .int .i64 n1), (5, .int .i64 i5)] H) list0p list0n list0c n1 i5 X1 E H K := fun G => by kernel_rfl
  have k2 : compassref12_Rising.b1_t (fun list0p list0n list0c n1 i5 H => compassref12_Rising.j1 list0p list0n list0c n1 i5 X1 E H K) list0p list0n list0c n1 i5 X1 E H K = compassref12_Rising.b1_t (fun list0p list0n list0c n1 i5 H => (fun q F H => nodeM P0 T0 compassref12_Rising.A compassref12_Rising.code q.reverse [X1] (compassref12_Rising.rq E K) F H) [1, 1, 0, 0, 1, 0, 1] [(0, .slice list0p list0n list0c), (1, .int .i64 n1), (5, .int .i64 i5)] H) list0p list0n list0c n1 i5 X1 E H K := by kernel_rfl
  exact nodeR_imp compassref12_Rising.nok rfl ((k1 _).mpr (k2.mp h))
/-! ### compass/compassref12.Matches (79) -/
/-! ### compass/compassref12.At (80) -/
noncomputable def compassref12_At.A : An := { live := [(0, [0, 1, 2]), (1, [1, 2, 3]), (2, [1, 2, 3, 7]), (3, [1, 2, 3, 7, 8]), (4, [1, 2, 3, 7, 8]), (5, [1, 2, 3, 7, 8]), (6, [1, 2, 3, 7, 8]), (7, [1, 2, 3, 7, 8]), (8, [1, 2, 3, 7, 8]), (9, [7])], ord := [(5, [0, 1, 2, 3, 4, 5, 6, 7, 8, 9, 10]), (7, [0, 1, 2, 3, 4, 5, 6, 7, 8, 9, 10])], stb := [], pre := [(5, [[], [0], [], [], [2, 3], [2, 3, 4], [0, 1, 2, 3, 4, 5], [0, 1, 2, 3, 4, 5, 6], [0, 1, 2, 3, 4, 5, 6, 7], [], [0, 1, 2, 3, 4, 5, 6, 7, 8, 9]]), (7, [[], [0], [], [], [2, 3], [2, 3, 4], [0, 1, 2, 3, 4, 5], [0, 1, 2, 3, 4, 5, 6], [0, 1, 2, 3, 4, 5, 6, 7], [], [0, 1, 2, 3, 4, 5, 6, 7, 8, 9]])] }
noncomputable def compassref12_At.code : Code := bodyOf Go.Proofs.Try.f80
theorem compassref12_At.ok : okCode compassref12_At.A 42 compassref12_At.code = true := by kernel_rfl
def compassref12_At.rq (E : Value → Hp → Prop) (K : Int → Hp → Prop) : Ex → Fr → Hp → Prop := retQ T0 [.tmp 6] [3] (fun r H => ldR (.one false [.i .i64]) r fun u => K (asI u) H) E
def compassref12_At.run (g0_Nodes : Int) (g0_Edgesp : Option Addr) (g0_Edgesn : Nat) (g0_Edgesc : Nat) (list1p : Option Addr) (list1n : Nat) (list1c : Nat) (v2 : Int) (E : Value → Hp → Prop) (H : Hp) (K : Int → Hp → Prop) : Prop := nodeM P0 T0 compassref12_At.A compassref12_At.code [] [] (compassref12_At.rq E K) (argF 0 [.agg ⟨[.int .i64 g0_Nodes, .slice g0_Edgesp g0_Edgesn g0_Edgesc]⟩, .slice list1p list1n list1c, .int .i64 v2]) H
theorem compassref12_At.of {g0_Nodes : Int} {g0_Edgesp : Option Addr} {g0_Edgesn : Nat} {g0_Edgesc : Nat} {list1p : Option Addr} {list1n : Nat} {list1c : Nat} {v2 : Int} {E : Value → Hp → Prop} {H : Hp} {K : Int → Hp → Prop} (h : compassref12_At.run g0_Nodes g0_Edgesp g0_Edgesn g0_Edgesc list1p list1n list1c v2 E H K) : compassref12_At.call g0_Nodes g0_Edgesp g0_Edgesn g0_Edgesc list1p list1n list1c v2 E H K :=
  callW_of T0_ok P0_mixed (A := compassref12_At.A) (fn := Go.Proofs.Try.f80) Go.Proofs.Try.func80 rfl compassref12_At.ok rfl h
noncomputable def compassref12_At.f1 (list1p : Option Addr) (list1n : Nat) (list1c : Nat) (v2 : Int) (g3 : Nat) (n7 : Int) (i8 : Int) : Fr := [(1, .slice list1p list1n list1c), (2, .int .i64 v2), (3, .pointer (some ⟨g3, 0, none⟩)), (7, .int .i64 n7), (8, .int .i64 i8)]
def compassref12_At.j1 (list1p : Option Addr) (list1n : Nat) (list1c : Nat) (v2 : Int) (g3 : Nat) (n7 : Int) (i8 : Int) (X1 : Fr → Hp → Prop) (E : Value → Hp → Prop) (H : Hp) (K : Int → Hp → Prop) : Prop := nodeM P0 T0 compassref12_At.A compassref12_At.code [1, 1, 0, 1, 0, 0, 1, 0, 0, 1] [X1] (compassref12_At.rq E K) [(1, .slice list1p list1n list1c), (2, .int .i64 v2), (3, .pointer (some ⟨g3, 0, none⟩)), (7, .int .i64 n7), (8, .int .i64 i8)] H
def compassref12_At.j2 (list1p : Option Addr) (list1n : Nat) (list1c : Nat) (v2 : Int) (g3 : Nat) (n7 : Int) (i8 : Int) (X1 : Fr → Hp → Prop) (E : Value → Hp → Prop) (H : Hp) (K : Int → Hp → Prop) : Prop := nodeM P0 T0 compassref12_At.A compassref12_At.code [1, 1, 0, 1, 0, 0, 1, 1] [X1] (compassref12_At.rq E K) [(1, .slice list1p list1n list1c), (2, .int .i64 v2), (3, .pointer (some ⟨g3, 0, none⟩)), (7, .int .i64 n7), (8, .int .i64 i8)] H
def compassref12_At.l1 (list1p : Option Addr) (list1n : Nat) (list1c : Nat) (v2 : Int) (g3 : Nat) (n7 : Int) (i8 : Int)  (E : Value → Hp → Prop) (H : Hp) (K : Int → Hp → Prop) : Prop := nodeM P0 T0 compassref12_At.A compassref12_At.code [1, 1, 0, 1, 0] [] (compassref12_At.rq E K) (compassref12_At.f1 list1p list1n list1c v2 g3 n7 i8) H
def compassref12_At.b1 (list1p : Option Addr) (list1n : Nat) (list1c : Nat) (v2 : Int) (g3 : Nat) (n7 : Int) (i8 : Int)  (X1 : Fr → Hp → Prop) (E : Value → Hp → Prop) (H : Hp) (K : Int → Hp → Prop) : Prop := nodeM P0 T0 compassref12_At.A compassref12_At.code [1, 1, 0, 1, 0, 0] [X1] (compassref12_At.rq E K) (compassref12_At.f1 list1p list1n list1c v2 g3 n7 i8) H
theorem compassref12_At.l1_rule { E : Value → Hp → Prop} {K : Int → Hp → Prop} (I : (Option Addr) → Nat → Nat → Int → Nat → Int → Int → Hp → Prop) (μ : (Option Addr) → Nat → Nat → Int → Nat → Int → Int → Hp → Nat)
    (h : ∀ list1p list1n list1c v2 g3 n7 i8 H, I list1p list1n list1c v2 g3 n7 i8 H → ∀ X : Fr → Hp → Prop, (∀ list1p' list1n' list1c' v2' g3' n7' i8' H', I list1p' list1n' list1c' v2' g3' n7' i8' H' → μ list1p' list1n' list1c' v2' g3' n7' i8' H' < μ list1p list1n list1c v2 g3 n7 i8 H → X (compassref12_At.f1 list1p' list1n' list1c' v2' g3' n7' i8') H') → compassref12_At.b1 list1p list1n list1c v2 g3 n7 i8  X E H K)
    {list1p : Option Addr} {list1n : Nat} {list1c : Nat} {v2 : Int} {g3 : Nat} {n7 : Int} {i8 : Int} {H : Hp} (hI : I list1p list1n list1c v2 g3 n7 i8 H) : compassref12_At.l1 list1p list1n list1c v2 g3 n7 i8  E H K :=
  loop_rule (S := (Option Addr) × Nat × Nat × Int × Nat × Int × Int) (fun s => compassref12_At.f1 (s.1) (s.2.1) (s.2.2.1) (s.2.2.2.1) (s.2.2.2.2.1) (s.2.2.2.2.2.1) (s.2.2.2.2.2.2)) (fun s H => I (s.1) (s.2.1) (s.2.2.1) (s.2.2.2.1) (s.2.2.2.2.1) (s.2.2.2.2.2.1) (s.2.2.2.2.2.2) H) (fun s H => μ (s.1) (s.2.1) (s.2.2.1) (s.2.2.2.1) (s.2.2.2.2.1) (s.2.2.2.2.2.1) (s.2.2.2.2.2.2) H) (fun s H hI X hX => h (s.1) (s.2.1) (s.2.2.1) (s.2.2.2.1) (s.2.2.2.2.1) (s.2.2.2.2.2.1) (s.2.2.2.2.2.2) H hI X fun list1p' list1n' list1c' v2' g3' n7' i8' H' hI' hlt => hX (list1p', list1n', list1c', v2', g3', n7', i8') H' hI' hlt) (s := (list1p, list1n, list1c, v2, g3, n7, i8)) rfl hI
theorem compassref12_At.nok : nodesOk compassref12_At.code [[0, 1, 0, 1, 1], [1, 0, 0, 1, 0, 0, 1, 0, 1, 1], [1, 1, 0, 0, 1, 0, 1, 1]] = true := by kernel_rfl
def compassref12_At.run_t (l1 : (Option Addr) → Nat → Nat → Int → Nat → Int → Int → Hp → Prop) (g0_Nodes : Int) (g0_Edgesp : Option Addr) (g0_Edgesn : Nat) (g0_Edgesc : Nat) (list1p : Option Addr) (list1n : Nat) (list1c : Nat) (v2 : Int)  (E : Value → Hp → Prop) (H : Hp) (K : Int → Hp → Prop) : Prop :=
  nw H ⟨[.int .i64 g0_Nodes, .slice g0_Edgesp g0_Edgesn g0_Edgesc], 24⟩ fun b_1 H_1 =>
  l1 list1p list1n list1c v2 b_1 0 0 H_1
theorem compassref12_At.run_eq {g0_Nodes : Int} {g0_Edgesp : Option Addr} {g0_Edgesn : Nat} {g0_Edgesc : Nat} {list1p : Option Addr} {list1n : Nat} {list1c : Nat} {v2 : Int} { E : Value → Hp → Prop} {H : Hp} {K : Int → Hp → Prop} (h : compassref12_At.run_t (fun list1p list1n list1c v2 g3 n7 i8 H => compassref12_At.l1 list1p list1n list1c v2 g3 n7 i8  E H K) g0_Nodes g0_Edgesp g0_Edgesn g0_Edgesc list1p list1n list1c v2  E H K) : compassref12_At.run g0_Nodes g0_Edgesp g0_Edgesn g0_Edgesc list1p list1n list1c v2  E H K := by
  have k1 : ∀ G : List Nat → Fr → Hp → Prop, nodeR P0 T0 compassref12_At.A [[0, 1, 0, 1, 1], [1, 0, 0, 1, 0, 0, 1, 0, 1, 1], [1, 1, 0, 0, 1, 0, 1, 1]] G compassref12_At.code [] [] (compassref12_At.rq E K) (argF 0 [.agg ⟨[.int .i64 g0_Nodes, .slice g0_Edgesp g0_Edgesn g0_Edgesc]⟩, .slice list1p list1n list1c, .int .i64 v2]) H = compassref12_At.run_t (fun list1p list1n list1c v2 g3 n7 i8 H => G [0, 1, 0, 1, 1] [(1, .slice list1p list1n list1c), (2, .int .i64 v2), (3, .pointer (some ⟨g3, 0, none⟩)), (7, .int .i64 n7), (8, .int .i64 i8)] H) g0_Nodes g0_Edgesp g0_Edgesn g0_Edgesc list1p list1n list1c v2  E H K := fun G => by kernel_rfl
  have k2 : compassref12_At.run_t (fun list1p list1n list1c v2 g3 n7 i8 H => compassref12_At.l1 list1p list1n list1c v2 g3 n7 i8  E H K) g0_Nodes g0_Edgesp g0_Edgesn g0_Edgesc list1p list1n list1c v2  E H K = compassref12_At.run_t (fun list1p list1n list1c v2 g3 n7 i8 H => (fun q F H => nodeM P0 T0 compassref12_At.A compassref12_At.code q.reverse [] (compassref12_At.rq E K) F H) [0, 1, 0, 1, 1] [(1, .slice list1p list1n list1c), (2, .int .i64 v2), (3, .pointer (some ⟨g3, 0, none⟩)), (7, .int .i64 n7), (8, .int .i64 i8)] H) g0_Nodes g0_Edgesp g0_Edgesn g0_Edgesc list1p list1n list1c v2  E H K := by kernel_rfl
  exact nodeR_imp compassref12_At.nok rfl ((k1 _).mpr (k2.mp h))
def compassref12_At.j1_t (j2 : (Option Addr) → Nat → Nat → Int → Nat → Int → Int → Hp → Prop) (list1p : Option Addr) (list1n : Nat) (list1c : Nat) (v2 : Int) (g3 : Nat) (n7 : Int) (i8 : Int) (X1 : Fr → Hp → Prop) (E : Value → Hp → Prop) (H : Hp) (K : Int → Hp → Prop) : Prop :=
  ldS (H.get g3 1) fun x_1p x_1n x_1c =>
  ix list1p list1n i8 1 fun b_1 o_1 =>
  ldI .i64 (H.get b_1 o_1) fun x_2 =>
  ix x_1p x_1n x_2 4 fun b_2 o_2 =>
  ldI .i64 (H.get b_2 (o_2 + 1)) fun x_3 =>
  bcase (decide ((x_3 : Int) = v2)) (
  j2 list1p list1n list1c v2 g3 (IntKind.wrap .i64 (n7 + 1)) i8 H)
  (j2 list1p list1n list1c v2 g3 n7 i8 H)
theorem compassref12_At.j1_eq {list1p : Option Addr} {list1n : Nat} {list1c : Nat} {v2 : Int} {g3 : Nat} {n7 : Int} {i8 : Int} {X1 : Fr → Hp → Prop} { E : Value → Hp → Prop} {H : Hp} {K : Int → Hp → Prop} (h : compassref12_At.j1_t (fun list1p list1n list1c v2 g3 n7 i8 H => compassref12_At.j2 list1p list1n list1c v2 g3 n7 i8 X1 E H K) list1p list1n list1c v2 g3 n7 i8 X1 E H K) : compassref12_At.j1 list1p list1n list1c v2 g3 n7 i8 X1 E H K := by
  have k1 : ∀ G : List Nat → Fr → Hp → Prop, nodeR P0 T0 compassref12_At.A [[0, 1, 0, 1, 1], [1, 0, 0, 1, 0, 0, 1, 0, 1, 1], [1, 1, 0, 0, 1, 0, 1, 1]] G compassref12_At.code [1, 1, 0, 1, 0, 0, 1, 0, 0, 1] [X1] (compassref12_At.rq E K) [(1, .slice list1p list1n list1c), (2, .int .i64 v2), (3, .pointer (some ⟨g3, 0, none⟩)), (7, .int .i64 n7), (8, .int .i64 i8)] H = compassref12_At.j1_t (fun list1p list1n list1c v2 g3 n7 i8 H => G [1, 1, 0, 0, 1, 0, 1, 1] [(1, .slice list1p list1n list1c), (2, .int .i64 v2), (3, .pointer (some ⟨g3, 0, none⟩)), (7, .int .i64 n7), (8, .int .i64 i8)] H) list1p list1n list1c v2 g3 n7 i8 X1 E H K := fun G => by kernel_rfl
  have k2 : compassref12_At.j1_t (fun list1p list1n list1c v2 g3 n7 i8 H => compassref12_At.j2 list1p list1n list1c v2 g3 n7 i8 X1 E H K) list1p list1n list1c v2 g3 n7 i8 X1 E H K = compassref12_At.j1_t (fun list1p list1n list1c v2 g3 n7 i8 H => (fun q F H => nodeM P0 T0 compassref12_At.A compassref12_At.code q.reverse [X1] (compassref12_At.rq E K) F H) [1, 1, 0, 0, 1, 0, 1, 1] [(1, .slice list1p list1n list1c), (2, .int .i64 v2), (3, .pointer (some ⟨g3, 0, none⟩)), (7, .int .i64 n7), (8, .int .i64 i8)] H) list1p list1n list1c v2 g3 n7 i8 X1 E H K := by kernel_rfl
  exact nodeR_imp compassref12_At.nok rfl ((k1 _).mpr (k2.mp h))
def compassref12_At.j2_t  (list1p : Option Addr) (list1n : Nat) (list1c : Nat) (v2 : Int) (g3 : Nat) (n7 : Int) (i8 : Int) (X1 : Fr → Hp → Prop) (E : Value → Hp → Prop) (H : Hp) (K : Int → Hp → Prop) : Prop :=
  X1 (compassref12_At.f1 list1p list1n list1c v2 g3 n7 (IntKind.wrap .i64 (i8 + 1))) H
theorem compassref12_At.j2_eq {list1p : Option Addr} {list1n : Nat} {list1c : Nat} {v2 : Int} {g3 : Nat} {n7 : Int} {i8 : Int} {X1 : Fr → Hp → Prop} { E : Value → Hp → Prop} {H : Hp} {K : Int → Hp → Prop} (h : compassref12_At.j2_t  list1p list1n list1c v2 g3 n7 i8 X1 E H K) : compassref12_At.j2 list1p list1n list1c v2 g3 n7 i8 X1 E H K := by
  have k1 : ∀ G : List Nat → Fr → Hp → Prop, nodeR P0 T0 compassref12_At.A [[0, 1, 0, 1, 1], [1, 0, 0, 1, 0, 0, 1, 0, 1, 1], [1, 1, 0, 0, 1, 0, 1, 1]] G compassref12_At.code [1, 1, 0, 1, 0, 0, 1, 1] [X1] (compassref12_At.rq E K) [(1, .slice list1p list1n list1c), (2, .int .i64 v2), (3, .pointer (some ⟨g3, 0, none⟩)), (7, .int .i64 n7), (8, .int .i64 i8)] H = compassref12_At.j2_t  list1p list1n list1c v2 g3 n7 i8 X1 E H K := fun G => by kernel_rfl
  exact nodeR_imp compassref12_At.nok rfl ((k1 _).mpr h)
def compassref12_At.b1_t (j1 : (Option Addr) → Nat → Nat → Int → Nat → Int → Int → Hp → Prop) (list1p : Option Addr) (list1n : Nat) (list1c : Nat) (v2 : Int) (g3 : Nat) (n7 : Int) (i8 : Int) (X1 : Fr → Hp → Prop) (E : Value → Hp → Prop) (H : Hp) (K : Int → Hp → Prop) : Prop :=
  bcase (decide ((i8 : Int) < (list1n : Int))) (
  ldS (H.get g3 1) fun x_1p x_1n x_1c =>
  ix list1p list1n i8 1 fun b_1 o_1 =>
  ldI .i64 (H.get b_1 o_1) fun x_2 =>
  ix x_1p x_1n x_2 4 fun b_2 o_2 =>
  ldI .i64 (H.get b_2 o_2) fun x_3 =>
  bcase (decide ((x_3 : Int) = v2)) (
  j1 list1p list1n list1c v2 g3 (IntKind.wrap .i64 (n7 + 1)) i8 H)
  (j1 list1p list1n list1c v2 g3 n7 i8 H))
  (K n7 H)
theorem compassref12_At.b1_eq {list1p : Option Addr} {list1n : Nat} {list1c : Nat} {v2 : Int} {g3 : Nat} {n7 : Int} {i8 : Int} {X1 : Fr → Hp → Prop} { E : Value → Hp → Prop} {H : Hp} {K : Int → Hp → Prop} (h : compassref12_At.b1_t (fun list1p list1n list1c v2 g3 n7 i8 H => compassref12_At.j1 list1p list1n list1c v2 g3 n7 i8 X1 E H K) list1p list1n list1c v2 g3 n7 i8 X1 E H K) : compassref12_At.b1 list1p list1n list1c v2 g3 n7 i8 X1 E H K := by
  have k1 : ∀ G : List Nat → Fr → Hp → Prop, nodeR P0 T0 compassref12_At.A [[0, 1, 0, 1, 1], [1, 0, 0, 1, 0, 0, 1, 0, 1, 1], [1, 1, 0, 0, 1, 0, 1, 1]] G compassref12_At.code [1, 1, 0, 1, 0, 0] [X1] (compassref12_At.rq E K) (compassref12_At.f1 list1p list1n list1c v2 g3 n7 i8) H = compassref12_At.b1_t (fun list1p list1n list1c v2 g3 n7 i8 H => G [1, 0, 0, 1, 0, 0, 1, 0, 1, 1] [(1, .slice list1p list1n list1c), (2, .int .i64 v2), (3, .pointer (some ⟨g3, 0, none⟩)), (7, .int .i64 n7), (8, .int .i64 i8)] H) list1p list1n list1c v2 g3 n7 i8 X1 E H K := fun G => by kernel_rfl
  have k2 : compassref12_At.b1_t (fun list1p list1n list1c v2 g3 n7 i8 H => compassref12_At.j1 list1p list1n list1c v2 g3 n7 i8 X1 E H K) list1p list1n list1c v2 g3 n7 i8 X1 E H K = compassref12_At.b1_t (fun list1p list1n list1c v2 g3 n7 i8 H => (fun q F H => nodeM P0 T0 compassref12_At.A compassref12_At.code q.reverse [X1] (compassref12_At.rq E K) F H) [1, 0, 0, 1, 0, 0, 1, 0, 1, 1] [(1, .slice list1p list1n list1c), (2, .int .i64 v2), (3, .pointer (some ⟨g3, 0, none⟩)), (7, .int .i64 n7), (8, .int .i64 i8)] H) list1p list1n list1c v2 g3 n7 i8 X1 E H K := by kernel_rfl
  exact nodeR_imp compassref12_At.nok rfl ((k1 _).mpr (k2.mp h))
/-! ### compass/compassref03.Bad (82) -/
/-! ### compass/compassref12.ones (94) -/
end Go.Mz
