/-
  The shallow texts of functions (LBT), each with a kernel-checked equation to the translated code. It proves nothing of the program by itself.
-/
import Derived.Test.YtmaeboaopebaiaaTab
set_option linter.unusedVariables false
set_option maxRecDepth 100000
namespace Go.Mz
/-! ### compass/compasslaw17.BlossomTurns (5) -/
noncomputable def compasslaw17_BlossomTurns.A : An := { live := [(0, [0, 1]), (1, [1, 2]), (2, []), (3, [1, 2]), (4, [1, 2, 5, 6, 7]), (5, [1, 2, 5, 6, 7, 8, 9]), (6, [1, 2, 5, 6, 7, 8, 9, 10]), (7, [1, 2, 5, 6, 7, 8, 9, 10]), (8, [1, 2, 5, 6, 7, 8, 9, 10]), (9, [1, 2, 5, 6, 7, 8, 9, 10, 11]), (10, [1, 2, 5, 6, 7, 8, 9, 10, 11]), (11, [1, 2, 5, 6, 7, 8, 9, 10, 11]), (12, [2, 5, 6, 7, 8, 9]), (13, [2, 5, 6, 7, 9, 12, 13, 14]), (14, [2, 5, 6, 7, 12, 13, 14, 15, 17]), (15, [5, 6, 7, 12, 13, 14, 15, 17, 18]), (16, [5, 7, 12, 14, 18]), (17, [5, 6, 7, 12, 13, 14, 15, 17])], ord := [(4, [0, 1, 2, 3, 4, 5, 6, 7, 8, 9])], stb := [(4, [(8, [4])])], pre := [(4, [[], [0], [0, 1], [], [3], [3, 4], [], [], [0, 1, 2, 6, 7], [0, 1, 2, 3, 4, 5, 6, 7, 8]])] }
noncomputable def compasslaw17_BlossomTurns.code : Code := bodyOf Go.Proofs.Try.f5
theorem compasslaw17_BlossomTurns.ok : okCode compasslaw17_BlossomTurns.A 150 compasslaw17_BlossomTurns.code = true := by kernel_rfl
def compasslaw17_BlossomTurns.rq (E : Value → Hp → Prop) (K : Bool → Hp → Prop) : Ex → Fr → Hp → Prop := retQ T0 [.tmp 4] [4] (fun r H => ldR (.one false [.bool]) r fun u => K (asB u) H) E
def compasslaw17_BlossomTurns.run (g0_Nodes : Int) (g0_Edgesp : Option Addr) (g0_Edgesn : Nat) (g0_Edgesc : Nat) (v1 : Int) (E : Value → Hp → Prop) (H : Hp) (K : Bool → Hp → Prop) : Prop := nodeM P0 T0 compasslaw17_BlossomTurns.A compasslaw17_BlossomTurns.code [] [] (compasslaw17_BlossomTurns.rq E K) (argF 0 [.agg ⟨[.int .i64 g0_Nodes, .slice g0_Edgesp g0_Edgesn g0_Edgesc]⟩, .int .i64 v1]) H
theorem compasslaw17_BlossomTurns.of {g0_Nodes : Int} {g0_Edgesp : Option Addr} {g0_Edgesn : Nat} {g0_Edgesc : Nat} {v1 : Int} {E : Value → Hp → Prop} {H : Hp} {K : Bool → Hp → Prop} (h : compasslaw17_BlossomTurns.run g0_Nodes g0_Edgesp g0_Edgesn g0_Edgesc v1 E H K) : compasslaw17_BlossomTurns.call g0_Nodes g0_Edgesp g0_Edgesn g0_Edgesc v1 E H K :=
  callW_of T0_ok P0_mixed (A := compasslaw17_BlossomTurns.A) (fn := Go.Proofs.Try.f5) Go.Proofs.Try.func5 rfl compasslaw17_BlossomTurns.ok rfl h
noncomputable def compasslaw17_BlossomTurns.f1 (v1 : Int) (g2 : Nat) (m5p : Option Addr) (m5n : Nat) (m5c : Nat) (set6p : Option Addr) (set6n : Nat) (set6c : Nat) (e7 : Int) (turned8 : Nat) (less9 : Nat) (i10 : Int) : Fr := [(1, .int .i64 v1), (2, .pointer (some ⟨g2, 0, none⟩)), (5, .slice m5p m5n m5c), (6, .slice set6p set6n set6c), (7, .int .i64 e7), (8, .pointer (some ⟨turned8, 0, none⟩)), (9, .pointer (some ⟨less9, 0, none⟩)), (10, .int .i64 i10)]
def compasslaw17_BlossomTurns.j1 (v1 : Int) (g2 : Nat) (m5p : Option Addr) (m5n : Nat) (m5c : Nat) (set6p : Option Addr) (set6n : Nat) (set6c : Nat) (e7 : Int) (turned8 : Nat) (less9 : Nat) (i10 : Int) (X1 : Fr → Hp → Prop) (E : Value → Hp → Prop) (H : Hp) (K : Bool → Hp → Prop) : Prop := nodeM P0 T0 compasslaw17_BlossomTurns.A compasslaw17_BlossomTurns.code [1, 1, 1, 1, 0, 1, 0, 0, 1, 1] [X1] (compasslaw17_BlossomTurns.rq E K) [(1, .int .i64 v1), (2, .pointer (some ⟨g2, 0, none⟩)), (5, .slice m5p m5n m5c), (6, .slice set6p set6n set6c), (7, .int .i64 e7), (8, .pointer (some ⟨turned8, 0, none⟩)), (9, .pointer (some ⟨less9, 0, none⟩)), (10, .int .i64 i10)] H
def compasslaw17_BlossomTurns.j2 (g2 : Nat) (m5p : Option Addr) (m5n : Nat) (m5c : Nat) (set6p : Option Addr) (set6n : Nat) (set6c : Nat) (e7 : Int) (turned8 : Nat) (less9 : Nat)  (E : Value → Hp → Prop) (H : Hp) (K : Bool → Hp → Prop) : Prop := nodeM P0 T0 compasslaw17_BlossomTurns.A compasslaw17_BlossomTurns.code [1, 1, 1, 1, 1] [] (compasslaw17_BlossomTurns.rq E K) [(2, .pointer (some ⟨g2, 0, none⟩)), (5, .slice m5p m5n m5c), (6, .slice set6p set6n set6c), (7, .int .i64 e7), (8, .pointer (some ⟨turned8, 0, none⟩)), (9, .pointer (some ⟨less9, 0, none⟩))] H
def compasslaw17_BlossomTurns.l1 (v1 : Int) (g2 : Nat) (m5p : Option Addr) (m5n : Nat) (m5c : Nat) (set6p : Option Addr) (set6n : Nat) (set6c : Nat) (e7 : Int) (turned8 : Nat) (less9 : Nat) (i10 : Int)  (E : Value → Hp → Prop) (H : Hp) (K : Bool → Hp → Prop) : Prop := nodeM P0 T0 compasslaw17_BlossomTurns.A compasslaw17_BlossomTurns.code [1, 1, 1, 1, 0, 1, 0] [] (compasslaw17_BlossomTurns.rq E K) (compasslaw17_BlossomTurns.f1 v1 g2 m5p m5n m5c set6p set6n set6c e7 turned8 less9 i10) H
def compasslaw17_BlossomTurns.b1 (v1 : Int) (g2 : Nat) (m5p : Option Addr) (m5n : Nat) (m5c : Nat) (set6p : Option Addr) (set6n : Nat) (set6c : Nat) (e7 : Int) (turned8 : Nat) (less9 : Nat) (i10 : Int)  (X1 : Fr → Hp → Prop) (E : Value → Hp → Prop) (H : Hp) (K : Bool → Hp → Prop) : Prop := nodeM P0 T0 compasslaw17_BlossomTurns.A compasslaw17_BlossomTurns.code [1, 1, 1, 1, 0, 1, 0, 0] [X1] (compasslaw17_BlossomTurns.rq E K) (compasslaw17_BlossomTurns.f1 v1 g2 m5p m5n m5c set6p set6n set6c e7 turned8 less9 i10) H
theorem compasslaw17_BlossomTurns.l1_rule { E : Value → Hp → Prop} {K : Bool → Hp → Prop} (I : Int → Nat → (Option Addr) → Nat → Nat → (Option Addr) → Nat → Nat → Int → Nat → Nat → Int → Hp → Prop) (μ : Int → Nat → (Option Addr) → Nat → Nat → (Option Addr) → Nat → Nat → Int → Nat → Nat → Int → Hp → Nat)
    (h : ∀ v1 g2 m5p m5n m5c set6p set6n set6c e7 turned8 less9 i10 H, I v1 g2 m5p m5n m5c set6p set6n set6c e7 turned8 less9 i10 H → ∀ X : Fr → Hp → Prop, (∀ v1' g2' m5p' m5n' m5c' set6p' set6n' set6c' e7' turned8' less9' i10' H', I v1' g2' m5p' m5n' m5c' set6p' set6n' set6c' e7' turned8' less9' i10' H' → μ v1' g2' m5p' m5n' m5c' set6p' set6n' set6c' e7' turned8' less9' i10' H' < μ v1 g2 m5p m5n m5c set6p set6n set6c e7 turned8 less9 i10 H → X (compasslaw17_BlossomTurns.f1 v1' g2' m5p' m5n' m5c' set6p' set6n' set6c' e7' turned8' less9' i10') H') → compasslaw17_BlossomTurns.b1 v1 g2 m5p m5n m5c set6p set6n set6c e7 turned8 less9 i10  X E H K)
    {v1 : Int} {g2 : Nat} {m5p : Option Addr} {m5n : Nat} {m5c : Nat} {set6p : Option Addr} {set6n : Nat} {set6c : Nat} {e7 : Int} {turned8 : Nat} {less9 : Nat} {i10 : Int} {H : Hp} (hI : I v1 g2 m5p m5n m5c set6p set6n set6c e7 turned8 less9 i10 H) : compasslaw17_BlossomTurns.l1 v1 g2 m5p m5n m5c set6p set6n set6c e7 turned8 less9 i10  E H K :=
  loop_rule (S := Int × Nat × (Option Addr) × Nat × Nat × (Option Addr) × Nat × Nat × Int × Nat × Nat × Int) (fun s => compasslaw17_BlossomTurns.f1 (s.1) (s.2.1) (s.2.2.1) (s.2.2.2.1) (s.2.2.2.2.1) (s.2.2.2.2.2.1) (s.2.2.2.2.2.2.1) (s.2.2.2.2.2.2.2.1) (s.2.2.2.2.2.2.2.2.1) (s.2.2.2.2.2.2.2.2.2.1) (s.2.2.2.2.2.2.2.2.2.2.1) (s.2.2.2.2.2.2.2.2.2.2.2)) (fun s H => I (s.1) (s.2.1) (s.2.2.1) (s.2.2.2.1) (s.2.2.2.2.1) (s.2.2.2.2.2.1) (s.2.2.2.2.2.2.1) (s.2.2.2.2.2.2.2.1) (s.2.2.2.2.2.2.2.2.1) (s.2.2.2.2.2.2.2.2.2.1) (s.2.2.2.2.2.2.2.2.2.2.1) (s.2.2.2.2.2.2.2.2.2.2.2) H) (fun s H => μ (s.1) (s.2.1) (s.2.2.1) (s.2.2.2.1) (s.2.2.2.2.1) (s.2.2.2.2.2.1) (s.2.2.2.2.2.2.1) (s.2.2.2.2.2.2.2.1) (s.2.2.2.2.2.2.2.2.1) (s.2.2.2.2.2.2.2.2.2.1) (s.2.2.2.2.2.2.2.2.2.2.1) (s.2.2.2.2.2.2.2.2.2.2.2) H) (fun s H hI X hX => h (s.1) (s.2.1) (s.2.2.1) (s.2.2.2.1) (s.2.2.2.2.1) (s.2.2.2.2.2.1) (s.2.2.2.2.2.2.1) (s.2.2.2.2.2.2.2.1) (s.2.2.2.2.2.2.2.2.1) (s.2.2.2.2.2.2.2.2.2.1) (s.2.2.2.2.2.2.2.2.2.2.1) (s.2.2.2.2.2.2.2.2.2.2.2) H hI X fun v1' g2' m5p' m5n' m5c' set6p' set6n' set6c' e7' turned8' less9' i10' H' hI' hlt => hX (v1', g2', m5p', m5n', m5c', set6p', set6n', set6c', e7', turned8', less9', i10') H' hI' hlt) (s := (v1, g2, m5p, m5n, m5c, set6p, set6n, set6c, e7, turned8, less9, i10)) rfl hI
theorem compasslaw17_BlossomTurns.nok : nodesOk compasslaw17_BlossomTurns.code [[0, 1, 0, 1, 1, 1, 1], [1, 1, 0, 0, 1, 0, 1, 1, 1, 1], [1, 1, 1, 1, 1]] = true := by kernel_rfl
def compasslaw17_BlossomTurns.run_t (l1 : Int → Nat → (Option Addr) → Nat → Nat → (Option Addr) → Nat → Nat → Int → Nat → Nat → Int → Hp → Prop) (g0_Nodes : Int) (g0_Edgesp : Option Addr) (g0_Edgesn : Nat) (g0_Edgesc : Nat) (v1 : Int)  (E : Value → Hp → Prop) (H : Hp) (K : Bool → Hp → Prop) : Prop :=
  nw H ⟨[.int .i64 g0_Nodes, .slice g0_Edgesp g0_Edgesn g0_Edgesc], 24⟩ fun b_1 H_1 =>
  compasslaw17_awake.call  E H_1 fun r_1 H_2 =>
  bcase ((!r_1)) (
  K false H_2)
  (ldI .i64 (H_2.get b_1 0) fun x_1 =>
  ldS (H_2.get b_1 1) fun x_2p x_2n x_2c =>
  blossom_Solve.call x_1 x_2p x_2n x_2c E H_2 fun r_2p r_2n r_2c r_3p r_3n r_3c r_4 H_3 =>
  ldI .i64 (H_3.get b_1 0) fun x_3 =>
  ldI .i64 (H_3.get b_1 0) fun x_4 =>
  nw H_3 ⟨[.int .i64 0, .slice none 0 0], 24⟩ fun b_2 H_4 =>
  nw H_4 ⟨[.int .i64 0, .slice none 0 0], 24⟩ fun b_3 H_5 =>
  stC H_5 b_2 0 [.int .i64 x_3, .slice none 0 0] fun H_6 =>
  (ldI .i64 (H_6.get b_1 0) fun x_6 =>
  Value.int .i64 x_6 = Value.int .i64 x_4) ∧
  stC H_6 b_3 0 [.int .i64 x_4, .slice none 0 0] fun H_7 =>
  ldS (H_7.get b_1 1) fun x_5p x_5n x_5c =>
  l1 v1 b_1 r_2p r_2n r_2c r_3p r_3n r_3c r_4 b_2 b_3 (IntKind.wrap .i64 ((x_5n : Int) - 1)) H_7)
theorem compasslaw17_BlossomTurns.run_eq {g0_Nodes : Int} {g0_Edgesp : Option Addr} {g0_Edgesn : Nat} {g0_Edgesc : Nat} {v1 : Int} { E : Value → Hp → Prop} {H : Hp} {K : Bool → Hp → Prop} (h : compasslaw17_BlossomTurns.run_t (fun v1 g2 m5p m5n m5c set6p set6n set6c e7 turned8 less9 i10 H => compasslaw17_BlossomTurns.l1 v1 g2 m5p m5n m5c set6p set6n set6c e7 turned8 less9 i10  E H K) g0_Nodes g0_Edgesp g0_Edgesn g0_Edgesc v1  E H K) : compasslaw17_BlossomTurns.run g0_Nodes g0_Edgesp g0_Edgesn g0_Edgesc v1  E H K := by
  have k1 : ∀ G : List Nat → Fr → Hp → Prop, nodeR P0 T0 compasslaw17_BlossomTurns.A [[0, 1, 0, 1, 1, 1, 1], [1, 1, 0, 0, 1, 0, 1, 1, 1, 1], [1, 1, 1, 1, 1]] G compasslaw17_BlossomTurns.code [] [] (compasslaw17_BlossomTurns.rq E K) (argF 0 [.agg ⟨[.int .i64 g0_Nodes, .slice g0_Edgesp g0_Edgesn g0_Edgesc]⟩, .int .i64 v1]) H = compasslaw17_BlossomTurns.run_t (fun v1 g2 m5p m5n m5c set6p set6n set6c e7 turned8 less9 i10 H => G [0, 1, 0, 1, 1, 1, 1] [(1, .int .i64 v1), (2, .pointer (some ⟨g2, 0, none⟩)), (5, .slice m5p m5n m5c), (6, .slice set6p set6n set6c), (7, .int .i64 e7), (8, .pointer (some ⟨turned8, 0, none⟩)), (9, .pointer (some ⟨less9, 0, none⟩)), (10, .int .i64 i10)] H) g0_Nodes g0_Edgesp g0_Edgesn g0_Edgesc v1  E H K := fun G => by kernel_rfl
  have k2 : compasslaw17_BlossomTurns.run_t (fun v1 g2 m5p m5n m5c set6p set6n set6c e7 turned8 less9 i10 H => compasslaw17_BlossomTurns.l1 v1 g2 m5p m5n m5c set6p set6n set6c e7 turned8 less9 i10  E H K) g0_Nodes g0_Edgesp g0_Edgesn g0_Edgesc v1  E H K = compasslaw17_BlossomTurns.run_t (fun v1 g2 m5p m5n m5c set6p set6n set6c e7 turned8 less9 i10 H => (fun q F H => nodeM P0 T0 compasslaw17_BlossomTurns.A compasslaw17_BlossomTurns.code q.reverse [] (compasslaw17_BlossomTurns.rq E K) F H) [0, 1, 0, 1, 1, 1, 1] [(1, .int .i64 v1), (2, .pointer (some ⟨g2, 0, none⟩)), (5, .slice m5p m5n m5c), (6, .slice set6p set6n set6c), (7, .int .i64 e7), (8, .pointer (some ⟨turned8, 0, none⟩)), (9, .pointer (some ⟨less9, 0, none⟩)), (10, .int .i64 i10)] H) g0_Nodes g0_Edgesp g0_Edgesn g0_Edgesc v1  E H K := by kernel_rfl
  exact nodeR_imp compasslaw17_BlossomTurns.nok rfl ((k1 _).mpr (k2.mp h))
def compasslaw17_BlossomTurns.j1_t  (v1 : Int) (g2 : Nat) (m5p : Option Addr) (m5n : Nat) (m5c : Nat) (set6p : Option Addr) (set6n : Nat) (set6c : Nat) (e7 : Int) (turned8 : Nat) (less9 : Nat) (i10 : Int) (X1 : Fr → Hp → Prop) (E : Value → Hp → Prop) (H : Hp) (K : Bool → Hp → Prop) : Prop :=
  X1 (compasslaw17_BlossomTurns.f1 v1 g2 m5p m5n m5c set6p set6n set6c e7 turned8 less9 (IntKind.wrap .i64 (i10 - 1))) H
theorem compasslaw17_BlossomTurns.j1_eq {v1 : Int} {g2 : Nat} {m5p : Option Addr} {m5n : Nat} {m5c : Nat} {set6p : Option Addr} {set6n : Nat} {set6c : Nat} {e7 : Int} {turned8 : Nat} {less9 : Nat} {i10 : Int} {X1 : Fr → Hp → Prop} { E : Value → Hp → Prop} {H : Hp} {K : Bool → Hp → Prop} (h : compasslaw17_BlossomTurns.j1_t  v1 g2 m5p m5n m5c set6p set6n set6c e7 turned8 less9 i10 X1 E H K) : compasslaw17_BlossomTurns.j1 v1 g2 m5p m5n m5c set6p set6n set6c e7 turned8 less9 i10 X1 E H K := by
  have k1 : ∀ G : List Nat → Fr → Hp → Prop, nodeR P0 T0 compasslaw17_BlossomTurns.A [[0, 1, 0, 1, 1, 1, 1], [1, 1, 0, 0, 1, 0, 1, 1, 1, 1], [1, 1, 1, 1, 1]] G compasslaw17_BlossomTurns.code [1, 1, 1, 1, 0, 1, 0, 0, 1, 1] [X1] (compasslaw17_BlossomTurns.rq E K) [(1, .int .i64 v1), (2, .pointer (some ⟨g2, 0, none⟩)), (5, .slice m5p m5n m5c), (6, .slice set6p set6n set6c), (7, .int .i64 e7), (8, .pointer (some ⟨turned8, 0, none⟩)), (9, .pointer (some ⟨less9, 0, none⟩)), (10, .int .i64 i10)] H = compasslaw17_BlossomTurns.j1_t  v1 g2 m5p m5n m5c set6p set6n set6c e7 turned8 less9 i10 X1 E H K := fun G => by kernel_rfl
  exact nodeR_imp compasslaw17_BlossomTurns.nok rfl ((k1 _).mpr h)
def compasslaw17_BlossomTurns.j2_t  (g2 : Nat) (m5p : Option Addr) (m5n : Nat) (m5c : Nat) (set6p : Option Addr) (set6n : Nat) (set6c : Nat) (e7 : Int) (turned8 : Nat) (less9 : Nat)  (E : Value → Hp → Prop) (H : Hp) (K : Bool → Hp → Prop) : Prop :=
  ldI .i64 (H.get turned8 0) fun x_1 =>
  ldS (H.get turned8 1) fun x_2p x_2n x_2c =>
  blossom_Solve.call x_1 x_2p x_2n x_2c E H fun r_1p r_1n r_1c r_2p r_2n r_2c r_3 H_1 =>
  ldI .i64 (H_1.get less9 0) fun x_3 =>
  ldS (H_1.get less9 1) fun x_4p x_4n x_4c =>
  blossom_Solve.call x_3 x_4p x_4n x_4c E H_1 fun r_4p r_4n r_4c r_5p r_5n r_5c r_6 H_2 =>
  ldI .i64 (H_2.get g2 0) fun x_5 =>
  ldS (H_2.get g2 1) fun x_6p x_6n x_6c =>
  compassref03_Check.call x_5 x_6p x_6n x_6c E H_2 fun r_7 r_8 H_3 =>
  bcase (!decide ((r_7 : Int) = 0)) (
  bcase (decide ((e7 : Int) = r_7)) (
  bcase (!decide ((r_3 : Int) = 0)) (
  bcase (decide (((m5n : Int) : Int) = 0)) (
  K (decide (((r_1n : Int) : Int) = 0)) H_3)
  (K false H_3))
  (K false H_3))
  (K false H_3))
  (bcase (decide ((e7 : Int) = 0)) (
  bcase (decide ((r_3 : Int) = 0)) (
  bcase (decide ((r_6 : Int) = 0)) (
  bcase (decide (((m5n : Int) : Int) = (r_1n : Int))) (
  compasslaw17_ints.call set6p set6n set6c r_2p r_2n r_2c E H_3 fun r_9 H_4 =>
  bcase (r_9) (
  bcase (decide (((r_4n : Int) : Int) ≤ (m5n : Int))) (
  K (decide (((IntKind.wrap .i64 ((m5n : Int) - 1)) : Int) ≤ (r_4n : Int))) H_4)
  (K false H_4))
  (K false H_4))
  (K false H_3))
  (K false H_3))
  (K false H_3))
  (K false H_3))
theorem compasslaw17_BlossomTurns.j2_eq {g2 : Nat} {m5p : Option Addr} {m5n : Nat} {m5c : Nat} {set6p : Option Addr} {set6n : Nat} {set6c : Nat} {e7 : Int} {turned8 : Nat} {less9 : Nat} { E : Value → Hp → Prop} {H : Hp} {K : Bool → Hp → Prop} (h : compasslaw17_BlossomTurns.j2_t  g2 m5p m5n m5c set6p set6n set6c e7 turned8 less9  E H K) : compasslaw17_BlossomTurns.j2 g2 m5p m5n m5c set6p set6n set6c e7 turned8 less9  E H K := by
  have k1 : ∀ G : List Nat → Fr → Hp → Prop, nodeR P0 T0 compasslaw17_BlossomTurns.A [[0, 1, 0, 1, 1, 1, 1], [1, 1, 0, 0, 1, 0, 1, 1, 1, 1], [1, 1, 1, 1, 1]] G compasslaw17_BlossomTurns.code [1, 1, 1, 1, 1] [] (compasslaw17_BlossomTurns.rq E K) [(2, .pointer (some ⟨g2, 0, none⟩)), (5, .slice m5p m5n m5c), (6, .slice set6p set6n set6c), (7, .int .i64 e7), (8, .pointer (some ⟨turned8, 0, none⟩)), (9, .pointer (some ⟨less9, 0, none⟩))] H = compasslaw17_BlossomTurns.j2_t  g2 m5p m5n m5c set6p set6n set6c e7 turned8 less9  E H K := fun G => by kernel_rfl
  exact nodeR_imp compasslaw17_BlossomTurns.nok rfl ((k1 _).mpr h)
def compasslaw17_BlossomTurns.b1_t (j1 : Int → Nat → (Option Addr) → Nat → Nat → (Option Addr) → Nat → Nat → Int → Nat → Nat → Int → Hp → Prop) (j2 : Nat → (Option Addr) → Nat → Nat → (Option Addr) → Nat → Nat → Int → Nat → Nat → Hp → Prop) (v1 : Int) (g2 : Nat) (m5p : Option Addr) (m5n : Nat) (m5c : Nat) (set6p : Option Addr) (set6n : Nat) (set6c : Nat) (e7 : Int) (turned8 : Nat) (less9 : Nat) (i10 : Int) (X1 : Fr → Hp → Prop) (E : Value → Hp → Prop) (H : Hp) (K : Bool → Hp → Prop) : Prop :=
  bcase (decide ((0 : Int) ≤ i10)) (
  ldS (H.get g2 1) fun x_1p x_1n x_1c =>
  ix x_1p x_1n i10 4 fun b_1 o_1 =>
  ldI .i64 (H.get b_1 o_1) fun x_2 =>
  ldI .i64 (H.get b_1 (o_1 + 1)) fun x_3 =>
  ldI .i64 (H.get b_1 (o_1 + 2)) fun x_4 =>
  ldI .i64 (H.get b_1 (o_1 + 3)) fun x_5 =>
  nw H ⟨[.int .i64 0, .int .i64 0, .int .i64 0, .int .i64 0], 37⟩ fun b_2 H_1 =>
  stC H_1 b_2 0 [.int .i64 x_2, .int .i64 x_3, .int .i64 x_4, .int .i64 x_5] fun H_2 =>
  ldS (H_2.get turned8 1) fun x_6p x_6n x_6c =>
  ldI .i64 (H_2.get b_2 1) fun x_7 =>
  ldI .i64 (H_2.get b_2 0) fun x_8 =>
  ldI .i64 (H_2.get b_2 2) fun x_9 =>
  ldI .i64 (H_2.get b_2 3) fun x_10 =>
  nw H_2 ⟨[.int .i64 x_7, .int .i64 x_8, .int .i64 x_9, .int .i64 x_10], 37⟩ fun b_3 H_3 =>
  appM 37 [.i .i64, .i .i64, .i .i64, .i .i64] 32 x_6p x_6n x_6c (some ⟨b_3, 0, none⟩) 1 H_3 fun a_1p a_1n a_1c H_4 =>
  stC H_4 turned8 1 [.slice a_1p a_1n a_1c] fun H_5 =>
  ldI .i64 (H_5.get b_2 0) fun x_11 =>
  bcase (!decide ((x_11 : Int) = v1)) (
  ldI .i64 (H_5.get b_2 1) fun x_12 =>
  bcase (!decide ((x_12 : Int) = v1)) (
  ldS (H_5.get less9 1) fun x_13p x_13n x_13c =>
  ldI .i64 (H_5.get b_2 0) fun x_14 =>
  ldI .i64 (H_5.get b_2 1) fun x_15 =>
  ldI .i64 (H_5.get b_2 2) fun x_16 =>
  ldI .i64 (H_5.get b_2 3) fun x_17 =>
  nw H_5 ⟨[.int .i64 x_14, .int .i64 x_15, .int .i64 x_16, .int .i64 x_17], 37⟩ fun b_4 H_6 =>
  appM 37 [.i .i64, .i .i64, .i .i64, .i .i64] 32 x_13p x_13n x_13c (some ⟨b_4, 0, none⟩) 1 H_6 fun a_2p a_2n a_2c H_7 =>
  stC H_7 less9 1 [.slice a_2p a_2n a_2c] fun H_8 =>
  j1 v1 g2 m5p m5n m5c set6p set6n set6c e7 turned8 less9 i10 H_8)
  (j1 v1 g2 m5p m5n m5c set6p set6n set6c e7 turned8 less9 i10 H_5))
  (j1 v1 g2 m5p m5n m5c set6p set6n set6c e7 turned8 less9 i10 H_5))
  (j2 g2 m5p m5n m5c set6p set6n set6c e7 turned8 less9 H)
theorem compasslaw17_BlossomTurns.b1_eq {v1 : Int} {g2 : Nat} {m5p : Option Addr} {m5n : Nat} {m5c : Nat} {set6p : Option Addr} {set6n : Nat} {set6c : Nat} {e7 : Int} {turned8 : Nat} {less9 : Nat} {i10 : Int} {X1 : Fr → Hp → Prop} { E : Value → Hp → Prop} {H : Hp} {K : Bool → Hp → Prop} (h : compasslaw17_BlossomTurns.b1_t (fun v1 g2 m5p m5n m5c set6p set6n set6c e7 turned8 less9 i10 H => compasslaw17_BlossomTurns.j1 v1 g2 m5p m5n m5c set6p set6n set6c e7 turned8 less9 i10 X1 E H K) (fun g2 m5p m5n m5c set6p set6n set6c e7 turned8 less9 H => compasslaw17_BlossomTurns.j2 g2 m5p m5n m5c set6p set6n set6c e7 turned8 less9  E H K) v1 g2 m5p m5n m5c set6p set6n set6c e7 turned8 less9 i10 X1 E H K) : compasslaw17_BlossomTurns.b1 v1 g2 m5p m5n m5c set6p set6n set6c e7 turned8 less9 i10 X1 E H K := by
  have k1 : ∀ G : List Nat → Fr → Hp → Prop, nodeR P0 T0 compasslaw17_BlossomTurns.A [[0, 1, 0, 1, 1, 1, 1], [1, 1, 0, 0, 1, 0, 1, 1, 1, 1], [1, 1, 1, 1, 1]] G compasslaw17_BlossomTurns.code [1, 1, 1, 1, 0, 1, 0, 0] [X1] (compasslaw17_BlossomTurns.rq E K) (compasslaw17_BlossomTurns.f1 v1 g2 m5p m5n m5c set6p set6n set6c e7 turned8 less9 i10) H = compasslaw17_BlossomTurns.b1_t (fun v1 g2 m5p m5n m5c set6p set6n set6c e7 turned8 less9 i10 H => G [1, 1, 0, 0, 1, 0, 1, 1, 1, 1] [(1, .int .i64 v1), (2, .pointer (some ⟨g2, 0, none⟩)), (5, .slice m5p m5n m5c), (6, .slice set6p set6n set6c), (7, .int .i64 e7), (8, .pointer (some ⟨turned8, 0, none⟩)), (9, .pointer (some ⟨less9, 0, none⟩)), (10, .int .i64 i10)] H) (fun g2 m5p m5n m5c set6p set6n set6c e7 turned8 less9 H => G [1, 1, 1, 1, 1] [(2, .pointer (some ⟨g2, 0, none⟩)), (5, .slice m5p m5n m5c), (6, .slice set6p set6n set6c), (7, .int .i64 e7), (8, .pointer (some ⟨turned8, 0, none⟩)), (9, .pointer (some ⟨less9, 0, none⟩))] H) v1 g2 m5p m5n m5c set6p set6n set6c e7 turned8 less9 i10 X1 E H K := fun G => by kernel_rfl
  have k2 : compasslaw17_BlossomTurns.b1_t (fun v1 g2 m5p m5n m5c set6p set6n set6c e7 turned8 less9 i10 H => compasslaw17_BlossomTurns.j1 v1 g2 m5p m5n m5c set6p set6n set6c e7 turned8 less9 i10 X1 E H K) (fun g2 m5p m5n m5c set6p set6n set6c e7 turned8 less9 H => compasslaw17_BlossomTurns.j2 g2 m5p m5n m5c set6p set6n set6c e7 turned8 less9  E H K) v1 g2 m5p m5n m5c set6p set6n set6c e7 turned8 less9 i10 X1 E H K = compasslaw17_BlossomTurns.b1_t (fun v1 g2 m5p m5n m5c set6p set6n set6c e7 turned8 less9 i10 H => (fun q F H => nodeM P0 T0 compasslaw17_BlossomTurns.A compasslaw17_BlossomTurns.code q.reverse [X1] (compasslaw17_BlossomTurns.rq E K) F H) [1, 1, 0, 0, 1, 0, 1, 1, 1, 1] [(1, .int .i64 v1), (2, .pointer (some ⟨g2, 0, none⟩)), (5, .slice m5p m5n m5c), (6, .slice set6p set6n set6c), (7, .int .i64 e7), (8, .pointer (some ⟨turned8, 0, none⟩)), (9, .pointer (some ⟨less9, 0, none⟩)), (10, .int .i64 i10)] H) (fun g2 m5p m5n m5c set6p set6n set6c e7 turned8 less9 H => (fun q F H => nodeM P0 T0 compasslaw17_BlossomTurns.A compasslaw17_BlossomTurns.code q.reverse [X1] (compasslaw17_BlossomTurns.rq E K) F H) [1, 1, 1, 1, 1] [(2, .pointer (some ⟨g2, 0, none⟩)), (5, .slice m5p m5n m5c), (6, .slice set6p set6n set6c), (7, .int .i64 e7), (8, .pointer (some ⟨turned8, 0, none⟩)), (9, .pointer (some ⟨less9, 0, none⟩))] H) v1 g2 m5p m5n m5c set6p set6n set6c e7 turned8 less9 i10 X1 E H K := by kernel_rfl
  exact nodeR_imp compasslaw17_BlossomTurns.nok rfl ((k1 _).mpr (k2.mp h))
end Go.Mz
