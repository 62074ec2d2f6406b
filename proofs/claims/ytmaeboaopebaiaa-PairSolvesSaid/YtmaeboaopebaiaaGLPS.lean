/-
  The shallow texts of functions (LPS), each with a kernel-checked equation to the translated code. It proves nothing of the program by itself.
-/
import Derived.Test.YtmaeboaopebaiaaTab
set_option linter.unusedVariables false
set_option maxRecDepth 100000
namespace Go.Mz
/-! ### compass/compasslaw15.PairSolves (7) -/
noncomputable def compasslaw15_PairSolves.A : An := { live := [(0, [0, 1, 2]), (1, [1, 2, 3]), (2, []), (3, [1, 2, 3]), (4, [1, 2, 3, 7]), (5, [1, 2, 3, 7, 8, 9]), (6, [1, 2, 3, 7, 8, 9, 10, 11, 12]), (7, []), (8, [1, 2, 3, 8, 10, 11, 12]), (9, [1, 3, 10, 11, 12]), (10, [1, 3, 8, 10, 11, 12]), (11, [8, 10, 11, 12]), (12, [1, 3, 10, 11, 12]), (13, [1, 3, 10, 12, 13, 14])], ord := [], stb := [], pre := [] }
noncomputable def compasslaw15_PairSolves.code : Code := bodyOf Go.Proofs.Try.f7
theorem compasslaw15_PairSolves.ok : okCode compasslaw15_PairSolves.A 95 compasslaw15_PairSolves.code = true := by kernel_rfl
def compasslaw15_PairSolves.rq (E : Value → Hp → Prop) (K : Bool → Hp → Prop) : Ex → Fr → Hp → Prop := retQ T0 [.tmp 6] [4] (fun r H => ldR (.one false [.bool]) r fun u => K (asB u) H) E
def compasslaw15_PairSolves.run (g0_Nodes : Int) (g0_Edgesp : Option Addr) (g0_Edgesn : Nat) (g0_Edgesc : Nat) (left1 : Int) (kind2 : Int) (E : Value → Hp → Prop) (H : Hp) (K : Bool → Hp → Prop) : Prop := nodeM P0 T0 compasslaw15_PairSolves.A compasslaw15_PairSolves.code [] [] (compasslaw15_PairSolves.rq E K) (argF 0 [.agg ⟨[.int .i64 g0_Nodes, .slice g0_Edgesp g0_Edgesn g0_Edgesc]⟩, .int .i64 left1, .int .i64 kind2]) H
theorem compasslaw15_PairSolves.of {g0_Nodes : Int} {g0_Edgesp : Option Addr} {g0_Edgesn : Nat} {g0_Edgesc : Nat} {left1 : Int} {kind2 : Int} {E : Value → Hp → Prop} {H : Hp} {K : Bool → Hp → Prop} (h : compasslaw15_PairSolves.run g0_Nodes g0_Edgesp g0_Edgesn g0_Edgesc left1 kind2 E H K) : compasslaw15_PairSolves.call g0_Nodes g0_Edgesp g0_Edgesn g0_Edgesc left1 kind2 E H K :=
  callW_of T0_ok P0_mixed (A := compasslaw15_PairSolves.A) (fn := Go.Proofs.Try.f7) Go.Proofs.Try.func7 rfl compasslaw15_PairSolves.ok rfl h
def compasslaw15_PairSolves.j1 (left1 : Int) (g3 : Nat) (code8 : Int) (m10p : Option Addr) (m10n : Nat) (m10c : Nat) (c11p : Option Addr) (c11n : Nat) (c11c : Nat) (e12 : Int)  (E : Value → Hp → Prop) (H : Hp) (K : Bool → Hp → Prop) : Prop := nodeM P0 T0 compasslaw15_PairSolves.A compasslaw15_PairSolves.code [1, 1, 1, 1, 1, 1, 1] [] (compasslaw15_PairSolves.rq E K) [(1, .int .i64 left1), (3, .pointer (some ⟨g3, 0, none⟩)), (8, .int .i64 code8), (10, .slice m10p m10n m10c), (11, .slice c11p c11n c11c), (12, .int .i64 e12)] H
theorem compasslaw15_PairSolves.nok : nodesOk compasslaw15_PairSolves.code [[1, 1, 1, 1, 1, 1, 1]] = true := by kernel_rfl
def compasslaw15_PairSolves.run_t (j1 : Int → Nat → Int → (Option Addr) → Nat → Nat → (Option Addr) → Nat → Nat → Int → Hp → Prop) (g0_Nodes : Int) (g0_Edgesp : Option Addr) (g0_Edgesn : Nat) (g0_Edgesc : Nat) (left1 : Int) (kind2 : Int)  (E : Value → Hp → Prop) (H : Hp) (K : Bool → Hp → Prop) : Prop :=
  nw H ⟨[.int .i64 g0_Nodes, .slice g0_Edgesp g0_Edgesn g0_Edgesc], 24⟩ fun b_1 H_1 =>
  compasslaw15_awake.call  E H_1 fun r_1 H_2 =>
  bcase ((!r_1)) (
  K false H_2)
  (ldI .i64 (H_2.get b_1 0) fun x_1 =>
  ldS (H_2.get b_1 1) fun x_2p x_2n x_2c =>
  bimatch_Sides.call x_1 x_2p x_2n x_2c left1 E H_2 fun r_2_Code r_2_At H_3 =>
  nw H_3 ⟨[.int .i64 0, .int .i64 0], 42⟩ fun b_2 H_4 =>
  stC H_4 b_2 0 [.int .i64 r_2_Code, .int .i64 r_2_At] fun H_5 =>
  ldI .i64 (H_5.get b_1 0) fun x_3 =>
  ldS (H_5.get b_1 1) fun x_4p x_4n x_4c =>
  compassref15_Sides.call x_3 x_4p x_4n x_4c left1 E H_5 fun r_3 r_4 H_6 =>
  ldI .i64 (H_6.get b_1 0) fun x_5 =>
  ldS (H_6.get b_1 1) fun x_6p x_6n x_6c =>
  bimatch_Solve.call x_5 x_6p x_6n x_6c left1 kind2 E H_6 fun r_5p r_5n r_5c r_6p r_6n r_6c r_7 H_7 =>
  ldI .i64 (H_7.get b_2 0) fun x_7 =>
  bcase (!decide ((x_7 : Int) = r_3)) (
  K false H_7)
  (ldI .i64 (H_7.get b_2 1) fun x_8 =>
  bcase (!decide ((x_8 : Int) = r_4)) (
  K false H_7)
  (bcase (decide ((r_3 : Int) = 0)) (
  bcase (decide ((kind2 : Int) < 1)) (
  j1 left1 b_1 50 r_5p r_5n r_5c r_6p r_6n r_6c r_7 H_7)
  (bcase (decide ((2 : Int) < kind2)) (
  j1 left1 b_1 50 r_5p r_5n r_5c r_6p r_6n r_6c r_7 H_7)
  (j1 left1 b_1 r_3 r_5p r_5n r_5c r_6p r_6n r_6c r_7 H_7)))
  (j1 left1 b_1 r_3 r_5p r_5n r_5c r_6p r_6n r_6c r_7 H_7))))
theorem compasslaw15_PairSolves.run_eq {g0_Nodes : Int} {g0_Edgesp : Option Addr} {g0_Edgesn : Nat} {g0_Edgesc : Nat} {left1 : Int} {kind2 : Int} { E : Value → Hp → Prop} {H : Hp} {K : Bool → Hp → Prop} (h : compasslaw15_PairSolves.run_t (fun left1 g3 code8 m10p m10n m10c c11p c11n c11c e12 H => compasslaw15_PairSolves.j1 left1 g3 code8 m10p m10n m10c c11p c11n c11c e12  E H K) g0_Nodes g0_Edgesp g0_Edgesn g0_Edgesc left1 kind2  E H K) : compasslaw15_PairSolves.run g0_Nodes g0_Edgesp g0_Edgesn g0_Edgesc left1 kind2  E H K := by
  have k1 : ∀ G : List Nat → Fr → Hp → Prop, nodeR P0 T0 compasslaw15_PairSolves.A [[1, 1, 1, 1, 1, 1, 1]] G compasslaw15_PairSolves.code [] [] (compasslaw15_PairSolves.rq E K) (argF 0 [.agg ⟨[.int .i64 g0_Nodes, .slice g0_Edgesp g0_Edgesn g0_Edgesc]⟩, .int .i64 left1, .int .i64 kind2]) H = compasslaw15_PairSolves.run_t (fun left1 g3 code8 m10p m10n m10c c11p c11n c11c e12 H => G [1, 1, 1, 1, 1, 1, 1] [(1, .int .i64 left1), (3, .pointer (some ⟨g3, 0, none⟩)), (8, .int .i64 code8), (10, .slice m10p m10n m10c), (11, .slice c11p c11n c11c), (12, .int .i64 e12)] H) g0_Nodes g0_Edgesp g0_Edgesn g0_Edgesc left1 kind2  E H K := fun G => by kernel_rfl
  have k2 : compasslaw15_PairSolves.run_t (fun left1 g3 code8 m10p m10n m10c c11p c11n c11c e12 H => compasslaw15_PairSolves.j1 left1 g3 code8 m10p m10n m10c c11p c11n c11c e12  E H K) g0_Nodes g0_Edgesp g0_Edgesn g0_Edgesc left1 kind2  E H K = compasslaw15_PairSolves.run_t (fun left1 g3 code8 m10p m10n m10c c11p c11n c11c e12 H => (fun q F H => nodeM P0 T0 compasslaw15_PairSolves.A compasslaw15_PairSolves.code q.reverse [] (compasslaw15_PairSolves.rq E K) F H) [1, 1, 1, 1, 1, 1, 1] [(1, .int .i64 left1), (3, .pointer (some ⟨g3, 0, none⟩)), (8, .int .i64 code8), (10, .slice m10p m10n m10c), (11, .slice c11p c11n c11c), (12, .int .i64 e12)] H) g0_Nodes g0_Edgesp g0_Edgesn g0_Edgesc left1 kind2  E H K := by kernel_rfl
  exact nodeR_imp compasslaw15_PairSolves.nok rfl ((k1 _).mpr (k2.mp h))
def compasslaw15_PairSolves.j1_t  (left1 : Int) (g3 : Nat) (code8 : Int) (m10p : Option Addr) (m10n : Nat) (m10c : Nat) (c11p : Option Addr) (c11n : Nat) (c11c : Nat) (e12 : Int)  (E : Value → Hp → Prop) (H : Hp) (K : Bool → Hp → Prop) : Prop :=
  bcase (!decide ((code8 : Int) = 0)) (
  bcase (decide ((e12 : Int) = code8)) (
  bcase (decide (((m10n : Int) : Int) = 0)) (
  K (decide (((c11n : Int) : Int) = 0)) H)
  (K false H))
  (K false H))
  (ldI .i64 (H.get g3 0) fun x_1 =>
  ldS (H.get g3 1) fun x_2p x_2n x_2c =>
  compassref12_Covered.call x_1 x_2p x_2n x_2c m10p m10n m10c c11p c11n c11c E H fun r_1 r_2 H_1 =>
  bcase (decide ((e12 : Int) = 0)) (
  bcase (decide ((r_2 : Int) = 0)) (
  ldI .i64 (H_1.get g3 0) fun x_3 =>
  ldS (H_1.get g3 1) fun x_4p x_4n x_4c =>
  compassref15_Most.call x_3 x_4p x_4n x_4c left1 E H_1 fun r_3 H_2 =>
  bcase (decide ((r_1 : Int) = r_3)) (
  K (decide ((r_1 : Int) = (m10n : Int))) H_2)
  (K false H_2))
  (K false H_1))
  (K false H_1))
theorem compasslaw15_PairSolves.j1_eq {left1 : Int} {g3 : Nat} {code8 : Int} {m10p : Option Addr} {m10n : Nat} {m10c : Nat} {c11p : Option Addr} {c11n : Nat} {c11c : Nat} {e12 : Int} { E : Value → Hp → Prop} {H : Hp} {K : Bool → Hp → Prop} (h : compasslaw15_PairSolves.j1_t  left1 g3 code8 m10p m10n m10c c11p c11n c11c e12  E H K) : compasslaw15_PairSolves.j1 left1 g3 code8 m10p m10n m10c c11p c11n c11c e12  E H K := by
  have k1 : ∀ G : List Nat → Fr → Hp → Prop, nodeR P0 T0 compasslaw15_PairSolves.A [[1, 1, 1, 1, 1, 1, 1]] G compasslaw15_PairSolves.code [1, 1, 1, 1, 1, 1, 1] [] (compasslaw15_PairSolves.rq E K) [(1, .int .i64 left1), (3, .pointer (some ⟨g3, 0, none⟩)), (8, .int .i64 code8), (10, .slice m10p m10n m10c), (11, .slice c11p c11n c11c), (12, .int .i64 e12)] H = compasslaw15_PairSolves.j1_t  left1 g3 code8 m10p m10n m10c c11p c11n c11c e12  E H K := fun G => by kernel_rfl
  exact nodeR_imp compasslaw15_PairSolves.nok rfl ((k1 _).mpr h)
end Go.Mz
