/-
  The shallow texts of functions (LMG), each with a kernel-checked equation to the translated code. It proves nothing of the program by itself.
-/
import Derived.Test.YtbocpfdlfnodfaaTab
set_option linter.unusedVariables false
set_option maxRecDepth 100000
namespace Go.Mz
/-! ### compass/compasslaw19.ManyGrows (5) -/
noncomputable def compasslaw19_ManyGrows.A : An := { live := [(0, [0, 1, 2]), (1, [2, 3, 4]), (2, []), (3, [2, 3, 4]), (4, [2, 3, 4, 7, 9]), (5, [7]), (6, [2, 3, 4, 7]), (7, []), (8, [3, 4, 7]), (9, []), (10, [3, 4, 7]), (11, [3, 4, 7, 10]), (12, [3, 7, 10]), (13, [7, 11, 13])], ord := [], stb := [], pre := [] }
noncomputable def compasslaw19_ManyGrows.code : Code := bodyOf Go.Proofs.Try.f5
theorem compasslaw19_ManyGrows.ok : okCode compasslaw19_ManyGrows.A 95 compasslaw19_ManyGrows.code = true := by kernel_rfl
def compasslaw19_ManyGrows.rq (E : Value → Hp → Prop) (K : Bool → Hp → Prop) : Ex → Fr → Hp → Prop := retQ T0 [.tmp 6] [4] (fun r H => ldR (.one false [.bool]) r fun u => K (asB u) H) E
def compasslaw19_ManyGrows.run (g0_Nodes : Int) (g0_Edgesp : Option Addr) (g0_Edgesn : Nat) (g0_Edgesc : Nat) (w1_Mostp : Option Addr) (w1_Mostn : Nat) (w1_Mostc : Nat) (w1_Node : Int) (ot2p : Option Addr) (ot2n : Nat) (ot2c : Nat) (E : Value → Hp → Prop) (H : Hp) (K : Bool → Hp → Prop) : Prop := nodeM P0 T0 compasslaw19_ManyGrows.A compasslaw19_ManyGrows.code [] [] (compasslaw19_ManyGrows.rq E K) (argF 0 [.agg ⟨[.int .i64 g0_Nodes, .slice g0_Edgesp g0_Edgesn g0_Edgesc]⟩, .agg ⟨[.slice w1_Mostp w1_Mostn w1_Mostc, .int .i64 w1_Node]⟩, .slice ot2p ot2n ot2c]) H
theorem compasslaw19_ManyGrows.of {g0_Nodes : Int} {g0_Edgesp : Option Addr} {g0_Edgesn : Nat} {g0_Edgesc : Nat} {w1_Mostp : Option Addr} {w1_Mostn : Nat} {w1_Mostc : Nat} {w1_Node : Int} {ot2p : Option Addr} {ot2n : Nat} {ot2c : Nat} {E : Value → Hp → Prop} {H : Hp} {K : Bool → Hp → Prop} (h : compasslaw19_ManyGrows.run g0_Nodes g0_Edgesp g0_Edgesn g0_Edgesc w1_Mostp w1_Mostn w1_Mostc w1_Node ot2p ot2n ot2c E H K) : compasslaw19_ManyGrows.call g0_Nodes g0_Edgesp g0_Edgesn g0_Edgesc w1_Mostp w1_Mostn w1_Mostc w1_Node ot2p ot2n ot2c E H K :=
  callW_of T0_ok P0_mixed (A := compasslaw19_ManyGrows.A) (fn := Go.Proofs.Try.f5) Go.Proofs.Try.func5 rfl compasslaw19_ManyGrows.ok rfl h
def compasslaw19_ManyGrows.j1 (g3 : Nat) (w4 : Nat) (m7p : Option Addr) (m7n : Nat) (m7c : Nat)  (E : Value → Hp → Prop) (H : Hp) (K : Bool → Hp → Prop) : Prop := nodeM P0 T0 compasslaw19_ManyGrows.A compasslaw19_ManyGrows.code [1, 1, 1, 1, 1] [] (compasslaw19_ManyGrows.rq E K) [(3, .pointer (some ⟨g3, 0, none⟩)), (4, .pointer (some ⟨w4, 0, none⟩)), (7, .slice m7p m7n m7c)] H
theorem compasslaw19_ManyGrows.nok : nodesOk compasslaw19_ManyGrows.code [[1, 1, 1, 1, 1]] = true := by kernel_rfl
def compasslaw19_ManyGrows.run_t (j1 : Nat → Nat → (Option Addr) → Nat → Nat → Hp → Prop) (g0_Nodes : Int) (g0_Edgesp : Option Addr) (g0_Edgesn : Nat) (g0_Edgesc : Nat) (w1_Mostp : Option Addr) (w1_Mostn : Nat) (w1_Mostc : Nat) (w1_Node : Int) (ot2p : Option Addr) (ot2n : Nat) (ot2c : Nat)  (E : Value → Hp → Prop) (H : Hp) (K : Bool → Hp → Prop) : Prop :=
  nw H ⟨[.int .i64 g0_Nodes, .slice g0_Edgesp g0_Edgesn g0_Edgesc], 24⟩ fun b_1 H_1 =>
  nw H_1 ⟨[.slice w1_Mostp w1_Mostn w1_Mostc, .int .i64 w1_Node], 37⟩ fun b_2 H_2 =>
  compasslaw19_awake.call  E H_2 fun r_1 H_3 =>
  bcase ((!r_1)) (
  K false H_3)
  (ldI .i64 (H_3.get b_1 0) fun x_1 =>
  ldS (H_3.get b_1 1) fun x_2p x_2n x_2c =>
  ldS (H_3.get b_2 0) fun x_3p x_3n x_3c =>
  bmatch_Solve.call x_1 x_2p x_2n x_2c x_3p x_3n x_3c E H_3 fun r_2p r_2n r_2c r_3p r_3n r_3c r_4 H_4 =>
  bcase (!decide ((r_4 : Int) = 0)) (
  K (decide (((r_2n : Int) : Int) = 0)) H_4)
  (ldI .i64 (H_4.get b_1 0) fun x_4 =>
  ldS (H_4.get b_1 1) fun x_5p x_5n x_5c =>
  ldS (H_4.get b_2 0) fun x_6p x_6n x_6c =>
  compassref12_Taken.call x_4 x_5p x_5n x_5c ot2p ot2n ot2c x_6p x_6n x_6c E H_4 fun r_5 H_5 =>
  bcase (r_5) (
  bcase (decide (((r_2n : Int) : Int) < (ot2n : Int))) (
  K false H_5)
  (j1 b_1 b_2 r_2p r_2n r_2c H_5))
  (j1 b_1 b_2 r_2p r_2n r_2c H_5)))
theorem compasslaw19_ManyGrows.run_eq {g0_Nodes : Int} {g0_Edgesp : Option Addr} {g0_Edgesn : Nat} {g0_Edgesc : Nat} {w1_Mostp : Option Addr} {w1_Mostn : Nat} {w1_Mostc : Nat} {w1_Node : Int} {ot2p : Option Addr} {ot2n : Nat} {ot2c : Nat} { E : Value → Hp → Prop} {H : Hp} {K : Bool → Hp → Prop} (h : compasslaw19_ManyGrows.run_t (fun g3 w4 m7p m7n m7c H => compasslaw19_ManyGrows.j1 g3 w4 m7p m7n m7c  E H K) g0_Nodes g0_Edgesp g0_Edgesn g0_Edgesc w1_Mostp w1_Mostn w1_Mostc w1_Node ot2p ot2n ot2c  E H K) : compasslaw19_ManyGrows.run g0_Nodes g0_Edgesp g0_Edgesn g0_Edgesc w1_Mostp w1_Mostn w1_Mostc w1_Node ot2p ot2n ot2c  E H K := by
  exact nodeR_imp2 (fun G => compasslaw19_ManyGrows.run_t (fun g3 w4 m7p m7n m7c H => G [1, 1, 1, 1, 1] [(3, .pointer (some ⟨g3, 0, none⟩)), (4, .pointer (some ⟨w4, 0, none⟩)), (7, .slice m7p m7n m7c)] H) g0_Nodes g0_Edgesp g0_Edgesn g0_Edgesc w1_Mostp w1_Mostn w1_Mostc w1_Node ot2p ot2n ot2c  E H K) compasslaw19_ManyGrows.nok rfl (fun G => by kernel_rfl) (Eq.mp (by kernel_rfl) h)
def compasslaw19_ManyGrows.j1_t  (g3 : Nat) (w4 : Nat) (m7p : Option Addr) (m7n : Nat) (m7c : Nat)  (E : Value → Hp → Prop) (H : Hp) (K : Bool → Hp → Prop) : Prop :=
  ldI .i64 (H.get w4 1) fun x_1 =>
  bcase (decide ((x_1 : Int) < 0)) (
  K true H)
  (ldI .i64 (H.get w4 1) fun x_2 =>
  ldS (H.get w4 0) fun x_3p x_3n x_3c =>
  bcase (decide (((x_3n : Int) : Int) ≤ x_2)) (
  K true H)
  (nw H ⟨[], 3⟩ fun b_1 H_1 =>
  ldS (H_1.get w4 0) fun x_4p x_4n x_4c =>
  appM 3 [.i .i64] 8 (some ⟨b_1, 0, none⟩) 0 0 x_4p x_4n H_1 fun a_1p a_1n a_1c H_2 =>
  ldI .i64 (H_2.get w4 1) fun x_5 =>
  ix a_1p a_1n x_5 1 fun b_2 o_1 =>
  ldI .i64 (H_2.get b_2 o_1) fun x_6 =>
  ix a_1p a_1n x_5 1 fun b_3 o_2 =>
  stC H_2 b_3 o_2 [.int .i64 (IntKind.wrap .i64 (x_6 + 1))] fun H_3 =>
  ldI .i64 (H_3.get g3 0) fun x_7 =>
  ldS (H_3.get g3 1) fun x_8p x_8n x_8c =>
  bmatch_Solve.call x_7 x_8p x_8n x_8c a_1p a_1n a_1c E H_3 fun r_1p r_1n r_1c r_2p r_2n r_2c r_3 H_4 =>
  bcase (decide ((r_3 : Int) = 130)) (
  K true H_4)
  (bcase (decide ((r_3 : Int) = 3)) (
  K true H_4)
  (bcase (decide ((r_3 : Int) = 0)) (
  bcase (decide (((r_1n : Int) : Int) = (m7n : Int))) (
  K true H_4)
  (K (decide (((r_1n : Int) : Int) = (IntKind.wrap .i64 ((m7n : Int) + 1)))) H_4))
  (K false H_4)))))
theorem compasslaw19_ManyGrows.j1_eq {g3 : Nat} {w4 : Nat} {m7p : Option Addr} {m7n : Nat} {m7c : Nat} { E : Value → Hp → Prop} {H : Hp} {K : Bool → Hp → Prop} (h : compasslaw19_ManyGrows.j1_t  g3 w4 m7p m7n m7c  E H K) : compasslaw19_ManyGrows.j1 g3 w4 m7p m7n m7c  E H K := by
  exact nodeR_imp2 (fun _ => compasslaw19_ManyGrows.j1_t  g3 w4 m7p m7n m7c  E H K) compasslaw19_ManyGrows.nok rfl (fun G => by kernel_rfl) h
end Go.Mz
