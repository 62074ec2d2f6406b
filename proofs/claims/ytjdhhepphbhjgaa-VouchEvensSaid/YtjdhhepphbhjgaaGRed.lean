/-
  The shallow texts of functions (Red), each with a kernel-checked equation to the translated code. It proves nothing of the program by itself.
-/
import Derived.Test.YtjdhhepphbhjgaaTab
set_option linter.unusedVariables false
set_option maxRecDepth 100000
namespace Go.Mz
/-! ### compass/compassref12.Cheapest (22) -/
/-! ### compass/compassref12.Weights (62) -/
noncomputable def compassref12_Weights.A : An := { live := [(0, [0, 1]), (1, [0, 3]), (2, []), (3, [0, 3]), (4, [0, 3, 5]), (5, [0, 3, 5]), (6, [0, 3, 5]), (7, [0, 3, 5, 6]), (8, []), (9, [])], ord := [], stb := [], pre := [] }
noncomputable def compassref12_Weights.code : Code := bodyOf Go.Proofs.Try.f62
theorem compassref12_Weights.ok : okCode compassref12_Weights.A 60 compassref12_Weights.code = true := by kernel_rfl
def compassref12_Weights.rq (E : Value → Hp → Prop) (K : Bool → Hp → Prop) : Ex → Fr → Hp → Prop := retQ T0 [.tmp 4] [4] (fun r H => ldR (.one false [.bool]) r fun u => K (asB u) H) E
def compassref12_Weights.run (n0 : Int) (d1_Yp : Option Addr) (d1_Yn : Nat) (d1_Yc : Nat) (d1_Setsp : Option Addr) (d1_Setsn : Nat) (d1_Setsc : Nat) (E : Value → Hp → Prop) (H : Hp) (K : Bool → Hp → Prop) : Prop := nodeM P0 T0 compassref12_Weights.A compassref12_Weights.code [] [] (compassref12_Weights.rq E K) (argF 0 [.int .i64 n0, .agg ⟨[.slice d1_Yp d1_Yn d1_Yc, .slice d1_Setsp d1_Setsn d1_Setsc]⟩]) H
theorem compassref12_Weights.of {n0 : Int} {d1_Yp : Option Addr} {d1_Yn : Nat} {d1_Yc : Nat} {d1_Setsp : Option Addr} {d1_Setsn : Nat} {d1_Setsc : Nat} {E : Value → Hp → Prop} {H : Hp} {K : Bool → Hp → Prop} (h : compassref12_Weights.run n0 d1_Yp d1_Yn d1_Yc d1_Setsp d1_Setsn d1_Setsc E H K) : compassref12_Weights.call n0 d1_Yp d1_Yn d1_Yc d1_Setsp d1_Setsn d1_Setsc E H K :=
  callW_of T0_ok P0_mixed (A := compassref12_Weights.A) (fn := Go.Proofs.Try.f62) Go.Proofs.Try.func62 rfl compassref12_Weights.ok rfl h
noncomputable def compassref12_Weights.f1 (n0 : Int) (d3 : Nat) (i5 : Int) : Fr := [(0, .int .i64 n0), (3, .pointer (some ⟨d3, 0, none⟩)), (5, .int .i64 i5)]
def compassref12_Weights.l1 (n0 : Int) (d3 : Nat) (i5 : Int)  (E : Value → Hp → Prop) (H : Hp) (K : Bool → Hp → Prop) : Prop := nodeM P0 T0 compassref12_Weights.A compassref12_Weights.code [1, 1, 0, 1, 0] [] (compassref12_Weights.rq E K) (compassref12_Weights.f1 n0 d3 i5) H
def compassref12_Weights.b1 (n0 : Int) (d3 : Nat) (i5 : Int)  (X1 : Fr → Hp → Prop) (E : Value → Hp → Prop) (H : Hp) (K : Bool → Hp → Prop) : Prop := nodeM P0 T0 compassref12_Weights.A compassref12_Weights.code [1, 1, 0, 1, 0, 0] [X1] (compassref12_Weights.rq E K) (compassref12_Weights.f1 n0 d3 i5) H
theorem compassref12_Weights.l1_rule { E : Value → Hp → Prop} {K : Bool → Hp → Prop} (I : Int → Nat → Int → Hp → Prop) (μ : Int → Nat → Int → Hp → Nat)
    (h : ∀ n0 d3 i5 H, I n0 d3 i5 H → ∀ X : Fr → Hp → Prop, (∀ n0' d3' i5' H', I n0' d3' i5' H' → μ n0' d3' i5' H' < μ n0 d3 i5 H → X (compassref12_Weights.f1 n0' d3' i5') H') → compassref12_Weights.b1 n0 d3 i5  X E H K)
    {n0 : Int} {d3 : Nat} {i5 : Int} {H : Hp} (hI : I n0 d3 i5 H) : compassref12_Weights.l1 n0 d3 i5  E H K :=
  loop_rule (S := Int × Nat × Int) (fun s => compassref12_Weights.f1 (s.1) (s.2.1) (s.2.2)) (fun s H => I (s.1) (s.2.1) (s.2.2) H) (fun s H => μ (s.1) (s.2.1) (s.2.2) H) (fun s H hI X hX => h (s.1) (s.2.1) (s.2.2) H hI X fun n0' d3' i5' H' hI' hlt => hX (n0', d3', i5') H' hI' hlt) (s := (n0, d3, i5)) rfl hI
theorem compassref12_Weights.nok : nodesOk compassref12_Weights.code [[0, 1, 0, 1, 1]] = true := by kernel_rfl
def compassref12_Weights.run_t (l1 : Int → Nat → Int → Hp → Prop) (n0 : Int) (d1_Yp : Option Addr) (d1_Yn : Nat) (d1_Yc : Nat) (d1_Setsp : Option Addr) (d1_Setsn : Nat) (d1_Setsc : Nat)  (E : Value → Hp → Prop) (H : Hp) (K : Bool → Hp → Prop) : Prop :=
  nw H ⟨[.slice d1_Yp d1_Yn d1_Yc, .slice d1_Setsp d1_Setsn d1_Setsc], 45⟩ fun b_1 H_1 =>
  ldS (H_1.get b_1 0) fun x_1p x_1n x_1c =>
  compassref11_Pots.call n0 none 0 0 x_1p x_1n x_1c E H_1 fun r_1 H_2 =>
  bcase ((!r_1)) (
  K false H_2)
  (ldS (H_2.get b_1 1) fun x_2p x_2n x_2c =>
  bcase (decide ((n0 : Int) < (x_2n : Int))) (
  K false H_2)
  (l1 n0 b_1 0 H_2))
theorem compassref12_Weights.run_eq {n0 : Int} {d1_Yp : Option Addr} {d1_Yn : Nat} {d1_Yc : Nat} {d1_Setsp : Option Addr} {d1_Setsn : Nat} {d1_Setsc : Nat} { E : Value → Hp → Prop} {H : Hp} {K : Bool → Hp → Prop} (h : compassref12_Weights.run_t (fun n0 d3 i5 H => compassref12_Weights.l1 n0 d3 i5  E H K) n0 d1_Yp d1_Yn d1_Yc d1_Setsp d1_Setsn d1_Setsc  E H K) : compassref12_Weights.run n0 d1_Yp d1_Yn d1_Yc d1_Setsp d1_Setsn d1_Setsc  E H K := by
  have k1 : ∀ G : List Nat → Fr → Hp → Prop, nodeR P0 T0 compassref12_Weights.A [[0, 1, 0, 1, 1]] G compassref12_Weights.code [] [] (compassref12_Weights.rq E K) (argF 0 [.int .i64 n0, .agg ⟨[.slice d1_Yp d1_Yn d1_Yc, .slice d1_Setsp d1_Setsn d1_Setsc]⟩]) H = compassref12_Weights.run_t (fun n0 d3 i5 H => G [0, 1, 0, 1, 1] [(0, .int .i64 n0), (3, .pointer (some ⟨d3, 0, none⟩)), (5, .int .i64 i5)] H) n0 d1_Yp d1_Yn d1_Yc d1_Setsp d1_Setsn d1_Setsc  E H K := fun G => by kernel_rfl
  have k2 : compassref12_Weights.run_t (fun n0 d3 i5 H => compassref12_Weights.l1 n0 d3 i5  E H K) n0 d1_Yp d1_Yn d1_Yc d1_Setsp d1_Setsn d1_Setsc  E H K = compassref12_Weights.run_t (fun n0 d3 i5 H => (fun q F H => nodeM P0 T0 compassref12_Weights.A compassref12_Weights.code q.reverse [] (compassref12_Weights.rq E K) F H) [0, 1, 0, 1, 1] [(0, .int .i64 n0), (3, .pointer (some ⟨d3, 0, none⟩)), (5, .int .i64 i5)] H) n0 d1_Yp d1_Yn d1_Yc d1_Setsp d1_Setsn d1_Setsc  E H K := by kernel_rfl
  exact nodeR_imp compassref12_Weights.nok rfl ((k1 _).mpr (k2.mp h))
def compassref12_Weights.b1_t  (n0 : Int) (d3 : Nat) (i5 : Int) (X1 : Fr → Hp → Prop) (E : Value → Hp → Prop) (H : Hp) (K : Bool → Hp → Prop) : Prop :=
  ldS (H.get d3 1) fun x_1p x_1n x_1c =>
  bcase (decide ((i5 : Int) < (x_1n : Int))) (
  ldS (H.get d3 1) fun x_2p x_2n x_2c =>
  ix x_2p x_2n i5 2 fun b_1 o_1 =>
  ldS (H.get b_1 o_1) fun x_3p x_3n x_3c =>
  ldI .i64 (H.get b_1 (o_1 + 1)) fun x_4 =>
  nw H ⟨[.slice none 0 0, .int .i64 0], 108⟩ fun b_2 H_1 =>
  stC H_1 b_2 0 [.slice x_3p x_3n x_3c, .int .i64 x_4] fun H_2 =>
  ldS (H_2.get b_2 0) fun x_5p x_5n x_5c =>
  bcase (decide (((x_5n : Int) : Int) < 3)) (
  K false H_2)
  (ldS (H_2.get b_2 0) fun x_6p x_6n x_6c =>
  2 ≠ (0 : Int) ∧
  bcase (decide (((Int.tmod (x_6n : Int) 2) : Int) = 0)) (
  K false H_2)
  (ldS (H_2.get b_2 0) fun x_7p x_7n x_7c =>
  compassref12_Rising.call x_7p x_7n x_7c n0 E H_2 fun r_1 H_3 =>
  bcase ((!r_1)) (
  K false H_3)
  (ldI .i64 (H_3.get b_2 1) fun x_8 =>
  bcase (decide ((x_8 : Int) < 0)) (
  K false H_3)
  (ldI .i64 (H_3.get b_2 1) fun x_9 =>
  bcase (decide ((4398046511104 : Int) < x_9)) (
  K false H_3)
  (X1 (compassref12_Weights.f1 n0 d3 (IntKind.wrap .i64 (i5 + 1))) H_3))))))
  (K true H)
theorem compassref12_Weights.b1_eq {n0 : Int} {d3 : Nat} {i5 : Int} {X1 : Fr → Hp → Prop} { E : Value → Hp → Prop} {H : Hp} {K : Bool → Hp → Prop} (h : compassref12_Weights.b1_t  n0 d3 i5 X1 E H K) : compassref12_Weights.b1 n0 d3 i5 X1 E H K := by
  have k1 : ∀ G : List Nat → Fr → Hp → Prop, nodeR P0 T0 compassref12_Weights.A [[0, 1, 0, 1, 1]] G compassref12_Weights.code [1, 1, 0, 1, 0, 0] [X1] (compassref12_Weights.rq E K) (compassref12_Weights.f1 n0 d3 i5) H = compassref12_Weights.b1_t  n0 d3 i5 X1 E H K := fun G => by kernel_rfl
  exact nodeR_imp compassref12_Weights.nok rfl ((k1 _).mpr h)
/-! ### compass/compassref12.Pair (63) -/
noncomputable def compassref12_Pair.A : An := { live := [(0, [0, 1, 2]), (1, [1, 2, 3]), (2, [1, 2, 3, 7]), (3, [1, 2, 3, 7, 8]), (4, [1, 2, 3, 7, 8]), (5, [1, 2, 3, 7, 8]), (6, [1, 2, 3, 7, 8]), (7, [7])], ord := [(1, [0, 1, 2, 3, 4, 5, 6, 7, 8, 9, 10, 11])], stb := [], pre := [(1, [[], [0], [], [0, 1, 2], [0, 1, 2, 3], [], [5], [], [5, 6, 7], [5, 6, 7, 8], [0, 1, 2, 3, 4, 5, 6, 7, 8, 9], [0, 1, 2, 3, 4, 5, 6, 7, 8, 9, 10]])] }
noncomputable def compassref12_Pair.code : Code := bodyOf Go.Proofs.Try.f63
theorem compassref12_Pair.ok : okCode compassref12_Pair.A 54 compassref12_Pair.code = true := by kernel_rfl
def compassref12_Pair.rq (E : Value → Hp → Prop) (K : Int → Hp → Prop) : Ex → Fr → Hp → Prop := retQ T0 [.tmp 6] [2] (fun r H => ldR (.one false [.i .i64]) r fun u => K (asI u) H) E
def compassref12_Pair.run (d0_Yp : Option Addr) (d0_Yn : Nat) (d0_Yc : Nat) (d0_Setsp : Option Addr) (d0_Setsn : Nat) (d0_Setsc : Nat) (u1 : Int) (v2 : Int) (E : Value → Hp → Prop) (H : Hp) (K : Int → Hp → Prop) : Prop := nodeM P0 T0 compassref12_Pair.A compassref12_Pair.code [] [] (compassref12_Pair.rq E K) (argF 0 [.agg ⟨[.slice d0_Yp d0_Yn d0_Yc, .slice d0_Setsp d0_Setsn d0_Setsc]⟩, .int .i64 u1, .int .i64 v2]) H
theorem compassref12_Pair.of {d0_Yp : Option Addr} {d0_Yn : Nat} {d0_Yc : Nat} {d0_Setsp : Option Addr} {d0_Setsn : Nat} {d0_Setsc : Nat} {u1 : Int} {v2 : Int} {E : Value → Hp → Prop} {H : Hp} {K : Int → Hp → Prop} (h : compassref12_Pair.run d0_Yp d0_Yn d0_Yc d0_Setsp d0_Setsn d0_Setsc u1 v2 E H K) : compassref12_Pair.call d0_Yp d0_Yn d0_Yc d0_Setsp d0_Setsn d0_Setsc u1 v2 E H K :=
  callW_of T0_ok P0_mixed (A := compassref12_Pair.A) (fn := Go.Proofs.Try.f63) Go.Proofs.Try.func63 rfl compassref12_Pair.ok rfl h
noncomputable def compassref12_Pair.f1 (u1 : Int) (v2 : Int) (d3 : Nat) (x7 : Int) (i8 : Int) : Fr := [(1, .int .i64 u1), (2, .int .i64 v2), (3, .pointer (some ⟨d3, 0, none⟩)), (7, .int .i64 x7), (8, .int .i64 i8)]
def compassref12_Pair.j1 (u1 : Int) (v2 : Int) (d3 : Nat) (x7 : Int) (i8 : Int) (X1 : Fr → Hp → Prop) (E : Value → Hp → Prop) (H : Hp) (K : Int → Hp → Prop) : Prop := nodeM P0 T0 compassref12_Pair.A compassref12_Pair.code [1, 1, 0, 1, 0, 0, 1, 1] [X1] (compassref12_Pair.rq E K) [(1, .int .i64 u1), (2, .int .i64 v2), (3, .pointer (some ⟨d3, 0, none⟩)), (7, .int .i64 x7), (8, .int .i64 i8)] H
def compassref12_Pair.l1 (u1 : Int) (v2 : Int) (d3 : Nat) (x7 : Int) (i8 : Int)  (E : Value → Hp → Prop) (H : Hp) (K : Int → Hp → Prop) : Prop := nodeM P0 T0 compassref12_Pair.A compassref12_Pair.code [1, 1, 0, 1, 0] [] (compassref12_Pair.rq E K) (compassref12_Pair.f1 u1 v2 d3 x7 i8) H
def compassref12_Pair.b1 (u1 : Int) (v2 : Int) (d3 : Nat) (x7 : Int) (i8 : Int)  (X1 : Fr → Hp → Prop) (E : Value → Hp → Prop) (H : Hp) (K : Int → Hp → Prop) : Prop := nodeM P0 T0 compassref12_Pair.A compassref12_Pair.code [1, 1, 0, 1, 0, 0] [X1] (compassref12_Pair.rq E K) (compassref12_Pair.f1 u1 v2 d3 x7 i8) H
theorem compassref12_Pair.l1_rule { E : Value → Hp → Prop} {K : Int → Hp → Prop} (I : Int → Int → Nat → Int → Int → Hp → Prop) (μ : Int → Int → Nat → Int → Int → Hp → Nat)
    (h : ∀ u1 v2 d3 x7 i8 H, I u1 v2 d3 x7 i8 H → ∀ X : Fr → Hp → Prop, (∀ u1' v2' d3' x7' i8' H', I u1' v2' d3' x7' i8' H' → μ u1' v2' d3' x7' i8' H' < μ u1 v2 d3 x7 i8 H → X (compassref12_Pair.f1 u1' v2' d3' x7' i8') H') → compassref12_Pair.b1 u1 v2 d3 x7 i8  X E H K)
    {u1 : Int} {v2 : Int} {d3 : Nat} {x7 : Int} {i8 : Int} {H : Hp} (hI : I u1 v2 d3 x7 i8 H) : compassref12_Pair.l1 u1 v2 d3 x7 i8  E H K :=
  loop_rule (S := Int × Int × Nat × Int × Int) (fun s => compassref12_Pair.f1 (s.1) (s.2.1) (s.2.2.1) (s.2.2.2.1) (s.2.2.2.2)) (fun s H => I (s.1) (s.2.1) (s.2.2.1) (s.2.2.2.1) (s.2.2.2.2) H) (fun s H => μ (s.1) (s.2.1) (s.2.2.1) (s.2.2.2.1) (s.2.2.2.2) H) (fun s H hI X hX => h (s.1) (s.2.1) (s.2.2.1) (s.2.2.2.1) (s.2.2.2.2) H hI X fun u1' v2' d3' x7' i8' H' hI' hlt => hX (u1', v2', d3', x7', i8') H' hI' hlt) (s := (u1, v2, d3, x7, i8)) rfl hI
theorem compassref12_Pair.nok : nodesOk compassref12_Pair.code [[0, 1, 0, 1, 1], [1, 1, 0, 0, 1, 0, 1, 1]] = true := by kernel_rfl
def compassref12_Pair.run_t (l1 : Int → Int → Nat → Int → Int → Hp → Prop) (d0_Yp : Option Addr) (d0_Yn : Nat) (d0_Yc : Nat) (d0_Setsp : Option Addr) (d0_Setsn : Nat) (d0_Setsc : Nat) (u1 : Int) (v2 : Int)  (E : Value → Hp → Prop) (H : Hp) (K : Int → Hp → Prop) : Prop :=
  nw H ⟨[.slice d0_Yp d0_Yn d0_Yc, .slice d0_Setsp d0_Setsn d0_Setsc], 45⟩ fun b_1 H_1 =>
  ldS (H_1.get b_1 0) fun x_1p x_1n x_1c =>
  ix x_1p x_1n u1 1 fun b_2 o_1 =>
  ldI .i64 (H_1.get b_2 o_1) fun x_2 =>
  ldS (H_1.get b_1 0) fun x_3p x_3n x_3c =>
  ix x_3p x_3n v2 1 fun b_3 o_2 =>
  ldI .i64 (H_1.get b_3 o_2) fun x_4 =>
  l1 u1 v2 b_1 (IntKind.wrap .i64 (x_2 + x_4)) 0 H_1
theorem compassref12_Pair.run_eq {d0_Yp : Option Addr} {d0_Yn : Nat} {d0_Yc : Nat} {d0_Setsp : Option Addr} {d0_Setsn : Nat} {d0_Setsc : Nat} {u1 : Int} {v2 : Int} { E : Value → Hp → Prop} {H : Hp} {K : Int → Hp → Prop} (h : compassref12_Pair.run_t (fun u1 v2 d3 x7 i8 H => compassref12_Pair.l1 u1 v2 d3 x7 i8  E H K) d0_Yp d0_Yn d0_Yc d0_Setsp d0_Setsn d0_Setsc u1 v2  E H K) : compassref12_Pair.run d0_Yp d0_Yn d0_Yc d0_Setsp d0_Setsn d0_Setsc u1 v2  E H K := by
  have k1 : ∀ G : List Nat → Fr → Hp → Prop, nodeR P0 T0 compassref12_Pair.A [[0, 1, 0, 1, 1], [1, 1, 0, 0, 1, 0, 1, 1]] G compassref12_Pair.code [] [] (compassref12_Pair.rq E K) (argF 0 [.agg ⟨[.slice d0_Yp d0_Yn d0_Yc, .slice d0_Setsp d0_Setsn d0_Setsc]⟩, .int .i64 u1, .int .i64 v2]) H = compassref12_Pair.run_t (fun u1 v2 d3 x7 i8 H => G [0, 1, 0, 1, 1] [(1, .int .i64 u1), (2, .int .i64 v2), (3, .pointer (some ⟨d3, 0, none⟩)), (7, .int .i64 x7), (8, .int .i64 i8)] H) d0_Yp d0_Yn d0_Yc d0_Setsp d0_Setsn d0_Setsc u1 v2  E H K := fun G => by kernel_rfl
  have k2 : compassref12_Pair.run_t (fun u1 v2 d3 x7 i8 H => compassref12_Pair.l1 u1 v2 d3 x7 i8  E H K) d0_Yp d0_Yn d0_Yc d0_Setsp d0_Setsn d0_Setsc u1 v2  E H K = compassref12_Pair.run_t (fun u1 v2 d3 x7 i8 H => (fun q F H => nodeM P0 T0 compassref12_Pair.A compassref12_Pair.code q.reverse [] (compassref12_Pair.rq E K) F H) [0, 1, 0, 1, 1] [(1, .int .i64 u1), (2, .int .i64 v2), (3, .pointer (some ⟨d3, 0, none⟩)), (7, .int .i64 x7), (8, .int .i64 i8)] H) d0_Yp d0_Yn d0_Yc d0_Setsp d0_Setsn d0_Setsc u1 v2  E H K := by kernel_rfl
  exact nodeR_imp compassref12_Pair.nok rfl ((k1 _).mpr (k2.mp h))
def compassref12_Pair.j1_t  (u1 : Int) (v2 : Int) (d3 : Nat) (x7 : Int) (i8 : Int) (X1 : Fr → Hp → Prop) (E : Value → Hp → Prop) (H : Hp) (K : Int → Hp → Prop) : Prop :=
  X1 (compassref12_Pair.f1 u1 v2 d3 x7 (IntKind.wrap .i64 (i8 + 1))) H
theorem compassref12_Pair.j1_eq {u1 : Int} {v2 : Int} {d3 : Nat} {x7 : Int} {i8 : Int} {X1 : Fr → Hp → Prop} { E : Value → Hp → Prop} {H : Hp} {K : Int → Hp → Prop} (h : compassref12_Pair.j1_t  u1 v2 d3 x7 i8 X1 E H K) : compassref12_Pair.j1 u1 v2 d3 x7 i8 X1 E H K := by
  have k1 : ∀ G : List Nat → Fr → Hp → Prop, nodeR P0 T0 compassref12_Pair.A [[0, 1, 0, 1, 1], [1, 1, 0, 0, 1, 0, 1, 1]] G compassref12_Pair.code [1, 1, 0, 1, 0, 0, 1, 1] [X1] (compassref12_Pair.rq E K) [(1, .int .i64 u1), (2, .int .i64 v2), (3, .pointer (some ⟨d3, 0, none⟩)), (7, .int .i64 x7), (8, .int .i64 i8)] H = compassref12_Pair.j1_t  u1 v2 d3 x7 i8 X1 E H K := fun G => by kernel_rfl
  exact nodeR_imp compassref12_Pair.nok rfl ((k1 _).mpr h)
def compassref12_Pair.b1_t (j1 : Int → Int → Nat → Int → Int → Hp → Prop) (u1 : Int) (v2 : Int) (d3 : Nat) (x7 : Int) (i8 : Int) (X1 : Fr → Hp → Prop) (E : Value → Hp → Prop) (H : Hp) (K : Int → Hp → Prop) : Prop :=
  ldS (H.get d3 1) fun x_1p x_1n x_1c =>
  bcase (decide ((i8 : Int) < (x_1n : Int))) (
  ldS (H.get d3 1) fun x_2p x_2n x_2c =>
  ix x_2p x_2n i8 2 fun b_1 o_1 =>
  ldS (H.get b_1 o_1) fun x_3p x_3n x_3c =>
  compassref12_Has.call x_3p x_3n x_3c u1 E H fun r_1 H_1 =>
  bcase (r_1) (
  ldS (H_1.get d3 1) fun x_4p x_4n x_4c =>
  ix x_4p x_4n i8 2 fun b_2 o_2 =>
  ldS (H_1.get b_2 o_2) fun x_5p x_5n x_5c =>
  compassref12_Has.call x_5p x_5n x_5c v2 E H_1 fun r_2 H_2 =>
  bcase (r_2) (
  ldS (H_2.get d3 1) fun x_6p x_6n x_6c =>
  ix x_6p x_6n i8 2 fun b_3 o_3 =>
  ldI .i64 (H_2.get b_3 (o_3 + 1)) fun x_7 =>
  j1 u1 v2 d3 (IntKind.wrap .i64 (x7 - x_7)) i8 H_2)
  (j1 u1 v2 d3 x7 i8 H_2))
  (j1 u1 v2 d3 x7 i8 H_1))
  (K x7 H)
theorem compassref12_Pair.b1_eq {u1 : Int} {v2 : Int} {d3 : Nat} {x7 : Int} {i8 : Int} {X1 : Fr → Hp → Prop} { E : Value → Hp → Prop} {H : Hp} {K : Int → Hp → Prop} (h : compassref12_Pair.b1_t (fun u1 v2 d3 x7 i8 H => compassref12_Pair.j1 u1 v2 d3 x7 i8 X1 E H K) u1 v2 d3 x7 i8 X1 E H K) : compassref12_Pair.b1 u1 v2 d3 x7 i8 X1 E H K := by
  have k1 : ∀ G : List Nat → Fr → Hp → Prop, nodeR P0 T0 compassref12_Pair.A [[0, 1, 0, 1, 1], [1, 1, 0, 0, 1, 0, 1, 1]] G compassref12_Pair.code [1, 1, 0, 1, 0, 0] [X1] (compassref12_Pair.rq E K) (compassref12_Pair.f1 u1 v2 d3 x7 i8) H = compassref12_Pair.b1_t (fun u1 v2 d3 x7 i8 H => G [1, 1, 0, 0, 1, 0, 1, 1] [(1, .int .i64 u1), (2, .int .i64 v2), (3, .pointer (some ⟨d3, 0, none⟩)), (7, .int .i64 x7), (8, .int .i64 i8)] H) u1 v2 d3 x7 i8 X1 E H K := fun G => by kernel_rfl
  have k2 : compassref12_Pair.b1_t (fun u1 v2 d3 x7 i8 H => compassref12_Pair.j1 u1 v2 d3 x7 i8 X1 E H K) u1 v2 d3 x7 i8 X1 E H K = compassref12_Pair.b1_t (fun u1 v2 d3 x7 i8 H => (fun q F H => nodeM P0 T0 compassref12_Pair.A compassref12_Pair.code q.reverse [X1] (compassref12_Pair.rq E K) F H) [1, 1, 0, 0, 1, 0, 1, 1] [(1, .int .i64 u1), (2, .int .i64 v2), (3, .pointer (some ⟨d3, 0, none⟩)), (7, .int .i64 x7), (8, .int .i64 i8)] H) u1 v2 d3 x7 i8 X1 E H K := by kernel_rfl
  exact nodeR_imp compassref12_Pair.nok rfl ((k1 _).mpr (k2.mp h))
/-! ### compass/compassref12.Worth (64) -/
noncomputable def compassref12_Worth.A : An := { live := [(0, [0]), (1, [1]), (2, [1, 3]), (3, [1, 3, 4]), (4, [1, 3, 4]), (5, [1, 3, 4]), (6, [1, 3]), (7, [1, 3, 5]), (8, [1, 3, 5]), (9, [1, 3, 5]), (10, [1, 3, 5, 6]), (11, [1, 3, 5, 6]), (12, [1, 3, 5, 6]), (13, [3])], ord := [], stb := [], pre := [] }
noncomputable def compassref12_Worth.code : Code := bodyOf Go.Proofs.Try.f64
theorem compassref12_Worth.ok : okCode compassref12_Worth.A 48 compassref12_Worth.code = true := by kernel_rfl
def compassref12_Worth.rq (E : Value → Hp → Prop) (K : Int → Hp → Prop) : Ex → Fr → Hp → Prop := retQ T0 [.tmp 2] [2] (fun r H => ldR (.one false [.i .i64]) r fun u => K (asI u) H) E
def compassref12_Worth.run (d0_Yp : Option Addr) (d0_Yn : Nat) (d0_Yc : Nat) (d0_Setsp : Option Addr) (d0_Setsn : Nat) (d0_Setsc : Nat) (E : Value → Hp → Prop) (H : Hp) (K : Int → Hp → Prop) : Prop := nodeM P0 T0 compassref12_Worth.A compassref12_Worth.code [] [] (compassref12_Worth.rq E K) (argF 0 [.agg ⟨[.slice d0_Yp d0_Yn d0_Yc, .slice d0_Setsp d0_Setsn d0_Setsc]⟩]) H
theorem compassref12_Worth.of {d0_Yp : Option Addr} {d0_Yn : Nat} {d0_Yc : Nat} {d0_Setsp : Option Addr} {d0_Setsn : Nat} {d0_Setsc : Nat} {E : Value → Hp → Prop} {H : Hp} {K : Int → Hp → Prop} (h : compassref12_Worth.run d0_Yp d0_Yn d0_Yc d0_Setsp d0_Setsn d0_Setsc E H K) : compassref12_Worth.call d0_Yp d0_Yn d0_Yc d0_Setsp d0_Setsn d0_Setsc E H K :=
  callW_of T0_ok P0_mixed (A := compassref12_Worth.A) (fn := Go.Proofs.Try.f64) Go.Proofs.Try.func64 rfl compassref12_Worth.ok rfl h
noncomputable def compassref12_Worth.f1 (d1 : Nat) (x3 : Int) (i4 : Int) : Fr := [(1, .pointer (some ⟨d1, 0, none⟩)), (3, .int .i64 x3), (4, .int .i64 i4)]
noncomputable def compassref12_Worth.f2 (d1 : Nat) (x3 : Int) (i5 : Int) : Fr := [(1, .pointer (some ⟨d1, 0, none⟩)), (3, .int .i64 x3), (5, .int .i64 i5)]
noncomputable def compassref12_Worth.f3 (d1 : Nat) (x3 : Int) (i5 : Int) (k6 : Int) : Fr := [(1, .pointer (some ⟨d1, 0, none⟩)), (3, .int .i64 x3), (5, .int .i64 i5), (6, .int .i64 k6)]
def compassref12_Worth.j1 (d1 : Nat) (x3 : Int)  (E : Value → Hp → Prop) (H : Hp) (K : Int → Hp → Prop) : Prop := nodeM P0 T0 compassref12_Worth.A compassref12_Worth.code [1, 1, 1] [] (compassref12_Worth.rq E K) [(1, .pointer (some ⟨d1, 0, none⟩)), (3, .int .i64 x3)] H
def compassref12_Worth.j2 (d1 : Nat) (x3 : Int) (i5 : Int) (X1 : Fr → Hp → Prop) (E : Value → Hp → Prop) (H : Hp) (K : Int → Hp → Prop) : Prop := nodeM P0 T0 compassref12_Worth.A compassref12_Worth.code [1, 1, 1, 0, 1, 0, 0, 1, 1] [X1] (compassref12_Worth.rq E K) [(1, .pointer (some ⟨d1, 0, none⟩)), (3, .int .i64 x3), (5, .int .i64 i5)] H
def compassref12_Worth.l1 (d1 : Nat) (x3 : Int) (i4 : Int)  (E : Value → Hp → Prop) (H : Hp) (K : Int → Hp → Prop) : Prop := nodeM P0 T0 compassref12_Worth.A compassref12_Worth.code [1, 1, 0, 1, 0] [] (compassref12_Worth.rq E K) (compassref12_Worth.f1 d1 x3 i4) H
def compassref12_Worth.b1 (d1 : Nat) (x3 : Int) (i4 : Int)  (X1 : Fr → Hp → Prop) (E : Value → Hp → Prop) (H : Hp) (K : Int → Hp → Prop) : Prop := nodeM P0 T0 compassref12_Worth.A compassref12_Worth.code [1, 1, 0, 1, 0, 0] [X1] (compassref12_Worth.rq E K) (compassref12_Worth.f1 d1 x3 i4) H
theorem compassref12_Worth.l1_rule { E : Value → Hp → Prop} {K : Int → Hp → Prop} (I : Nat → Int → Int → Hp → Prop) (μ : Nat → Int → Int → Hp → Nat)
    (h : ∀ d1 x3 i4 H, I d1 x3 i4 H → ∀ X : Fr → Hp → Prop, (∀ d1' x3' i4' H', I d1' x3' i4' H' → μ d1' x3' i4' H' < μ d1 x3 i4 H → X (compassref12_Worth.f1 d1' x3' i4') H') → compassref12_Worth.b1 d1 x3 i4  X E H K)
    {d1 : Nat} {x3 : Int} {i4 : Int} {H : Hp} (hI : I d1 x3 i4 H) : compassref12_Worth.l1 d1 x3 i4  E H K :=
  loop_rule (S := Nat × Int × Int) (fun s => compassref12_Worth.f1 (s.1) (s.2.1) (s.2.2)) (fun s H => I (s.1) (s.2.1) (s.2.2) H) (fun s H => μ (s.1) (s.2.1) (s.2.2) H) (fun s H hI X hX => h (s.1) (s.2.1) (s.2.2) H hI X fun d1' x3' i4' H' hI' hlt => hX (d1', x3', i4') H' hI' hlt) (s := (d1, x3, i4)) rfl hI
def compassref12_Worth.l2 (d1 : Nat) (x3 : Int) (i5 : Int)  (E : Value → Hp → Prop) (H : Hp) (K : Int → Hp → Prop) : Prop := nodeM P0 T0 compassref12_Worth.A compassref12_Worth.code [1, 1, 1, 0, 1, 0] [] (compassref12_Worth.rq E K) (compassref12_Worth.f2 d1 x3 i5) H
def compassref12_Worth.b2 (d1 : Nat) (x3 : Int) (i5 : Int)  (X1 : Fr → Hp → Prop) (E : Value → Hp → Prop) (H : Hp) (K : Int → Hp → Prop) : Prop := nodeM P0 T0 compassref12_Worth.A compassref12_Worth.code [1, 1, 1, 0, 1, 0, 0] [X1] (compassref12_Worth.rq E K) (compassref12_Worth.f2 d1 x3 i5) H
theorem compassref12_Worth.l2_rule { E : Value → Hp → Prop} {K : Int → Hp → Prop} (I : Nat → Int → Int → Hp → Prop) (μ : Nat → Int → Int → Hp → Nat)
    (h : ∀ d1 x3 i5 H, I d1 x3 i5 H → ∀ X : Fr → Hp → Prop, (∀ d1' x3' i5' H', I d1' x3' i5' H' → μ d1' x3' i5' H' < μ d1 x3 i5 H → X (compassref12_Worth.f2 d1' x3' i5') H') → compassref12_Worth.b2 d1 x3 i5  X E H K)
    {d1 : Nat} {x3 : Int} {i5 : Int} {H : Hp} (hI : I d1 x3 i5 H) : compassref12_Worth.l2 d1 x3 i5  E H K :=
  loop_rule (S := Nat × Int × Int) (fun s => compassref12_Worth.f2 (s.1) (s.2.1) (s.2.2)) (fun s H => I (s.1) (s.2.1) (s.2.2) H) (fun s H => μ (s.1) (s.2.1) (s.2.2) H) (fun s H hI X hX => h (s.1) (s.2.1) (s.2.2) H hI X fun d1' x3' i5' H' hI' hlt => hX (d1', x3', i5') H' hI' hlt) (s := (d1, x3, i5)) rfl hI
def compassref12_Worth.l3 (d1 : Nat) (x3 : Int) (i5 : Int) (k6 : Int) (X1 : Fr → Hp → Prop) (E : Value → Hp → Prop) (H : Hp) (K : Int → Hp → Prop) : Prop := nodeM P0 T0 compassref12_Worth.A compassref12_Worth.code [1, 1, 1, 0, 1, 0, 0, 1, 0, 0, 1, 0] [X1] (compassref12_Worth.rq E K) (compassref12_Worth.f3 d1 x3 i5 k6) H
def compassref12_Worth.b3 (d1 : Nat) (x3 : Int) (i5 : Int) (k6 : Int) (X1 : Fr → Hp → Prop) (X2 : Fr → Hp → Prop) (E : Value → Hp → Prop) (H : Hp) (K : Int → Hp → Prop) : Prop := nodeM P0 T0 compassref12_Worth.A compassref12_Worth.code [1, 1, 1, 0, 1, 0, 0, 1, 0, 0, 1, 0, 0] [X1, X2] (compassref12_Worth.rq E K) (compassref12_Worth.f3 d1 x3 i5 k6) H
theorem compassref12_Worth.l3_rule {X1 : Fr → Hp → Prop} { E : Value → Hp → Prop} {K : Int → Hp → Prop} (I : Nat → Int → Int → Int → Hp → Prop) (μ : Nat → Int → Int → Int → Hp → Nat)
    (h : ∀ d1 x3 i5 k6 H, I d1 x3 i5 k6 H → ∀ X : Fr → Hp → Prop, (∀ d1' x3' i5' k6' H', I d1' x3' i5' k6' H' → μ d1' x3' i5' k6' H' < μ d1 x3 i5 k6 H → X (compassref12_Worth.f3 d1' x3' i5' k6') H') → compassref12_Worth.b3 d1 x3 i5 k6 X1 X E H K)
    {d1 : Nat} {x3 : Int} {i5 : Int} {k6 : Int} {H : Hp} (hI : I d1 x3 i5 k6 H) : compassref12_Worth.l3 d1 x3 i5 k6 X1 E H K :=
  loop_rule (S := Nat × Int × Int × Int) (fun s => compassref12_Worth.f3 (s.1) (s.2.1) (s.2.2.1) (s.2.2.2)) (fun s H => I (s.1) (s.2.1) (s.2.2.1) (s.2.2.2) H) (fun s H => μ (s.1) (s.2.1) (s.2.2.1) (s.2.2.2) H) (fun s H hI X hX => h (s.1) (s.2.1) (s.2.2.1) (s.2.2.2) H hI X fun d1' x3' i5' k6' H' hI' hlt => hX (d1', x3', i5', k6') H' hI' hlt) (s := (d1, x3, i5, k6)) rfl hI
theorem compassref12_Worth.nok : nodesOk compassref12_Worth.code [[0, 1, 0, 1, 1], [1, 1, 1], [0, 1, 0, 1, 1, 1], [0, 1, 0, 0, 1, 0, 0, 1, 0, 1, 1, 1], [1, 1, 0, 0, 1, 0, 1, 1, 1]] = true := by kernel_rfl
def compassref12_Worth.run_t (l1 : Nat → Int → Int → Hp → Prop) (d0_Yp : Option Addr) (d0_Yn : Nat) (d0_Yc : Nat) (d0_Setsp : Option Addr) (d0_Setsn : Nat) (d0_Setsc : Nat)  (E : Value → Hp → Prop) (H : Hp) (K : Int → Hp → Prop) : Prop :=
  nw H ⟨[.slice d0_Yp d0_Yn d0_Yc, .slice d0_Setsp d0_Setsn d0_Setsc], 45⟩ fun b_1 H_1 =>
  l1 b_1 0 0 H_1
theorem compassref12_Worth.run_eq {d0_Yp : Option Addr} {d0_Yn : Nat} {d0_Yc : Nat} {d0_Setsp : Option Addr} {d0_Setsn : Nat} {d0_Setsc : Nat} { E : Value → Hp → Prop} {H : Hp} {K : Int → Hp → Prop} (h : compassref12_Worth.run_t (fun d1 x3 i4 H => compassref12_Worth.l1 d1 x3 i4  E H K) d0_Yp d0_Yn d0_Yc d0_Setsp d0_Setsn d0_Setsc  E H K) : compassref12_Worth.run d0_Yp d0_Yn d0_Yc d0_Setsp d0_Setsn d0_Setsc  E H K := by
  have k1 : ∀ G : List Nat → Fr → Hp → Prop, nodeR P0 T0 compassref12_Worth.A [[0, 1, 0, 1, 1], [1, 1, 1], [0, 1, 0, 1, 1, 1], [0, 1, 0, 0, 1, 0, 0, 1, 0, 1, 1, 1], [1, 1, 0, 0, 1, 0, 1, 1, 1]] G compassref12_Worth.code [] [] (compassref12_Worth.rq E K) (argF 0 [.agg ⟨[.slice d0_Yp d0_Yn d0_Yc, .slice d0_Setsp d0_Setsn d0_Setsc]⟩]) H = compassref12_Worth.run_t (fun d1 x3 i4 H => G [0, 1, 0, 1, 1] [(1, .pointer (some ⟨d1, 0, none⟩)), (3, .int .i64 x3), (4, .int .i64 i4)] H) d0_Yp d0_Yn d0_Yc d0_Setsp d0_Setsn d0_Setsc  E H K := fun G => by kernel_rfl
  have k2 : compassref12_Worth.run_t (fun d1 x3 i4 H => compassref12_Worth.l1 d1 x3 i4  E H K) d0_Yp d0_Yn d0_Yc d0_Setsp d0_Setsn d0_Setsc  E H K = compassref12_Worth.run_t (fun d1 x3 i4 H => (fun q F H => nodeM P0 T0 compassref12_Worth.A compassref12_Worth.code q.reverse [] (compassref12_Worth.rq E K) F H) [0, 1, 0, 1, 1] [(1, .pointer (some ⟨d1, 0, none⟩)), (3, .int .i64 x3), (4, .int .i64 i4)] H) d0_Yp d0_Yn d0_Yc d0_Setsp d0_Setsn d0_Setsc  E H K := by kernel_rfl
  exact nodeR_imp compassref12_Worth.nok rfl ((k1 _).mpr (k2.mp h))
def compassref12_Worth.j1_t (l2 : Nat → Int → Int → Hp → Prop) (d1 : Nat) (x3 : Int)  (E : Value → Hp → Prop) (H : Hp) (K : Int → Hp → Prop) : Prop :=
  l2 d1 x3 0 H
theorem compassref12_Worth.j1_eq {d1 : Nat} {x3 : Int} { E : Value → Hp → Prop} {H : Hp} {K : Int → Hp → Prop} (h : compassref12_Worth.j1_t (fun d1 x3 i5 H => compassref12_Worth.l2 d1 x3 i5  E H K) d1 x3  E H K) : compassref12_Worth.j1 d1 x3  E H K := by
  have k1 : ∀ G : List Nat → Fr → Hp → Prop, nodeR P0 T0 compassref12_Worth.A [[0, 1, 0, 1, 1], [1, 1, 1], [0, 1, 0, 1, 1, 1], [0, 1, 0, 0, 1, 0, 0, 1, 0, 1, 1, 1], [1, 1, 0, 0, 1, 0, 1, 1, 1]] G compassref12_Worth.code [1, 1, 1] [] (compassref12_Worth.rq E K) [(1, .pointer (some ⟨d1, 0, none⟩)), (3, .int .i64 x3)] H = compassref12_Worth.j1_t (fun d1 x3 i5 H => G [0, 1, 0, 1, 1, 1] [(1, .pointer (some ⟨d1, 0, none⟩)), (3, .int .i64 x3), (5, .int .i64 i5)] H) d1 x3  E H K := fun G => by kernel_rfl
  have k2 : compassref12_Worth.j1_t (fun d1 x3 i5 H => compassref12_Worth.l2 d1 x3 i5  E H K) d1 x3  E H K = compassref12_Worth.j1_t (fun d1 x3 i5 H => (fun q F H => nodeM P0 T0 compassref12_Worth.A compassref12_Worth.code q.reverse [] (compassref12_Worth.rq E K) F H) [0, 1, 0, 1, 1, 1] [(1, .pointer (some ⟨d1, 0, none⟩)), (3, .int .i64 x3), (5, .int .i64 i5)] H) d1 x3  E H K := by kernel_rfl
  exact nodeR_imp compassref12_Worth.nok rfl ((k1 _).mpr (k2.mp h))
def compassref12_Worth.j2_t  (d1 : Nat) (x3 : Int) (i5 : Int) (X1 : Fr → Hp → Prop) (E : Value → Hp → Prop) (H : Hp) (K : Int → Hp → Prop) : Prop :=
  X1 (compassref12_Worth.f2 d1 x3 (IntKind.wrap .i64 (i5 + 1))) H
theorem compassref12_Worth.j2_eq {d1 : Nat} {x3 : Int} {i5 : Int} {X1 : Fr → Hp → Prop} { E : Value → Hp → Prop} {H : Hp} {K : Int → Hp → Prop} (h : compassref12_Worth.j2_t  d1 x3 i5 X1 E H K) : compassref12_Worth.j2 d1 x3 i5 X1 E H K := by
  have k1 : ∀ G : List Nat → Fr → Hp → Prop, nodeR P0 T0 compassref12_Worth.A [[0, 1, 0, 1, 1], [1, 1, 1], [0, 1, 0, 1, 1, 1], [0, 1, 0, 0, 1, 0, 0, 1, 0, 1, 1, 1], [1, 1, 0, 0, 1, 0, 1, 1, 1]] G compassref12_Worth.code [1, 1, 1, 0, 1, 0, 0, 1, 1] [X1] (compassref12_Worth.rq E K) [(1, .pointer (some ⟨d1, 0, none⟩)), (3, .int .i64 x3), (5, .int .i64 i5)] H = compassref12_Worth.j2_t  d1 x3 i5 X1 E H K := fun G => by kernel_rfl
  exact nodeR_imp compassref12_Worth.nok rfl ((k1 _).mpr h)
def compassref12_Worth.b1_t (j1 : Nat → Int → Hp → Prop) (d1 : Nat) (x3 : Int) (i4 : Int) (X1 : Fr → Hp → Prop) (E : Value → Hp → Prop) (H : Hp) (K : Int → Hp → Prop) : Prop :=
  ldS (H.get d1 0) fun x_1p x_1n x_1c =>
  bcase (decide ((i4 : Int) < (x_1n : Int))) (
  ldS (H.get d1 0) fun x_2p x_2n x_2c =>
  ix x_2p x_2n i4 1 fun b_1 o_1 =>
  ldI .i64 (H.get b_1 o_1) fun x_3 =>
  X1 (compassref12_Worth.f1 d1 (IntKind.wrap .i64 (x3 + x_3)) (IntKind.wrap .i64 (i4 + 1))) H)
  (j1 d1 x3 H)
theorem compassref12_Worth.b1_eq {d1 : Nat} {x3 : Int} {i4 : Int} {X1 : Fr → Hp → Prop} { E : Value → Hp → Prop} {H : Hp} {K : Int → Hp → Prop} (h : compassref12_Worth.b1_t (fun d1 x3 H => compassref12_Worth.j1 d1 x3  E H K) d1 x3 i4 X1 E H K) : compassref12_Worth.b1 d1 x3 i4 X1 E H K := by
  have k1 : ∀ G : List Nat → Fr → Hp → Prop, nodeR P0 T0 compassref12_Worth.A [[0, 1, 0, 1, 1], [1, 1, 1], [0, 1, 0, 1, 1, 1], [0, 1, 0, 0, 1, 0, 0, 1, 0, 1, 1, 1], [1, 1, 0, 0, 1, 0, 1, 1, 1]] G compassref12_Worth.code [1, 1, 0, 1, 0, 0] [X1] (compassref12_Worth.rq E K) (compassref12_Worth.f1 d1 x3 i4) H = compassref12_Worth.b1_t (fun d1 x3 H => G [1, 1, 1] [(1, .pointer (some ⟨d1, 0, none⟩)), (3, .int .i64 x3)] H) d1 x3 i4 X1 E H K := fun G => by kernel_rfl
  have k2 : compassref12_Worth.b1_t (fun d1 x3 H => compassref12_Worth.j1 d1 x3  E H K) d1 x3 i4 X1 E H K = compassref12_Worth.b1_t (fun d1 x3 H => (fun q F H => nodeM P0 T0 compassref12_Worth.A compassref12_Worth.code q.reverse [X1] (compassref12_Worth.rq E K) F H) [1, 1, 1] [(1, .pointer (some ⟨d1, 0, none⟩)), (3, .int .i64 x3)] H) d1 x3 i4 X1 E H K := by kernel_rfl
  exact nodeR_imp compassref12_Worth.nok rfl ((k1 _).mpr (k2.mp h))
def compassref12_Worth.b2_t (l3 : Nat → Int → Int → Int → Hp → Prop) (d1 : Nat) (x3 : Int) (i5 : Int) (X1 : Fr → Hp → Prop) (E : Value → Hp → Prop) (H : Hp) (K : Int → Hp → Prop) : Prop :=
  ldS (H.get d1 1) fun x_1p x_1n x_1c =>
  bcase (decide ((i5 : Int) < (x_1n : Int))) (
  l3 d1 x3 i5 2 H)
  (K x3 H)
theorem compassref12_Worth.b2_eq {d1 : Nat} {x3 : Int} {i5 : Int} {X1 : Fr → Hp → Prop} { E : Value → Hp → Prop} {H : Hp} {K : Int → Hp → Prop} (h : compassref12_Worth.b2_t (fun d1 x3 i5 k6 H => compassref12_Worth.l3 d1 x3 i5 k6 X1 E H K) d1 x3 i5 X1 E H K) : compassref12_Worth.b2 d1 x3 i5 X1 E H K := by
  have k1 : ∀ G : List Nat → Fr → Hp → Prop, nodeR P0 T0 compassref12_Worth.A [[0, 1, 0, 1, 1], [1, 1, 1], [0, 1, 0, 1, 1, 1], [0, 1, 0, 0, 1, 0, 0, 1, 0, 1, 1, 1], [1, 1, 0, 0, 1, 0, 1, 1, 1]] G compassref12_Worth.code [1, 1, 1, 0, 1, 0, 0] [X1] (compassref12_Worth.rq E K) (compassref12_Worth.f2 d1 x3 i5) H = compassref12_Worth.b2_t (fun d1 x3 i5 k6 H => G [0, 1, 0, 0, 1, 0, 0, 1, 0, 1, 1, 1] [(1, .pointer (some ⟨d1, 0, none⟩)), (3, .int .i64 x3), (5, .int .i64 i5), (6, .int .i64 k6)] H) d1 x3 i5 X1 E H K := fun G => by kernel_rfl
  have k2 : compassref12_Worth.b2_t (fun d1 x3 i5 k6 H => compassref12_Worth.l3 d1 x3 i5 k6 X1 E H K) d1 x3 i5 X1 E H K = compassref12_Worth.b2_t (fun d1 x3 i5 k6 H => (fun q F H => nodeM P0 T0 compassref12_Worth.A compassref12_Worth.code q.reverse [X1] (compassref12_Worth.rq E K) F H) [0, 1, 0, 0, 1, 0, 0, 1, 0, 1, 1, 1] [(1, .pointer (some ⟨d1, 0, none⟩)), (3, .int .i64 x3), (5, .int .i64 i5), (6, .int .i64 k6)] H) d1 x3 i5 X1 E H K := by kernel_rfl
  exact nodeR_imp compassref12_Worth.nok rfl ((k1 _).mpr (k2.mp h))
def compassref12_Worth.b3_t (j2 : Nat → Int → Int → Hp → Prop) (d1 : Nat) (x3 : Int) (i5 : Int) (k6 : Int) (X1 : Fr → Hp → Prop) (X2 : Fr → Hp → Prop) (E : Value → Hp → Prop) (H : Hp) (K : Int → Hp → Prop) : Prop :=
  ldS (H.get d1 1) fun x_1p x_1n x_1c =>
  ix x_1p x_1n i5 2 fun b_1 o_1 =>
  ldS (H.get b_1 o_1) fun x_2p x_2n x_2c =>
  bcase (decide ((k6 : Int) < (x_2n : Int))) (
  ldS (H.get d1 1) fun x_3p x_3n x_3c =>
  ix x_3p x_3n i5 2 fun b_2 o_2 =>
  ldI .i64 (H.get b_2 (o_2 + 1)) fun x_4 =>
  X2 (compassref12_Worth.f3 d1 (IntKind.wrap .i64 (x3 - x_4)) i5 (IntKind.wrap .i64 (k6 + 2))) H)
  (j2 d1 x3 i5 H)
theorem compassref12_Worth.b3_eq {d1 : Nat} {x3 : Int} {i5 : Int} {k6 : Int} {X1 X2 : Fr → Hp → Prop} { E : Value → Hp → Prop} {H : Hp} {K : Int → Hp → Prop} (h : compassref12_Worth.b3_t (fun d1 x3 i5 H => compassref12_Worth.j2 d1 x3 i5 X1 E H K) d1 x3 i5 k6 X1 X2 E H K) : compassref12_Worth.b3 d1 x3 i5 k6 X1 X2 E H K := by
  have k1 : ∀ G : List Nat → Fr → Hp → Prop, nodeR P0 T0 compassref12_Worth.A [[0, 1, 0, 1, 1], [1, 1, 1], [0, 1, 0, 1, 1, 1], [0, 1, 0, 0, 1, 0, 0, 1, 0, 1, 1, 1], [1, 1, 0, 0, 1, 0, 1, 1, 1]] G compassref12_Worth.code [1, 1, 1, 0, 1, 0, 0, 1, 0, 0, 1, 0, 0] [X1, X2] (compassref12_Worth.rq E K) (compassref12_Worth.f3 d1 x3 i5 k6) H = compassref12_Worth.b3_t (fun d1 x3 i5 H => G [1, 1, 0, 0, 1, 0, 1, 1, 1] [(1, .pointer (some ⟨d1, 0, none⟩)), (3, .int .i64 x3), (5, .int .i64 i5)] H) d1 x3 i5 k6 X1 X2 E H K := fun G => by kernel_rfl
  have k2 : compassref12_Worth.b3_t (fun d1 x3 i5 H => compassref12_Worth.j2 d1 x3 i5 X1 E H K) d1 x3 i5 k6 X1 X2 E H K = compassref12_Worth.b3_t (fun d1 x3 i5 H => (fun q F H => nodeM P0 T0 compassref12_Worth.A compassref12_Worth.code q.reverse [X1, X2] (compassref12_Worth.rq E K) F H) [1, 1, 0, 0, 1, 0, 1, 1, 1] [(1, .pointer (some ⟨d1, 0, none⟩)), (3, .int .i64 x3), (5, .int .i64 i5)] H) d1 x3 i5 k6 X1 X2 E H K := by kernel_rfl
  exact nodeR_imp compassref12_Worth.nok rfl ((k1 _).mpr (k2.mp h))
end Go.Mz
