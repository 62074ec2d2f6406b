/-
  The shallow texts of functions (Reb), each with a kernel-checked equation to the translated code. It proves nothing of the program by itself.
-/
import Derived.Test.YtmaeboaopebaiaaTab
set_option linter.unusedVariables false
set_option maxRecDepth 100000
namespace Go.Mz
/-! ### compass/compassref12.Covered (28) -/
noncomputable def compassref12_Covered.A : An := { live := [(0, [0, 1, 2]), (1, [1, 2, 3]), (2, [1, 2, 3, 8]), (3, [8]), (4, [1, 2, 3]), (5, []), (6, [1])], ord := [], stb := [], pre := [] }
noncomputable def compassref12_Covered.code : Code := bodyOf Go.Proofs.Try.f28
theorem compassref12_Covered.ok : okCode compassref12_Covered.A 35 compassref12_Covered.code = true := by kernel_rfl
def compassref12_Covered.rq (E : Value → Hp → Prop) (K : Int → Int → Hp → Prop) : Ex → Fr → Hp → Prop := retQ T0 [.tmp 6, .tmp 7] [3, 3] (fun r H => ldR (.tup [(false, [.i .i64]), (false, [.i .i64])]) r fun u => K (asI (tupV u 0)) (asI (tupV u 1)) H) E
def compassref12_Covered.run (g0_Nodes : Int) (g0_Edgesp : Option Addr) (g0_Edgesn : Nat) (g0_Edgesc : Nat) (m1p : Option Addr) (m1n : Nat) (m1c : Nat) (cover2p : Option Addr) (cover2n : Nat) (cover2c : Nat) (E : Value → Hp → Prop) (H : Hp) (K : Int → Int → Hp → Prop) : Prop := nodeM P0 T0 compassref12_Covered.A compassref12_Covered.code [] [] (compassref12_Covered.rq E K) (argF 0 [.agg ⟨[.int .i64 g0_Nodes, .slice g0_Edgesp g0_Edgesn g0_Edgesc]⟩, .slice m1p m1n m1c, .slice cover2p cover2n cover2c]) H
theorem compassref12_Covered.of {g0_Nodes : Int} {g0_Edgesp : Option Addr} {g0_Edgesn : Nat} {g0_Edgesc : Nat} {m1p : Option Addr} {m1n : Nat} {m1c : Nat} {cover2p : Option Addr} {cover2n : Nat} {cover2c : Nat} {E : Value → Hp → Prop} {H : Hp} {K : Int → Int → Hp → Prop} (h : compassref12_Covered.run g0_Nodes g0_Edgesp g0_Edgesn g0_Edgesc m1p m1n m1c cover2p cover2n cover2c E H K) : compassref12_Covered.call g0_Nodes g0_Edgesp g0_Edgesn g0_Edgesc m1p m1n m1c cover2p cover2n cover2c E H K :=
  callW_of T0_ok P0_mixed (A := compassref12_Covered.A) (fn := Go.Proofs.Try.f28) Go.Proofs.Try.func28 rfl compassref12_Covered.ok rfl h
theorem compassref12_Covered.nok : nodesOk compassref12_Covered.code [] = true := by kernel_rfl
def compassref12_Covered.run_t  (g0_Nodes : Int) (g0_Edgesp : Option Addr) (g0_Edgesn : Nat) (g0_Edgesc : Nat) (m1p : Option Addr) (m1n : Nat) (m1c : Nat) (cover2p : Option Addr) (cover2n : Nat) (cover2c : Nat)  (E : Value → Hp → Prop) (H : Hp) (K : Int → Int → Hp → Prop) : Prop :=
  nw H ⟨[.int .i64 g0_Nodes, .slice g0_Edgesp g0_Edgesn g0_Edgesc], 24⟩ fun b_1 H_1 =>
  ldI .i64 (H_1.get b_1 0) fun x_1 =>
  ldS (H_1.get b_1 1) fun x_2p x_2n x_2c =>
  compassref12_Matching.call x_1 x_2p x_2n x_2c m1p m1n m1c E H_1 fun r_1 H_2 =>
  bcase (!decide ((r_1 : Int) = 0)) (
  K 0 r_1 H_2)
  (ldI .i64 (H_2.get b_1 0) fun x_3 =>
  compassref12_Rising.call cover2p cover2n cover2c x_3 E H_2 fun r_2 H_3 =>
  bcase ((!r_2)) (
  K 0 221 H_3)
  (ldI .i64 (H_3.get b_1 0) fun x_4 =>
  ldS (H_3.get b_1 1) fun x_5p x_5n x_5c =>
  compassref12_Covers.call x_4 x_5p x_5n x_5c cover2p cover2n cover2c E H_3 fun r_3 H_4 =>
  bcase ((!r_3)) (
  K 0 221 H_4)
  (bcase (!decide (((m1n : Int) : Int) = (cover2n : Int))) (
  K 0 221 H_4)
  (K (m1n : Int) 0 H_4))))
theorem compassref12_Covered.run_eq {g0_Nodes : Int} {g0_Edgesp : Option Addr} {g0_Edgesn : Nat} {g0_Edgesc : Nat} {m1p : Option Addr} {m1n : Nat} {m1c : Nat} {cover2p : Option Addr} {cover2n : Nat} {cover2c : Nat} { E : Value → Hp → Prop} {H : Hp} {K : Int → Int → Hp → Prop} (h : compassref12_Covered.run_t  g0_Nodes g0_Edgesp g0_Edgesn g0_Edgesc m1p m1n m1c cover2p cover2n cover2c  E H K) : compassref12_Covered.run g0_Nodes g0_Edgesp g0_Edgesn g0_Edgesc m1p m1n m1c cover2p cover2n cover2c  E H K := by
  have k1 : ∀ G : List Nat → Fr → Hp → Prop, nodeR P0 T0 compassref12_Covered.A [] G compassref12_Covered.code [] [] (compassref12_Covered.rq E K) (argF 0 [.agg ⟨[.int .i64 g0_Nodes, .slice g0_Edgesp g0_Edgesn g0_Edgesc]⟩, .slice m1p m1n m1c, .slice cover2p cover2n cover2c]) H = compassref12_Covered.run_t  g0_Nodes g0_Edgesp g0_Edgesn g0_Edgesc m1p m1n m1c cover2p cover2n cover2c  E H K := fun G => by kernel_rfl
  exact nodeR_imp compassref12_Covered.nok rfl ((k1 _).mpr h)
/-! ### compass/compassref12.Covers (58) -/
noncomputable def compassref12_Covers.A : An := { live := [(0, [0, 1]), (1, [1, 2]), (2, [1, 2, 5]), (3, [1, 2, 5]), (4, [1, 2, 5]), (5, [1, 2, 5, 6]), (6, []), (7, [])], ord := [], stb := [], pre := [] }
noncomputable def compassref12_Covers.code : Code := bodyOf Go.Proofs.Try.f58
theorem compassref12_Covers.ok : okCode compassref12_Covers.A 38 compassref12_Covers.code = true := by kernel_rfl
def compassref12_Covers.rq (E : Value → Hp → Prop) (K : Bool → Hp → Prop) : Ex → Fr → Hp → Prop := retQ T0 [.tmp 4] [4] (fun r H => ldR (.one false [.bool]) r fun u => K (asB u) H) E
def compassref12_Covers.run (g0_Nodes : Int) (g0_Edgesp : Option Addr) (g0_Edgesn : Nat) (g0_Edgesc : Nat) (cover1p : Option Addr) (cover1n : Nat) (cover1c : Nat) (E : Value → Hp → Prop) (H : Hp) (K : Bool → Hp → Prop) : Prop := nodeM P0 T0 compassref12_Covers.A compassref12_Covers.code [] [] (compassref12_Covers.rq E K) (argF 0 [.agg ⟨[.int .i64 g0_Nodes, .slice g0_Edgesp g0_Edgesn g0_Edgesc]⟩, .slice cover1p cover1n cover1c]) H
theorem compassref12_Covers.of {g0_Nodes : Int} {g0_Edgesp : Option Addr} {g0_Edgesn : Nat} {g0_Edgesc : Nat} {cover1p : Option Addr} {cover1n : Nat} {cover1c : Nat} {E : Value → Hp → Prop} {H : Hp} {K : Bool → Hp → Prop} (h : compassref12_Covers.run g0_Nodes g0_Edgesp g0_Edgesn g0_Edgesc cover1p cover1n cover1c E H K) : compassref12_Covers.call g0_Nodes g0_Edgesp g0_Edgesn g0_Edgesc cover1p cover1n cover1c E H K :=
  callW_of T0_ok P0_mixed (A := compassref12_Covers.A) (fn := Go.Proofs.Try.f58) Go.Proofs.Try.func58 rfl compassref12_Covers.ok rfl h
noncomputable def compassref12_Covers.f1 (cover1p : Option Addr) (cover1n : Nat) (cover1c : Nat) (g2 : Nat) (i5 : Int) : Fr := [(1, .slice cover1p cover1n cover1c), (2, .pointer (some ⟨g2, 0, none⟩)), (5, .int .i64 i5)]
def compassref12_Covers.j1 (cover1p : Option Addr) (cover1n : Nat) (cover1c : Nat) (g2 : Nat) (i5 : Int) (X1 : Fr → Hp → Prop) (E : Value → Hp → Prop) (H : Hp) (K : Bool → Hp → Prop) : Prop := nodeM P0 T0 compassref12_Covers.A compassref12_Covers.code [1, 0, 1, 0, 0, 1, 1] [X1] (compassref12_Covers.rq E K) [(1, .slice cover1p cover1n cover1c), (2, .pointer (some ⟨g2, 0, none⟩)), (5, .int .i64 i5)] H
def compassref12_Covers.l1 (cover1p : Option Addr) (cover1n : Nat) (cover1c : Nat) (g2 : Nat) (i5 : Int)  (E : Value → Hp → Prop) (H : Hp) (K : Bool → Hp → Prop) : Prop := nodeM P0 T0 compassref12_Covers.A compassref12_Covers.code [1, 0, 1, 0] [] (compassref12_Covers.rq E K) (compassref12_Covers.f1 cover1p cover1n cover1c g2 i5) H
def compassref12_Covers.b1 (cover1p : Option Addr) (cover1n : Nat) (cover1c : Nat) (g2 : Nat) (i5 : Int)  (X1 : Fr → Hp → Prop) (E : Value → Hp → Prop) (H : Hp) (K : Bool → Hp → Prop) : Prop := nodeM P0 T0 compassref12_Covers.A compassref12_Covers.code [1, 0, 1, 0, 0] [X1] (compassref12_Covers.rq E K) (compassref12_Covers.f1 cover1p cover1n cover1c g2 i5) H
theorem compassref12_Covers.l1_rule { E : Value → Hp → Prop} {K : Bool → Hp → Prop} (I : (Option Addr) → Nat → Nat → Nat → Int → Hp → Prop) (μ : (Option Addr) → Nat → Nat → Nat → Int → Hp → Nat)
    (h : ∀ cover1p cover1n cover1c g2 i5 H, I cover1p cover1n cover1c g2 i5 H → ∀ X : Fr → Hp → Prop, (∀ cover1p' cover1n' cover1c' g2' i5' H', I cover1p' cover1n' cover1c' g2' i5' H' → μ cover1p' cover1n' cover1c' g2' i5' H' < μ cover1p cover1n cover1c g2 i5 H → X (compassref12_Covers.f1 cover1p' cover1n' cover1c' g2' i5') H') → compassref12_Covers.b1 cover1p cover1n cover1c g2 i5  X E H K)
    {cover1p : Option Addr} {cover1n : Nat} {cover1c : Nat} {g2 : Nat} {i5 : Int} {H : Hp} (hI : I cover1p cover1n cover1c g2 i5 H) : compassref12_Covers.l1 cover1p cover1n cover1c g2 i5  E H K :=
  loop_rule (S := (Option Addr) × Nat × Nat × Nat × Int) (fun s => compassref12_Covers.f1 (s.1) (s.2.1) (s.2.2.1) (s.2.2.2.1) (s.2.2.2.2)) (fun s H => I (s.1) (s.2.1) (s.2.2.1) (s.2.2.2.1) (s.2.2.2.2) H) (fun s H => μ (s.1) (s.2.1) (s.2.2.1) (s.2.2.2.1) (s.2.2.2.2) H) (fun s H hI X hX => h (s.1) (s.2.1) (s.2.2.1) (s.2.2.2.1) (s.2.2.2.2) H hI X fun cover1p' cover1n' cover1c' g2' i5' H' hI' hlt => hX (cover1p', cover1n', cover1c', g2', i5') H' hI' hlt) (s := (cover1p, cover1n, cover1c, g2, i5)) rfl hI
theorem compassref12_Covers.nok : nodesOk compassref12_Covers.code [[0, 1, 0, 1], [1, 1, 0, 0, 1, 0, 1]] = true := by kernel_rfl
def compassref12_Covers.run_t (l1 : (Option Addr) → Nat → Nat → Nat → Int → Hp → Prop) (g0_Nodes : Int) (g0_Edgesp : Option Addr) (g0_Edgesn : Nat) (g0_Edgesc : Nat) (cover1p : Option Addr) (cover1n : Nat) (cover1c : Nat)  (E : Value → Hp → Prop) (H : Hp) (K : Bool → Hp → Prop) : Prop :=
  nw H ⟨[.int .i64 g0_Nodes, .slice g0_Edgesp g0_Edgesn g0_Edgesc], 24⟩ fun b_1 H_1 =>
  l1 cover1p cover1n cover1c b_1 0 H_1
theorem compassref12_Covers.run_eq {g0_Nodes : Int} {g0_Edgesp : Option Addr} {g0_Edgesn : Nat} {g0_Edgesc : Nat} {cover1p : Option Addr} {cover1n : Nat} {cover1c : Nat} { E : Value → Hp → Prop} {H : Hp} {K : Bool → Hp → Prop} (h : compassref12_Covers.run_t (fun cover1p cover1n cover1c g2 i5 H => compassref12_Covers.l1 cover1p cover1n cover1c g2 i5  E H K) g0_Nodes g0_Edgesp g0_Edgesn g0_Edgesc cover1p cover1n cover1c  E H K) : compassref12_Covers.run g0_Nodes g0_Edgesp g0_Edgesn g0_Edgesc cover1p cover1n cover1c  E H K := by
  have k1 : ∀ G : List Nat → Fr → Hp → Prop, nodeR P0 T0 compassref12_Covers.A [[0, 1, 0, 1], [1, 1, 0, 0, 1, 0, 1]] G compassref12_Covers.code [] [] (compassref12_Covers.rq E K) (argF 0 [.agg ⟨[.int .i64 g0_Nodes, .slice g0_Edgesp g0_Edgesn g0_Edgesc]⟩, .slice cover1p cover1n cover1c]) H = compassref12_Covers.run_t (fun cover1p cover1n cover1c g2 i5 H => G [0, 1, 0, 1] [(1, .slice cover1p cover1n cover1c), (2, .pointer (some ⟨g2, 0, none⟩)), (5, .int .i64 i5)] H) g0_Nodes g0_Edgesp g0_Edgesn g0_Edgesc cover1p cover1n cover1c  E H K := fun G => by kernel_rfl
  have k2 : compassref12_Covers.run_t (fun cover1p cover1n cover1c g2 i5 H => compassref12_Covers.l1 cover1p cover1n cover1c g2 i5  E H K) g0_Nodes g0_Edgesp g0_Edgesn g0_Edgesc cover1p cover1n cover1c  E H K = compassref12_Covers.run_t (fun cover1p cover1n cover1c g2 i5 H => (fun q F H => nodeM P0 T0 compassref12_Covers.A compassref12_Covers.code q.reverse [] (compassref12_Covers.rq E K) F H) [0, 1, 0, 1] [(1, .slice cover1p cover1n cover1c), (2, .pointer (some ⟨g2, 0, none⟩)), (5, .int .i64 i5)] H) g0_Nodes g0_Edgesp g0_Edgesn g0_Edgesc cover1p cover1n cover1c  E H K := by kernel_rfl
  exact nodeR_imp compassref12_Covers.nok rfl ((k1 _).mpr (k2.mp h))
def compassref12_Covers.j1_t  (cover1p : Option Addr) (cover1n : Nat) (cover1c : Nat) (g2 : Nat) (i5 : Int) (X1 : Fr → Hp → Prop) (E : Value → Hp → Prop) (H : Hp) (K : Bool → Hp → Prop) : Prop :=
  X1 (compassref12_Covers.f1 cover1p cover1n cover1c g2 (IntKind.wrap .i64 (i5 + 1))) H
theorem compassref12_Covers.j1_eq {cover1p : Option Addr} {cover1n : Nat} {cover1c : Nat} {g2 : Nat} {i5 : Int} {X1 : Fr → Hp → Prop} { E : Value → Hp → Prop} {H : Hp} {K : Bool → Hp → Prop} (h : compassref12_Covers.j1_t  cover1p cover1n cover1c g2 i5 X1 E H K) : compassref12_Covers.j1 cover1p cover1n cover1c g2 i5 X1 E H K := by
  have k1 : ∀ G : List Nat → Fr → Hp → Prop, nodeR P0 T0 compassref12_Covers.A [[0, 1, 0, 1], [1, 1, 0, 0, 1, 0, 1]] G compassref12_Covers.code [1, 0, 1, 0, 0, 1, 1] [X1] (compassref12_Covers.rq E K) [(1, .slice cover1p cover1n cover1c), (2, .pointer (some ⟨g2, 0, none⟩)), (5, .int .i64 i5)] H = compassref12_Covers.j1_t  cover1p cover1n cover1c g2 i5 X1 E H K := fun G => by kernel_rfl
  exact nodeR_imp compassref12_Covers.nok rfl ((k1 _).mpr h)
def compassref12_Covers.b1_t (j1 : (Option Addr) → Nat → Nat → Nat → Int → Hp → Prop) (cover1p : Option Addr) (cover1n : Nat) (cover1c : Nat) (g2 : Nat) (i5 : Int) (X1 : Fr → Hp → Prop) (E : Value → Hp → Prop) (H : Hp) (K : Bool → Hp → Prop) : Prop :=
  ldS (H.get g2 1) fun x_1p x_1n x_1c =>
  bcase (decide ((i5 : Int) < (x_1n : Int))) (
  ldS (H.get g2 1) fun x_2p x_2n x_2c =>
  ix x_2p x_2n i5 4 fun b_1 o_1 =>
  ldI .i64 (H.get b_1 o_1) fun x_3 =>
  ldI .i64 (H.get b_1 (o_1 + 1)) fun x_4 =>
  ldI .i64 (H.get b_1 (o_1 + 2)) fun x_5 =>
  ldI .i64 (H.get b_1 (o_1 + 3)) fun x_6 =>
  nw H ⟨[.int .i64 0, .int .i64 0, .int .i64 0, .int .i64 0], 37⟩ fun b_2 H_1 =>
  stC H_1 b_2 0 [.int .i64 x_3, .int .i64 x_4, .int .i64 x_5, .int .i64 x_6] fun H_2 =>
  ldI .i64 (H_2.get b_2 0) fun x_7 =>
  ldI .i64 (H_2.get b_2 1) fun x_8 =>
  bcase (!decide ((x_7 : Int) = x_8)) (
  ldI .i64 (H_2.get b_2 0) fun x_9 =>
  compassref12_Has.call cover1p cover1n cover1c x_9 E H_2 fun r_1 H_3 =>
  bcase ((!r_1)) (
  ldI .i64 (H_3.get b_2 1) fun x_10 =>
  compassref12_Has.call cover1p cover1n cover1c x_10 E H_3 fun r_2 H_4 =>
  bcase ((!r_2)) (
  K false H_4)
  (j1 cover1p cover1n cover1c g2 i5 H_4))
  (j1 cover1p cover1n cover1c g2 i5 H_3))
  (j1 cover1p cover1n cover1c g2 i5 H_2))
  (K true H)
theorem compassref12_Covers.b1_eq {cover1p : Option Addr} {cover1n : Nat} {cover1c : Nat} {g2 : Nat} {i5 : Int} {X1 : Fr → Hp → Prop} { E : Value → Hp → Prop} {H : Hp} {K : Bool → Hp → Prop} (h : compassref12_Covers.b1_t (fun cover1p cover1n cover1c g2 i5 H => compassref12_Covers.j1 cover1p cover1n cover1c g2 i5 X1 E H K) cover1p cover1n cover1c g2 i5 X1 E H K) : compassref12_Covers.b1 cover1p cover1n cover1c g2 i5 X1 E H K := by
  have k1 : ∀ G : List Nat → Fr → Hp → Prop, nodeR P0 T0 compassref12_Covers.A [[0, 1, 0, 1], [1, 1, 0, 0, 1, 0, 1]] G compassref12_Covers.code [1, 0, 1, 0, 0] [X1] (compassref12_Covers.rq E K) (compassref12_Covers.f1 cover1p cover1n cover1c g2 i5) H = compassref12_Covers.b1_t (fun cover1p cover1n cover1c g2 i5 H => G [1, 1, 0, 0, 1, 0, 1] [(1, .slice cover1p cover1n cover1c), (2, .pointer (some ⟨g2, 0, none⟩)), (5, .int .i64 i5)] H) cover1p cover1n cover1c g2 i5 X1 E H K := fun G => by kernel_rfl
  have k2 : compassref12_Covers.b1_t (fun cover1p cover1n cover1c g2 i5 H => compassref12_Covers.j1 cover1p cover1n cover1c g2 i5 X1 E H K) cover1p cover1n cover1c g2 i5 X1 E H K = compassref12_Covers.b1_t (fun cover1p cover1n cover1c g2 i5 H => (fun q F H => nodeM P0 T0 compassref12_Covers.A compassref12_Covers.code q.reverse [X1] (compassref12_Covers.rq E K) F H) [1, 1, 0, 0, 1, 0, 1] [(1, .slice cover1p cover1n cover1c), (2, .pointer (some ⟨g2, 0, none⟩)), (5, .int .i64 i5)] H) cover1p cover1n cover1c g2 i5 X1 E H K := by kernel_rfl
  exact nodeR_imp compassref12_Covers.nok rfl ((k1 _).mpr (k2.mp h))
/-! ### compass/compassref12.Has (78) -/
noncomputable def compassref12_Has.A : An := { live := [(0, [0, 1]), (1, [0, 1]), (2, [0, 1, 5]), (3, [0, 1, 5]), (4, [0, 1, 5]), (5, []), (6, [])], ord := [], stb := [], pre := [] }
noncomputable def compassref12_Has.code : Code := bodyOf Go.Proofs.Try.f78
theorem compassref12_Has.ok : okCode compassref12_Has.A 18 compassref12_Has.code = true := by kernel_rfl
def compassref12_Has.rq (E : Value → Hp → Prop) (K : Bool → Hp → Prop) : Ex → Fr → Hp → Prop := retQ T0 [.tmp 4] [4] (fun r H => ldR (.one false [.bool]) r fun u => K (asB u) H) E
def compassref12_Has.run (list0p : Option Addr) (list0n : Nat) (list0c : Nat) (x1 : Int) (E : Value → Hp → Prop) (H : Hp) (K : Bool → Hp → Prop) : Prop := nodeM P0 T0 compassref12_Has.A compassref12_Has.code [] [] (compassref12_Has.rq E K) (argF 0 [.slice list0p list0n list0c, .int .i64 x1]) H
theorem compassref12_Has.of {list0p : Option Addr} {list0n : Nat} {list0c : Nat} {x1 : Int} {E : Value → Hp → Prop} {H : Hp} {K : Bool → Hp → Prop} (h : compassref12_Has.run list0p list0n list0c x1 E H K) : compassref12_Has.call list0p list0n list0c x1 E H K :=
  callW_of T0_ok P0_mixed (A := compassref12_Has.A) (fn := Go.Proofs.Try.f78) Go.Proofs.Try.func78 rfl compassref12_Has.ok rfl h
noncomputable def compassref12_Has.f1 (list0p : Option Addr) (list0n : Nat) (list0c : Nat) (x1 : Int) (i5 : Int) : Fr := [(0, .slice list0p list0n list0c), (1, .int .i64 x1), (5, .int .i64 i5)]
def compassref12_Has.l1 (list0p : Option Addr) (list0n : Nat) (list0c : Nat) (x1 : Int) (i5 : Int)  (E : Value → Hp → Prop) (H : Hp) (K : Bool → Hp → Prop) : Prop := nodeM P0 T0 compassref12_Has.A compassref12_Has.code [1, 0, 1, 0] [] (compassref12_Has.rq E K) (compassref12_Has.f1 list0p list0n list0c x1 i5) H
def compassref12_Has.b1 (list0p : Option Addr) (list0n : Nat) (list0c : Nat) (x1 : Int) (i5 : Int)  (X1 : Fr → Hp → Prop) (E : Value → Hp → Prop) (H : Hp) (K : Bool → Hp → Prop) : Prop := nodeM P0 T0 compassref12_Has.A compassref12_Has.code [1, 0, 1, 0, 0] [X1] (compassref12_Has.rq E K) (compassref12_Has.f1 list0p list0n list0c x1 i5) H
theorem compassref12_Has.l1_rule { E : Value → Hp → Prop} {K : Bool → Hp → Prop} (I : (Option Addr) → Nat → Nat → Int → Int → Hp → Prop) (μ : (Option Addr) → Nat → Nat → Int → Int → Hp → Nat)
    (h : ∀ list0p list0n list0c x1 i5 H, I list0p list0n list0c x1 i5 H → ∀ X : Fr → Hp → Prop, (∀ list0p' list0n' list0c' x1' i5' H', I list0p' list0n' list0c' x1' i5' H' → μ list0p' list0n' list0c' x1' i5' H' < μ list0p list0n list0c x1 i5 H → X (compassref12_Has.f1 list0p' list0n' list0c' x1' i5') H') → compassref12_Has.b1 list0p list0n list0c x1 i5  X E H K)
    {list0p : Option Addr} {list0n : Nat} {list0c : Nat} {x1 : Int} {i5 : Int} {H : Hp} (hI : I list0p list0n list0c x1 i5 H) : compassref12_Has.l1 list0p list0n list0c x1 i5  E H K :=
  loop_rule (S := (Option Addr) × Nat × Nat × Int × Int) (fun s => compassref12_Has.f1 (s.1) (s.2.1) (s.2.2.1) (s.2.2.2.1) (s.2.2.2.2)) (fun s H => I (s.1) (s.2.1) (s.2.2.1) (s.2.2.2.1) (s.2.2.2.2) H) (fun s H => μ (s.1) (s.2.1) (s.2.2.1) (s.2.2.2.1) (s.2.2.2.2) H) (fun s H hI X hX => h (s.1) (s.2.1) (s.2.2.1) (s.2.2.2.1) (s.2.2.2.2) H hI X fun list0p' list0n' list0c' x1' i5' H' hI' hlt => hX (list0p', list0n', list0c', x1', i5') H' hI' hlt) (s := (list0p, list0n, list0c, x1, i5)) rfl hI
theorem compassref12_Has.nok : nodesOk compassref12_Has.code [[0, 1, 0, 1]] = true := by kernel_rfl
def compassref12_Has.run_t (l1 : (Option Addr) → Nat → Nat → Int → Int → Hp → Prop) (list0p : Option Addr) (list0n : Nat) (list0c : Nat) (x1 : Int)  (E : Value → Hp → Prop) (H : Hp) (K : Bool → Hp → Prop) : Prop :=
  l1 list0p list0n list0c x1 0 H
theorem compassref12_Has.run_eq {list0p : Option Addr} {list0n : Nat} {list0c : Nat} {x1 : Int} { E : Value → Hp → Prop} {H : Hp} {K : Bool → Hp → Prop} (h : compassref12_Has.run_t (fun list0p list0n list0c x1 i5 H => compassref12_Has.l1 list0p list0n list0c x1 i5  E H K) list0p list0n list0c x1  E H K) : compassref12_Has.run list0p list0n list0c x1  E H K := by
  have k1 : ∀ G : List Nat → Fr → Hp → Prop, nodeR P0 T0 compassref12_Has.A [[0, 1, 0, 1]] G compassref12_Has.code [] [] (compassref12_Has.rq E K) (argF 0 [.slice list0p list0n list0c, .int .i64 x1]) H = compassref12_Has.run_t (fun list0p list0n list0c x1 i5 H => G [0, 1, 0, 1] [(0, .slice list0p list0n list0c), (1, .int .i64 x1), (5, .int .i64 i5)] H) list0p list0n list0c x1  E H K := fun G => by kernel_rfl
  have k2 : compassref12_Has.run_t (fun list0p list0n list0c x1 i5 H => compassref12_Has.l1 list0p list0n list0c x1 i5  E H K) list0p list0n list0c x1  E H K = compassref12_Has.run_t (fun list0p list0n list0c x1 i5 H => (fun q F H => nodeM P0 T0 compassref12_Has.A compassref12_Has.code q.reverse [] (compassref12_Has.rq E K) F H) [0, 1, 0, 1] [(0, .slice list0p list0n list0c), (1, .int .i64 x1), (5, .int .i64 i5)] H) list0p list0n list0c x1  E H K := by kernel_rfl
  exact nodeR_imp compassref12_Has.nok rfl ((k1 _).mpr (k2.mp h))
def compassref12_Has.b1_t  (list0p : Option Addr) (list0n : Nat) (list0c : Nat) (x1 : Int) (i5 : Int) (X1 : Fr → Hp → Prop) (E : Value → Hp → Prop) (H : Hp) (K : Bool → Hp → Prop) : Prop :=
  bcase (decide ((i5 : Int) < (list0n : Int))) (
  ix list0p list0n i5 1 fun b_1 o_1 =>
  ldI .i64 (H.get b_1 o_1) fun x_1 =>
  bcase (decide ((x_1 : Int) = x1)) (
  K true H)
  (X1 (compassref12_Has.f1 list0p list0n list0c x1 (IntKind.wrap .i64 (i5 + 1))) H))
  (K false H)
theorem compassref12_Has.b1_eq {list0p : Option Addr} {list0n : Nat} {list0c : Nat} {x1 : Int} {i5 : Int} {X1 : Fr → Hp → Prop} { E : Value → Hp → Prop} {H : Hp} {K : Bool → Hp → Prop} (h : compassref12_Has.b1_t  list0p list0n list0c x1 i5 X1 E H K) : compassref12_Has.b1 list0p list0n list0c x1 i5 X1 E H K := by
  have k1 : ∀ G : List Nat → Fr → Hp → Prop, nodeR P0 T0 compassref12_Has.A [[0, 1, 0, 1]] G compassref12_Has.code [1, 0, 1, 0, 0] [X1] (compassref12_Has.rq E K) (compassref12_Has.f1 list0p list0n list0c x1 i5) H = compassref12_Has.b1_t  list0p list0n list0c x1 i5 X1 E H K := fun G => by kernel_rfl
  exact nodeR_imp compassref12_Has.nok rfl ((k1 _).mpr h)
end Go.Mz
