/-
  The shallow texts of functions (LPT), each with a kernel-checked equation to the translated code. It proves nothing of the program by itself.
-/
import Derived.Test.YtmaeboaopebaiaaTab
set_option linter.unusedVariables false
set_option maxRecDepth 100000
namespace Go.Mz
/-! ### compass/compasslaw15.PairTurns (8) -/
noncomputable def compasslaw15_PairTurns.A : An := { live := [(0, [0, 1, 2]), (1, [1, 3, 5]), (2, []), (3, [1, 3, 5]), (4, [1, 3, 5, 7, 9]), (5, [1, 3, 5, 7, 9, 10, 12]), (6, []), (7, [1, 3, 5, 7, 9]), (8, []), (9, [1, 3, 5, 7]), (10, [1, 3, 5, 7, 13]), (11, [1, 3, 5, 7, 13]), (12, [1, 3, 5, 7, 13, 14]), (13, [1, 5, 7, 13, 14, 68, 69, 70]), (14, [1, 5, 7, 13, 14, 68, 69, 70]), (15, [1, 5, 7, 13, 14, 16, 68, 69, 70]), (16, [1, 5, 7, 13, 14, 16, 68, 69, 70]), (17, [1, 5, 7, 13, 14, 68, 69, 70]), (18, [1, 7, 13, 14]), (19, [1, 7, 14, 17, 19]), (20, [7, 17, 19, 20, 22])], ord := [], stb := [], pre := [] }
noncomputable def compasslaw15_PairTurns.code : Code := bodyOf Go.Proofs.Try.f8
theorem compasslaw15_PairTurns.ok : okCode compasslaw15_PairTurns.A 143 compasslaw15_PairTurns.code = true := by kernel_rfl
def compasslaw15_PairTurns.rq (E : Value → Hp → Prop) (K : Bool → Hp → Prop) : Ex → Fr → Hp → Prop := retQ T0 [.tmp 6] [4] (fun r H => ldR (.one false [.bool]) r fun u => K (asB u) H) E
def compasslaw15_PairTurns.run (g0_Nodes : Int) (g0_Edgesp : Option Addr) (g0_Edgesn : Nat) (g0_Edgesc : Nat) (left1 : Int) (more2_0 : Int) (more2_1 : Int) (E : Value → Hp → Prop) (H : Hp) (K : Bool → Hp → Prop) : Prop := nodeM P0 T0 compasslaw15_PairTurns.A compasslaw15_PairTurns.code [] [] (compasslaw15_PairTurns.rq E K) (argF 0 [.agg ⟨[.int .i64 g0_Nodes, .slice g0_Edgesp g0_Edgesn g0_Edgesc]⟩, .int .i64 left1, .agg ⟨[.int .i64 more2_0, .int .i64 more2_1]⟩]) H
theorem compasslaw15_PairTurns.of {g0_Nodes : Int} {g0_Edgesp : Option Addr} {g0_Edgesn : Nat} {g0_Edgesc : Nat} {left1 : Int} {more2_0 : Int} {more2_1 : Int} {E : Value → Hp → Prop} {H : Hp} {K : Bool → Hp → Prop} (h : compasslaw15_PairTurns.run g0_Nodes g0_Edgesp g0_Edgesn g0_Edgesc left1 more2_0 more2_1 E H K) : compasslaw15_PairTurns.call g0_Nodes g0_Edgesp g0_Edgesn g0_Edgesc left1 more2_0 more2_1 E H K :=
  callW_of T0_ok P0_mixed (A := compasslaw15_PairTurns.A) (fn := Go.Proofs.Try.f8) Go.Proofs.Try.func8 rfl compasslaw15_PairTurns.ok rfl h
noncomputable def compasslaw15_PairTurns.f1 (left1 : Int) (more5 : Nat) (m7p : Option Addr) (m7n : Nat) (m7c : Nat) (wide13 : Nat) (less14 : Nat) (t68p : Option Addr) (t68n : Nat) (t68c : Nat) (t69 : Int) (t70 : Int) : Fr := [(1, .int .i64 left1), (5, .pointer (some ⟨more5, 0, none⟩)), (7, .slice m7p m7n m7c), (13, .pointer (some ⟨wide13, 0, none⟩)), (14, .pointer (some ⟨less14, 0, none⟩)), (68, .slice t68p t68n t68c), (69, .int .i64 t69), (70, .int .i64 t70)]
def compasslaw15_PairTurns.j1 (left1 : Int) (more5 : Nat) (m7p : Option Addr) (m7n : Nat) (m7c : Nat) (wide13 : Nat) (less14 : Nat) (t68p : Option Addr) (t68n : Nat) (t68c : Nat) (t69 : Int) (t70 : Int) (X1 : Fr → Hp → Prop) (E : Value → Hp → Prop) (H : Hp) (K : Bool → Hp → Prop) : Prop := nodeM P0 T0 compasslaw15_PairTurns.A compasslaw15_PairTurns.code [1, 1, 1, 1, 1, 1, 1, 1, 1, 0, 1, 0, 0, 1, 1, 1] [X1] (compasslaw15_PairTurns.rq E K) [(1, .int .i64 left1), (5, .pointer (some ⟨more5, 0, none⟩)), (7, .slice m7p m7n m7c), (13, .pointer (some ⟨wide13, 0, none⟩)), (14, .pointer (some ⟨less14, 0, none⟩)), (68, .slice t68p t68n t68c), (69, .int .i64 t69), (70, .int .i64 t70)] H
def compasslaw15_PairTurns.j2 (left1 : Int) (m7p : Option Addr) (m7n : Nat) (m7c : Nat) (wide13 : Nat) (less14 : Nat)  (E : Value → Hp → Prop) (H : Hp) (K : Bool → Hp → Prop) : Prop := nodeM P0 T0 compasslaw15_PairTurns.A compasslaw15_PairTurns.code [1, 1, 1, 1, 1, 1, 1, 1, 1, 1] [] (compasslaw15_PairTurns.rq E K) [(1, .int .i64 left1), (7, .slice m7p m7n m7c), (13, .pointer (some ⟨wide13, 0, none⟩)), (14, .pointer (some ⟨less14, 0, none⟩))] H
def compasslaw15_PairTurns.l1 (left1 : Int) (more5 : Nat) (m7p : Option Addr) (m7n : Nat) (m7c : Nat) (wide13 : Nat) (less14 : Nat) (t68p : Option Addr) (t68n : Nat) (t68c : Nat) (t69 : Int) (t70 : Int)  (E : Value → Hp → Prop) (H : Hp) (K : Bool → Hp → Prop) : Prop := nodeM P0 T0 compasslaw15_PairTurns.A compasslaw15_PairTurns.code [1, 1, 1, 1, 1, 1, 1, 1, 1, 0, 1, 0] [] (compasslaw15_PairTurns.rq E K) (compasslaw15_PairTurns.f1 left1 more5 m7p m7n m7c wide13 less14 t68p t68n t68c t69 t70) H
def compasslaw15_PairTurns.b1 (left1 : Int) (more5 : Nat) (m7p : Option Addr) (m7n : Nat) (m7c : Nat) (wide13 : Nat) (less14 : Nat) (t68p : Option Addr) (t68n : Nat) (t68c : Nat) (t69 : Int) (t70 : Int)  (X1 : Fr → Hp → Prop) (E : Value → Hp → Prop) (H : Hp) (K : Bool → Hp → Prop) : Prop := nodeM P0 T0 compasslaw15_PairTurns.A compasslaw15_PairTurns.code [1, 1, 1, 1, 1, 1, 1, 1, 1, 0, 1, 0, 0] [X1] (compasslaw15_PairTurns.rq E K) (compasslaw15_PairTurns.f1 left1 more5 m7p m7n m7c wide13 less14 t68p t68n t68c t69 t70) H
theorem compasslaw15_PairTurns.l1_rule { E : Value → Hp → Prop} {K : Bool → Hp → Prop} (I : Int → Nat → (Option Addr) → Nat → Nat → Nat → Nat → (Option Addr) → Nat → Nat → Int → Int → Hp → Prop) (μ : Int → Nat → (Option Addr) → Nat → Nat → Nat → Nat → (Option Addr) → Nat → Nat → Int → Int → Hp → Nat)
    (h : ∀ left1 more5 m7p m7n m7c wide13 less14 t68p t68n t68c t69 t70 H, I left1 more5 m7p m7n m7c wide13 less14 t68p t68n t68c t69 t70 H → ∀ X : Fr → Hp → Prop, (∀ left1' more5' m7p' m7n' m7c' wide13' less14' t68p' t68n' t68c' t69' t70' H', I left1' more5' m7p' m7n' m7c' wide13' less14' t68p' t68n' t68c' t69' t70' H' → μ left1' more5' m7p' m7n' m7c' wide13' less14' t68p' t68n' t68c' t69' t70' H' < μ left1 more5 m7p m7n m7c wide13 less14 t68p t68n t68c t69 t70 H → X (compasslaw15_PairTurns.f1 left1' more5' m7p' m7n' m7c' wide13' less14' t68p' t68n' t68c' t69' t70') H') → compasslaw15_PairTurns.b1 left1 more5 m7p m7n m7c wide13 less14 t68p t68n t68c t69 t70  X E H K)
    {left1 : Int} {more5 : Nat} {m7p : Option Addr} {m7n : Nat} {m7c : Nat} {wide13 : Nat} {less14 : Nat} {t68p : Option Addr} {t68n : Nat} {t68c : Nat} {t69 : Int} {t70 : Int} {H : Hp} (hI : I left1 more5 m7p m7n m7c wide13 less14 t68p t68n t68c t69 t70 H) : compasslaw15_PairTurns.l1 left1 more5 m7p m7n m7c wide13 less14 t68p t68n t68c t69 t70  E H K :=
  loop_rule (S := Int × Nat × (Option Addr) × Nat × Nat × Nat × Nat × (Option Addr) × Nat × Nat × Int × Int) (fun s => compasslaw15_PairTurns.f1 (s.1) (s.2.1) (s.2.2.1) (s.2.2.2.1) (s.2.2.2.2.1) (s.2.2.2.2.2.1) (s.2.2.2.2.2.2.1) (s.2.2.2.2.2.2.2.1) (s.2.2.2.2.2.2.2.2.1) (s.2.2.2.2.2.2.2.2.2.1) (s.2.2.2.2.2.2.2.2.2.2.1) (s.2.2.2.2.2.2.2.2.2.2.2)) (fun s H => I (s.1) (s.2.1) (s.2.2.1) (s.2.2.2.1) (s.2.2.2.2.1) (s.2.2.2.2.2.1) (s.2.2.2.2.2.2.1) (s.2.2.2.2.2.2.2.1) (s.2.2.2.2.2.2.2.2.1) (s.2.2.2.2.2.2.2.2.2.1) (s.2.2.2.2.2.2.2.2.2.2.1) (s.2.2.2.2.2.2.2.2.2.2.2) H) (fun s H => μ (s.1) (s.2.1) (s.2.2.1) (s.2.2.2.1) (s.2.2.2.2.1) (s.2.2.2.2.2.1) (s.2.2.2.2.2.2.1) (s.2.2.2.2.2.2.2.1) (s.2.2.2.2.2.2.2.2.1) (s.2.2.2.2.2.2.2.2.2.1) (s.2.2.2.2.2.2.2.2.2.2.1) (s.2.2.2.2.2.2.2.2.2.2.2) H) (fun s H hI X hX => h (s.1) (s.2.1) (s.2.2.1) (s.2.2.2.1) (s.2.2.2.2.1) (s.2.2.2.2.2.1) (s.2.2.2.2.2.2.1) (s.2.2.2.2.2.2.2.1) (s.2.2.2.2.2.2.2.2.1) (s.2.2.2.2.2.2.2.2.2.1) (s.2.2.2.2.2.2.2.2.2.2.1) (s.2.2.2.2.2.2.2.2.2.2.2) H hI X fun left1' more5' m7p' m7n' m7c' wide13' less14' t68p' t68n' t68c' t69' t70' H' hI' hlt => hX (left1', more5', m7p', m7n', m7c', wide13', less14', t68p', t68n', t68c', t69', t70') H' hI' hlt) (s := (left1, more5, m7p, m7n, m7c, wide13, less14, t68p, t68n, t68c, t69, t70)) rfl hI
theorem compasslaw15_PairTurns.nok : nodesOk compasslaw15_PairTurns.code [[0, 1, 0, 1, 1, 1, 1, 1, 1, 1, 1, 1], [1, 1, 1, 0, 0, 1, 0, 1, 1, 1, 1, 1, 1, 1, 1, 1], [1, 1, 1, 1, 1, 1, 1, 1, 1, 1]] = true := by kernel_rfl
def compasslaw15_PairTurns.run_t (l1 : Int → Nat → (Option Addr) → Nat → Nat → Nat → Nat → (Option Addr) → Nat → Nat → Int → Int → Hp → Prop) (g0_Nodes : Int) (g0_Edgesp : Option Addr) (g0_Edgesn : Nat) (g0_Edgesc : Nat) (left1 : Int) (more2_0 : Int) (more2_1 : Int)  (E : Value → Hp → Prop) (H : Hp) (K : Bool → Hp → Prop) : Prop :=
  nw H ⟨[.int .i64 g0_Nodes, .slice g0_Edgesp g0_Edgesn g0_Edgesc], 24⟩ fun b_1 H_1 =>
  nw H_1 ⟨[.int .i64 more2_0, .int .i64 more2_1], 48⟩ fun b_2 H_2 =>
  compasslaw15_awake.call  E H_2 fun r_1 H_3 =>
  bcase ((!r_1)) (
  K false H_3)
  (ldI .i64 (H_3.get b_1 0) fun x_1 =>
  ldS (H_3.get b_1 1) fun x_2p x_2n x_2c =>
  bimatch_Solve.call x_1 x_2p x_2n x_2c left1 2 E H_3 fun r_2p r_2n r_2c r_3p r_3n r_3c r_4 H_4 =>
  ldI .i64 (H_4.get b_1 0) fun x_3 =>
  ldS (H_4.get b_1 1) fun x_4p x_4n x_4c =>
  compassref03_Reverse.call x_3 x_4p x_4n x_4c E H_4 fun r_5_Nodes r_5_Edgesp r_5_Edgesn r_5_Edgesc H_5 =>
  bimatch_Solve.call r_5_Nodes r_5_Edgesp r_5_Edgesn r_5_Edgesc left1 1 E H_5 fun r_6p r_6n r_6c r_7p r_7n r_7c r_8 H_6 =>
  bcase (!decide ((r_4 : Int) = r_8)) (
  K false H_6)
  (bcase (!decide (((r_2n : Int) : Int) = (r_6n : Int))) (
  K false H_6)
  (bcase (!decide ((r_4 : Int) = 0)) (
  K true H_6)
  (ldI .i64 (H_6.get b_1 0) fun x_5 =>
  ldS (H_6.get b_1 1) fun x_6p x_6n x_6c =>
  compassref03_Copy.call x_5 x_6p x_6n x_6c E H_6 fun r_9_Nodes r_9_Edgesp r_9_Edgesn r_9_Edgesc H_7 =>
  nw H_7 ⟨[.int .i64 0, .slice none 0 0], 24⟩ fun b_3 H_8 =>
  stC H_8 b_3 0 [.int .i64 r_9_Nodes, .slice r_9_Edgesp r_9_Edgesn r_9_Edgesc] fun H_9 =>
  ldS (H_9.get b_3 1) fun x_7p x_7n x_7c =>
  ix (some ⟨b_2, 0, none⟩) 2 0 1 fun b_4 o_1 =>
  ldI .i64 (H_9.get b_4 o_1) fun x_8 =>
  ix (some ⟨b_2, 0, none⟩) 2 1 1 fun b_5 o_2 =>
  ldI .i64 (H_9.get b_5 o_2) fun x_9 =>
  nw H_9 ⟨[.int .i64 x_8, .int .i64 x_9, .int .i64 0, .int .i64 0], 37⟩ fun b_6 H_10 =>
  appM 37 [.i .i64, .i .i64, .i .i64, .i .i64] 32 x_7p x_7n x_7c (some ⟨b_6, 0, none⟩) 1 H_10 fun a_1p a_1n a_1c H_11 =>
  stC H_11 b_3 1 [.slice a_1p a_1n a_1c] fun H_12 =>
  ldI .i64 (H_12.get b_1 0) fun x_10 =>
  nw H_12 ⟨[.int .i64 0, .slice none 0 0], 24⟩ fun b_7 H_13 =>
  stC H_13 b_7 0 [.int .i64 x_10, .slice none 0 0] fun H_14 =>
  ldS (H_14.get b_1 1) fun x_11p x_11n x_11c =>
  l1 left1 b_2 r_2p r_2n r_2c b_3 b_7 x_11p x_11n x_11c (x_11n : Int) 0 H_14))))
theorem compasslaw15_PairTurns.run_eq {g0_Nodes : Int} {g0_Edgesp : Option Addr} {g0_Edgesn : Nat} {g0_Edgesc : Nat} {left1 : Int} {more2_0 : Int} {more2_1 : Int} { E : Value → Hp → Prop} {H : Hp} {K : Bool → Hp → Prop} (h : compasslaw15_PairTurns.run_t (fun left1 more5 m7p m7n m7c wide13 less14 t68p t68n t68c t69 t70 H => compasslaw15_PairTurns.l1 left1 more5 m7p m7n m7c wide13 less14 t68p t68n t68c t69 t70  E H K) g0_Nodes g0_Edgesp g0_Edgesn g0_Edgesc left1 more2_0 more2_1  E H K) : compasslaw15_PairTurns.run g0_Nodes g0_Edgesp g0_Edgesn g0_Edgesc left1 more2_0 more2_1  E H K := by
  have k1 : ∀ G : List Nat → Fr → Hp → Prop, nodeR P0 T0 compasslaw15_PairTurns.A [[0, 1, 0, 1, 1, 1, 1, 1, 1, 1, 1, 1], [1, 1, 1, 0, 0, 1, 0, 1, 1, 1, 1, 1, 1, 1, 1, 1], [1, 1, 1, 1, 1, 1, 1, 1, 1, 1]] G compasslaw15_PairTurns.code [] [] (compasslaw15_PairTurns.rq E K) (argF 0 [.agg ⟨[.int .i64 g0_Nodes, .slice g0_Edgesp g0_Edgesn g0_Edgesc]⟩, .int .i64 left1, .agg ⟨[.int .i64 more2_0, .int .i64 more2_1]⟩]) H = compasslaw15_PairTurns.run_t (fun left1 more5 m7p m7n m7c wide13 less14 t68p t68n t68c t69 t70 H => G [0, 1, 0, 1, 1, 1, 1, 1, 1, 1, 1, 1] [(1, .int .i64 left1), (5, .pointer (some ⟨more5, 0, none⟩)), (7, .slice m7p m7n m7c), (13, .pointer (some ⟨wide13, 0, none⟩)), (14, .pointer (some ⟨less14, 0, none⟩)), (68, .slice t68p t68n t68c), (69, .int .i64 t69), (70, .int .i64 t70)] H) g0_Nodes g0_Edgesp g0_Edgesn g0_Edgesc left1 more2_0 more2_1  E H K := fun G => by kernel_rfl
  have k2 : compasslaw15_PairTurns.run_t (fun left1 more5 m7p m7n m7c wide13 less14 t68p t68n t68c t69 t70 H => compasslaw15_PairTurns.l1 left1 more5 m7p m7n m7c wide13 less14 t68p t68n t68c t69 t70  E H K) g0_Nodes g0_Edgesp g0_Edgesn g0_Edgesc left1 more2_0 more2_1  E H K = compasslaw15_PairTurns.run_t (fun left1 more5 m7p m7n m7c wide13 less14 t68p t68n t68c t69 t70 H => (fun q F H => nodeM P0 T0 compasslaw15_PairTurns.A compasslaw15_PairTurns.code q.reverse [] (compasslaw15_PairTurns.rq E K) F H) [0, 1, 0, 1, 1, 1, 1, 1, 1, 1, 1, 1] [(1, .int .i64 left1), (5, .pointer (some ⟨more5, 0, none⟩)), (7, .slice m7p m7n m7c), (13, .pointer (some ⟨wide13, 0, none⟩)), (14, .pointer (some ⟨less14, 0, none⟩)), (68, .slice t68p t68n t68c), (69, .int .i64 t69), (70, .int .i64 t70)] H) g0_Nodes g0_Edgesp g0_Edgesn g0_Edgesc left1 more2_0 more2_1  E H K := by kernel_rfl
  exact nodeR_imp compasslaw15_PairTurns.nok rfl ((k1 _).mpr (k2.mp h))
def compasslaw15_PairTurns.j1_t  (left1 : Int) (more5 : Nat) (m7p : Option Addr) (m7n : Nat) (m7c : Nat) (wide13 : Nat) (less14 : Nat) (t68p : Option Addr) (t68n : Nat) (t68c : Nat) (t69 : Int) (t70 : Int) (X1 : Fr → Hp → Prop) (E : Value → Hp → Prop) (H : Hp) (K : Bool → Hp → Prop) : Prop :=
  X1 (compasslaw15_PairTurns.f1 left1 more5 m7p m7n m7c wide13 less14 t68p t68n t68c t69 (IntKind.wrap .i64 (t70 + 1))) H
theorem compasslaw15_PairTurns.j1_eq {left1 : Int} {more5 : Nat} {m7p : Option Addr} {m7n : Nat} {m7c : Nat} {wide13 : Nat} {less14 : Nat} {t68p : Option Addr} {t68n : Nat} {t68c : Nat} {t69 : Int} {t70 : Int} {X1 : Fr → Hp → Prop} { E : Value → Hp → Prop} {H : Hp} {K : Bool → Hp → Prop} (h : compasslaw15_PairTurns.j1_t  left1 more5 m7p m7n m7c wide13 less14 t68p t68n t68c t69 t70 X1 E H K) : compasslaw15_PairTurns.j1 left1 more5 m7p m7n m7c wide13 less14 t68p t68n t68c t69 t70 X1 E H K := by
  have k1 : ∀ G : List Nat → Fr → Hp → Prop, nodeR P0 T0 compasslaw15_PairTurns.A [[0, 1, 0, 1, 1, 1, 1, 1, 1, 1, 1, 1], [1, 1, 1, 0, 0, 1, 0, 1, 1, 1, 1, 1, 1, 1, 1, 1], [1, 1, 1, 1, 1, 1, 1, 1, 1, 1]] G compasslaw15_PairTurns.code [1, 1, 1, 1, 1, 1, 1, 1, 1, 0, 1, 0, 0, 1, 1, 1] [X1] (compasslaw15_PairTurns.rq E K) [(1, .int .i64 left1), (5, .pointer (some ⟨more5, 0, none⟩)), (7, .slice m7p m7n m7c), (13, .pointer (some ⟨wide13, 0, none⟩)), (14, .pointer (some ⟨less14, 0, none⟩)), (68, .slice t68p t68n t68c), (69, .int .i64 t69), (70, .int .i64 t70)] H = compasslaw15_PairTurns.j1_t  left1 more5 m7p m7n m7c wide13 less14 t68p t68n t68c t69 t70 X1 E H K := fun G => by kernel_rfl
  exact nodeR_imp compasslaw15_PairTurns.nok rfl ((k1 _).mpr h)
def compasslaw15_PairTurns.j2_t  (left1 : Int) (m7p : Option Addr) (m7n : Nat) (m7c : Nat) (wide13 : Nat) (less14 : Nat)  (E : Value → Hp → Prop) (H : Hp) (K : Bool → Hp → Prop) : Prop :=
  ldI .i64 (H.get wide13 0) fun x_1 =>
  ldS (H.get wide13 1) fun x_2p x_2n x_2c =>
  bimatch_Solve.call x_1 x_2p x_2n x_2c left1 2 E H fun r_1p r_1n r_1c r_2p r_2n r_2c r_3 H_1 =>
  ldI .i64 (H_1.get less14 0) fun x_3 =>
  ldS (H_1.get less14 1) fun x_4p x_4n x_4c =>
  bimatch_Solve.call x_3 x_4p x_4n x_4c left1 2 E H_1 fun r_4p r_4n r_4c r_5p r_5n r_5c r_6 H_2 =>
  bcase (decide ((r_6 : Int) = 0)) (
  bcase (decide (((r_4n : Int) : Int) ≤ (m7n : Int))) (
  bcase (decide (((IntKind.wrap .i64 ((m7n : Int) - 1)) : Int) ≤ (r_4n : Int))) (
  bcase (!decide ((r_3 : Int) = 0)) (
  K true H_2)
  (bcase (decide (((m7n : Int) : Int) ≤ (r_1n : Int))) (
  K (decide (((r_1n : Int) : Int) ≤ (IntKind.wrap .i64 ((m7n : Int) + 1)))) H_2)
  (K false H_2)))
  (K false H_2))
  (K false H_2))
  (K false H_2)
theorem compasslaw15_PairTurns.j2_eq {left1 : Int} {m7p : Option Addr} {m7n : Nat} {m7c : Nat} {wide13 : Nat} {less14 : Nat} { E : Value → Hp → Prop} {H : Hp} {K : Bool → Hp → Prop} (h : compasslaw15_PairTurns.j2_t  left1 m7p m7n m7c wide13 less14  E H K) : compasslaw15_PairTurns.j2 left1 m7p m7n m7c wide13 less14  E H K := by
  have k1 : ∀ G : List Nat → Fr → Hp → Prop, nodeR P0 T0 compasslaw15_PairTurns.A [[0, 1, 0, 1, 1, 1, 1, 1, 1, 1, 1, 1], [1, 1, 1, 0, 0, 1, 0, 1, 1, 1, 1, 1, 1, 1, 1, 1], [1, 1, 1, 1, 1, 1, 1, 1, 1, 1]] G compasslaw15_PairTurns.code [1, 1, 1, 1, 1, 1, 1, 1, 1, 1] [] (compasslaw15_PairTurns.rq E K) [(1, .int .i64 left1), (7, .slice m7p m7n m7c), (13, .pointer (some ⟨wide13, 0, none⟩)), (14, .pointer (some ⟨less14, 0, none⟩))] H = compasslaw15_PairTurns.j2_t  left1 m7p m7n m7c wide13 less14  E H K := fun G => by kernel_rfl
  exact nodeR_imp compasslaw15_PairTurns.nok rfl ((k1 _).mpr h)
def compasslaw15_PairTurns.b1_t (j1 : Int → Nat → (Option Addr) → Nat → Nat → Nat → Nat → (Option Addr) → Nat → Nat → Int → Int → Hp → Prop) (j2 : Int → (Option Addr) → Nat → Nat → Nat → Nat → Hp → Prop) (left1 : Int) (more5 : Nat) (m7p : Option Addr) (m7n : Nat) (m7c : Nat) (wide13 : Nat) (less14 : Nat) (t68p : Option Addr) (t68n : Nat) (t68c : Nat) (t69 : Int) (t70 : Int) (X1 : Fr → Hp → Prop) (E : Value → Hp → Prop) (H : Hp) (K : Bool → Hp → Prop) : Prop :=
  bcase (decide ((t70 : Int) < t69)) (
  ix t68p t68n t70 4 fun b_1 o_1 =>
  ldI .i64 (H.get b_1 o_1) fun x_1 =>
  ldI .i64 (H.get b_1 (o_1 + 1)) fun x_2 =>
  ldI .i64 (H.get b_1 (o_1 + 2)) fun x_3 =>
  ldI .i64 (H.get b_1 (o_1 + 3)) fun x_4 =>
  nw H ⟨[.int .i64 0, .int .i64 0, .int .i64 0, .int .i64 0], 37⟩ fun b_2 H_1 =>
  stC H_1 b_2 0 [.int .i64 x_1, .int .i64 x_2, .int .i64 x_3, .int .i64 x_4] fun H_2 =>
  ldI .i64 (H_2.get b_2 0) fun x_5 =>
  ix (some ⟨more5, 0, none⟩) 2 0 1 fun b_3 o_2 =>
  ldI .i64 (H_2.get b_3 o_2) fun x_6 =>
  bcase (!decide ((x_5 : Int) = x_6)) (
  ldI .i64 (H_2.get b_2 1) fun x_7 =>
  ix (some ⟨more5, 0, none⟩) 2 0 1 fun b_4 o_3 =>
  ldI .i64 (H_2.get b_4 o_3) fun x_8 =>
  bcase (!decide ((x_7 : Int) = x_8)) (
  ldS (H_2.get less14 1) fun x_9p x_9n x_9c =>
  ldI .i64 (H_2.get b_2 0) fun x_10 =>
  ldI .i64 (H_2.get b_2 1) fun x_11 =>
  ldI .i64 (H_2.get b_2 2) fun x_12 =>
  ldI .i64 (H_2.get b_2 3) fun x_13 =>
  nw H_2 ⟨[.int .i64 x_10, .int .i64 x_11, .int .i64 x_12, .int .i64 x_13], 37⟩ fun b_5 H_3 =>
  appM 37 [.i .i64, .i .i64, .i .i64, .i .i64] 32 x_9p x_9n x_9c (some ⟨b_5, 0, none⟩) 1 H_3 fun a_1p a_1n a_1c H_4 =>
  stC H_4 less14 1 [.slice a_1p a_1n a_1c] fun H_5 =>
  j1 left1 more5 m7p m7n m7c wide13 less14 t68p t68n t68c t69 t70 H_5)
  (j1 left1 more5 m7p m7n m7c wide13 less14 t68p t68n t68c t69 t70 H_2))
  (j1 left1 more5 m7p m7n m7c wide13 less14 t68p t68n t68c t69 t70 H_2))
  (j2 left1 m7p m7n m7c wide13 less14 H)
theorem compasslaw15_PairTurns.b1_eq {left1 : Int} {more5 : Nat} {m7p : Option Addr} {m7n : Nat} {m7c : Nat} {wide13 : Nat} {less14 : Nat} {t68p : Option Addr} {t68n : Nat} {t68c : Nat} {t69 : Int} {t70 : Int} {X1 : Fr → Hp → Prop} { E : Value → Hp → Prop} {H : Hp} {K : Bool → Hp → Prop} (h : compasslaw15_PairTurns.b1_t (fun left1 more5 m7p m7n m7c wide13 less14 t68p t68n t68c t69 t70 H => compasslaw15_PairTurns.j1 left1 more5 m7p m7n m7c wide13 less14 t68p t68n t68c t69 t70 X1 E H K) (fun left1 m7p m7n m7c wide13 less14 H => compasslaw15_PairTurns.j2 left1 m7p m7n m7c wide13 less14  E H K) left1 more5 m7p m7n m7c wide13 less14 t68p t68n t68c t69 t70 X1 E H K) : compasslaw15_PairTurns.b1 left1 more5 m7p m7n m7c wide13 less14 t68p t68n t68c t69 t70 X1 E H K := by
  have k1 : ∀ G : List Nat → Fr → Hp → Prop, nodeR P0 T0 compasslaw15_PairTurns.A [[0, 1, 0, 1, 1, 1, 1, 1, 1, 1, 1, 1], [1, 1, 1, 0, 0, 1, 0, 1, 1, 1, 1, 1, 1, 1, 1, 1], [1, 1, 1, 1, 1, 1, 1, 1, 1, 1]] G compasslaw15_PairTurns.code [1, 1, 1, 1, 1, 1, 1, 1, 1, 0, 1, 0, 0] [X1] (compasslaw15_PairTurns.rq E K) (compasslaw15_PairTurns.f1 left1 more5 m7p m7n m7c wide13 less14 t68p t68n t68c t69 t70) H = compasslaw15_PairTurns.b1_t (fun left1 more5 m7p m7n m7c wide13 less14 t68p t68n t68c t69 t70 H => G [1, 1, 1, 0, 0, 1, 0, 1, 1, 1, 1, 1, 1, 1, 1, 1] [(1, .int .i64 left1), (5, .pointer (some ⟨more5, 0, none⟩)), (7, .slice m7p m7n m7c), (13, .pointer (some ⟨wide13, 0, none⟩)), (14, .pointer (some ⟨less14, 0, none⟩)), (68, .slice t68p t68n t68c), (69, .int .i64 t69), (70, .int .i64 t70)] H) (fun left1 m7p m7n m7c wide13 less14 H => G [1, 1, 1, 1, 1, 1, 1, 1, 1, 1] [(1, .int .i64 left1), (7, .slice m7p m7n m7c), (13, .pointer (some ⟨wide13, 0, none⟩)), (14, .pointer (some ⟨less14, 0, none⟩))] H) left1 more5 m7p m7n m7c wide13 less14 t68p t68n t68c t69 t70 X1 E H K := fun G => by kernel_rfl
  have k2 : compasslaw15_PairTurns.b1_t (fun left1 more5 m7p m7n m7c wide13 less14 t68p t68n t68c t69 t70 H => compasslaw15_PairTurns.j1 left1 more5 m7p m7n m7c wide13 less14 t68p t68n t68c t69 t70 X1 E H K) (fun left1 m7p m7n m7c wide13 less14 H => compasslaw15_PairTurns.j2 left1 m7p m7n m7c wide13 less14  E H K) left1 more5 m7p m7n m7c wide13 less14 t68p t68n t68c t69 t70 X1 E H K = compasslaw15_PairTurns.b1_t (fun left1 more5 m7p m7n m7c wide13 less14 t68p t68n t68c t69 t70 H => (fun q F H => nodeM P0 T0 compasslaw15_PairTurns.A compasslaw15_PairTurns.code q.reverse [X1] (compasslaw15_PairTurns.rq E K) F H) [1, 1, 1, 0, 0, 1, 0, 1, 1, 1, 1, 1, 1, 1, 1, 1] [(1, .int .i64 left1), (5, .pointer (some ⟨more5, 0, none⟩)), (7, .slice m7p m7n m7c), (13, .pointer (some ⟨wide13, 0, none⟩)), (14, .pointer (some ⟨less14, 0, none⟩)), (68, .slice t68p t68n t68c), (69, .int .i64 t69), (70, .int .i64 t70)] H) (fun left1 m7p m7n m7c wide13 less14 H => (fun q F H => nodeM P0 T0 compasslaw15_PairTurns.A compasslaw15_PairTurns.code q.reverse [X1] (compasslaw15_PairTurns.rq E K) F H) [1, 1, 1, 1, 1, 1, 1, 1, 1, 1] [(1, .int .i64 left1), (7, .slice m7p m7n m7c), (13, .pointer (some ⟨wide13, 0, none⟩)), (14, .pointer (some ⟨less14, 0, none⟩))] H) left1 more5 m7p m7n m7c wide13 less14 t68p t68n t68c t69 t70 X1 E H K := by kernel_rfl
  exact nodeR_imp compasslaw15_PairTurns.nok rfl ((k1 _).mpr (k2.mp h))
end Go.Mz
