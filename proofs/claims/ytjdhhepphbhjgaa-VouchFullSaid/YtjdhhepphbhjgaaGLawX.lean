/-
  The shallow texts of functions (LawX), each with a kernel-checked equation to the translated code. It proves nothing of the program by itself.
-/
import Derived.Test.YtjdhhepphbhjgaaTab
set_option linter.unusedVariables false
set_option maxRecDepth 100000
namespace Go.Mz
/-! ### compass/compasslaw12.VouchFull (12) -/
noncomputable def compasslaw12_VouchFull.A : An := { live := [(0, [0, 1]), (1, [1, 2]), (2, []), (3, [1, 2]), (4, [1, 2, 5]), (5, []), (6, [1, 2]), (7, [1, 2, 7]), (8, [1, 2, 7, 8, 9]), (9, [1, 2, 7, 8, 9, 10, 11]), (10, []), (11, [1, 2, 7, 10]), (12, [1, 2, 7, 10, 77, 78, 79]), (13, [1, 2, 7, 10, 77, 78, 79]), (14, [1, 2, 7, 10, 13, 77, 78, 79]), (15, []), (16, [1, 2, 7, 10, 77, 78, 79]), (17, [2, 7, 10]), (18, [10, 14, 15])], ord := [(9, [0, 1, 2, 3, 4, 5, 6, 7, 8, 9, 10, 11, 12, 13, 14, 17, 18, 19, 20, 21, 15, 16, 22, 23]), (17, [0, 1, 2, 3, 4, 5, 6, 7, 8, 9])], stb := [(9, [(15, [20])]), (17, [(3, [0])])], pre := [(9, [[], [0], [0, 1], [0, 1, 2], [0, 1, 2, 3], [0, 1, 2, 3, 4], [0, 1, 2, 3, 4, 5], [0, 1, 2, 3, 4, 5, 6], [0, 1, 2, 3, 4, 5, 6], [0, 1, 2, 3, 4, 5, 6, 8], [0, 1, 2, 3, 4, 5, 6, 7, 8, 9], [0, 1, 2, 3, 4, 5, 6, 7, 8, 9, 10], [0, 1, 2, 3, 4, 5, 6, 7, 8, 9, 10, 11], [0, 1, 2, 3, 4, 5, 6, 7, 8, 9, 10, 11, 12], [0, 1, 2, 3, 4, 5, 6, 7, 8, 9, 10, 11, 12], [0, 1, 2, 3, 4, 5, 6, 7, 8, 9, 10, 11, 12, 13, 14], [0, 1, 2, 3, 4, 5, 6, 7, 8, 9, 10, 11, 12, 13, 14, 15], [0, 1, 2, 3, 4, 5, 6, 7, 8, 9, 10, 11, 12], [0, 1, 2, 3, 4, 5, 6, 7, 8, 9, 10, 11, 12, 17], [0, 1, 2, 3, 4, 5, 6, 7, 8, 9, 10, 11, 12], [0, 1, 2, 3, 4, 5, 6, 7, 8, 9, 10, 11, 12, 19], [0, 1, 2, 3, 4, 5, 6, 7, 8, 9, 10, 11, 12, 17, 18, 19, 20], [0, 1, 2, 3, 4, 5, 6, 7, 8, 9, 10, 11, 12, 13, 14, 15, 16, 17, 18, 19, 20, 21], [0, 1, 2, 3, 4, 5, 6, 7, 8, 9, 10, 11, 12, 13, 14, 15, 16, 17, 18, 19, 20, 21, 22]]), (17, [[], [], [], [2], [0, 1, 2, 3], [0, 1, 2, 3, 4], [0, 1, 2, 3, 4, 5], [0, 1, 2, 3, 4, 5], [0, 1, 2, 3, 4, 5, 6], [0, 1, 2, 3, 4, 5, 6, 7, 8]])] }
noncomputable def compasslaw12_VouchFull.code : Code := bodyOf Go.Proofs.Try.f12
theorem compasslaw12_VouchFull.ok : okCode compasslaw12_VouchFull.A 108 compasslaw12_VouchFull.code = true := by kernel_rfl
def compasslaw12_VouchFull.rq (E : Value → Hp → Prop) (K : Bool → Hp → Prop) : Ex → Fr → Hp → Prop := retQ T0 [.tmp 4] [4] (fun r H => ldR (.one false [.bool]) r fun u => K (asB u) H) E
def compasslaw12_VouchFull.run (g0_Nodes : Int) (g0_Edgesp : Option Addr) (g0_Edgesn : Nat) (g0_Edgesc : Nat) (left1 : Int) (E : Value → Hp → Prop) (H : Hp) (K : Bool → Hp → Prop) : Prop := nodeM P0 T0 compasslaw12_VouchFull.A compasslaw12_VouchFull.code [] [] (compasslaw12_VouchFull.rq E K) (argF 0 [.agg ⟨[.int .i64 g0_Nodes, .slice g0_Edgesp g0_Edgesn g0_Edgesc]⟩, .int .i64 left1]) H
theorem compasslaw12_VouchFull.of {g0_Nodes : Int} {g0_Edgesp : Option Addr} {g0_Edgesn : Nat} {g0_Edgesc : Nat} {left1 : Int} {E : Value → Hp → Prop} {H : Hp} {K : Bool → Hp → Prop} (h : compasslaw12_VouchFull.run g0_Nodes g0_Edgesp g0_Edgesn g0_Edgesc left1 E H K) : compasslaw12_VouchFull.call g0_Nodes g0_Edgesp g0_Edgesn g0_Edgesc left1 E H K :=
  callW_of T0_ok P0_mixed (A := compasslaw12_VouchFull.A) (fn := Go.Proofs.Try.f12) Go.Proofs.Try.func12 rfl compasslaw12_VouchFull.ok rfl h
noncomputable def compasslaw12_VouchFull.f1 (left1 : Int) (g2 : Nat) (m7p : Option Addr) (m7n : Nat) (m7c : Nat) (n10 : Int) (t77p : Option Addr) (t77n : Nat) (t77c : Nat) (t78 : Int) (t79 : Int) : Fr := [(1, .int .i64 left1), (2, .pointer (some ⟨g2, 0, none⟩)), (7, .slice m7p m7n m7c), (10, .int .i64 n10), (77, .slice t77p t77n t77c), (78, .int .i64 t78), (79, .int .i64 t79)]
def compasslaw12_VouchFull.j1 (g2 : Nat) (m7p : Option Addr) (m7n : Nat) (m7c : Nat) (n10 : Int)  (E : Value → Hp → Prop) (H : Hp) (K : Bool → Hp → Prop) : Prop := nodeM P0 T0 compasslaw12_VouchFull.A compasslaw12_VouchFull.code [1, 1, 1, 1, 1, 1, 1, 1] [] (compasslaw12_VouchFull.rq E K) [(2, .pointer (some ⟨g2, 0, none⟩)), (7, .slice m7p m7n m7c), (10, .int .i64 n10)] H
def compasslaw12_VouchFull.l1 (left1 : Int) (g2 : Nat) (m7p : Option Addr) (m7n : Nat) (m7c : Nat) (n10 : Int) (t77p : Option Addr) (t77n : Nat) (t77c : Nat) (t78 : Int) (t79 : Int)  (E : Value → Hp → Prop) (H : Hp) (K : Bool → Hp → Prop) : Prop := nodeM P0 T0 compasslaw12_VouchFull.A compasslaw12_VouchFull.code [1, 1, 1, 1, 1, 1, 1, 0, 1, 0] [] (compasslaw12_VouchFull.rq E K) (compasslaw12_VouchFull.f1 left1 g2 m7p m7n m7c n10 t77p t77n t77c t78 t79) H
def compasslaw12_VouchFull.b1 (left1 : Int) (g2 : Nat) (m7p : Option Addr) (m7n : Nat) (m7c : Nat) (n10 : Int) (t77p : Option Addr) (t77n : Nat) (t77c : Nat) (t78 : Int) (t79 : Int)  (X1 : Fr → Hp → Prop) (E : Value → Hp → Prop) (H : Hp) (K : Bool → Hp → Prop) : Prop := nodeM P0 T0 compasslaw12_VouchFull.A compasslaw12_VouchFull.code [1, 1, 1, 1, 1, 1, 1, 0, 1, 0, 0] [X1] (compasslaw12_VouchFull.rq E K) (compasslaw12_VouchFull.f1 left1 g2 m7p m7n m7c n10 t77p t77n t77c t78 t79) H
theorem compasslaw12_VouchFull.l1_rule { E : Value → Hp → Prop} {K : Bool → Hp → Prop} (I : Int → Nat → (Option Addr) → Nat → Nat → Int → (Option Addr) → Nat → Nat → Int → Int → Hp → Prop) (μ : Int → Nat → (Option Addr) → Nat → Nat → Int → (Option Addr) → Nat → Nat → Int → Int → Hp → Nat)
    (h : ∀ left1 g2 m7p m7n m7c n10 t77p t77n t77c t78 t79 H, I left1 g2 m7p m7n m7c n10 t77p t77n t77c t78 t79 H → ∀ X : Fr → Hp → Prop, (∀ left1' g2' m7p' m7n' m7c' n10' t77p' t77n' t77c' t78' t79' H', I left1' g2' m7p' m7n' m7c' n10' t77p' t77n' t77c' t78' t79' H' → μ left1' g2' m7p' m7n' m7c' n10' t77p' t77n' t77c' t78' t79' H' < μ left1 g2 m7p m7n m7c n10 t77p t77n t77c t78 t79 H → X (compasslaw12_VouchFull.f1 left1' g2' m7p' m7n' m7c' n10' t77p' t77n' t77c' t78' t79') H') → compasslaw12_VouchFull.b1 left1 g2 m7p m7n m7c n10 t77p t77n t77c t78 t79  X E H K)
    {left1 : Int} {g2 : Nat} {m7p : Option Addr} {m7n : Nat} {m7c : Nat} {n10 : Int} {t77p : Option Addr} {t77n : Nat} {t77c : Nat} {t78 : Int} {t79 : Int} {H : Hp} (hI : I left1 g2 m7p m7n m7c n10 t77p t77n t77c t78 t79 H) : compasslaw12_VouchFull.l1 left1 g2 m7p m7n m7c n10 t77p t77n t77c t78 t79  E H K :=
  loop_rule (S := Int × Nat × (Option Addr) × Nat × Nat × Int × (Option Addr) × Nat × Nat × Int × Int) (fun s => compasslaw12_VouchFull.f1 (s.1) (s.2.1) (s.2.2.1) (s.2.2.2.1) (s.2.2.2.2.1) (s.2.2.2.2.2.1) (s.2.2.2.2.2.2.1) (s.2.2.2.2.2.2.2.1) (s.2.2.2.2.2.2.2.2.1) (s.2.2.2.2.2.2.2.2.2.1) (s.2.2.2.2.2.2.2.2.2.2)) (fun s H => I (s.1) (s.2.1) (s.2.2.1) (s.2.2.2.1) (s.2.2.2.2.1) (s.2.2.2.2.2.1) (s.2.2.2.2.2.2.1) (s.2.2.2.2.2.2.2.1) (s.2.2.2.2.2.2.2.2.1) (s.2.2.2.2.2.2.2.2.2.1) (s.2.2.2.2.2.2.2.2.2.2) H) (fun s H => μ (s.1) (s.2.1) (s.2.2.1) (s.2.2.2.1) (s.2.2.2.2.1) (s.2.2.2.2.2.1) (s.2.2.2.2.2.2.1) (s.2.2.2.2.2.2.2.1) (s.2.2.2.2.2.2.2.2.1) (s.2.2.2.2.2.2.2.2.2.1) (s.2.2.2.2.2.2.2.2.2.2) H) (fun s H hI X hX => h (s.1) (s.2.1) (s.2.2.1) (s.2.2.2.1) (s.2.2.2.2.1) (s.2.2.2.2.2.1) (s.2.2.2.2.2.2.1) (s.2.2.2.2.2.2.2.1) (s.2.2.2.2.2.2.2.2.1) (s.2.2.2.2.2.2.2.2.2.1) (s.2.2.2.2.2.2.2.2.2.2) H hI X fun left1' g2' m7p' m7n' m7c' n10' t77p' t77n' t77c' t78' t79' H' hI' hlt => hX (left1', g2', m7p', m7n', m7c', n10', t77p', t77n', t77c', t78', t79') H' hI' hlt) (s := (left1, g2, m7p, m7n, m7c, n10, t77p, t77n, t77c, t78, t79)) rfl hI
theorem compasslaw12_VouchFull.nok : nodesOk compasslaw12_VouchFull.code [[0, 1, 0, 1, 1, 1, 1, 1, 1, 1], [1, 1, 1, 1, 1, 1, 1, 1]] = true := by kernel_rfl
def compasslaw12_VouchFull.run_t (l1 : Int → Nat → (Option Addr) → Nat → Nat → Int → (Option Addr) → Nat → Nat → Int → Int → Hp → Prop) (g0_Nodes : Int) (g0_Edgesp : Option Addr) (g0_Edgesn : Nat) (g0_Edgesc : Nat) (left1 : Int)  (E : Value → Hp → Prop) (H : Hp) (K : Bool → Hp → Prop) : Prop :=
  nw H ⟨[.int .i64 g0_Nodes, .slice g0_Edgesp g0_Edgesn g0_Edgesc], 24⟩ fun b_1 H_1 =>
  compasslaw12_awake.call  E H_1 fun r_1 H_2 =>
  bcase ((!r_1)) (
  K false H_2)
  (ldI .i64 (H_2.get b_1 0) fun x_1 =>
  ldS (H_2.get b_1 1) fun x_2p x_2n x_2c =>
  compassref03_Check.call x_1 x_2p x_2n x_2c E H_2 fun r_2 r_3 H_3 =>
  bcase (!decide ((r_2 : Int) = 0)) (
  K true H_3)
  (ldI .i64 (H_3.get b_1 0) fun x_3 =>
  bcase (decide ((8 : Int) < x_3)) (
  K true H_3)
  (ldS (H_3.get b_1 1) fun x_4p x_4n x_4c =>
  bcase (decide ((16 : Int) < (x_4n : Int))) (
  K true H_3)
  (ldI .i64 (H_3.get b_1 0) fun x_5 =>
  ldS (H_3.get b_1 1) fun x_6p x_6n x_6c =>
  compassref12_Most.call x_5 x_6p x_6n x_6c E H_3 fun r_4p r_4n r_4c H_4 =>
  compasslaw12_sorted.call r_4p r_4n r_4c E H_4 fun r_5p r_5n r_5c H_5 =>
  ldI .i64 (H_5.get b_1 0) fun x_7 =>
  ldS (H_5.get b_1 1) fun x_8p x_8n x_8c =>
  compassref12_Barrier.call x_7 x_8p x_8n x_8c r_5p r_5n r_5c E H_5 fun r_6p r_6n r_6c r_7 H_6 =>
  ldI .i64 (H_6.get b_1 0) fun x_9 =>
  ldS (H_6.get b_1 1) fun x_10p x_10n x_10c =>
  vouch_Largest.call x_9 x_10p x_10n x_10c r_5p r_5n r_5c r_6p r_6n r_6c E H_6 fun r_8 r_9 H_7 =>
  bcase ((!r_7)) (
  K false H_7)
  (bcase (!decide ((r_9 : Int) = 0)) (
  K false H_7)
  (bcase (!decide ((r_8 : Int) = (r_5n : Int))) (
  K false H_7)
  (ldI .i64 (H_7.get b_1 0) fun x_11 =>
  ldS (H_7.get b_1 1) fun x_12p x_12n x_12c =>
  ldI .i64 (H_7.get b_1 0) fun x_13 =>
  vouch_NoPerfect.call x_11 x_12p x_12n x_12c r_6p r_6n r_6c E H_7 fun r_10 H_8 =>
  (ldI .i64 (H_8.get b_1 0) fun x_15 =>
  Value.int .i64 x_15 = Value.int .i64 x_13) ∧
  bcase (!((decide ((r_10 : Int) = 0)) == (decide (((IntKind.wrap .i64 (2 * r_8)) : Int) < x_13)))) (
  K false H_8)
  (ldS (H_8.get b_1 1) fun x_14p x_14n x_14c =>
  l1 left1 b_1 r_5p r_5n r_5c r_8 x_14p x_14n x_14c (x_14n : Int) 0 H_8))))))))
theorem compasslaw12_VouchFull.run_eq {g0_Nodes : Int} {g0_Edgesp : Option Addr} {g0_Edgesn : Nat} {g0_Edgesc : Nat} {left1 : Int} { E : Value → Hp → Prop} {H : Hp} {K : Bool → Hp → Prop} (h : compasslaw12_VouchFull.run_t (fun left1 g2 m7p m7n m7c n10 t77p t77n t77c t78 t79 H => compasslaw12_VouchFull.l1 left1 g2 m7p m7n m7c n10 t77p t77n t77c t78 t79  E H K) g0_Nodes g0_Edgesp g0_Edgesn g0_Edgesc left1  E H K) : compasslaw12_VouchFull.run g0_Nodes g0_Edgesp g0_Edgesn g0_Edgesc left1  E H K := by
  have k1 : ∀ G : List Nat → Fr → Hp → Prop, nodeR P0 T0 compasslaw12_VouchFull.A [[0, 1, 0, 1, 1, 1, 1, 1, 1, 1], [1, 1, 1, 1, 1, 1, 1, 1]] G compasslaw12_VouchFull.code [] [] (compasslaw12_VouchFull.rq E K) (argF 0 [.agg ⟨[.int .i64 g0_Nodes, .slice g0_Edgesp g0_Edgesn g0_Edgesc]⟩, .int .i64 left1]) H = compasslaw12_VouchFull.run_t (fun left1 g2 m7p m7n m7c n10 t77p t77n t77c t78 t79 H => G [0, 1, 0, 1, 1, 1, 1, 1, 1, 1] [(1, .int .i64 left1), (2, .pointer (some ⟨g2, 0, none⟩)), (7, .slice m7p m7n m7c), (10, .int .i64 n10), (77, .slice t77p t77n t77c), (78, .int .i64 t78), (79, .int .i64 t79)] H) g0_Nodes g0_Edgesp g0_Edgesn g0_Edgesc left1  E H K := fun G => by kernel_rfl
  have k2 : compasslaw12_VouchFull.run_t (fun left1 g2 m7p m7n m7c n10 t77p t77n t77c t78 t79 H => compasslaw12_VouchFull.l1 left1 g2 m7p m7n m7c n10 t77p t77n t77c t78 t79  E H K) g0_Nodes g0_Edgesp g0_Edgesn g0_Edgesc left1  E H K = compasslaw12_VouchFull.run_t (fun left1 g2 m7p m7n m7c n10 t77p t77n t77c t78 t79 H => (fun q F H => nodeM P0 T0 compasslaw12_VouchFull.A compasslaw12_VouchFull.code q.reverse [] (compasslaw12_VouchFull.rq E K) F H) [0, 1, 0, 1, 1, 1, 1, 1, 1, 1] [(1, .int .i64 left1), (2, .pointer (some ⟨g2, 0, none⟩)), (7, .slice m7p m7n m7c), (10, .int .i64 n10), (77, .slice t77p t77n t77c), (78, .int .i64 t78), (79, .int .i64 t79)] H) g0_Nodes g0_Edgesp g0_Edgesn g0_Edgesc left1  E H K := by kernel_rfl
  exact nodeR_imp compasslaw12_VouchFull.nok rfl ((k1 _).mpr (k2.mp h))
def compasslaw12_VouchFull.j1_t  (g2 : Nat) (m7p : Option Addr) (m7n : Nat) (m7c : Nat) (n10 : Int)  (E : Value → Hp → Prop) (H : Hp) (K : Bool → Hp → Prop) : Prop :=
  ldI .i64 (H.get g2 0) fun x_1 =>
  ldS (H.get g2 1) fun x_2p x_2n x_2c =>
  ldI .i64 (H.get g2 0) fun x_3 =>
  ldS (H.get g2 1) fun x_4p x_4n x_4c =>
  compassref12_Cover.call x_3 x_4p x_4n x_4c E H fun r_1p r_1n r_1c H_1 =>
  (ldI .i64 (H_1.get g2 0) fun x_5 =>
  ldS (H_1.get g2 1) fun x_6p x_6n x_6c =>
  Value.agg ⟨[.int .i64 x_5, .slice x_6p x_6n x_6c]⟩ = Value.agg ⟨[.int .i64 x_1, .slice x_2p x_2n x_2c]⟩) ∧
  vouch_Covered.call x_1 x_2p x_2n x_2c m7p m7n m7c r_1p r_1n r_1c E H_1 fun r_2 r_3 H_2 =>
  bcase (decide ((r_3 : Int) = 0)) (
  K (decide ((r_2 : Int) = n10)) H_2)
  (K false H_2)
theorem compasslaw12_VouchFull.j1_eq {g2 : Nat} {m7p : Option Addr} {m7n : Nat} {m7c : Nat} {n10 : Int} { E : Value → Hp → Prop} {H : Hp} {K : Bool → Hp → Prop} (h : compasslaw12_VouchFull.j1_t  g2 m7p m7n m7c n10  E H K) : compasslaw12_VouchFull.j1 g2 m7p m7n m7c n10  E H K := by
  have k1 : ∀ G : List Nat → Fr → Hp → Prop, nodeR P0 T0 compasslaw12_VouchFull.A [[0, 1, 0, 1, 1, 1, 1, 1, 1, 1], [1, 1, 1, 1, 1, 1, 1, 1]] G compasslaw12_VouchFull.code [1, 1, 1, 1, 1, 1, 1, 1] [] (compasslaw12_VouchFull.rq E K) [(2, .pointer (some ⟨g2, 0, none⟩)), (7, .slice m7p m7n m7c), (10, .int .i64 n10)] H = compasslaw12_VouchFull.j1_t  g2 m7p m7n m7c n10  E H K := fun G => by kernel_rfl
  exact nodeR_imp compasslaw12_VouchFull.nok rfl ((k1 _).mpr h)
def compasslaw12_VouchFull.b1_t (j1 : Nat → (Option Addr) → Nat → Nat → Int → Hp → Prop) (left1 : Int) (g2 : Nat) (m7p : Option Addr) (m7n : Nat) (m7c : Nat) (n10 : Int) (t77p : Option Addr) (t77n : Nat) (t77c : Nat) (t78 : Int) (t79 : Int) (X1 : Fr → Hp → Prop) (E : Value → Hp → Prop) (H : Hp) (K : Bool → Hp → Prop) : Prop :=
  bcase (decide ((t79 : Int) < t78)) (
  ix t77p t77n t79 4 fun b_1 o_1 =>
  ldI .i64 (H.get b_1 o_1) fun x_1 =>
  ldI .i64 (H.get b_1 (o_1 + 1)) fun x_2 =>
  ldI .i64 (H.get b_1 (o_1 + 2)) fun x_3 =>
  ldI .i64 (H.get b_1 (o_1 + 3)) fun x_4 =>
  nw H ⟨[.int .i64 0, .int .i64 0, .int .i64 0, .int .i64 0], 84⟩ fun b_2 H_1 =>
  stC H_1 b_2 0 [.int .i64 x_1, .int .i64 x_2, .int .i64 x_3, .int .i64 x_4] fun H_2 =>
  ldI .i64 (H_2.get b_2 0) fun x_5 =>
  ldI .i64 (H_2.get b_2 1) fun x_6 =>
  bcase (((decide ((x_5 : Int) < left1)) == (decide ((x_6 : Int) < left1)))) (
  K true H_2)
  (X1 (compasslaw12_VouchFull.f1 left1 g2 m7p m7n m7c n10 t77p t77n t77c t78 (IntKind.wrap .i64 (t79 + 1))) H_2))
  (j1 g2 m7p m7n m7c n10 H)
theorem compasslaw12_VouchFull.b1_eq {left1 : Int} {g2 : Nat} {m7p : Option Addr} {m7n : Nat} {m7c : Nat} {n10 : Int} {t77p : Option Addr} {t77n : Nat} {t77c : Nat} {t78 : Int} {t79 : Int} {X1 : Fr → Hp → Prop} { E : Value → Hp → Prop} {H : Hp} {K : Bool → Hp → Prop} (h : compasslaw12_VouchFull.b1_t (fun g2 m7p m7n m7c n10 H => compasslaw12_VouchFull.j1 g2 m7p m7n m7c n10  E H K) left1 g2 m7p m7n m7c n10 t77p t77n t77c t78 t79 X1 E H K) : compasslaw12_VouchFull.b1 left1 g2 m7p m7n m7c n10 t77p t77n t77c t78 t79 X1 E H K := by
  have k1 : ∀ G : List Nat → Fr → Hp → Prop, nodeR P0 T0 compasslaw12_VouchFull.A [[0, 1, 0, 1, 1, 1, 1, 1, 1, 1], [1, 1, 1, 1, 1, 1, 1, 1]] G compasslaw12_VouchFull.code [1, 1, 1, 1, 1, 1, 1, 0, 1, 0, 0] [X1] (compasslaw12_VouchFull.rq E K) (compasslaw12_VouchFull.f1 left1 g2 m7p m7n m7c n10 t77p t77n t77c t78 t79) H = compasslaw12_VouchFull.b1_t (fun g2 m7p m7n m7c n10 H => G [1, 1, 1, 1, 1, 1, 1, 1] [(2, .pointer (some ⟨g2, 0, none⟩)), (7, .slice m7p m7n m7c), (10, .int .i64 n10)] H) left1 g2 m7p m7n m7c n10 t77p t77n t77c t78 t79 X1 E H K := fun G => by kernel_rfl
  have k2 : compasslaw12_VouchFull.b1_t (fun g2 m7p m7n m7c n10 H => compasslaw12_VouchFull.j1 g2 m7p m7n m7c n10  E H K) left1 g2 m7p m7n m7c n10 t77p t77n t77c t78 t79 X1 E H K = compasslaw12_VouchFull.b1_t (fun g2 m7p m7n m7c n10 H => (fun q F H => nodeM P0 T0 compasslaw12_VouchFull.A compasslaw12_VouchFull.code q.reverse [X1] (compasslaw12_VouchFull.rq E K) F H) [1, 1, 1, 1, 1, 1, 1, 1] [(2, .pointer (some ⟨g2, 0, none⟩)), (7, .slice m7p m7n m7c), (10, .int .i64 n10)] H) left1 g2 m7p m7n m7c n10 t77p t77n t77c t78 t79 X1 E H K := by kernel_rfl
  exact nodeR_imp compasslaw12_VouchFull.nok rfl ((k1 _).mpr (k2.mp h))
/-! ### compass/compasslaw12.VouchGadgetFits (13) -/
/-! ### compass/compasslaw12.sorted (39) -/
noncomputable def compasslaw12_sorted.A : An := { live := [(0, [0]), (1, [0]), (2, [3]), (3, [3, 10, 11]), (4, [3, 10, 11]), (5, [3, 4, 10, 11]), (6, [3, 5, 10, 11]), (7, [3, 5, 10, 11]), (8, [3, 5, 10, 11]), (9, [3, 10, 11]), (10, [3])], ord := [(6, [0, 1, 2, 3, 4, 5, 6, 7, 8, 9, 10, 11, 12, 13]), (8, [0, 1, 2, 3, 4, 5, 6, 7, 8, 9, 10, 11, 12, 13, 14, 15, 16, 17])], stb := [], pre := [(6, [[], [0], [0, 1], [0, 1, 2], [0, 1, 2], [0, 1, 2, 3, 4], [0, 1, 2, 3, 4, 5], [0, 1, 2], [0, 1, 2], [0, 1, 2, 8], [0, 1, 2, 7, 8, 9], [0, 1, 2, 7, 8, 9, 10], [0, 1, 2, 3, 4, 5, 6, 7, 8, 9, 10, 11], [0, 1, 2, 3, 4, 5, 6, 7, 8, 9, 10, 11, 12]]), (8, [[], [], [], [], [3], [], [], [6], [5, 6, 7], [5, 6, 7, 8], [], [], [10, 11], [10, 11, 12], [0, 1, 5, 6, 7, 8, 9, 10, 11, 12, 13], [0, 1, 5, 6, 7, 8, 9, 10, 11, 12, 13, 14], [0, 1, 2, 3, 4, 5, 6, 7, 8, 9, 10, 11, 12, 13, 14, 15], [0, 1, 2, 3, 4, 5, 6, 7, 8, 9, 10, 11, 12, 13, 14, 15, 16]])] }
noncomputable def compasslaw12_sorted.code : Code := bodyOf Go.Proofs.Try.f39
theorem compasslaw12_sorted.ok : okCode compasslaw12_sorted.A 49 compasslaw12_sorted.code = true := by kernel_rfl
def compasslaw12_sorted.rq (E : Value → Hp → Prop) (K : (Option Addr) → Nat → Nat → Hp → Prop) : Ex → Fr → Hp → Prop := retQ T0 [.tmp 2] [25] (fun r H => ldR (.one false [.sl]) r fun u => K (asS1 u) (asS2 u) (asS3 u) H) E
def compasslaw12_sorted.run (list0p : Option Addr) (list0n : Nat) (list0c : Nat) (E : Value → Hp → Prop) (H : Hp) (K : (Option Addr) → Nat → Nat → Hp → Prop) : Prop := nodeM P0 T0 compasslaw12_sorted.A compasslaw12_sorted.code [] [] (compasslaw12_sorted.rq E K) (argF 0 [.slice list0p list0n list0c]) H
theorem compasslaw12_sorted.of {list0p : Option Addr} {list0n : Nat} {list0c : Nat} {E : Value → Hp → Prop} {H : Hp} {K : (Option Addr) → Nat → Nat → Hp → Prop} (h : compasslaw12_sorted.run list0p list0n list0c E H K) : compasslaw12_sorted.call list0p list0n list0c E H K :=
  callW_of T0_ok P0_mixed (A := compasslaw12_sorted.A) (fn := Go.Proofs.Try.f39) Go.Proofs.Try.func39 rfl compasslaw12_sorted.ok rfl h
noncomputable def compasslaw12_sorted.f1 (out3p : Option Addr) (out3n : Nat) (out3c : Nat) (t10 : Int) (t11 : Int) : Fr := [(3, .slice out3p out3n out3c), (10, .int .i64 t10), (11, .int .i64 t11)]
noncomputable def compasslaw12_sorted.f2 (out3p : Option Addr) (out3n : Nat) (out3c : Nat) (k5 : Int) (t10 : Int) (t11 : Int) : Fr := [(3, .slice out3p out3n out3c), (5, .int .i64 k5), (10, .int .i64 t10), (11, .int .i64 t11)]
def compasslaw12_sorted.j1 (out3p : Option Addr) (out3n : Nat) (out3c : Nat) (t10 : Int) (t11 : Int) (X1 : Fr → Hp → Prop) (E : Value → Hp → Prop) (H : Hp) (K : (Option Addr) → Nat → Nat → Hp → Prop) : Prop := nodeM P0 T0 compasslaw12_sorted.A compasslaw12_sorted.code [1, 1, 0, 1, 0, 0, 1, 1, 1] [X1] (compasslaw12_sorted.rq E K) [(3, .slice out3p out3n out3c), (10, .int .i64 t10), (11, .int .i64 t11)] H
def compasslaw12_sorted.l1 (out3p : Option Addr) (out3n : Nat) (out3c : Nat) (t10 : Int) (t11 : Int)  (E : Value → Hp → Prop) (H : Hp) (K : (Option Addr) → Nat → Nat → Hp → Prop) : Prop := nodeM P0 T0 compasslaw12_sorted.A compasslaw12_sorted.code [1, 1, 0, 1, 0] [] (compasslaw12_sorted.rq E K) (compasslaw12_sorted.f1 out3p out3n out3c t10 t11) H
def compasslaw12_sorted.b1 (out3p : Option Addr) (out3n : Nat) (out3c : Nat) (t10 : Int) (t11 : Int)  (X1 : Fr → Hp → Prop) (E : Value → Hp → Prop) (H : Hp) (K : (Option Addr) → Nat → Nat → Hp → Prop) : Prop := nodeM P0 T0 compasslaw12_sorted.A compasslaw12_sorted.code [1, 1, 0, 1, 0, 0] [X1] (compasslaw12_sorted.rq E K) (compasslaw12_sorted.f1 out3p out3n out3c t10 t11) H
theorem compasslaw12_sorted.l1_rule { E : Value → Hp → Prop} {K : (Option Addr) → Nat → Nat → Hp → Prop} (I : (Option Addr) → Nat → Nat → Int → Int → Hp → Prop) (μ : (Option Addr) → Nat → Nat → Int → Int → Hp → Nat)
    (h : ∀ out3p out3n out3c t10 t11 H, I out3p out3n out3c t10 t11 H → ∀ X : Fr → Hp → Prop, (∀ out3p' out3n' out3c' t10' t11' H', I out3p' out3n' out3c' t10' t11' H' → μ out3p' out3n' out3c' t10' t11' H' < μ out3p out3n out3c t10 t11 H → X (compasslaw12_sorted.f1 out3p' out3n' out3c' t10' t11') H') → compasslaw12_sorted.b1 out3p out3n out3c t10 t11  X E H K)
    {out3p : Option Addr} {out3n : Nat} {out3c : Nat} {t10 : Int} {t11 : Int} {H : Hp} (hI : I out3p out3n out3c t10 t11 H) : compasslaw12_sorted.l1 out3p out3n out3c t10 t11  E H K :=
  loop_rule (S := (Option Addr) × Nat × Nat × Int × Int) (fun s => compasslaw12_sorted.f1 (s.1) (s.2.1) (s.2.2.1) (s.2.2.2.1) (s.2.2.2.2)) (fun s H => I (s.1) (s.2.1) (s.2.2.1) (s.2.2.2.1) (s.2.2.2.2) H) (fun s H => μ (s.1) (s.2.1) (s.2.2.1) (s.2.2.2.1) (s.2.2.2.2) H) (fun s H hI X hX => h (s.1) (s.2.1) (s.2.2.1) (s.2.2.2.1) (s.2.2.2.2) H hI X fun out3p' out3n' out3c' t10' t11' H' hI' hlt => hX (out3p', out3n', out3c', t10', t11') H' hI' hlt) (s := (out3p, out3n, out3c, t10, t11)) rfl hI
def compasslaw12_sorted.l2 (out3p : Option Addr) (out3n : Nat) (out3c : Nat) (k5 : Int) (t10 : Int) (t11 : Int) (X1 : Fr → Hp → Prop) (E : Value → Hp → Prop) (H : Hp) (K : (Option Addr) → Nat → Nat → Hp → Prop) : Prop := nodeM P0 T0 compasslaw12_sorted.A compasslaw12_sorted.code [1, 1, 0, 1, 0, 0, 1, 1, 0, 0, 1, 1, 0] [X1] (compasslaw12_sorted.rq E K) (compasslaw12_sorted.f2 out3p out3n out3c k5 t10 t11) H
def compasslaw12_sorted.b2 (out3p : Option Addr) (out3n : Nat) (out3c : Nat) (k5 : Int) (t10 : Int) (t11 : Int) (X1 : Fr → Hp → Prop) (X2 : Fr → Hp → Prop) (E : Value → Hp → Prop) (H : Hp) (K : (Option Addr) → Nat → Nat → Hp → Prop) : Prop := nodeM P0 T0 compasslaw12_sorted.A compasslaw12_sorted.code [1, 1, 0, 1, 0, 0, 1, 1, 0, 0, 1, 1, 0, 0] [X1, X2] (compasslaw12_sorted.rq E K) (compasslaw12_sorted.f2 out3p out3n out3c k5 t10 t11) H
theorem compasslaw12_sorted.l2_rule {X1 : Fr → Hp → Prop} { E : Value → Hp → Prop} {K : (Option Addr) → Nat → Nat → Hp → Prop} (I : (Option Addr) → Nat → Nat → Int → Int → Int → Hp → Prop) (μ : (Option Addr) → Nat → Nat → Int → Int → Int → Hp → Nat)
    (h : ∀ out3p out3n out3c k5 t10 t11 H, I out3p out3n out3c k5 t10 t11 H → ∀ X : Fr → Hp → Prop, (∀ out3p' out3n' out3c' k5' t10' t11' H', I out3p' out3n' out3c' k5' t10' t11' H' → μ out3p' out3n' out3c' k5' t10' t11' H' < μ out3p out3n out3c k5 t10 t11 H → X (compasslaw12_sorted.f2 out3p' out3n' out3c' k5' t10' t11') H') → compasslaw12_sorted.b2 out3p out3n out3c k5 t10 t11 X1 X E H K)
    {out3p : Option Addr} {out3n : Nat} {out3c : Nat} {k5 : Int} {t10 : Int} {t11 : Int} {H : Hp} (hI : I out3p out3n out3c k5 t10 t11 H) : compasslaw12_sorted.l2 out3p out3n out3c k5 t10 t11 X1 E H K :=
  loop_rule (S := (Option Addr) × Nat × Nat × Int × Int × Int) (fun s => compasslaw12_sorted.f2 (s.1) (s.2.1) (s.2.2.1) (s.2.2.2.1) (s.2.2.2.2.1) (s.2.2.2.2.2)) (fun s H => I (s.1) (s.2.1) (s.2.2.1) (s.2.2.2.1) (s.2.2.2.2.1) (s.2.2.2.2.2) H) (fun s H => μ (s.1) (s.2.1) (s.2.2.1) (s.2.2.2.1) (s.2.2.2.2.1) (s.2.2.2.2.2) H) (fun s H hI X hX => h (s.1) (s.2.1) (s.2.2.1) (s.2.2.2.1) (s.2.2.2.2.1) (s.2.2.2.2.2) H hI X fun out3p' out3n' out3c' k5' t10' t11' H' hI' hlt => hX (out3p', out3n', out3c', k5', t10', t11') H' hI' hlt) (s := (out3p, out3n, out3c, k5, t10, t11)) rfl hI
theorem compasslaw12_sorted.nok : nodesOk compasslaw12_sorted.code [[0, 1, 0, 1, 1], [0, 1, 1, 0, 0, 1, 1, 0, 0, 1, 0, 1, 1], [1, 1, 1, 0, 0, 1, 0, 1, 1]] = true := by kernel_rfl
def compasslaw12_sorted.run_t (l1 : (Option Addr) → Nat → Nat → Int → Int → Hp → Prop) (list0p : Option Addr) (list0n : Nat) (list0c : Nat)  (E : Value → Hp → Prop) (H : Hp) (K : (Option Addr) → Nat → Nat → Hp → Prop) : Prop :=
  nw H ⟨[], 3⟩ fun b_1 H_1 =>
  appM 3 [.i .i64] 8 (some ⟨b_1, 0, none⟩) 0 0 list0p list0n H_1 fun a_1p a_1n a_1c H_2 =>
  l1 a_1p a_1n a_1c (a_1n : Int) 0 H_2
theorem compasslaw12_sorted.run_eq {list0p : Option Addr} {list0n : Nat} {list0c : Nat} { E : Value → Hp → Prop} {H : Hp} {K : (Option Addr) → Nat → Nat → Hp → Prop} (h : compasslaw12_sorted.run_t (fun out3p out3n out3c t10 t11 H => compasslaw12_sorted.l1 out3p out3n out3c t10 t11  E H K) list0p list0n list0c  E H K) : compasslaw12_sorted.run list0p list0n list0c  E H K := by
  have k1 : ∀ G : List Nat → Fr → Hp → Prop, nodeR P0 T0 compasslaw12_sorted.A [[0, 1, 0, 1, 1], [0, 1, 1, 0, 0, 1, 1, 0, 0, 1, 0, 1, 1], [1, 1, 1, 0, 0, 1, 0, 1, 1]] G compasslaw12_sorted.code [] [] (compasslaw12_sorted.rq E K) (argF 0 [.slice list0p list0n list0c]) H = compasslaw12_sorted.run_t (fun out3p out3n out3c t10 t11 H => G [0, 1, 0, 1, 1] [(3, .slice out3p out3n out3c), (10, .int .i64 t10), (11, .int .i64 t11)] H) list0p list0n list0c  E H K := fun G => by kernel_rfl
  have k2 : compasslaw12_sorted.run_t (fun out3p out3n out3c t10 t11 H => compasslaw12_sorted.l1 out3p out3n out3c t10 t11  E H K) list0p list0n list0c  E H K = compasslaw12_sorted.run_t (fun out3p out3n out3c t10 t11 H => (fun q F H => nodeM P0 T0 compasslaw12_sorted.A compasslaw12_sorted.code q.reverse [] (compasslaw12_sorted.rq E K) F H) [0, 1, 0, 1, 1] [(3, .slice out3p out3n out3c), (10, .int .i64 t10), (11, .int .i64 t11)] H) list0p list0n list0c  E H K := by kernel_rfl
  exact nodeR_imp compasslaw12_sorted.nok rfl ((k1 _).mpr (k2.mp h))
def compasslaw12_sorted.j1_t  (out3p : Option Addr) (out3n : Nat) (out3c : Nat) (t10 : Int) (t11 : Int) (X1 : Fr → Hp → Prop) (E : Value → Hp → Prop) (H : Hp) (K : (Option Addr) → Nat → Nat → Hp → Prop) : Prop :=
  X1 (compasslaw12_sorted.f1 out3p out3n out3c t10 (IntKind.wrap .i64 (t11 + 1))) H
theorem compasslaw12_sorted.j1_eq {out3p : Option Addr} {out3n : Nat} {out3c : Nat} {t10 : Int} {t11 : Int} {X1 : Fr → Hp → Prop} { E : Value → Hp → Prop} {H : Hp} {K : (Option Addr) → Nat → Nat → Hp → Prop} (h : compasslaw12_sorted.j1_t  out3p out3n out3c t10 t11 X1 E H K) : compasslaw12_sorted.j1 out3p out3n out3c t10 t11 X1 E H K := by
  have k1 : ∀ G : List Nat → Fr → Hp → Prop, nodeR P0 T0 compasslaw12_sorted.A [[0, 1, 0, 1, 1], [0, 1, 1, 0, 0, 1, 1, 0, 0, 1, 0, 1, 1], [1, 1, 1, 0, 0, 1, 0, 1, 1]] G compasslaw12_sorted.code [1, 1, 0, 1, 0, 0, 1, 1, 1] [X1] (compasslaw12_sorted.rq E K) [(3, .slice out3p out3n out3c), (10, .int .i64 t10), (11, .int .i64 t11)] H = compasslaw12_sorted.j1_t  out3p out3n out3c t10 t11 X1 E H K := fun G => by kernel_rfl
  exact nodeR_imp compasslaw12_sorted.nok rfl ((k1 _).mpr h)
def compasslaw12_sorted.b1_t (l2 : (Option Addr) → Nat → Nat → Int → Int → Int → Hp → Prop) (out3p : Option Addr) (out3n : Nat) (out3c : Nat) (t10 : Int) (t11 : Int) (X1 : Fr → Hp → Prop) (E : Value → Hp → Prop) (H : Hp) (K : (Option Addr) → Nat → Nat → Hp → Prop) : Prop :=
  bcase (decide ((t11 : Int) < t10)) (
  l2 out3p out3n out3c t11 t10 t11 H)
  (K out3p out3n out3c H)
theorem compasslaw12_sorted.b1_eq {out3p : Option Addr} {out3n : Nat} {out3c : Nat} {t10 : Int} {t11 : Int} {X1 : Fr → Hp → Prop} { E : Value → Hp → Prop} {H : Hp} {K : (Option Addr) → Nat → Nat → Hp → Prop} (h : compasslaw12_sorted.b1_t (fun out3p out3n out3c k5 t10 t11 H => compasslaw12_sorted.l2 out3p out3n out3c k5 t10 t11 X1 E H K) out3p out3n out3c t10 t11 X1 E H K) : compasslaw12_sorted.b1 out3p out3n out3c t10 t11 X1 E H K := by
  have k1 : ∀ G : List Nat → Fr → Hp → Prop, nodeR P0 T0 compasslaw12_sorted.A [[0, 1, 0, 1, 1], [0, 1, 1, 0, 0, 1, 1, 0, 0, 1, 0, 1, 1], [1, 1, 1, 0, 0, 1, 0, 1, 1]] G compasslaw12_sorted.code [1, 1, 0, 1, 0, 0] [X1] (compasslaw12_sorted.rq E K) (compasslaw12_sorted.f1 out3p out3n out3c t10 t11) H = compasslaw12_sorted.b1_t (fun out3p out3n out3c k5 t10 t11 H => G [0, 1, 1, 0, 0, 1, 1, 0, 0, 1, 0, 1, 1] [(3, .slice out3p out3n out3c), (5, .int .i64 k5), (10, .int .i64 t10), (11, .int .i64 t11)] H) out3p out3n out3c t10 t11 X1 E H K := fun G => by kernel_rfl
  have k2 : compasslaw12_sorted.b1_t (fun out3p out3n out3c k5 t10 t11 H => compasslaw12_sorted.l2 out3p out3n out3c k5 t10 t11 X1 E H K) out3p out3n out3c t10 t11 X1 E H K = compasslaw12_sorted.b1_t (fun out3p out3n out3c k5 t10 t11 H => (fun q F H => nodeM P0 T0 compasslaw12_sorted.A compasslaw12_sorted.code q.reverse [X1] (compasslaw12_sorted.rq E K) F H) [0, 1, 1, 0, 0, 1, 1, 0, 0, 1, 0, 1, 1] [(3, .slice out3p out3n out3c), (5, .int .i64 k5), (10, .int .i64 t10), (11, .int .i64 t11)] H) out3p out3n out3c t10 t11 X1 E H K := by kernel_rfl
  exact nodeR_imp compasslaw12_sorted.nok rfl ((k1 _).mpr (k2.mp h))
def compasslaw12_sorted.b2_t (j1 : (Option Addr) → Nat → Nat → Int → Int → Hp → Prop) (out3p : Option Addr) (out3n : Nat) (out3c : Nat) (k5 : Int) (t10 : Int) (t11 : Int) (X1 : Fr → Hp → Prop) (X2 : Fr → Hp → Prop) (E : Value → Hp → Prop) (H : Hp) (K : (Option Addr) → Nat → Nat → Hp → Prop) : Prop :=
  bcase (decide ((0 : Int) < k5)) (
  ix out3p out3n k5 1 fun b_1 o_1 =>
  ldI .i64 (H.get b_1 o_1) fun x_1 =>
  ix out3p out3n (IntKind.wrap .i64 (k5 - 1)) 1 fun b_2 o_2 =>
  ldI .i64 (H.get b_2 o_2) fun x_2 =>
  bcase (decide ((x_1 : Int) < x_2)) (
  ix out3p out3n (IntKind.wrap .i64 (k5 - 1)) 1 fun b_3 o_3 =>
  ldI .i64 (H.get b_3 o_3) fun x_3 =>
  ix out3p out3n k5 1 fun b_4 o_4 =>
  ldI .i64 (H.get b_4 o_4) fun x_4 =>
  ix out3p out3n k5 1 fun b_5 o_5 =>
  stC H b_5 o_5 [.int .i64 x_3] fun H_1 =>
  ix out3p out3n (IntKind.wrap .i64 (k5 - 1)) 1 fun b_6 o_6 =>
  stC H_1 b_6 o_6 [.int .i64 x_4] fun H_2 =>
  X2 (compasslaw12_sorted.f2 out3p out3n out3c (IntKind.wrap .i64 (k5 - 1)) t10 t11) H_2)
  (j1 out3p out3n out3c t10 t11 H))
  (j1 out3p out3n out3c t10 t11 H)
theorem compasslaw12_sorted.b2_eq {out3p : Option Addr} {out3n : Nat} {out3c : Nat} {k5 : Int} {t10 : Int} {t11 : Int} {X1 X2 : Fr → Hp → Prop} { E : Value → Hp → Prop} {H : Hp} {K : (Option Addr) → Nat → Nat → Hp → Prop} (h : compasslaw12_sorted.b2_t (fun out3p out3n out3c t10 t11 H => compasslaw12_sorted.j1 out3p out3n out3c t10 t11 X1 E H K) out3p out3n out3c k5 t10 t11 X1 X2 E H K) : compasslaw12_sorted.b2 out3p out3n out3c k5 t10 t11 X1 X2 E H K := by
  have k1 : ∀ G : List Nat → Fr → Hp → Prop, nodeR P0 T0 compasslaw12_sorted.A [[0, 1, 0, 1, 1], [0, 1, 1, 0, 0, 1, 1, 0, 0, 1, 0, 1, 1], [1, 1, 1, 0, 0, 1, 0, 1, 1]] G compasslaw12_sorted.code [1, 1, 0, 1, 0, 0, 1, 1, 0, 0, 1, 1, 0, 0] [X1, X2] (compasslaw12_sorted.rq E K) (compasslaw12_sorted.f2 out3p out3n out3c k5 t10 t11) H = compasslaw12_sorted.b2_t (fun out3p out3n out3c t10 t11 H => G [1, 1, 1, 0, 0, 1, 0, 1, 1] [(3, .slice out3p out3n out3c), (10, .int .i64 t10), (11, .int .i64 t11)] H) out3p out3n out3c k5 t10 t11 X1 X2 E H K := fun G => by kernel_rfl
  have k2 : compasslaw12_sorted.b2_t (fun out3p out3n out3c t10 t11 H => compasslaw12_sorted.j1 out3p out3n out3c t10 t11 X1 E H K) out3p out3n out3c k5 t10 t11 X1 X2 E H K = compasslaw12_sorted.b2_t (fun out3p out3n out3c t10 t11 H => (fun q F H => nodeM P0 T0 compasslaw12_sorted.A compasslaw12_sorted.code q.reverse [X1, X2] (compasslaw12_sorted.rq E K) F H) [1, 1, 1, 0, 0, 1, 0, 1, 1] [(3, .slice out3p out3n out3c), (10, .int .i64 t10), (11, .int .i64 t11)] H) out3p out3n out3c k5 t10 t11 X1 X2 E H K := by kernel_rfl
  exact nodeR_imp compasslaw12_sorted.nok rfl ((k1 _).mpr (k2.mp h))
end Go.Mz
