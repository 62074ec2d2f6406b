/-
  The shallow texts of functions (LSK), each with a kernel-checked equation to the translated code. It proves nothing of the program by itself.
-/
import Derived.Test.YthcehonpfnmpiaaGreatTab
set_option linter.unusedVariables false
set_option maxRecDepth 100000
namespace Go.Mz
/-! ### compass/compasslaw10.SpanKeeps (6) -/
noncomputable def compasslaw10_SpanKeeps.A : An := { live := [(0, [0, 1]), (1, [1, 2]), (2, []), (3, [1, 2]), (4, [1, 2, 5]), (5, [1, 2, 5]), (6, [1, 2, 5, 6]), (7, [1, 2, 5, 6, 9]), (8, [1, 2, 5, 6, 9]), (9, []), (10, [1, 2, 6, 9]), (11, [1, 2, 6, 9, 67, 68]), (12, [1, 2, 6, 9, 67, 68]), (13, [1, 2, 6, 9, 12, 67, 68]), (14, [1, 2, 6, 9, 67, 68]), (15, [1, 2, 9]), (16, [9, 13])], ord := [(4, [0, 1, 2, 3, 5, 6, 7, 4, 8, 9, 10]), (8, [0, 1, 2, 3, 4, 5, 6, 7, 8, 9, 10, 11, 12, 13, 14, 15, 16, 17, 18, 19])], stb := [(4, [(4, [6])])], pre := [(4, [[], [0], [], [2], [0, 1, 2, 3], [], [5], [5, 6], [0, 1, 2, 3, 4, 5, 6, 7], [0, 1, 2, 3, 4, 5, 6, 7, 8], [0, 1, 2, 3, 4, 5, 6, 7, 8, 9]]), (8, [[], [], [0, 1], [0, 1, 2], [0, 1, 2, 3], [0, 1, 2, 3, 4], [0, 1, 2, 3, 4, 5], [0, 1, 2, 3, 4], [0, 1, 2, 3, 4, 7], [0, 1, 2, 3, 4, 7, 8], [0, 1, 2, 3, 4, 7, 8, 9], [0, 1, 2, 3, 4, 5, 6, 7, 8, 9, 10], [0, 1, 2, 3, 4], [0, 1, 2, 3, 4, 12], [0, 1, 2, 3, 4, 12, 13], [0, 1, 2, 3, 4, 5, 6, 7, 8, 9, 10, 11, 12, 13, 14], [0, 1, 2, 3, 4, 5, 6, 7, 8, 9, 10, 11, 12, 13, 14, 15], [0, 1, 2, 3, 4, 5, 6, 7, 8, 9, 10, 11, 12, 13, 14, 15, 16], [0, 1, 2, 3, 4, 5, 6, 7, 8, 9, 10, 11, 12, 13, 14, 15, 16, 17], [0, 1, 2, 3, 4, 5, 6, 7, 8, 9, 10, 11, 12, 13, 14, 15, 16, 17, 18]])] }
noncomputable def compasslaw10_SpanKeeps.code : Code := bodyOf Go.Proofs.Tryz.f6
theorem compasslaw10_SpanKeeps.ok : okCode compasslaw10_SpanKeeps.A 85 compasslaw10_SpanKeeps.code = true := by kernel_rfl
def compasslaw10_SpanKeeps.rq (E : Value → Hp → Prop) (K : Bool → Hp → Prop) : Ex → Fr → Hp → Prop := retQ T0 [.tmp 4] [4] (fun r H => ldR (.one false [.bool]) r fun u => K (asB u) H) E
def compasslaw10_SpanKeeps.run (g0_Nodes : Int) (g0_Edgesp : Option Addr) (g0_Edgesn : Nat) (g0_Edgesc : Nat) (ki1 : Int) (E : Value → Hp → Prop) (H : Hp) (K : Bool → Hp → Prop) : Prop := nodeM P0 T0 compasslaw10_SpanKeeps.A compasslaw10_SpanKeeps.code [] [] (compasslaw10_SpanKeeps.rq E K) (argF 0 [.agg ⟨[.int .i64 g0_Nodes, .slice g0_Edgesp g0_Edgesn g0_Edgesc]⟩, .int .i64 ki1]) H
theorem compasslaw10_SpanKeeps.of {g0_Nodes : Int} {g0_Edgesp : Option Addr} {g0_Edgesn : Nat} {g0_Edgesc : Nat} {ki1 : Int} {E : Value → Hp → Prop} {H : Hp} {K : Bool → Hp → Prop} (h : compasslaw10_SpanKeeps.run g0_Nodes g0_Edgesp g0_Edgesn g0_Edgesc ki1 E H K) : compasslaw10_SpanKeeps.call g0_Nodes g0_Edgesp g0_Edgesn g0_Edgesc ki1 E H K :=
  callW_of T0_ok P0_mixed (A := compasslaw10_SpanKeeps.A) (fn := Go.Proofs.Tryz.f6) Go.Proofs.Tryz.func6 rfl compasslaw10_SpanKeeps.ok rfl h
noncomputable def compasslaw10_SpanKeeps.f1 (ki1 : Int) (g2 : Nat) (a6p : Option Addr) (a6n : Nat) (a6c : Nat) (bb9p : Option Addr) (bb9n : Nat) (bb9c : Nat) (t67 : Int) (t68 : Int) : Fr := [(1, .int .i64 ki1), (2, .pointer (some ⟨g2, 0, none⟩)), (6, .slice a6p a6n a6c), (9, .slice bb9p bb9n bb9c), (67, .int .i64 t67), (68, .int .i64 t68)]
def compasslaw10_SpanKeeps.j1 (ki1 : Int) (g2 : Nat) (bb9p : Option Addr) (bb9n : Nat) (bb9c : Nat)  (E : Value → Hp → Prop) (H : Hp) (K : Bool → Hp → Prop) : Prop := nodeM P0 T0 compasslaw10_SpanKeeps.A compasslaw10_SpanKeeps.code [1, 1, 1, 1, 1, 1, 1, 1, 1] [] (compasslaw10_SpanKeeps.rq E K) [(1, .int .i64 ki1), (2, .pointer (some ⟨g2, 0, none⟩)), (9, .slice bb9p bb9n bb9c)] H
def compasslaw10_SpanKeeps.l1 (ki1 : Int) (g2 : Nat) (a6p : Option Addr) (a6n : Nat) (a6c : Nat) (bb9p : Option Addr) (bb9n : Nat) (bb9c : Nat) (t67 : Int) (t68 : Int)  (E : Value → Hp → Prop) (H : Hp) (K : Bool → Hp → Prop) : Prop := nodeM P0 T0 compasslaw10_SpanKeeps.A compasslaw10_SpanKeeps.code [1, 1, 1, 1, 1, 1, 1, 1, 0, 1, 0] [] (compasslaw10_SpanKeeps.rq E K) (compasslaw10_SpanKeeps.f1 ki1 g2 a6p a6n a6c bb9p bb9n bb9c t67 t68) H
def compasslaw10_SpanKeeps.b1 (ki1 : Int) (g2 : Nat) (a6p : Option Addr) (a6n : Nat) (a6c : Nat) (bb9p : Option Addr) (bb9n : Nat) (bb9c : Nat) (t67 : Int) (t68 : Int)  (X1 : Fr → Hp → Prop) (E : Value → Hp → Prop) (H : Hp) (K : Bool → Hp → Prop) : Prop := nodeM P0 T0 compasslaw10_SpanKeeps.A compasslaw10_SpanKeeps.code [1, 1, 1, 1, 1, 1, 1, 1, 0, 1, 0, 0] [X1] (compasslaw10_SpanKeeps.rq E K) (compasslaw10_SpanKeeps.f1 ki1 g2 a6p a6n a6c bb9p bb9n bb9c t67 t68) H
theorem compasslaw10_SpanKeeps.l1_rule { E : Value → Hp → Prop} {K : Bool → Hp → Prop} (I : Int → Nat → (Option Addr) → Nat → Nat → (Option Addr) → Nat → Nat → Int → Int → Hp → Prop) (μ : Int → Nat → (Option Addr) → Nat → Nat → (Option Addr) → Nat → Nat → Int → Int → Hp → Nat)
    (h : ∀ ki1 g2 a6p a6n a6c bb9p bb9n bb9c t67 t68 H, I ki1 g2 a6p a6n a6c bb9p bb9n bb9c t67 t68 H → ∀ X : Fr → Hp → Prop, (∀ ki1' g2' a6p' a6n' a6c' bb9p' bb9n' bb9c' t67' t68' H', I ki1' g2' a6p' a6n' a6c' bb9p' bb9n' bb9c' t67' t68' H' → μ ki1' g2' a6p' a6n' a6c' bb9p' bb9n' bb9c' t67' t68' H' < μ ki1 g2 a6p a6n a6c bb9p bb9n bb9c t67 t68 H → X (compasslaw10_SpanKeeps.f1 ki1' g2' a6p' a6n' a6c' bb9p' bb9n' bb9c' t67' t68') H') → compasslaw10_SpanKeeps.b1 ki1 g2 a6p a6n a6c bb9p bb9n bb9c t67 t68  X E H K)
    {ki1 : Int} {g2 : Nat} {a6p : Option Addr} {a6n : Nat} {a6c : Nat} {bb9p : Option Addr} {bb9n : Nat} {bb9c : Nat} {t67 : Int} {t68 : Int} {H : Hp} (hI : I ki1 g2 a6p a6n a6c bb9p bb9n bb9c t67 t68 H) : compasslaw10_SpanKeeps.l1 ki1 g2 a6p a6n a6c bb9p bb9n bb9c t67 t68  E H K :=
  loop_rule (S := Int × Nat × (Option Addr) × Nat × Nat × (Option Addr) × Nat × Nat × Int × Int) (fun s => compasslaw10_SpanKeeps.f1 (s.1) (s.2.1) (s.2.2.1) (s.2.2.2.1) (s.2.2.2.2.1) (s.2.2.2.2.2.1) (s.2.2.2.2.2.2.1) (s.2.2.2.2.2.2.2.1) (s.2.2.2.2.2.2.2.2.1) (s.2.2.2.2.2.2.2.2.2)) (fun s H => I (s.1) (s.2.1) (s.2.2.1) (s.2.2.2.1) (s.2.2.2.2.1) (s.2.2.2.2.2.1) (s.2.2.2.2.2.2.1) (s.2.2.2.2.2.2.2.1) (s.2.2.2.2.2.2.2.2.1) (s.2.2.2.2.2.2.2.2.2) H) (fun s H => μ (s.1) (s.2.1) (s.2.2.1) (s.2.2.2.1) (s.2.2.2.2.1) (s.2.2.2.2.2.1) (s.2.2.2.2.2.2.1) (s.2.2.2.2.2.2.2.1) (s.2.2.2.2.2.2.2.2.1) (s.2.2.2.2.2.2.2.2.2) H) (fun s H hI X hX => h (s.1) (s.2.1) (s.2.2.1) (s.2.2.2.1) (s.2.2.2.2.1) (s.2.2.2.2.2.1) (s.2.2.2.2.2.2.1) (s.2.2.2.2.2.2.2.1) (s.2.2.2.2.2.2.2.2.1) (s.2.2.2.2.2.2.2.2.2) H hI X fun ki1' g2' a6p' a6n' a6c' bb9p' bb9n' bb9c' t67' t68' H' hI' hlt => hX (ki1', g2', a6p', a6n', a6c', bb9p', bb9n', bb9c', t67', t68') H' hI' hlt) (s := (ki1, g2, a6p, a6n, a6c, bb9p, bb9n, bb9c, t67, t68)) rfl hI
theorem compasslaw10_SpanKeeps.nok : nodesOk compasslaw10_SpanKeeps.code [[0, 1, 0, 1, 1, 1, 1, 1, 1, 1, 1], [1, 1, 1, 1, 1, 1, 1, 1, 1]] = true := by kernel_rfl
def compasslaw10_SpanKeeps.run_t (l1 : Int → Nat → (Option Addr) → Nat → Nat → (Option Addr) → Nat → Nat → Int → Int → Hp → Prop) (g0_Nodes : Int) (g0_Edgesp : Option Addr) (g0_Edgesn : Nat) (g0_Edgesc : Nat) (ki1 : Int)  (E : Value → Hp → Prop) (H : Hp) (K : Bool → Hp → Prop) : Prop :=
  nw H ⟨[.int .i64 g0_Nodes, .slice g0_Edgesp g0_Edgesn g0_Edgesc], 24⟩ fun b_1 H_1 =>
  compasslaw10_awake.call  E H_1 fun r_1 H_2 =>
  bcase ((!r_1)) (
  K false H_2)
  (ldI .i64 (H_2.get b_1 0) fun x_1 =>
  ldS (H_2.get b_1 1) fun x_2p x_2n x_2c =>
  compassref03_Copy.call x_1 x_2p x_2n x_2c E H_2 fun r_2_Nodes r_2_Edgesp r_2_Edgesn r_2_Edgesc H_3 =>
  nw H_3 ⟨[.int .i64 0, .slice none 0 0], 24⟩ fun b_2 H_4 =>
  stC H_4 b_2 0 [.int .i64 r_2_Nodes, .slice r_2_Edgesp r_2_Edgesn r_2_Edgesc] fun H_5 =>
  ldS (H_5.get b_2 1) fun x_3p x_3n x_3c =>
  nw H_5 ⟨[.int .i64 0, .int .i64 0, .int .i64 (-7), .int .i64 0], 44⟩ fun b_3 H_6 =>
  ldS (H_6.get b_1 1) fun x_4p x_4n x_4c =>
  appM 44 [.i .i64, .i .i64, .i .i64, .i .i64] 32 x_3p x_3n x_3c (some ⟨b_3, 0, none⟩) 1 H_6 fun a_1p a_1n a_1c H_7 =>
  (ldS (H_7.get b_1 1) fun x_19p x_19n x_19c =>
  Value.slice x_19p x_19n x_19c = Value.slice x_4p x_4n x_4c) ∧
  ((0 : Int) ≤ (x_4n : Int) ∧ (x_4n : Int) ≤ (a_1c : Int)) ∧
  stC H_7 b_2 1 [.slice (slp a_1p 0 a_1c 4) ((x_4n : Int).toNat) a_1c] fun H_8 =>
  ldI .i64 (H_8.get b_2 0) fun x_5 =>
  ldS (H_8.get b_2 1) fun x_6p x_6n x_6c =>
  span_Forest.call x_5 x_6p x_6n x_6c ki1 E H_8 fun r_3p r_3n r_3c r_4 r_5 H_9 =>
  ldI .i64 (H_9.get b_2 0) fun x_7 =>
  ldS (H_9.get b_2 1) fun x_8p x_8n x_8c =>
  span_Forest.call x_7 x_8p x_8n x_8c ki1 E H_9 fun r_6p r_6n r_6c r_7 r_8 H_10 =>
  ldI .i64 (H_10.get b_2 0) fun x_9 =>
  ldS (H_10.get b_2 1) fun x_10p x_10n x_10c =>
  span_Neck.call x_9 x_10p x_10n x_10c 0 1 E H_10 fun r_9 r_10 H_11 =>
  ldI .i64 (H_11.get b_2 0) fun x_11 =>
  ldS (H_11.get b_2 1) fun x_12p x_12n x_12c =>
  ldI .i64 (H_11.get b_1 0) fun x_13 =>
  ldS (H_11.get b_1 1) fun x_14p x_14n x_14c =>
  compassref03_Same.call x_11 x_12p x_12n x_12c x_13 x_14p x_14n x_14c E H_11 fun r_11 H_12 =>
  bcase ((!r_11)) (
  K false H_12)
  (ldS (H_12.get b_2 1) fun x_15p x_15n x_15c =>
  ldS (H_12.get b_1 1) fun x_16p x_16n x_16c =>
  ((0 : Int) ≤ (IntKind.wrap .i64 ((x_16n : Int) + 1)) ∧ (IntKind.wrap .i64 ((x_16n : Int) + 1)) ≤ (x_15c : Int)) ∧
  ldS (H_12.get b_1 1) fun x_17p x_17n x_17c =>
  ix (slp x_15p 0 x_15c 4) ((IntKind.wrap .i64 ((x_16n : Int) + 1)).toNat) (x_17n : Int) 4 fun b_4 o_1 =>
  ldI .i64 (H_12.get b_4 (o_1 + 2)) fun x_18 =>
  bcase (!decide ((x_18 : Int) = (-7))) (
  K false H_12)
  (l1 ki1 b_1 r_3p r_3n r_3c r_6p r_6n r_6c (r_3n : Int) 0 H_12)))
theorem compasslaw10_SpanKeeps.run_eq {g0_Nodes : Int} {g0_Edgesp : Option Addr} {g0_Edgesn : Nat} {g0_Edgesc : Nat} {ki1 : Int} { E : Value → Hp → Prop} {H : Hp} {K : Bool → Hp → Prop} (h : compasslaw10_SpanKeeps.run_t (fun ki1 g2 a6p a6n a6c bb9p bb9n bb9c t67 t68 H => compasslaw10_SpanKeeps.l1 ki1 g2 a6p a6n a6c bb9p bb9n bb9c t67 t68  E H K) g0_Nodes g0_Edgesp g0_Edgesn g0_Edgesc ki1  E H K) : compasslaw10_SpanKeeps.run g0_Nodes g0_Edgesp g0_Edgesn g0_Edgesc ki1  E H K := by
  exact nodeR_imp2 (fun G => compasslaw10_SpanKeeps.run_t (fun ki1 g2 a6p a6n a6c bb9p bb9n bb9c t67 t68 H => G [0, 1, 0, 1, 1, 1, 1, 1, 1, 1, 1] [(1, .int .i64 ki1), (2, .pointer (some ⟨g2, 0, none⟩)), (6, .slice a6p a6n a6c), (9, .slice bb9p bb9n bb9c), (67, .int .i64 t67), (68, .int .i64 t68)] H) g0_Nodes g0_Edgesp g0_Edgesn g0_Edgesc ki1  E H K) compasslaw10_SpanKeeps.nok rfl (fun G => by kernel_rfl) (Eq.mp (by kernel_rfl) h)
def compasslaw10_SpanKeeps.j1_t  (ki1 : Int) (g2 : Nat) (bb9p : Option Addr) (bb9n : Nat) (bb9c : Nat)  (E : Value → Hp → Prop) (H : Hp) (K : Bool → Hp → Prop) : Prop :=
  ldI .i64 (H.get g2 0) fun x_1 =>
  ldS (H.get g2 1) fun x_2p x_2n x_2c =>
  compassref10_Forest.call x_1 x_2p x_2n x_2c ki1 E H fun r_1p r_1n r_1c r_2 r_3 H_1 =>
  compasslaw10_ints.call bb9p bb9n bb9c r_1p r_1n r_1c E H_1 fun r_4 H_2 =>
  K r_4 H_2
theorem compasslaw10_SpanKeeps.j1_eq {ki1 : Int} {g2 : Nat} {bb9p : Option Addr} {bb9n : Nat} {bb9c : Nat} { E : Value → Hp → Prop} {H : Hp} {K : Bool → Hp → Prop} (h : compasslaw10_SpanKeeps.j1_t  ki1 g2 bb9p bb9n bb9c  E H K) : compasslaw10_SpanKeeps.j1 ki1 g2 bb9p bb9n bb9c  E H K := by
  exact nodeR_imp2 (fun _ => compasslaw10_SpanKeeps.j1_t  ki1 g2 bb9p bb9n bb9c  E H K) compasslaw10_SpanKeeps.nok rfl (fun G => by kernel_rfl) h
def compasslaw10_SpanKeeps.b1_t (j1 : Int → Nat → (Option Addr) → Nat → Nat → Hp → Prop) (ki1 : Int) (g2 : Nat) (a6p : Option Addr) (a6n : Nat) (a6c : Nat) (bb9p : Option Addr) (bb9n : Nat) (bb9c : Nat) (t67 : Int) (t68 : Int) (X1 : Fr → Hp → Prop) (E : Value → Hp → Prop) (H : Hp) (K : Bool → Hp → Prop) : Prop :=
  bcase (decide ((t68 : Int) < t67)) (
  ix a6p a6n t68 1 fun b_1 o_1 =>
  stC H b_1 o_1 [.int .i64 (-9)] fun H_1 =>
  X1 (compasslaw10_SpanKeeps.f1 ki1 g2 a6p a6n a6c bb9p bb9n bb9c t67 (IntKind.wrap .i64 (t68 + 1))) H_1)
  (j1 ki1 g2 bb9p bb9n bb9c H)
theorem compasslaw10_SpanKeeps.b1_eq {ki1 : Int} {g2 : Nat} {a6p : Option Addr} {a6n : Nat} {a6c : Nat} {bb9p : Option Addr} {bb9n : Nat} {bb9c : Nat} {t67 : Int} {t68 : Int} {X1 : Fr → Hp → Prop} { E : Value → Hp → Prop} {H : Hp} {K : Bool → Hp → Prop} (h : compasslaw10_SpanKeeps.b1_t (fun ki1 g2 bb9p bb9n bb9c H => compasslaw10_SpanKeeps.j1 ki1 g2 bb9p bb9n bb9c  E H K) ki1 g2 a6p a6n a6c bb9p bb9n bb9c t67 t68 X1 E H K) : compasslaw10_SpanKeeps.b1 ki1 g2 a6p a6n a6c bb9p bb9n bb9c t67 t68 X1 E H K := by
  exact nodeR_imp2 (fun G => compasslaw10_SpanKeeps.b1_t (fun ki1 g2 bb9p bb9n bb9c H => G [1, 1, 1, 1, 1, 1, 1, 1, 1] [(1, .int .i64 ki1), (2, .pointer (some ⟨g2, 0, none⟩)), (9, .slice bb9p bb9n bb9c)] H) ki1 g2 a6p a6n a6c bb9p bb9n bb9c t67 t68 X1 E H K) compasslaw10_SpanKeeps.nok rfl (fun G => by kernel_rfl) (Eq.mp (by kernel_rfl) h)
end Go.Mz
