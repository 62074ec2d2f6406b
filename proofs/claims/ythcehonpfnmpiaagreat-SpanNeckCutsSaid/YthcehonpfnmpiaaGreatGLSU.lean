/-
  The shallow texts of functions (LSU), each with a kernel-checked equation to the translated code. It proves nothing of the program by itself.
-/
import Derived.Test.YthcehonpfnmpiaaGreatTab
set_option linter.unusedVariables false
set_option maxRecDepth 100000
namespace Go.Mz
/-! ### compass/compasslaw10.SpanNeckCuts (5) -/
noncomputable def compasslaw10_SpanNeckCuts.A : An := { live := [(0, [0, 1, 2]), (1, [1, 2, 3]), (2, []), (3, [1, 2, 3]), (4, [1, 2, 3, 7, 8]), (5, [7]), (6, [1, 2, 3, 7]), (7, []), (8, [1, 2, 3, 7]), (9, [1, 2, 3, 7, 9]), (10, [1, 2, 3, 7, 9, 11]), (11, [1, 2, 7, 9, 11, 13]), (12, [1, 2, 7, 9, 11, 60, 61, 62]), (13, [1, 2, 7, 9, 11, 60, 61, 62]), (14, [1, 2, 7, 9, 11, 17, 60, 61, 62]), (15, [1, 2, 9, 11]), (16, [1, 2, 7, 9, 11, 60, 61, 62]), (17, [])], ord := [(15, [0, 1, 2, 3, 4, 5, 6, 7, 8, 9, 10, 11, 12, 13, 14, 15, 16, 17, 18, 19, 20])], stb := [], pre := [(15, [[], [], [0, 1], [0, 1, 2], [], [], [4, 5], [4, 5, 6], [0, 1, 2, 3, 4, 5, 6, 7], [0, 1, 2, 3, 4, 5, 6, 7, 8], [0, 1, 2, 3, 4, 5, 6, 7, 8, 9], [0, 1, 2, 3, 4, 5, 6, 7, 8, 9], [0, 1, 2, 3, 4, 5, 6, 7, 8, 9, 10, 11], [0, 1, 2, 3, 4, 5, 6, 7, 8, 9, 10, 11, 12], [0, 1, 2, 3, 4, 5, 6, 7, 8, 9], [0, 1, 2, 3, 4, 5, 6, 7, 8, 9], [0, 1, 2, 3, 4, 5, 6, 7, 8, 9, 14, 15], [0, 1, 2, 3, 4, 5, 6, 7, 8, 9, 14, 15, 16], [0, 1, 2, 3, 4, 5, 6, 7, 8, 9, 10, 11, 12, 13, 14, 15, 16, 17], [0, 1, 2, 3, 4, 5, 6, 7, 8, 9, 10, 11, 12, 13, 14, 15, 16, 17, 18], [0, 1, 2, 3, 4, 5, 6, 7, 8, 9, 10, 11, 12, 13, 14, 15, 16, 17, 18, 19]])] }
noncomputable def compasslaw10_SpanNeckCuts.code : Code := bodyOf Go.Proofs.Tryz.f5
theorem compasslaw10_SpanNeckCuts.ok : okCode compasslaw10_SpanNeckCuts.A 90 compasslaw10_SpanNeckCuts.code = true := by kernel_rfl
def compasslaw10_SpanNeckCuts.rq (E : Value → Hp → Prop) (K : Bool → Hp → Prop) : Ex → Fr → Hp → Prop := retQ T0 [.tmp 6] [4] (fun r H => ldR (.one false [.bool]) r fun u => K (asB u) H) E
def compasslaw10_SpanNeckCuts.run (g0_Nodes : Int) (g0_Edgesp : Option Addr) (g0_Edgesn : Nat) (g0_Edgesc : Nat) (u1 : Int) (v2 : Int) (E : Value → Hp → Prop) (H : Hp) (K : Bool → Hp → Prop) : Prop := nodeM P0 T0 compasslaw10_SpanNeckCuts.A compasslaw10_SpanNeckCuts.code [] [] (compasslaw10_SpanNeckCuts.rq E K) (argF 0 [.agg ⟨[.int .i64 g0_Nodes, .slice g0_Edgesp g0_Edgesn g0_Edgesc]⟩, .int .i64 u1, .int .i64 v2]) H
theorem compasslaw10_SpanNeckCuts.of {g0_Nodes : Int} {g0_Edgesp : Option Addr} {g0_Edgesn : Nat} {g0_Edgesc : Nat} {u1 : Int} {v2 : Int} {E : Value → Hp → Prop} {H : Hp} {K : Bool → Hp → Prop} (h : compasslaw10_SpanNeckCuts.run g0_Nodes g0_Edgesp g0_Edgesn g0_Edgesc u1 v2 E H K) : compasslaw10_SpanNeckCuts.call g0_Nodes g0_Edgesp g0_Edgesn g0_Edgesc u1 v2 E H K :=
  callW_of T0_ok P0_mixed (A := compasslaw10_SpanNeckCuts.A) (fn := Go.Proofs.Tryz.f5) Go.Proofs.Tryz.func5 rfl compasslaw10_SpanNeckCuts.ok rfl h
noncomputable def compasslaw10_SpanNeckCuts.f1 (u1 : Int) (v2 : Int) (k7 : Int) (wi9p : Option Addr) (wi9n : Nat) (wi9c : Nat) (wi11p : Option Addr) (wi11n : Nat) (wi11c : Nat) (t60p : Option Addr) (t60n : Nat) (t60c : Nat) (t61 : Int) (t62 : Int) : Fr := [(1, .int .i64 u1), (2, .int .i64 v2), (7, .int .i64 k7), (9, .slice wi9p wi9n wi9c), (11, .slice wi11p wi11n wi11c), (60, .slice t60p t60n t60c), (61, .int .i64 t61), (62, .int .i64 t62)]
def compasslaw10_SpanNeckCuts.l1 (u1 : Int) (v2 : Int) (k7 : Int) (wi9p : Option Addr) (wi9n : Nat) (wi9c : Nat) (wi11p : Option Addr) (wi11n : Nat) (wi11c : Nat) (t60p : Option Addr) (t60n : Nat) (t60c : Nat) (t61 : Int) (t62 : Int)  (E : Value → Hp → Prop) (H : Hp) (K : Bool → Hp → Prop) : Prop := nodeM P0 T0 compasslaw10_SpanNeckCuts.A compasslaw10_SpanNeckCuts.code [1, 1, 1, 1, 1, 1, 1, 1, 0, 1, 0] [] (compasslaw10_SpanNeckCuts.rq E K) (compasslaw10_SpanNeckCuts.f1 u1 v2 k7 wi9p wi9n wi9c wi11p wi11n wi11c t60p t60n t60c t61 t62) H
def compasslaw10_SpanNeckCuts.b1 (u1 : Int) (v2 : Int) (k7 : Int) (wi9p : Option Addr) (wi9n : Nat) (wi9c : Nat) (wi11p : Option Addr) (wi11n : Nat) (wi11c : Nat) (t60p : Option Addr) (t60n : Nat) (t60c : Nat) (t61 : Int) (t62 : Int)  (X1 : Fr → Hp → Prop) (E : Value → Hp → Prop) (H : Hp) (K : Bool → Hp → Prop) : Prop := nodeM P0 T0 compasslaw10_SpanNeckCuts.A compasslaw10_SpanNeckCuts.code [1, 1, 1, 1, 1, 1, 1, 1, 0, 1, 0, 0] [X1] (compasslaw10_SpanNeckCuts.rq E K) (compasslaw10_SpanNeckCuts.f1 u1 v2 k7 wi9p wi9n wi9c wi11p wi11n wi11c t60p t60n t60c t61 t62) H
theorem compasslaw10_SpanNeckCuts.l1_rule { E : Value → Hp → Prop} {K : Bool → Hp → Prop} (I : Int → Int → Int → (Option Addr) → Nat → Nat → (Option Addr) → Nat → Nat → (Option Addr) → Nat → Nat → Int → Int → Hp → Prop) (μ : Int → Int → Int → (Option Addr) → Nat → Nat → (Option Addr) → Nat → Nat → (Option Addr) → Nat → Nat → Int → Int → Hp → Nat)
    (h : ∀ u1 v2 k7 wi9p wi9n wi9c wi11p wi11n wi11c t60p t60n t60c t61 t62 H, I u1 v2 k7 wi9p wi9n wi9c wi11p wi11n wi11c t60p t60n t60c t61 t62 H → ∀ X : Fr → Hp → Prop, (∀ u1' v2' k7' wi9p' wi9n' wi9c' wi11p' wi11n' wi11c' t60p' t60n' t60c' t61' t62' H', I u1' v2' k7' wi9p' wi9n' wi9c' wi11p' wi11n' wi11c' t60p' t60n' t60c' t61' t62' H' → μ u1' v2' k7' wi9p' wi9n' wi9c' wi11p' wi11n' wi11c' t60p' t60n' t60c' t61' t62' H' < μ u1 v2 k7 wi9p wi9n wi9c wi11p wi11n wi11c t60p t60n t60c t61 t62 H → X (compasslaw10_SpanNeckCuts.f1 u1' v2' k7' wi9p' wi9n' wi9c' wi11p' wi11n' wi11c' t60p' t60n' t60c' t61' t62') H') → compasslaw10_SpanNeckCuts.b1 u1 v2 k7 wi9p wi9n wi9c wi11p wi11n wi11c t60p t60n t60c t61 t62  X E H K)
    {u1 : Int} {v2 : Int} {k7 : Int} {wi9p : Option Addr} {wi9n : Nat} {wi9c : Nat} {wi11p : Option Addr} {wi11n : Nat} {wi11c : Nat} {t60p : Option Addr} {t60n : Nat} {t60c : Nat} {t61 : Int} {t62 : Int} {H : Hp} (hI : I u1 v2 k7 wi9p wi9n wi9c wi11p wi11n wi11c t60p t60n t60c t61 t62 H) : compasslaw10_SpanNeckCuts.l1 u1 v2 k7 wi9p wi9n wi9c wi11p wi11n wi11c t60p t60n t60c t61 t62  E H K :=
  loop_rule (S := Int × Int × Int × (Option Addr) × Nat × Nat × (Option Addr) × Nat × Nat × (Option Addr) × Nat × Nat × Int × Int) (fun s => compasslaw10_SpanNeckCuts.f1 (s.1) (s.2.1) (s.2.2.1) (s.2.2.2.1) (s.2.2.2.2.1) (s.2.2.2.2.2.1) (s.2.2.2.2.2.2.1) (s.2.2.2.2.2.2.2.1) (s.2.2.2.2.2.2.2.2.1) (s.2.2.2.2.2.2.2.2.2.1) (s.2.2.2.2.2.2.2.2.2.2.1) (s.2.2.2.2.2.2.2.2.2.2.2.1) (s.2.2.2.2.2.2.2.2.2.2.2.2.1) (s.2.2.2.2.2.2.2.2.2.2.2.2.2)) (fun s H => I (s.1) (s.2.1) (s.2.2.1) (s.2.2.2.1) (s.2.2.2.2.1) (s.2.2.2.2.2.1) (s.2.2.2.2.2.2.1) (s.2.2.2.2.2.2.2.1) (s.2.2.2.2.2.2.2.2.1) (s.2.2.2.2.2.2.2.2.2.1) (s.2.2.2.2.2.2.2.2.2.2.1) (s.2.2.2.2.2.2.2.2.2.2.2.1) (s.2.2.2.2.2.2.2.2.2.2.2.2.1) (s.2.2.2.2.2.2.2.2.2.2.2.2.2) H) (fun s H => μ (s.1) (s.2.1) (s.2.2.1) (s.2.2.2.1) (s.2.2.2.2.1) (s.2.2.2.2.2.1) (s.2.2.2.2.2.2.1) (s.2.2.2.2.2.2.2.1) (s.2.2.2.2.2.2.2.2.1) (s.2.2.2.2.2.2.2.2.2.1) (s.2.2.2.2.2.2.2.2.2.2.1) (s.2.2.2.2.2.2.2.2.2.2.2.1) (s.2.2.2.2.2.2.2.2.2.2.2.2.1) (s.2.2.2.2.2.2.2.2.2.2.2.2.2) H) (fun s H hI X hX => h (s.1) (s.2.1) (s.2.2.1) (s.2.2.2.1) (s.2.2.2.2.1) (s.2.2.2.2.2.1) (s.2.2.2.2.2.2.1) (s.2.2.2.2.2.2.2.1) (s.2.2.2.2.2.2.2.2.1) (s.2.2.2.2.2.2.2.2.2.1) (s.2.2.2.2.2.2.2.2.2.2.1) (s.2.2.2.2.2.2.2.2.2.2.2.1) (s.2.2.2.2.2.2.2.2.2.2.2.2.1) (s.2.2.2.2.2.2.2.2.2.2.2.2.2) H hI X fun u1' v2' k7' wi9p' wi9n' wi9c' wi11p' wi11n' wi11c' t60p' t60n' t60c' t61' t62' H' hI' hlt => hX (u1', v2', k7', wi9p', wi9n', wi9c', wi11p', wi11n', wi11c', t60p', t60n', t60c', t61', t62') H' hI' hlt) (s := (u1, v2, k7, wi9p, wi9n, wi9c, wi11p, wi11n, wi11c, t60p, t60n, t60c, t61, t62)) rfl hI
theorem compasslaw10_SpanNeckCuts.nok : nodesOk compasslaw10_SpanNeckCuts.code [[0, 1, 0, 1, 1, 1, 1, 1, 1, 1, 1]] = true := by kernel_rfl
def compasslaw10_SpanNeckCuts.run_t (l1 : Int → Int → Int → (Option Addr) → Nat → Nat → (Option Addr) → Nat → Nat → (Option Addr) → Nat → Nat → Int → Int → Hp → Prop) (g0_Nodes : Int) (g0_Edgesp : Option Addr) (g0_Edgesn : Nat) (g0_Edgesc : Nat) (u1 : Int) (v2 : Int)  (E : Value → Hp → Prop) (H : Hp) (K : Bool → Hp → Prop) : Prop :=
  nw H ⟨[.int .i64 g0_Nodes, .slice g0_Edgesp g0_Edgesn g0_Edgesc], 24⟩ fun b_1 H_1 =>
  compasslaw10_awake.call  E H_1 fun r_1 H_2 =>
  bcase ((!r_1)) (
  K false H_2)
  (ldI .i64 (H_2.get b_1 0) fun x_1 =>
  ldS (H_2.get b_1 1) fun x_2p x_2n x_2c =>
  span_Neck.call x_1 x_2p x_2n x_2c u1 v2 E H_2 fun r_2 r_3 H_3 =>
  bcase (!decide ((r_3 : Int) = 0)) (
  K (decide ((r_2 : Int) = 0)) H_3)
  (bcase (decide ((r_2 : Int) < 0)) (
  K false H_3)
  (ldS (H_3.get b_1 1) fun x_3p x_3n x_3c =>
  bcase (decide (((x_3n : Int) : Int) ≤ r_2)) (
  K false H_3)
  (ldI .i64 (H_3.get b_1 0) fun x_4 =>
  ldS (H_3.get b_1 1) fun x_5p x_5n x_5c =>
  compassref10_Upto.call x_4 x_5p x_5n x_5c r_2 false E H_3 fun r_4_Nodes r_4_Edgesp r_4_Edgesn r_4_Edgesc H_4 =>
  compassref04_Parts.call r_4_Nodes r_4_Edgesp r_4_Edgesn r_4_Edgesc E H_4 fun r_5p r_5n r_5c r_6 H_5 =>
  ldI .i64 (H_5.get b_1 0) fun x_6 =>
  ldS (H_5.get b_1 1) fun x_7p x_7n x_7c =>
  compassref10_Upto.call x_6 x_7p x_7n x_7c r_2 true E H_5 fun r_7_Nodes r_7_Edgesp r_7_Edgesn r_7_Edgesc H_6 =>
  compassref04_Parts.call r_7_Nodes r_7_Edgesp r_7_Edgesn r_7_Edgesc E H_6 fun r_8p r_8n r_8c r_9 H_7 =>
  ldI .i64 (H_7.get b_1 0) fun x_8 =>
  ldS (H_7.get b_1 1) fun x_9p x_9n x_9c =>
  span_Forest.call x_8 x_9p x_9n x_9c 3 E H_7 fun r_10p r_10n r_10c r_11 r_12 H_8 =>
  l1 u1 v2 r_2 r_5p r_5n r_5c r_8p r_8n r_8c r_10p r_10n r_10c (r_10n : Int) 0 H_8))))
theorem compasslaw10_SpanNeckCuts.run_eq {g0_Nodes : Int} {g0_Edgesp : Option Addr} {g0_Edgesn : Nat} {g0_Edgesc : Nat} {u1 : Int} {v2 : Int} { E : Value → Hp → Prop} {H : Hp} {K : Bool → Hp → Prop} (h : compasslaw10_SpanNeckCuts.run_t (fun u1 v2 k7 wi9p wi9n wi9c wi11p wi11n wi11c t60p t60n t60c t61 t62 H => compasslaw10_SpanNeckCuts.l1 u1 v2 k7 wi9p wi9n wi9c wi11p wi11n wi11c t60p t60n t60c t61 t62  E H K) g0_Nodes g0_Edgesp g0_Edgesn g0_Edgesc u1 v2  E H K) : compasslaw10_SpanNeckCuts.run g0_Nodes g0_Edgesp g0_Edgesn g0_Edgesc u1 v2  E H K := by
  exact nodeR_imp2 (fun G => compasslaw10_SpanNeckCuts.run_t (fun u1 v2 k7 wi9p wi9n wi9c wi11p wi11n wi11c t60p t60n t60c t61 t62 H => G [0, 1, 0, 1, 1, 1, 1, 1, 1, 1, 1] [(1, .int .i64 u1), (2, .int .i64 v2), (7, .int .i64 k7), (9, .slice wi9p wi9n wi9c), (11, .slice wi11p wi11n wi11c), (60, .slice t60p t60n t60c), (61, .int .i64 t61), (62, .int .i64 t62)] H) g0_Nodes g0_Edgesp g0_Edgesn g0_Edgesc u1 v2  E H K) compasslaw10_SpanNeckCuts.nok rfl (fun G => by kernel_rfl) (Eq.mp (by kernel_rfl) h)
def compasslaw10_SpanNeckCuts.b1_t  (u1 : Int) (v2 : Int) (k7 : Int) (wi9p : Option Addr) (wi9n : Nat) (wi9c : Nat) (wi11p : Option Addr) (wi11n : Nat) (wi11c : Nat) (t60p : Option Addr) (t60n : Nat) (t60c : Nat) (t61 : Int) (t62 : Int) (X1 : Fr → Hp → Prop) (E : Value → Hp → Prop) (H : Hp) (K : Bool → Hp → Prop) : Prop :=
  bcase (decide ((t62 : Int) < t61)) (
  ix t60p t60n t62 1 fun b_1 o_1 =>
  ldI .i64 (H.get b_1 o_1) fun x_1 =>
  bcase (decide ((x_1 : Int) = k7)) (
  ix wi9p wi9n u1 1 fun b_2 o_2 =>
  ldI .i64 (H.get b_2 o_2) fun x_2 =>
  ix wi9p wi9n v2 1 fun b_3 o_3 =>
  ldI .i64 (H.get b_3 o_3) fun x_3 =>
  bcase (!decide ((x_2 : Int) = x_3)) (
  ix wi11p wi11n u1 1 fun b_4 o_4 =>
  ldI .i64 (H.get b_4 o_4) fun x_4 =>
  ix wi11p wi11n v2 1 fun b_5 o_5 =>
  ldI .i64 (H.get b_5 o_5) fun x_5 =>
  K (decide ((x_4 : Int) = x_5)) H)
  (K false H))
  (X1 (compasslaw10_SpanNeckCuts.f1 u1 v2 k7 wi9p wi9n wi9c wi11p wi11n wi11c t60p t60n t60c t61 (IntKind.wrap .i64 (t62 + 1))) H))
  (K false H)
theorem compasslaw10_SpanNeckCuts.b1_eq {u1 : Int} {v2 : Int} {k7 : Int} {wi9p : Option Addr} {wi9n : Nat} {wi9c : Nat} {wi11p : Option Addr} {wi11n : Nat} {wi11c : Nat} {t60p : Option Addr} {t60n : Nat} {t60c : Nat} {t61 : Int} {t62 : Int} {X1 : Fr → Hp → Prop} { E : Value → Hp → Prop} {H : Hp} {K : Bool → Hp → Prop} (h : compasslaw10_SpanNeckCuts.b1_t  u1 v2 k7 wi9p wi9n wi9c wi11p wi11n wi11c t60p t60n t60c t61 t62 X1 E H K) : compasslaw10_SpanNeckCuts.b1 u1 v2 k7 wi9p wi9n wi9c wi11p wi11n wi11c t60p t60n t60c t61 t62 X1 E H K := by
  exact nodeR_imp2 (fun _ => compasslaw10_SpanNeckCuts.b1_t  u1 v2 k7 wi9p wi9n wi9c wi11p wi11n wi11c t60p t60n t60c t61 t62 X1 E H K) compasslaw10_SpanNeckCuts.nok rfl (fun G => by kernel_rfl) h
end Go.Mz
