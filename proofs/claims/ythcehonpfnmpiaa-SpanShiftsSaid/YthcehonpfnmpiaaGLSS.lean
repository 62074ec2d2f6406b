/-
  The shallow texts of functions (LSS), each with a kernel-checked equation to the translated code. It proves nothing of the program by itself.
-/
import Derived.Test.YthcehonpfnmpiaaTab
set_option linter.unusedVariables false
set_option maxRecDepth 100000
namespace Go.Mz
/-! ### compass/compasslaw10.SpanShifts (5) -/
noncomputable def compasslaw10_SpanShifts.A : An := { live := [(0, [0, 1, 2]), (1, [1, 2, 3]), (2, []), (3, [1, 2, 3]), (4, [1, 2, 3, 7]), (5, [1, 2, 3, 7, 21, 22]), (6, [1, 2, 3, 7, 21, 22]), (7, [1, 2, 3, 7, 8, 21, 22]), (8, []), (9, [1, 2, 3, 7, 8, 21, 22]), (10, [1, 2, 3, 7, 21, 22]), (11, [1, 3, 7]), (12, [1, 7, 9, 11]), (13, [9, 11, 12, 14]), (14, [9, 11, 12, 14]), (15, [9, 12])], ord := [], stb := [], pre := [] }
noncomputable def compasslaw10_SpanShifts.code : Code := bodyOf Go.Proofs.Try.f5
theorem compasslaw10_SpanShifts.ok : okCode compasslaw10_SpanShifts.A 99 compasslaw10_SpanShifts.code = true := by kernel_rfl
def compasslaw10_SpanShifts.rq (E : Value → Hp → Prop) (K : Bool → Hp → Prop) : Ex → Fr → Hp → Prop := retQ T0 [.tmp 6] [4] (fun r H => ldR (.one false [.bool]) r fun u => K (asB u) H) E
def compasslaw10_SpanShifts.run (g0_Nodes : Int) (g0_Edgesp : Option Addr) (g0_Edgesn : Nat) (g0_Edgesc : Nat) (ki1 : Int) (by2 : Int) (E : Value → Hp → Prop) (H : Hp) (K : Bool → Hp → Prop) : Prop := nodeM P0 T0 compasslaw10_SpanShifts.A compasslaw10_SpanShifts.code [] [] (compasslaw10_SpanShifts.rq E K) (argF 0 [.agg ⟨[.int .i64 g0_Nodes, .slice g0_Edgesp g0_Edgesn g0_Edgesc]⟩, .int .i64 ki1, .int .i64 by2]) H
theorem compasslaw10_SpanShifts.of {g0_Nodes : Int} {g0_Edgesp : Option Addr} {g0_Edgesn : Nat} {g0_Edgesc : Nat} {ki1 : Int} {by2 : Int} {E : Value → Hp → Prop} {H : Hp} {K : Bool → Hp → Prop} (h : compasslaw10_SpanShifts.run g0_Nodes g0_Edgesp g0_Edgesn g0_Edgesc ki1 by2 E H K) : compasslaw10_SpanShifts.call g0_Nodes g0_Edgesp g0_Edgesn g0_Edgesc ki1 by2 E H K :=
  callW_of T0_ok P0_mixed (A := compasslaw10_SpanShifts.A) (fn := Go.Proofs.Try.f5) Go.Proofs.Try.func5 rfl compasslaw10_SpanShifts.ok rfl h
noncomputable def compasslaw10_SpanShifts.f1 (ki1 : Int) (by2 : Int) (g3 : Nat) (mo7 : Nat) (t21 : Int) (t22 : Int) : Fr := [(1, .int .i64 ki1), (2, .int .i64 by2), (3, .pointer (some ⟨g3, 0, none⟩)), (7, .pointer (some ⟨mo7, 0, none⟩)), (21, .int .i64 t21), (22, .int .i64 t22)]
def compasslaw10_SpanShifts.j1 (ki1 : Int) (g3 : Nat) (mo7 : Nat)  (E : Value → Hp → Prop) (H : Hp) (K : Bool → Hp → Prop) : Prop := nodeM P0 T0 compasslaw10_SpanShifts.A compasslaw10_SpanShifts.code [1, 1, 1, 1] [] (compasslaw10_SpanShifts.rq E K) [(1, .int .i64 ki1), (3, .pointer (some ⟨g3, 0, none⟩)), (7, .pointer (some ⟨mo7, 0, none⟩))] H
def compasslaw10_SpanShifts.j2 (a9p : Option Addr) (a9n : Nat) (a9c : Nat) (e11 : Int) (bb12p : Option Addr) (bb12n : Nat) (bb12c : Nat) (ff14 : Int)  (E : Value → Hp → Prop) (H : Hp) (K : Bool → Hp → Prop) : Prop := nodeM P0 T0 compasslaw10_SpanShifts.A compasslaw10_SpanShifts.code [1, 1, 1, 1, 1, 1, 0, 1, 0] [] (compasslaw10_SpanShifts.rq E K) [(9, .slice a9p a9n a9c), (11, .int .i64 e11), (12, .slice bb12p bb12n bb12c), (14, .int .i64 ff14)] H
def compasslaw10_SpanShifts.l1 (ki1 : Int) (by2 : Int) (g3 : Nat) (mo7 : Nat) (t21 : Int) (t22 : Int)  (E : Value → Hp → Prop) (H : Hp) (K : Bool → Hp → Prop) : Prop := nodeM P0 T0 compasslaw10_SpanShifts.A compasslaw10_SpanShifts.code [1, 1, 1, 0, 1, 0] [] (compasslaw10_SpanShifts.rq E K) (compasslaw10_SpanShifts.f1 ki1 by2 g3 mo7 t21 t22) H
def compasslaw10_SpanShifts.b1 (ki1 : Int) (by2 : Int) (g3 : Nat) (mo7 : Nat) (t21 : Int) (t22 : Int)  (X1 : Fr → Hp → Prop) (E : Value → Hp → Prop) (H : Hp) (K : Bool → Hp → Prop) : Prop := nodeM P0 T0 compasslaw10_SpanShifts.A compasslaw10_SpanShifts.code [1, 1, 1, 0, 1, 0, 0] [X1] (compasslaw10_SpanShifts.rq E K) (compasslaw10_SpanShifts.f1 ki1 by2 g3 mo7 t21 t22) H
theorem compasslaw10_SpanShifts.l1_rule { E : Value → Hp → Prop} {K : Bool → Hp → Prop} (I : Int → Int → Nat → Nat → Int → Int → Hp → Prop) (μ : Int → Int → Nat → Nat → Int → Int → Hp → Nat)
    (h : ∀ ki1 by2 g3 mo7 t21 t22 H, I ki1 by2 g3 mo7 t21 t22 H → ∀ X : Fr → Hp → Prop, (∀ ki1' by2' g3' mo7' t21' t22' H', I ki1' by2' g3' mo7' t21' t22' H' → μ ki1' by2' g3' mo7' t21' t22' H' < μ ki1 by2 g3 mo7 t21 t22 H → X (compasslaw10_SpanShifts.f1 ki1' by2' g3' mo7' t21' t22') H') → compasslaw10_SpanShifts.b1 ki1 by2 g3 mo7 t21 t22  X E H K)
    {ki1 : Int} {by2 : Int} {g3 : Nat} {mo7 : Nat} {t21 : Int} {t22 : Int} {H : Hp} (hI : I ki1 by2 g3 mo7 t21 t22 H) : compasslaw10_SpanShifts.l1 ki1 by2 g3 mo7 t21 t22  E H K :=
  loop_rule (S := Int × Int × Nat × Nat × Int × Int) (fun s => compasslaw10_SpanShifts.f1 (s.1) (s.2.1) (s.2.2.1) (s.2.2.2.1) (s.2.2.2.2.1) (s.2.2.2.2.2)) (fun s H => I (s.1) (s.2.1) (s.2.2.1) (s.2.2.2.1) (s.2.2.2.2.1) (s.2.2.2.2.2) H) (fun s H => μ (s.1) (s.2.1) (s.2.2.1) (s.2.2.2.1) (s.2.2.2.2.1) (s.2.2.2.2.2) H) (fun s H hI X hX => h (s.1) (s.2.1) (s.2.2.1) (s.2.2.2.1) (s.2.2.2.2.1) (s.2.2.2.2.2) H hI X fun ki1' by2' g3' mo7' t21' t22' H' hI' hlt => hX (ki1', by2', g3', mo7', t21', t22') H' hI' hlt) (s := (ki1, by2, g3, mo7, t21, t22)) rfl hI
theorem compasslaw10_SpanShifts.nok : nodesOk compasslaw10_SpanShifts.code [[0, 1, 0, 1, 1, 1], [1, 1, 1, 1], [0, 1, 0, 1, 1, 1, 1, 1, 1]] = true := by kernel_rfl
def compasslaw10_SpanShifts.run_t (l1 : Int → Int → Nat → Nat → Int → Int → Hp → Prop) (g0_Nodes : Int) (g0_Edgesp : Option Addr) (g0_Edgesn : Nat) (g0_Edgesc : Nat) (ki1 : Int) (by2 : Int)  (E : Value → Hp → Prop) (H : Hp) (K : Bool → Hp → Prop) : Prop :=
  nw H ⟨[.int .i64 g0_Nodes, .slice g0_Edgesp g0_Edgesn g0_Edgesc], 24⟩ fun b_1 H_1 =>
  compasslaw10_awake.call  E H_1 fun r_1 H_2 =>
  bcase ((!r_1)) (
  K false H_2)
  (ldI .i64 (H_2.get b_1 0) fun x_1 =>
  ldS (H_2.get b_1 1) fun x_2p x_2n x_2c =>
  compassref03_Copy.call x_1 x_2p x_2n x_2c E H_2 fun r_2_Nodes r_2_Edgesp r_2_Edgesn r_2_Edgesc H_3 =>
  nw H_3 ⟨[.int .i64 0, .slice none 0 0], 24⟩ fun b_2 H_4 =>
  stC H_4 b_2 0 [.int .i64 r_2_Nodes, .slice r_2_Edgesp r_2_Edgesn r_2_Edgesc] fun H_5 =>
  ldS (H_5.get b_2 1) fun x_3p x_3n x_3c =>
  l1 ki1 by2 b_1 b_2 (x_3n : Int) 0 H_5)
theorem compasslaw10_SpanShifts.run_eq {g0_Nodes : Int} {g0_Edgesp : Option Addr} {g0_Edgesn : Nat} {g0_Edgesc : Nat} {ki1 : Int} {by2 : Int} { E : Value → Hp → Prop} {H : Hp} {K : Bool → Hp → Prop} (h : compasslaw10_SpanShifts.run_t (fun ki1 by2 g3 mo7 t21 t22 H => compasslaw10_SpanShifts.l1 ki1 by2 g3 mo7 t21 t22  E H K) g0_Nodes g0_Edgesp g0_Edgesn g0_Edgesc ki1 by2  E H K) : compasslaw10_SpanShifts.run g0_Nodes g0_Edgesp g0_Edgesn g0_Edgesc ki1 by2  E H K := by
  exact nodeR_imp2 (fun G => compasslaw10_SpanShifts.run_t (fun ki1 by2 g3 mo7 t21 t22 H => G [0, 1, 0, 1, 1, 1] [(1, .int .i64 ki1), (2, .int .i64 by2), (3, .pointer (some ⟨g3, 0, none⟩)), (7, .pointer (some ⟨mo7, 0, none⟩)), (21, .int .i64 t21), (22, .int .i64 t22)] H) g0_Nodes g0_Edgesp g0_Edgesn g0_Edgesc ki1 by2  E H K) compasslaw10_SpanShifts.nok rfl (fun G => by kernel_rfl) (Eq.mp (by kernel_rfl) h)
def compasslaw10_SpanShifts.j1_t (j2 : (Option Addr) → Nat → Nat → Int → (Option Addr) → Nat → Nat → Int → Hp → Prop) (ki1 : Int) (g3 : Nat) (mo7 : Nat)  (E : Value → Hp → Prop) (H : Hp) (K : Bool → Hp → Prop) : Prop :=
  ldI .i64 (H.get g3 0) fun x_1 =>
  ldS (H.get g3 1) fun x_2p x_2n x_2c =>
  span_Forest.call x_1 x_2p x_2n x_2c ki1 E H fun r_1p r_1n r_1c r_2 r_3 H_1 =>
  ldI .i64 (H_1.get mo7 0) fun x_3 =>
  ldS (H_1.get mo7 1) fun x_4p x_4n x_4c =>
  span_Forest.call x_3 x_4p x_4n x_4c ki1 E H_1 fun r_4p r_4n r_4c r_5 r_6 H_2 =>
  bcase (!decide ((r_3 : Int) = 0)) (
  j2 r_1p r_1n r_1c r_3 r_4p r_4n r_4c r_6 H_2)
  (bcase (!decide ((r_6 : Int) = 0)) (
  j2 r_1p r_1n r_1c r_3 r_4p r_4n r_4c r_6 H_2)
  (compasslaw10_ints.call r_1p r_1n r_1c r_4p r_4n r_4c E H_2 fun r_7 H_3 =>
  K r_7 H_3))
theorem compasslaw10_SpanShifts.j1_eq {ki1 : Int} {g3 : Nat} {mo7 : Nat} { E : Value → Hp → Prop} {H : Hp} {K : Bool → Hp → Prop} (h : compasslaw10_SpanShifts.j1_t (fun a9p a9n a9c e11 bb12p bb12n bb12c ff14 H => compasslaw10_SpanShifts.j2 a9p a9n a9c e11 bb12p bb12n bb12c ff14  E H K) ki1 g3 mo7  E H K) : compasslaw10_SpanShifts.j1 ki1 g3 mo7  E H K := by
  exact nodeR_imp2 (fun G => compasslaw10_SpanShifts.j1_t (fun a9p a9n a9c e11 bb12p bb12n bb12c ff14 H => G [0, 1, 0, 1, 1, 1, 1, 1, 1] [(9, .slice a9p a9n a9c), (11, .int .i64 e11), (12, .slice bb12p bb12n bb12c), (14, .int .i64 ff14)] H) ki1 g3 mo7  E H K) compasslaw10_SpanShifts.nok rfl (fun G => by kernel_rfl) (Eq.mp (by kernel_rfl) h)
def compasslaw10_SpanShifts.j2_t  (a9p : Option Addr) (a9n : Nat) (a9c : Nat) (e11 : Int) (bb12p : Option Addr) (bb12n : Nat) (bb12c : Nat) (ff14 : Int)  (E : Value → Hp → Prop) (H : Hp) (K : Bool → Hp → Prop) : Prop :=
  bcase (!decide ((e11 : Int) = 0)) (
  bcase (decide (((a9n : Int) : Int) = 0)) (
  K true H)
  (bcase (!decide ((ff14 : Int) = 0)) (
  K (decide (((bb12n : Int) : Int) = 0)) H)
  (K false H)))
  (bcase (!decide ((ff14 : Int) = 0)) (
  K (decide (((bb12n : Int) : Int) = 0)) H)
  (K false H))
theorem compasslaw10_SpanShifts.j2_eq {a9p : Option Addr} {a9n : Nat} {a9c : Nat} {e11 : Int} {bb12p : Option Addr} {bb12n : Nat} {bb12c : Nat} {ff14 : Int} { E : Value → Hp → Prop} {H : Hp} {K : Bool → Hp → Prop} (h : compasslaw10_SpanShifts.j2_t  a9p a9n a9c e11 bb12p bb12n bb12c ff14  E H K) : compasslaw10_SpanShifts.j2 a9p a9n a9c e11 bb12p bb12n bb12c ff14  E H K := by
  exact nodeR_imp2 (fun _ => compasslaw10_SpanShifts.j2_t  a9p a9n a9c e11 bb12p bb12n bb12c ff14  E H K) compasslaw10_SpanShifts.nok rfl (fun G => by kernel_rfl) h
def compasslaw10_SpanShifts.b1_t (j1 : Int → Nat → Nat → Hp → Prop) (ki1 : Int) (by2 : Int) (g3 : Nat) (mo7 : Nat) (t21 : Int) (t22 : Int) (X1 : Fr → Hp → Prop) (E : Value → Hp → Prop) (H : Hp) (K : Bool → Hp → Prop) : Prop :=
  bcase (decide ((t22 : Int) < t21)) (
  bcase (decide ((by2 : Int) < (-1073741824))) (
  K true H)
  (bcase (decide ((1073741824 : Int) < by2)) (
  K true H)
  (ldS (H.get mo7 1) fun x_1p x_1n x_1c =>
  ix x_1p x_1n t22 4 fun b_1 o_1 =>
  ldI .i64 (H.get b_1 (o_1 + 3)) fun x_2 =>
  bcase (decide ((x_2 : Int) < (-1073741824))) (
  K true H)
  (ldS (H.get mo7 1) fun x_3p x_3n x_3c =>
  ix x_3p x_3n t22 4 fun b_2 o_2 =>
  ldI .i64 (H.get b_2 (o_2 + 3)) fun x_4 =>
  bcase (decide ((1073741824 : Int) < x_4)) (
  K true H)
  (ldS (H.get mo7 1) fun x_5p x_5n x_5c =>
  ix x_5p x_5n t22 4 fun b_3 o_3 =>
  ldI .i64 (H.get b_3 (o_3 + 3)) fun x_6 =>
  ix x_5p x_5n t22 4 fun b_4 o_4 =>
  stC H b_4 (o_4 + 3) [.int .i64 (IntKind.wrap .i64 (x_6 + by2))] fun H_1 =>
  X1 (compasslaw10_SpanShifts.f1 ki1 by2 g3 mo7 t21 (IntKind.wrap .i64 (t22 + 1))) H_1)))))
  (j1 ki1 g3 mo7 H)
theorem compasslaw10_SpanShifts.b1_eq {ki1 : Int} {by2 : Int} {g3 : Nat} {mo7 : Nat} {t21 : Int} {t22 : Int} {X1 : Fr → Hp → Prop} { E : Value → Hp → Prop} {H : Hp} {K : Bool → Hp → Prop} (h : compasslaw10_SpanShifts.b1_t (fun ki1 g3 mo7 H => compasslaw10_SpanShifts.j1 ki1 g3 mo7  E H K) ki1 by2 g3 mo7 t21 t22 X1 E H K) : compasslaw10_SpanShifts.b1 ki1 by2 g3 mo7 t21 t22 X1 E H K := by
  exact nodeR_imp2 (fun G => compasslaw10_SpanShifts.b1_t (fun ki1 g3 mo7 H => G [1, 1, 1, 1] [(1, .int .i64 ki1), (3, .pointer (some ⟨g3, 0, none⟩)), (7, .pointer (some ⟨mo7, 0, none⟩))] H) ki1 by2 g3 mo7 t21 t22 X1 E H K) compasslaw10_SpanShifts.nok rfl (fun G => by kernel_rfl) (Eq.mp (by kernel_rfl) h)
end Go.Mz
