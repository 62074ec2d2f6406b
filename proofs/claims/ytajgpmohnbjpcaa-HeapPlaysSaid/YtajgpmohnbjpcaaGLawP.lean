/-
  The shallow texts of functions (LawP), each with a kernel-checked equation to the translated code. It proves nothing of the program by itself.
-/
import Derived.Test.YtajgpmohnbjpcaaTab
set_option linter.unusedVariables false
set_option maxRecDepth 100000
namespace Go.Mz
/-! ### compass/compasslaw05.HeapPlays (5) -/
noncomputable def compasslaw05_HeapPlays.A : An := { live := [(0, [0, 1, 2]), (1, [0, 1, 2]), (2, []), (3, [0, 1, 2]), (4, [0, 1, 2, 7, 8]), (5, [2, 7, 8, 9, 10]), (6, []), (7, [2, 7, 9]), (8, []), (9, [2, 7, 9]), (10, [2, 7, 9]), (11, [7, 9, 40, 41, 42]), (12, [7, 9, 40, 41, 42]), (13, [7, 9, 13, 40, 41, 42]), (14, [7, 9, 11, 40, 41, 42]), (15, []), (16, [7, 9, 40, 41, 42]), (17, [7, 9])], ord := [(14, [0, 1, 2, 3, 5, 6, 7, 4, 8, 9])], stb := [(14, [(4, [6])])], pre := [(14, [[], [0], [0, 1], [0, 1, 2], [0, 1, 2, 3], [0, 1, 2], [0, 1, 2, 5], [0, 1, 2, 5, 6], [0, 1, 2, 3, 4, 5, 6, 7], [0, 1, 2, 3, 4, 5, 6, 7, 8]])] }
noncomputable def compasslaw05_HeapPlays.code : Code := bodyOf Go.Proofs.Try.f5
theorem compasslaw05_HeapPlays.ok : okCode compasslaw05_HeapPlays.A 67 compasslaw05_HeapPlays.code = true := by kernel_rfl
def compasslaw05_HeapPlays.rq (E : Value → Hp → Prop) (K : Bool → Hp → Prop) : Ex → Fr → Hp → Prop := retQ T0 [.tmp 6] [4] (fun r H => ldR (.one false [.bool]) r fun u => K (asB u) H) E
def compasslaw05_HeapPlays.run (kind0 : Int) (n1 : Int) (script2p : Option Addr) (script2n : Nat) (script2c : Nat) (E : Value → Hp → Prop) (H : Hp) (K : Bool → Hp → Prop) : Prop := nodeM P0 T0 compasslaw05_HeapPlays.A compasslaw05_HeapPlays.code [] [] (compasslaw05_HeapPlays.rq E K) (argF 0 [.int .i64 kind0, .int .i64 n1, .slice script2p script2n script2c]) H
theorem compasslaw05_HeapPlays.of {kind0 : Int} {n1 : Int} {script2p : Option Addr} {script2n : Nat} {script2c : Nat} {E : Value → Hp → Prop} {H : Hp} {K : Bool → Hp → Prop} (h : compasslaw05_HeapPlays.run kind0 n1 script2p script2n script2c E H K) : compasslaw05_HeapPlays.call kind0 n1 script2p script2n script2c E H K :=
  callW_of T0_ok P0_mixed (A := compasslaw05_HeapPlays.A) (fn := Go.Proofs.Try.f5) Go.Proofs.Try.func5 rfl compasslaw05_HeapPlays.ok rfl h
noncomputable def compasslaw05_HeapPlays.f1 (q7 : Option Addr) (w9 : Nat) (t40p : Option Addr) (t40n : Nat) (t40c : Nat) (t41 : Int) (t42 : Int) : Fr := [(7, .pointer q7), (9, .pointer (some ⟨w9, 0, none⟩)), (40, .slice t40p t40n t40c), (41, .int .i64 t41), (42, .int .i64 t42)]
def compasslaw05_HeapPlays.j1 (q7 : Option Addr) (w9 : Nat)  (E : Value → Hp → Prop) (H : Hp) (K : Bool → Hp → Prop) : Prop := nodeM P0 T0 compasslaw05_HeapPlays.A compasslaw05_HeapPlays.code [1, 1, 1, 1, 1, 1, 1, 1] [] (compasslaw05_HeapPlays.rq E K) [(7, .pointer q7), (9, .pointer (some ⟨w9, 0, none⟩))] H
def compasslaw05_HeapPlays.l1 (q7 : Option Addr) (w9 : Nat) (t40p : Option Addr) (t40n : Nat) (t40c : Nat) (t41 : Int) (t42 : Int)  (E : Value → Hp → Prop) (H : Hp) (K : Bool → Hp → Prop) : Prop := nodeM P0 T0 compasslaw05_HeapPlays.A compasslaw05_HeapPlays.code [1, 1, 1, 1, 1, 1, 1, 0, 1, 0] [] (compasslaw05_HeapPlays.rq E K) (compasslaw05_HeapPlays.f1 q7 w9 t40p t40n t40c t41 t42) H
def compasslaw05_HeapPlays.b1 (q7 : Option Addr) (w9 : Nat) (t40p : Option Addr) (t40n : Nat) (t40c : Nat) (t41 : Int) (t42 : Int)  (X1 : Fr → Hp → Prop) (E : Value → Hp → Prop) (H : Hp) (K : Bool → Hp → Prop) : Prop := nodeM P0 T0 compasslaw05_HeapPlays.A compasslaw05_HeapPlays.code [1, 1, 1, 1, 1, 1, 1, 0, 1, 0, 0] [X1] (compasslaw05_HeapPlays.rq E K) (compasslaw05_HeapPlays.f1 q7 w9 t40p t40n t40c t41 t42) H
theorem compasslaw05_HeapPlays.l1_rule { E : Value → Hp → Prop} {K : Bool → Hp → Prop} (I : (Option Addr) → Nat → (Option Addr) → Nat → Nat → Int → Int → Hp → Prop) (μ : (Option Addr) → Nat → (Option Addr) → Nat → Nat → Int → Int → Hp → Nat)
    (h : ∀ q7 w9 t40p t40n t40c t41 t42 H, I q7 w9 t40p t40n t40c t41 t42 H → ∀ X : Fr → Hp → Prop, (∀ q7' w9' t40p' t40n' t40c' t41' t42' H', I q7' w9' t40p' t40n' t40c' t41' t42' H' → μ q7' w9' t40p' t40n' t40c' t41' t42' H' < μ q7 w9 t40p t40n t40c t41 t42 H → X (compasslaw05_HeapPlays.f1 q7' w9' t40p' t40n' t40c' t41' t42') H') → compasslaw05_HeapPlays.b1 q7 w9 t40p t40n t40c t41 t42  X E H K)
    {q7 : Option Addr} {w9 : Nat} {t40p : Option Addr} {t40n : Nat} {t40c : Nat} {t41 : Int} {t42 : Int} {H : Hp} (hI : I q7 w9 t40p t40n t40c t41 t42 H) : compasslaw05_HeapPlays.l1 q7 w9 t40p t40n t40c t41 t42  E H K :=
  loop_rule (S := (Option Addr) × Nat × (Option Addr) × Nat × Nat × Int × Int) (fun s => compasslaw05_HeapPlays.f1 (s.1) (s.2.1) (s.2.2.1) (s.2.2.2.1) (s.2.2.2.2.1) (s.2.2.2.2.2.1) (s.2.2.2.2.2.2)) (fun s H => I (s.1) (s.2.1) (s.2.2.1) (s.2.2.2.1) (s.2.2.2.2.1) (s.2.2.2.2.2.1) (s.2.2.2.2.2.2) H) (fun s H => μ (s.1) (s.2.1) (s.2.2.1) (s.2.2.2.1) (s.2.2.2.2.1) (s.2.2.2.2.2.1) (s.2.2.2.2.2.2) H) (fun s H hI X hX => h (s.1) (s.2.1) (s.2.2.1) (s.2.2.2.1) (s.2.2.2.2.1) (s.2.2.2.2.2.1) (s.2.2.2.2.2.2) H hI X fun q7' w9' t40p' t40n' t40c' t41' t42' H' hI' hlt => hX (q7', w9', t40p', t40n', t40c', t41', t42') H' hI' hlt) (s := (q7, w9, t40p, t40n, t40c, t41, t42)) rfl hI
theorem compasslaw05_HeapPlays.nok : nodesOk compasslaw05_HeapPlays.code [[0, 1, 0, 1, 1, 1, 1, 1, 1, 1], [1, 1, 1, 1, 1, 1, 1, 1]] = true := by kernel_rfl
def compasslaw05_HeapPlays.run_t (l1 : (Option Addr) → Nat → (Option Addr) → Nat → Nat → Int → Int → Hp → Prop) (kind0 : Int) (n1 : Int) (script2p : Option Addr) (script2n : Nat) (script2c : Nat)  (E : Value → Hp → Prop) (H : Hp) (K : Bool → Hp → Prop) : Prop :=
  compasslaw05_awake.call  E H fun r_1 H_1 =>
  bcase ((!r_1)) (
  K false H_1)
  (heaps_New.call kind0 n1 E H_1 fun r_2 r_3 H_2 =>
  compassref05_New.call kind0 n1 E H_2 fun r_4_Kind r_4_N r_4_Itemsp r_4_Itemsn r_4_Itemsc r_4_Last r_5 H_3 =>
  nw H_3 ⟨[.int .i64 0, .int .i64 0, .slice none 0 0, .int .i64 0], 40⟩ fun b_1 H_4 =>
  stC H_4 b_1 0 [.int .i64 r_4_Kind, .int .i64 r_4_N, .slice r_4_Itemsp r_4_Itemsn r_4_Itemsc, .int .i64 r_4_Last] fun H_5 =>
  bcase (!decide ((r_3 : Int) = r_5)) (
  K false H_5)
  (bcase (!((Option.isNone r_2) == (!decide ((r_5 : Int) = 0)))) (
  K false H_5)
  (bcase (Option.isNone r_2) (
  K true H_5)
  (l1 r_2 b_1 script2p script2n script2c (script2n : Int) 0 H_5))))
theorem compasslaw05_HeapPlays.run_eq {kind0 : Int} {n1 : Int} {script2p : Option Addr} {script2n : Nat} {script2c : Nat} { E : Value → Hp → Prop} {H : Hp} {K : Bool → Hp → Prop} (h : compasslaw05_HeapPlays.run_t (fun q7 w9 t40p t40n t40c t41 t42 H => compasslaw05_HeapPlays.l1 q7 w9 t40p t40n t40c t41 t42  E H K) kind0 n1 script2p script2n script2c  E H K) : compasslaw05_HeapPlays.run kind0 n1 script2p script2n script2c  E H K := by
  have k1 : ∀ G : List Nat → Fr → Hp → Prop, nodeR P0 T0 compasslaw05_HeapPlays.A [[0, 1, 0, 1, 1, 1, 1, 1, 1, 1], [1, 1, 1, 1, 1, 1, 1, 1]] G compasslaw05_HeapPlays.code [] [] (compasslaw05_HeapPlays.rq E K) (argF 0 [.int .i64 kind0, .int .i64 n1, .slice script2p script2n script2c]) H = compasslaw05_HeapPlays.run_t (fun q7 w9 t40p t40n t40c t41 t42 H => G [0, 1, 0, 1, 1, 1, 1, 1, 1, 1] [(7, .pointer q7), (9, .pointer (some ⟨w9, 0, none⟩)), (40, .slice t40p t40n t40c), (41, .int .i64 t41), (42, .int .i64 t42)] H) kind0 n1 script2p script2n script2c  E H K := fun G => by kernel_rfl
  have k2 : compasslaw05_HeapPlays.run_t (fun q7 w9 t40p t40n t40c t41 t42 H => compasslaw05_HeapPlays.l1 q7 w9 t40p t40n t40c t41 t42  E H K) kind0 n1 script2p script2n script2c  E H K = compasslaw05_HeapPlays.run_t (fun q7 w9 t40p t40n t40c t41 t42 H => (fun q F H => nodeM P0 T0 compasslaw05_HeapPlays.A compasslaw05_HeapPlays.code q.reverse [] (compasslaw05_HeapPlays.rq E K) F H) [0, 1, 0, 1, 1, 1, 1, 1, 1, 1] [(7, .pointer q7), (9, .pointer (some ⟨w9, 0, none⟩)), (40, .slice t40p t40n t40c), (41, .int .i64 t41), (42, .int .i64 t42)] H) kind0 n1 script2p script2n script2c  E H K := by kernel_rfl
  exact nodeR_imp compasslaw05_HeapPlays.nok rfl ((k1 _).mpr (k2.mp h))
def compasslaw05_HeapPlays.j1_t  (q7 : Option Addr) (w9 : Nat)  (E : Value → Hp → Prop) (H : Hp) (K : Bool → Hp → Prop) : Prop :=
  ldI .i64 (H.get w9 0) fun x_1 =>
  ldI .i64 (H.get w9 1) fun x_2 =>
  ldS (H.get w9 2) fun x_3p x_3n x_3c =>
  ldI .i64 (H.get w9 3) fun x_4 =>
  compasslaw05_drained.call q7 x_1 x_2 x_3p x_3n x_3c x_4 E H fun r_1 H_1 =>
  K r_1 H_1
theorem compasslaw05_HeapPlays.j1_eq {q7 : Option Addr} {w9 : Nat} { E : Value → Hp → Prop} {H : Hp} {K : Bool → Hp → Prop} (h : compasslaw05_HeapPlays.j1_t  q7 w9  E H K) : compasslaw05_HeapPlays.j1 q7 w9  E H K := by
  have k1 : ∀ G : List Nat → Fr → Hp → Prop, nodeR P0 T0 compasslaw05_HeapPlays.A [[0, 1, 0, 1, 1, 1, 1, 1, 1, 1], [1, 1, 1, 1, 1, 1, 1, 1]] G compasslaw05_HeapPlays.code [1, 1, 1, 1, 1, 1, 1, 1] [] (compasslaw05_HeapPlays.rq E K) [(7, .pointer q7), (9, .pointer (some ⟨w9, 0, none⟩))] H = compasslaw05_HeapPlays.j1_t  q7 w9  E H K := fun G => by kernel_rfl
  exact nodeR_imp compasslaw05_HeapPlays.nok rfl ((k1 _).mpr h)
def compasslaw05_HeapPlays.b1_t (j1 : (Option Addr) → Nat → Hp → Prop) (q7 : Option Addr) (w9 : Nat) (t40p : Option Addr) (t40n : Nat) (t40c : Nat) (t41 : Int) (t42 : Int) (X1 : Fr → Hp → Prop) (E : Value → Hp → Prop) (H : Hp) (K : Bool → Hp → Prop) : Prop :=
  bcase (decide ((t42 : Int) < t41)) (
  ix t40p t40n t42 3 fun b_1 o_1 =>
  ldI .i64 (H.get b_1 o_1) fun x_1 =>
  ldI .i64 (H.get b_1 (o_1 + 1)) fun x_2 =>
  ldI .i64 (H.get b_1 (o_1 + 2)) fun x_3 =>
  nw H ⟨[.int .i64 0, .int .i64 0, .int .i64 0], 36⟩ fun b_2 H_1 =>
  stC H_1 b_2 0 [.int .i64 x_1, .int .i64 x_2, .int .i64 x_3] fun H_2 =>
  ldI .i64 (H_2.get w9 0) fun x_4 =>
  ldI .i64 (H_2.get w9 1) fun x_5 =>
  ldS (H_2.get w9 2) fun x_6p x_6n x_6c =>
  ldI .i64 (H_2.get w9 3) fun x_7 =>
  ldI .i64 (H_2.get b_2 0) fun x_8 =>
  ldI .i64 (H_2.get b_2 1) fun x_9 =>
  ldI .i64 (H_2.get b_2 2) fun x_10 =>
  compasslaw05_step.call q7 x_4 x_5 x_6p x_6n x_6c x_7 x_8 x_9 x_10 E H_2 fun r_1_Kind r_1_N r_1_Itemsp r_1_Itemsn r_1_Itemsc r_1_Last r_2 H_3 =>
  stC H_3 w9 0 [.int .i64 r_1_Kind, .int .i64 r_1_N, .slice r_1_Itemsp r_1_Itemsn r_1_Itemsc, .int .i64 r_1_Last] fun H_4 =>
  bcase ((!r_2)) (
  K false H_4)
  (ldS (H_4.get w9 2) fun x_11p x_11n x_11c =>
  heaps_Queue_Len.call q7 E H_4 fun r_3 H_5 =>
  (ldS (H_5.get w9 2) fun x_12p x_12n x_12c =>
  Value.slice x_12p x_12n x_12c = Value.slice x_11p x_11n x_11c) ∧
  bcase (!decide ((r_3 : Int) = (x_11n : Int))) (
  K false H_5)
  (X1 (compasslaw05_HeapPlays.f1 q7 w9 t40p t40n t40c t41 (IntKind.wrap .i64 (t42 + 1))) H_5)))
  (j1 q7 w9 H)
theorem compasslaw05_HeapPlays.b1_eq {q7 : Option Addr} {w9 : Nat} {t40p : Option Addr} {t40n : Nat} {t40c : Nat} {t41 : Int} {t42 : Int} {X1 : Fr → Hp → Prop} { E : Value → Hp → Prop} {H : Hp} {K : Bool → Hp → Prop} (h : compasslaw05_HeapPlays.b1_t (fun q7 w9 H => compasslaw05_HeapPlays.j1 q7 w9  E H K) q7 w9 t40p t40n t40c t41 t42 X1 E H K) : compasslaw05_HeapPlays.b1 q7 w9 t40p t40n t40c t41 t42 X1 E H K := by
  have k1 : ∀ G : List Nat → Fr → Hp → Prop, nodeR P0 T0 compasslaw05_HeapPlays.A [[0, 1, 0, 1, 1, 1, 1, 1, 1, 1], [1, 1, 1, 1, 1, 1, 1, 1]] G compasslaw05_HeapPlays.code [1, 1, 1, 1, 1, 1, 1, 0, 1, 0, 0] [X1] (compasslaw05_HeapPlays.rq E K) (compasslaw05_HeapPlays.f1 q7 w9 t40p t40n t40c t41 t42) H = compasslaw05_HeapPlays.b1_t (fun q7 w9 H => G [1, 1, 1, 1, 1, 1, 1, 1] [(7, .pointer q7), (9, .pointer (some ⟨w9, 0, none⟩))] H) q7 w9 t40p t40n t40c t41 t42 X1 E H K := fun G => by kernel_rfl
  have k2 : compasslaw05_HeapPlays.b1_t (fun q7 w9 H => compasslaw05_HeapPlays.j1 q7 w9  E H K) q7 w9 t40p t40n t40c t41 t42 X1 E H K = compasslaw05_HeapPlays.b1_t (fun q7 w9 H => (fun q F H => nodeM P0 T0 compasslaw05_HeapPlays.A compasslaw05_HeapPlays.code q.reverse [X1] (compasslaw05_HeapPlays.rq E K) F H) [1, 1, 1, 1, 1, 1, 1, 1] [(7, .pointer q7), (9, .pointer (some ⟨w9, 0, none⟩))] H) q7 w9 t40p t40n t40c t41 t42 X1 E H K := by kernel_rfl
  exact nodeR_imp compasslaw05_HeapPlays.nok rfl ((k1 _).mpr (k2.mp h))
end Go.Mz
