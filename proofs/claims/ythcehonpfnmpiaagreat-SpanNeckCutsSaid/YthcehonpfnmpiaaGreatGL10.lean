/-
  The shallow texts of functions (L10), each with a kernel-checked equation to the translated code. It proves nothing of the program by itself.
-/
import Derived.Test.YthcehonpfnmpiaaGreatTab
set_option linter.unusedVariables false
set_option maxRecDepth 100000
namespace Go.Mz
/-! ### compass/compasslaw10.awake (7) -/
noncomputable def compasslaw10_awake.A : An := { live := [(0, []), (1, []), (2, [1]), (3, [1, 2]), (4, [1, 2]), (5, [1, 2]), (6, [1, 2, 3, 4, 5]), (7, []), (8, [1]), (9, [6, 7])], ord := [], stb := [], pre := [] }
noncomputable def compasslaw10_awake.code : Code := bodyOf Go.Proofs.Tryz.f7
theorem compasslaw10_awake.ok : okCode compasslaw10_awake.A 53 compasslaw10_awake.code = true := by kernel_rfl
def compasslaw10_awake.rq (E : Value → Hp → Prop) (K : Bool → Hp → Prop) : Ex → Fr → Hp → Prop := retQ T0 [.tmp 0] [4] (fun r H => ldR (.one false [.bool]) r fun u => K (asB u) H) E
def compasslaw10_awake.run  (E : Value → Hp → Prop) (H : Hp) (K : Bool → Hp → Prop) : Prop := nodeM P0 T0 compasslaw10_awake.A compasslaw10_awake.code [] [] (compasslaw10_awake.rq E K) (argF 0 []) H
theorem compasslaw10_awake.of {E : Value → Hp → Prop} {H : Hp} {K : Bool → Hp → Prop} (h : compasslaw10_awake.run E H K) : compasslaw10_awake.call E H K :=
  callW_of T0_ok P0_mixed (A := compasslaw10_awake.A) (fn := Go.Proofs.Tryz.f7) Go.Proofs.Tryz.func7 rfl compasslaw10_awake.ok rfl h
noncomputable def compasslaw10_awake.f1 (g1 : Nat) (ki2 : Int) : Fr := [(1, .pointer (some ⟨g1, 0, none⟩)), (2, .int .i64 ki2)]
def compasslaw10_awake.j1 (g1 : Nat)  (E : Value → Hp → Prop) (H : Hp) (K : Bool → Hp → Prop) : Prop := nodeM P0 T0 compasslaw10_awake.A compasslaw10_awake.code [1, 1, 1] [] (compasslaw10_awake.rq E K) [(1, .pointer (some ⟨g1, 0, none⟩))] H
def compasslaw10_awake.l1 (g1 : Nat) (ki2 : Int)  (E : Value → Hp → Prop) (H : Hp) (K : Bool → Hp → Prop) : Prop := nodeM P0 T0 compasslaw10_awake.A compasslaw10_awake.code [1, 1, 0, 1, 0] [] (compasslaw10_awake.rq E K) (compasslaw10_awake.f1 g1 ki2) H
def compasslaw10_awake.b1 (g1 : Nat) (ki2 : Int)  (X1 : Fr → Hp → Prop) (E : Value → Hp → Prop) (H : Hp) (K : Bool → Hp → Prop) : Prop := nodeM P0 T0 compasslaw10_awake.A compasslaw10_awake.code [1, 1, 0, 1, 0, 0] [X1] (compasslaw10_awake.rq E K) (compasslaw10_awake.f1 g1 ki2) H
theorem compasslaw10_awake.l1_rule { E : Value → Hp → Prop} {K : Bool → Hp → Prop} (I : Nat → Int → Hp → Prop) (μ : Nat → Int → Hp → Nat)
    (h : ∀ g1 ki2 H, I g1 ki2 H → ∀ X : Fr → Hp → Prop, (∀ g1' ki2' H', I g1' ki2' H' → μ g1' ki2' H' < μ g1 ki2 H → X (compasslaw10_awake.f1 g1' ki2') H') → compasslaw10_awake.b1 g1 ki2  X E H K)
    {g1 : Nat} {ki2 : Int} {H : Hp} (hI : I g1 ki2 H) : compasslaw10_awake.l1 g1 ki2  E H K :=
  loop_rule (S := Nat × Int) (fun s => compasslaw10_awake.f1 (s.1) (s.2)) (fun s H => I (s.1) (s.2) H) (fun s H => μ (s.1) (s.2) H) (fun s H hI X hX => h (s.1) (s.2) H hI X fun g1' ki2' H' hI' hlt => hX (g1', ki2') H' hI' hlt) (s := (g1, ki2)) rfl hI
theorem compasslaw10_awake.nok : nodesOk compasslaw10_awake.code [[0, 1, 0, 1, 1], [1, 1, 1]] = true := by kernel_rfl
def compasslaw10_awake.run_t (l1 : Nat → Int → Hp → Prop)   (E : Value → Hp → Prop) (H : Hp) (K : Bool → Hp → Prop) : Prop :=
  nw H ⟨[.int .i64 0, .int .i64 1, .int .i64 0, .int .i64 5, .int .i64 1, .int .i64 2, .int .i64 0, .int .i64 2, .int .i64 2, .int .i64 0, .int .i64 0, .int .i64 3], 44⟩ fun b_1 H_1 =>
  nw H_1 ⟨[.int .i64 0, .slice none 0 0], 24⟩ fun b_2 H_2 =>
  stC H_2 b_2 0 [.int .i64 3, .slice (some ⟨b_1, 0, none⟩) 3 3] fun H_3 =>
  l1 b_2 1 H_3
theorem compasslaw10_awake.run_eq { E : Value → Hp → Prop} {H : Hp} {K : Bool → Hp → Prop} (h : compasslaw10_awake.run_t (fun g1 ki2 H => compasslaw10_awake.l1 g1 ki2  E H K)   E H K) : compasslaw10_awake.run   E H K := by
  exact nodeR_imp2 (fun G => compasslaw10_awake.run_t (fun g1 ki2 H => G [0, 1, 0, 1, 1] [(1, .pointer (some ⟨g1, 0, none⟩)), (2, .int .i64 ki2)] H)   E H K) compasslaw10_awake.nok rfl (fun G => by kernel_rfl) (Eq.mp (by kernel_rfl) h)
def compasslaw10_awake.j1_t  (g1 : Nat)  (E : Value → Hp → Prop) (H : Hp) (K : Bool → Hp → Prop) : Prop :=
  ldI .i64 (H.get g1 0) fun x_1 =>
  ldS (H.get g1 1) fun x_2p x_2n x_2c =>
  span_Neck.call x_1 x_2p x_2n x_2c 0 1 E H fun r_1 r_2 H_1 =>
  bcase (decide ((r_1 : Int) = 2)) (
  bcase (decide ((r_2 : Int) = 0)) (
  K true H_1)
  (K false H_1))
  (K false H_1)
theorem compasslaw10_awake.j1_eq {g1 : Nat} { E : Value → Hp → Prop} {H : Hp} {K : Bool → Hp → Prop} (h : compasslaw10_awake.j1_t  g1  E H K) : compasslaw10_awake.j1 g1  E H K := by
  exact nodeR_imp2 (fun _ => compasslaw10_awake.j1_t  g1  E H K) compasslaw10_awake.nok rfl (fun G => by kernel_rfl) h
def compasslaw10_awake.b1_t (j1 : Nat → Hp → Prop) (g1 : Nat) (ki2 : Int) (X1 : Fr → Hp → Prop) (E : Value → Hp → Prop) (H : Hp) (K : Bool → Hp → Prop) : Prop :=
  bcase (decide ((ki2 : Int) ≤ 3)) (
  ldI .i64 (H.get g1 0) fun x_1 =>
  ldS (H.get g1 1) fun x_2p x_2n x_2c =>
  span_Forest.call x_1 x_2p x_2n x_2c ki2 E H fun r_1p r_1n r_1c r_2 r_3 H_1 =>
  bcase (!decide ((r_3 : Int) = 0)) (
  K false H_1)
  (nw H_1 ⟨[.int .i64 1, .int .i64 2], 3⟩ fun b_1 H_2 =>
  compasslaw10_ints.call r_1p r_1n r_1c (some ⟨b_1, 0, none⟩) 2 2 E H_2 fun r_4 H_3 =>
  bcase ((!r_4)) (
  K false H_3)
  (bcase (!decide ((r_2 : Int) = 5)) (
  K false H_3)
  (X1 (compasslaw10_awake.f1 g1 (IntKind.wrap .i64 (ki2 + 1))) H_3))))
  (j1 g1 H)
theorem compasslaw10_awake.b1_eq {g1 : Nat} {ki2 : Int} {X1 : Fr → Hp → Prop} { E : Value → Hp → Prop} {H : Hp} {K : Bool → Hp → Prop} (h : compasslaw10_awake.b1_t (fun g1 H => compasslaw10_awake.j1 g1  E H K) g1 ki2 X1 E H K) : compasslaw10_awake.b1 g1 ki2 X1 E H K := by
  exact nodeR_imp2 (fun G => compasslaw10_awake.b1_t (fun g1 H => G [1, 1, 1] [(1, .pointer (some ⟨g1, 0, none⟩))] H) g1 ki2 X1 E H K) compasslaw10_awake.nok rfl (fun G => by kernel_rfl) (Eq.mp (by kernel_rfl) h)
/-! ### compass/compasslaw10.ints (10) -/
noncomputable def compasslaw10_ints.A : An := { live := [(0, [0, 1]), (1, [0, 1]), (2, []), (3, [0, 1]), (4, [0, 1, 12, 13]), (5, [0, 1, 12, 13]), (6, [0, 1, 5, 12, 13]), (7, []), (8, [0, 1, 12, 13]), (9, [])], ord := [(6, [0, 1, 2, 3, 4, 5, 6, 7, 8])], stb := [], pre := [(6, [[], [], [0, 1], [0, 1, 2], [], [], [4, 5], [4, 5, 6], [0, 1, 2, 3, 4, 5, 6, 7]])] }
noncomputable def compasslaw10_ints.code : Code := bodyOf Go.Proofs.Tryz.f10
theorem compasslaw10_ints.ok : okCode compasslaw10_ints.A 26 compasslaw10_ints.code = true := by kernel_rfl
def compasslaw10_ints.rq (E : Value → Hp → Prop) (K : Bool → Hp → Prop) : Ex → Fr → Hp → Prop := retQ T0 [.tmp 4] [4] (fun r H => ldR (.one false [.bool]) r fun u => K (asB u) H) E
def compasslaw10_ints.run (a0p : Option Addr) (a0n : Nat) (a0c : Nat) (bb1p : Option Addr) (bb1n : Nat) (bb1c : Nat) (E : Value → Hp → Prop) (H : Hp) (K : Bool → Hp → Prop) : Prop := nodeM P0 T0 compasslaw10_ints.A compasslaw10_ints.code [] [] (compasslaw10_ints.rq E K) (argF 0 [.slice a0p a0n a0c, .slice bb1p bb1n bb1c]) H
theorem compasslaw10_ints.of {a0p : Option Addr} {a0n : Nat} {a0c : Nat} {bb1p : Option Addr} {bb1n : Nat} {bb1c : Nat} {E : Value → Hp → Prop} {H : Hp} {K : Bool → Hp → Prop} (h : compasslaw10_ints.run a0p a0n a0c bb1p bb1n bb1c E H K) : compasslaw10_ints.call a0p a0n a0c bb1p bb1n bb1c E H K :=
  callW_of T0_ok P0_mixed (A := compasslaw10_ints.A) (fn := Go.Proofs.Tryz.f10) Go.Proofs.Tryz.func10 rfl compasslaw10_ints.ok rfl h
noncomputable def compasslaw10_ints.f1 (a0p : Option Addr) (a0n : Nat) (a0c : Nat) (bb1p : Option Addr) (bb1n : Nat) (bb1c : Nat) (t12 : Int) (t13 : Int) : Fr := [(0, .slice a0p a0n a0c), (1, .slice bb1p bb1n bb1c), (12, .int .i64 t12), (13, .int .i64 t13)]
def compasslaw10_ints.l1 (a0p : Option Addr) (a0n : Nat) (a0c : Nat) (bb1p : Option Addr) (bb1n : Nat) (bb1c : Nat) (t12 : Int) (t13 : Int)  (E : Value → Hp → Prop) (H : Hp) (K : Bool → Hp → Prop) : Prop := nodeM P0 T0 compasslaw10_ints.A compasslaw10_ints.code [1, 1, 0, 1, 0] [] (compasslaw10_ints.rq E K) (compasslaw10_ints.f1 a0p a0n a0c bb1p bb1n bb1c t12 t13) H
def compasslaw10_ints.b1 (a0p : Option Addr) (a0n : Nat) (a0c : Nat) (bb1p : Option Addr) (bb1n : Nat) (bb1c : Nat) (t12 : Int) (t13 : Int)  (X1 : Fr → Hp → Prop) (E : Value → Hp → Prop) (H : Hp) (K : Bool → Hp → Prop) : Prop := nodeM P0 T0 compasslaw10_ints.A compasslaw10_ints.code [1, 1, 0, 1, 0, 0] [X1] (compasslaw10_ints.rq E K) (compasslaw10_ints.f1 a0p a0n a0c bb1p bb1n bb1c t12 t13) H
theorem compasslaw10_ints.l1_rule { E : Value → Hp → Prop} {K : Bool → Hp → Prop} (I : (Option Addr) → Nat → Nat → (Option Addr) → Nat → Nat → Int → Int → Hp → Prop) (μ : (Option Addr) → Nat → Nat → (Option Addr) → Nat → Nat → Int → Int → Hp → Nat)
    (h : ∀ a0p a0n a0c bb1p bb1n bb1c t12 t13 H, I a0p a0n a0c bb1p bb1n bb1c t12 t13 H → ∀ X : Fr → Hp → Prop, (∀ a0p' a0n' a0c' bb1p' bb1n' bb1c' t12' t13' H', I a0p' a0n' a0c' bb1p' bb1n' bb1c' t12' t13' H' → μ a0p' a0n' a0c' bb1p' bb1n' bb1c' t12' t13' H' < μ a0p a0n a0c bb1p bb1n bb1c t12 t13 H → X (compasslaw10_ints.f1 a0p' a0n' a0c' bb1p' bb1n' bb1c' t12' t13') H') → compasslaw10_ints.b1 a0p a0n a0c bb1p bb1n bb1c t12 t13  X E H K)
    {a0p : Option Addr} {a0n : Nat} {a0c : Nat} {bb1p : Option Addr} {bb1n : Nat} {bb1c : Nat} {t12 : Int} {t13 : Int} {H : Hp} (hI : I a0p a0n a0c bb1p bb1n bb1c t12 t13 H) : compasslaw10_ints.l1 a0p a0n a0c bb1p bb1n bb1c t12 t13  E H K :=
  loop_rule (S := (Option Addr) × Nat × Nat × (Option Addr) × Nat × Nat × Int × Int) (fun s => compasslaw10_ints.f1 (s.1) (s.2.1) (s.2.2.1) (s.2.2.2.1) (s.2.2.2.2.1) (s.2.2.2.2.2.1) (s.2.2.2.2.2.2.1) (s.2.2.2.2.2.2.2)) (fun s H => I (s.1) (s.2.1) (s.2.2.1) (s.2.2.2.1) (s.2.2.2.2.1) (s.2.2.2.2.2.1) (s.2.2.2.2.2.2.1) (s.2.2.2.2.2.2.2) H) (fun s H => μ (s.1) (s.2.1) (s.2.2.1) (s.2.2.2.1) (s.2.2.2.2.1) (s.2.2.2.2.2.1) (s.2.2.2.2.2.2.1) (s.2.2.2.2.2.2.2) H) (fun s H hI X hX => h (s.1) (s.2.1) (s.2.2.1) (s.2.2.2.1) (s.2.2.2.2.1) (s.2.2.2.2.2.1) (s.2.2.2.2.2.2.1) (s.2.2.2.2.2.2.2) H hI X fun a0p' a0n' a0c' bb1p' bb1n' bb1c' t12' t13' H' hI' hlt => hX (a0p', a0n', a0c', bb1p', bb1n', bb1c', t12', t13') H' hI' hlt) (s := (a0p, a0n, a0c, bb1p, bb1n, bb1c, t12, t13)) rfl hI
theorem compasslaw10_ints.nok : nodesOk compasslaw10_ints.code [[0, 1, 0, 1, 1]] = true := by kernel_rfl
def compasslaw10_ints.run_t (l1 : (Option Addr) → Nat → Nat → (Option Addr) → Nat → Nat → Int → Int → Hp → Prop) (a0p : Option Addr) (a0n : Nat) (a0c : Nat) (bb1p : Option Addr) (bb1n : Nat) (bb1c : Nat)  (E : Value → Hp → Prop) (H : Hp) (K : Bool → Hp → Prop) : Prop :=
  bcase (!decide (((a0n : Int) : Int) = (bb1n : Int))) (
  K false H)
  (l1 a0p a0n a0c bb1p bb1n bb1c (a0n : Int) 0 H)
theorem compasslaw10_ints.run_eq {a0p : Option Addr} {a0n : Nat} {a0c : Nat} {bb1p : Option Addr} {bb1n : Nat} {bb1c : Nat} { E : Value → Hp → Prop} {H : Hp} {K : Bool → Hp → Prop} (h : compasslaw10_ints.run_t (fun a0p a0n a0c bb1p bb1n bb1c t12 t13 H => compasslaw10_ints.l1 a0p a0n a0c bb1p bb1n bb1c t12 t13  E H K) a0p a0n a0c bb1p bb1n bb1c  E H K) : compasslaw10_ints.run a0p a0n a0c bb1p bb1n bb1c  E H K := by
  exact nodeR_imp2 (fun G => compasslaw10_ints.run_t (fun a0p a0n a0c bb1p bb1n bb1c t12 t13 H => G [0, 1, 0, 1, 1] [(0, .slice a0p a0n a0c), (1, .slice bb1p bb1n bb1c), (12, .int .i64 t12), (13, .int .i64 t13)] H) a0p a0n a0c bb1p bb1n bb1c  E H K) compasslaw10_ints.nok rfl (fun G => by kernel_rfl) (Eq.mp (by kernel_rfl) h)
def compasslaw10_ints.b1_t  (a0p : Option Addr) (a0n : Nat) (a0c : Nat) (bb1p : Option Addr) (bb1n : Nat) (bb1c : Nat) (t12 : Int) (t13 : Int) (X1 : Fr → Hp → Prop) (E : Value → Hp → Prop) (H : Hp) (K : Bool → Hp → Prop) : Prop :=
  bcase (decide ((t13 : Int) < t12)) (
  ix a0p a0n t13 1 fun b_1 o_1 =>
  ldI .i64 (H.get b_1 o_1) fun x_1 =>
  ix bb1p bb1n t13 1 fun b_2 o_2 =>
  ldI .i64 (H.get b_2 o_2) fun x_2 =>
  bcase (!decide ((x_1 : Int) = x_2)) (
  K false H)
  (X1 (compasslaw10_ints.f1 a0p a0n a0c bb1p bb1n bb1c t12 (IntKind.wrap .i64 (t13 + 1))) H))
  (K true H)
theorem compasslaw10_ints.b1_eq {a0p : Option Addr} {a0n : Nat} {a0c : Nat} {bb1p : Option Addr} {bb1n : Nat} {bb1c : Nat} {t12 : Int} {t13 : Int} {X1 : Fr → Hp → Prop} { E : Value → Hp → Prop} {H : Hp} {K : Bool → Hp → Prop} (h : compasslaw10_ints.b1_t  a0p a0n a0c bb1p bb1n bb1c t12 t13 X1 E H K) : compasslaw10_ints.b1 a0p a0n a0c bb1p bb1n bb1c t12 t13 X1 E H K := by
  exact nodeR_imp2 (fun _ => compasslaw10_ints.b1_t  a0p a0n a0c bb1p bb1n bb1c t12 t13 X1 E H K) compasslaw10_ints.nok rfl (fun G => by kernel_rfl) h
end Go.Mz
