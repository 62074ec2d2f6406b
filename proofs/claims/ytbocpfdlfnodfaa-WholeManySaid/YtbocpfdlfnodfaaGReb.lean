/-
  The shallow texts of functions (Reb), each with a kernel-checked equation to the translated code. It proves nothing of the program by itself.
-/
import Derived.Test.YtbocpfdlfnodfaaTab
set_option linter.unusedVariables false
set_option maxRecDepth 100000
namespace Go.Mz
/-! ### compass/compassref12.Has (20) -/
noncomputable def compassref12_Has.A : An := { live := [(0, [0, 1]), (1, [0, 1]), (2, [0, 1, 5]), (3, [0, 1, 5]), (4, [0, 1, 5]), (5, []), (6, [])], ord := [], stb := [], pre := [] }
noncomputable def compassref12_Has.code : Code := bodyOf Go.Proofs.Try.f20
theorem compassref12_Has.ok : okCode compassref12_Has.A 18 compassref12_Has.code = true := by kernel_rfl
def compassref12_Has.rq (E : Value → Hp → Prop) (K : Bool → Hp → Prop) : Ex → Fr → Hp → Prop := retQ T0 [.tmp 4] [4] (fun r H => ldR (.one false [.bool]) r fun u => K (asB u) H) E
def compassref12_Has.run (li0p : Option Addr) (li0n : Nat) (li0c : Nat) (x1 : Int) (E : Value → Hp → Prop) (H : Hp) (K : Bool → Hp → Prop) : Prop := nodeM P0 T0 compassref12_Has.A compassref12_Has.code [] [] (compassref12_Has.rq E K) (argF 0 [.slice li0p li0n li0c, .int .i64 x1]) H
theorem compassref12_Has.of {li0p : Option Addr} {li0n : Nat} {li0c : Nat} {x1 : Int} {E : Value → Hp → Prop} {H : Hp} {K : Bool → Hp → Prop} (h : compassref12_Has.run li0p li0n li0c x1 E H K) : compassref12_Has.call li0p li0n li0c x1 E H K :=
  callW_of T0_ok P0_mixed (A := compassref12_Has.A) (fn := Go.Proofs.Try.f20) Go.Proofs.Try.func20 rfl compassref12_Has.ok rfl h
noncomputable def compassref12_Has.f1 (li0p : Option Addr) (li0n : Nat) (li0c : Nat) (x1 : Int) (i5 : Int) : Fr := [(0, .slice li0p li0n li0c), (1, .int .i64 x1), (5, .int .i64 i5)]
def compassref12_Has.l1 (li0p : Option Addr) (li0n : Nat) (li0c : Nat) (x1 : Int) (i5 : Int)  (E : Value → Hp → Prop) (H : Hp) (K : Bool → Hp → Prop) : Prop := nodeM P0 T0 compassref12_Has.A compassref12_Has.code [1, 0, 1, 0] [] (compassref12_Has.rq E K) (compassref12_Has.f1 li0p li0n li0c x1 i5) H
def compassref12_Has.b1 (li0p : Option Addr) (li0n : Nat) (li0c : Nat) (x1 : Int) (i5 : Int)  (X1 : Fr → Hp → Prop) (E : Value → Hp → Prop) (H : Hp) (K : Bool → Hp → Prop) : Prop := nodeM P0 T0 compassref12_Has.A compassref12_Has.code [1, 0, 1, 0, 0] [X1] (compassref12_Has.rq E K) (compassref12_Has.f1 li0p li0n li0c x1 i5) H
theorem compassref12_Has.l1_rule { E : Value → Hp → Prop} {K : Bool → Hp → Prop} (I : (Option Addr) → Nat → Nat → Int → Int → Hp → Prop) (μ : (Option Addr) → Nat → Nat → Int → Int → Hp → Nat)
    (h : ∀ li0p li0n li0c x1 i5 H, I li0p li0n li0c x1 i5 H → ∀ X : Fr → Hp → Prop, (∀ li0p' li0n' li0c' x1' i5' H', I li0p' li0n' li0c' x1' i5' H' → μ li0p' li0n' li0c' x1' i5' H' < μ li0p li0n li0c x1 i5 H → X (compassref12_Has.f1 li0p' li0n' li0c' x1' i5') H') → compassref12_Has.b1 li0p li0n li0c x1 i5  X E H K)
    {li0p : Option Addr} {li0n : Nat} {li0c : Nat} {x1 : Int} {i5 : Int} {H : Hp} (hI : I li0p li0n li0c x1 i5 H) : compassref12_Has.l1 li0p li0n li0c x1 i5  E H K :=
  loop_rule (S := (Option Addr) × Nat × Nat × Int × Int) (fun s => compassref12_Has.f1 (s.1) (s.2.1) (s.2.2.1) (s.2.2.2.1) (s.2.2.2.2)) (fun s H => I (s.1) (s.2.1) (s.2.2.1) (s.2.2.2.1) (s.2.2.2.2) H) (fun s H => μ (s.1) (s.2.1) (s.2.2.1) (s.2.2.2.1) (s.2.2.2.2) H) (fun s H hI X hX => h (s.1) (s.2.1) (s.2.2.1) (s.2.2.2.1) (s.2.2.2.2) H hI X fun li0p' li0n' li0c' x1' i5' H' hI' hlt => hX (li0p', li0n', li0c', x1', i5') H' hI' hlt) (s := (li0p, li0n, li0c, x1, i5)) rfl hI
theorem compassref12_Has.nok : nodesOk compassref12_Has.code [[0, 1, 0, 1]] = true := by kernel_rfl
def compassref12_Has.run_t (l1 : (Option Addr) → Nat → Nat → Int → Int → Hp → Prop) (li0p : Option Addr) (li0n : Nat) (li0c : Nat) (x1 : Int)  (E : Value → Hp → Prop) (H : Hp) (K : Bool → Hp → Prop) : Prop :=
  l1 li0p li0n li0c x1 0 H
theorem compassref12_Has.run_eq {li0p : Option Addr} {li0n : Nat} {li0c : Nat} {x1 : Int} { E : Value → Hp → Prop} {H : Hp} {K : Bool → Hp → Prop} (h : compassref12_Has.run_t (fun li0p li0n li0c x1 i5 H => compassref12_Has.l1 li0p li0n li0c x1 i5  E H K) li0p li0n li0c x1  E H K) : compassref12_Has.run li0p li0n li0c x1  E H K := by
  exact nodeR_imp2 (fun G => compassref12_Has.run_t (fun li0p li0n li0c x1 i5 H => G [0, 1, 0, 1] [(0, .slice li0p li0n li0c), (1, .int .i64 x1), (5, .int .i64 i5)] H) li0p li0n li0c x1  E H K) compassref12_Has.nok rfl (fun G => by kernel_rfl) (Eq.mp (by kernel_rfl) h)
def compassref12_Has.b1_t  (li0p : Option Addr) (li0n : Nat) (li0c : Nat) (x1 : Int) (i5 : Int) (X1 : Fr → Hp → Prop) (E : Value → Hp → Prop) (H : Hp) (K : Bool → Hp → Prop) : Prop :=
  bcase (decide ((i5 : Int) < (li0n : Int))) (
  ix li0p li0n i5 1 fun b_1 o_1 =>
  ldI .i64 (H.get b_1 o_1) fun x_1 =>
  bcase (decide ((x_1 : Int) = x1)) (
  K true H)
  (X1 (compassref12_Has.f1 li0p li0n li0c x1 (IntKind.wrap .i64 (i5 + 1))) H))
  (K false H)
theorem compassref12_Has.b1_eq {li0p : Option Addr} {li0n : Nat} {li0c : Nat} {x1 : Int} {i5 : Int} {X1 : Fr → Hp → Prop} { E : Value → Hp → Prop} {H : Hp} {K : Bool → Hp → Prop} (h : compassref12_Has.b1_t  li0p li0n li0c x1 i5 X1 E H K) : compassref12_Has.b1 li0p li0n li0c x1 i5 X1 E H K := by
  exact nodeR_imp2 (fun _ => compassref12_Has.b1_t  li0p li0n li0c x1 i5 X1 E H K) compassref12_Has.nok rfl (fun G => by kernel_rfl) h
end Go.Mz
