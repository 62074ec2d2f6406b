/-
  The shallow texts of functions (Reb), each with a kernel-checked equation to the translated code. It proves nothing of the program by itself.
-/
import Derived.Test.YtmaeboaopebaiaaTab
set_option linter.unusedVariables false
set_option maxRecDepth 100000
namespace Go.Mz
/-! ### compass/compassref12.Covered (28) -/
/-! ### compass/compassref12.Covers (58) -/
/-! ### compass/compassref12.Has (78) -/
noncomputable def compassref12_Has.A : An := { live := [(0, [0, 1]), (1, [0, 1]), (2, [0, 1, 5]), (3, [0, 1, 5]), (4, [0, 1, 5]), (5, []), (6, [])], ord := [], stb := [], pre := [] }
noncomputable def compassref12_Has.code : Code := bodyOf Go.Proofs.Try.f78
theorem compassref12_Has.ok : okCode compassref12_Has.A 18 compassref12_Has.code = true := by kernel_rfl
def compassref12_Has.rq (E : Value → Hp → Prop) (K : Bool → Hp → Prop) : Ex → Fr → Hp → Prop := retQ T0 [.tmp 4] [4] (fun r H => ldR (.one false [.bool]) r fun u => K (asB u) H) E
def compassref12_Has.run (list0p : Option Addr) (list0n : Nat) (list0c : Nat) (x1 : Int) (E : Value → Hp → Prop) (H : Hp) (K : Bool → Hp → Prop) : Prop := nodeM P0 T0 compassref12_Has.A compassref12_Has.code [] [] (compassref12_Has.rq E K) (argF 0 [.slice list0p list0n list0c, .int .i64 x1]) H
theorem compassref12_Has.of {list0p : Option Addr} {list0n : Nat} {list0c : Nat} {x1 : Int} {E : Value → Hp → Prop} {H : Hp} {K : Bool → Hp → Prop} (h : compassref12_Has.run list0p list0n list0c x1 E H K) : compassref12_Has.call list0p list0n list0c x1 E H K :=
  callW_of T0_ok P0_mixed (A := compassref12_Has.A) (fn := Go.Proofs.Try.f78) Go.Proofs.Try.func78 rfl compassref12_Has.ok rfl h
noncomputable def compassref12_Has.f1 (list0p : Option Addr) (list0n : Nat) (list0c : Nat) (x1 : Int) (i5 : Int) : Fr := [(0, .slice list0p list0n list0c), (1, .int .i64 x1), (5, .int .i64 i5)]
def compassref12_Has.l1 (list0p : Option Addr) (list0n : Nat) (list0c : Nat) (x1 : Int) (i5 : Int)  (E : Value → Hp → Prop) (H : Hp) (K : Bool → Hp → Prop) : Prop := nodeM P0 T0 compassref12_Has.A compassref12_Has.code [1, 0, 1, 0] [] (compassref12_Has.rq E K) (compassref12_Has.f1 list0p list0n list0c x1 i5) H
def compassref12_Has.b1 (list0p : Option Addr) (list0n : Nat) (list0c : Nat) (x1 : Int) (i5 : Int)  (X1 : Fr → Hp → Prop) (E : Value → Hp → Prop) (H : Hp) (K : Bool → Hp → Prop) : Prop := nodeM P0 T0 compassref12_Has.A compassref12_Has.code [1, 0, 1, 0, 0] [X1] (compassref12_Has.rq E K) (compassref12_Has.f1 list0p list0n list0c x1 i5) H
theorem compassref12_Has.l1_rule { E : Value → Hp → Prop} {K : Bool → Hp → Prop} (I : (Option Addr) → Nat → Nat → Int → Int → Hp → Prop) (μ : (Option Addr) → Nat → Nat → Int → Int → Hp → Nat)
    (h : ∀ list0p list0n list0c x1 i5 H, I list0p list0n list0c x1 i5 H → ∀ X : Fr → Hp → Prop, (∀ list0p' list0n' list0c' x1' i5' H', I list0p' list0n' list0c' x1' i5' H' → μ list0p' list0n' list0c' x1' i5' H' < μ list0p list0n list0c x1 i5 H → X (compassref12_Has.f1 list0p' list0n' list0c' x1' i5') H') → compassref12_Has.b1 list0p list0n list0c x1 i5  X E H K)
    {list0p : Option Addr} {list0n : Nat} {list0c : Nat} {x1 : Int} {i5 : Int} {H : Hp} (hI : I list0p list0n list0c x1 i5 H) : compassref12_Has.l1 list0p list0n list0c x1 i5  E H K :=
  loop_rule (S := (Option Addr) × Nat × Nat × Int × Int) (fun s => compassref12_Has.f1 (s.1) (s.2.1) (s.2.2.1) (s.2.2.2.1) (s.2.2.2.2)) (fun s H => I (s.1) (s.2.1) (s.2.2.1) (s.2.2.2.1) (s.2.2.2.2) H) (fun s H => μ (s.1) (s.2.1) (s.2.2.1) (s.2.2.2.1) (s.2.2.2.2) H) (fun s H hI X hX => h (s.1) (s.2.1) (s.2.2.1) (s.2.2.2.1) (s.2.2.2.2) H hI X fun list0p' list0n' list0c' x1' i5' H' hI' hlt => hX (list0p', list0n', list0c', x1', i5') H' hI' hlt) (s := (list0p, list0n, list0c, x1, i5)) rfl hI
theorem compassref12_Has.nok : nodesOk compassref12_Has.code [[0, 1, 0, 1]] = true := by kernel_rfl
def compassref12_Has.run_t (l1 : (Option Addr) → Nat → Nat → Int → Int → Hp → Prop) (list0p : Option Addr) (list0n : Nat) (list0c : Nat) (x1 : Int)  (E : Value → Hp → Prop) (H : Hp) (K : Bool → Hp → Prop) : Prop :=
  l1 list0p list0n list0c x1 0 H
theorem compassref12_Has.run_eq {list0p : Option Addr} {list0n : Nat} {list0c : Nat} {x1 : Int} { E : Value → Hp → Prop} {H : Hp} {K : Bool → Hp → Prop} (h : compassref12_Has.run_t (fun list0p list0n list0c x1 i5 H => compassref12_Has.l1 list0p list0n list0c x1 i5  E H K) list0p list0n list0c x1  E H K) : compassref12_Has.run list0p list0n list0c x1  E H K := by
  have k1 : ∀ G : List Nat → Fr → Hp → Prop, nodeR P0 T0 compassref12_Has.A [[0, 1, 0, 1]] G compassref12_Has.code [] [] (compassref12_Has.rq E K) (argF 0 [.slice list0p list0n list0c, .int .i64 x1]) H = compassref12_Has.run_t (fun list0p list0n list0c x1 i5 H => G [0, 1, 0, 1] [(0, .slice list0p list0n list0c), (1, .int .i64 x1), (5, .int .i64 i5)] H) list0p list0n list0c x1  E H K := fun G => by kernel_rfl
  have k2 : compassref12_Has.run_t (fun list0p list0n list0c x1 i5 H => compassref12_Has.l1 list0p list0n list0c x1 i5  E H K) list0p list0n list0c x1  E H K = compassref12_Has.run_t (fun list0p list0n list0c x1 i5 H => (fun q F H => nodeM P0 T0 compassref12_Has.A compassref12_Has.code q.reverse [] (compassref12_Has.rq E K) F H) [0, 1, 0, 1] [(0, .slice list0p list0n list0c), (1, .int .i64 x1), (5, .int .i64 i5)] H) list0p list0n list0c x1  E H K := by kernel_rfl
  exact nodeR_imp compassref12_Has.nok rfl ((k1 _).mpr (k2.mp h))
def compassref12_Has.b1_t  (list0p : Option Addr) (list0n : Nat) (list0c : Nat) (x1 : Int) (i5 : Int) (X1 : Fr → Hp → Prop) (E : Value → Hp → Prop) (H : Hp) (K : Bool → Hp → Prop) : Prop :=
  bcase (decide ((i5 : Int) < (list0n : Int))) (
  ix list0p list0n i5 1 fun b_1 o_1 =>
  ldI .i64 (H.get b_1 o_1) fun x_1 =>
  bcase (decide ((x_1 : Int) = x1)) (
  K true H)
  (X1 (compassref12_Has.f1 list0p list0n list0c x1 (IntKind.wrap .i64 (i5 + 1))) H))
  (K false H)
theorem compassref12_Has.b1_eq {list0p : Option Addr} {list0n : Nat} {list0c : Nat} {x1 : Int} {i5 : Int} {X1 : Fr → Hp → Prop} { E : Value → Hp → Prop} {H : Hp} {K : Bool → Hp → Prop} (h : compassref12_Has.b1_t  list0p list0n list0c x1 i5 X1 E H K) : compassref12_Has.b1 list0p list0n list0c x1 i5 X1 E H K := by
  have k1 : ∀ G : List Nat → Fr → Hp → Prop, nodeR P0 T0 compassref12_Has.A [[0, 1, 0, 1]] G compassref12_Has.code [1, 0, 1, 0, 0] [X1] (compassref12_Has.rq E K) (compassref12_Has.f1 list0p list0n list0c x1 i5) H = compassref12_Has.b1_t  list0p list0n list0c x1 i5 X1 E H K := fun G => by kernel_rfl
  exact nodeR_imp compassref12_Has.nok rfl ((k1 _).mpr h)
end Go.Mz
