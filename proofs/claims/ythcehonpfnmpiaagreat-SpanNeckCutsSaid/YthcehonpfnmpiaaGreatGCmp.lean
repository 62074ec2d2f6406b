/-
  The shallow texts of functions (Cmp), each with a kernel-checked equation to the translated code. It proves nothing of the program by itself.
-/
import Derived.Test.YthcehonpfnmpiaaGreatTab
set_option linter.unusedVariables false
set_option maxRecDepth 100000
namespace Go.Mz
/-! ### cmp.Or[int] (44) -/
noncomputable def cmp_Or.A : An := { live := [(0, [0]), (1, [0]), (2, [0, 3]), (3, [3, 6, 7, 8]), (4, [3, 6, 7, 8]), (5, [3, 5, 6, 7, 8]), (6, [5]), (7, [3, 6, 7, 8]), (8, [3])], ord := [], stb := [], pre := [] }
noncomputable def cmp_Or.code : Code := bodyOf Go.Proofs.Tryz.f44
theorem cmp_Or.ok : okCode cmp_Or.A 18 cmp_Or.code = true := by kernel_rfl
def cmp_Or.rq (E : Value → Hp → Prop) (K : Int → Hp → Prop) : Ex → Fr → Hp → Prop := retQ T0 [.tmp 2] [3] (fun r H => ldR (.one false [.i .i64]) r fun u => K (asI u) H) E
def cmp_Or.run (va0p : Option Addr) (va0n : Nat) (va0c : Nat) (E : Value → Hp → Prop) (H : Hp) (K : Int → Hp → Prop) : Prop := nodeM P0 T0 cmp_Or.A cmp_Or.code [] [] (cmp_Or.rq E K) (argF 0 [.slice va0p va0n va0c]) H
theorem cmp_Or.of {va0p : Option Addr} {va0n : Nat} {va0c : Nat} {E : Value → Hp → Prop} {H : Hp} {K : Int → Hp → Prop} (h : cmp_Or.run va0p va0n va0c E H K) : cmp_Or.call va0p va0n va0c E H K :=
  callW_of T0_ok P0_mixed (A := cmp_Or.A) (fn := Go.Proofs.Tryz.f44) Go.Proofs.Tryz.func44 rfl cmp_Or.ok rfl h
noncomputable def cmp_Or.f1 (ze3 : Int) (t6p : Option Addr) (t6n : Nat) (t6c : Nat) (t7 : Int) (t8 : Int) : Fr := [(3, .int .i64 ze3), (6, .slice t6p t6n t6c), (7, .int .i64 t7), (8, .int .i64 t8)]
def cmp_Or.l1 (ze3 : Int) (t6p : Option Addr) (t6n : Nat) (t6c : Nat) (t7 : Int) (t8 : Int)  (E : Value → Hp → Prop) (H : Hp) (K : Int → Hp → Prop) : Prop := nodeM P0 T0 cmp_Or.A cmp_Or.code [1, 1, 0, 1, 0] [] (cmp_Or.rq E K) (cmp_Or.f1 ze3 t6p t6n t6c t7 t8) H
def cmp_Or.b1 (ze3 : Int) (t6p : Option Addr) (t6n : Nat) (t6c : Nat) (t7 : Int) (t8 : Int)  (X1 : Fr → Hp → Prop) (E : Value → Hp → Prop) (H : Hp) (K : Int → Hp → Prop) : Prop := nodeM P0 T0 cmp_Or.A cmp_Or.code [1, 1, 0, 1, 0, 0] [X1] (cmp_Or.rq E K) (cmp_Or.f1 ze3 t6p t6n t6c t7 t8) H
theorem cmp_Or.l1_rule { E : Value → Hp → Prop} {K : Int → Hp → Prop} (I : Int → (Option Addr) → Nat → Nat → Int → Int → Hp → Prop) (μ : Int → (Option Addr) → Nat → Nat → Int → Int → Hp → Nat)
    (h : ∀ ze3 t6p t6n t6c t7 t8 H, I ze3 t6p t6n t6c t7 t8 H → ∀ X : Fr → Hp → Prop, (∀ ze3' t6p' t6n' t6c' t7' t8' H', I ze3' t6p' t6n' t6c' t7' t8' H' → μ ze3' t6p' t6n' t6c' t7' t8' H' < μ ze3 t6p t6n t6c t7 t8 H → X (cmp_Or.f1 ze3' t6p' t6n' t6c' t7' t8') H') → cmp_Or.b1 ze3 t6p t6n t6c t7 t8  X E H K)
    {ze3 : Int} {t6p : Option Addr} {t6n : Nat} {t6c : Nat} {t7 : Int} {t8 : Int} {H : Hp} (hI : I ze3 t6p t6n t6c t7 t8 H) : cmp_Or.l1 ze3 t6p t6n t6c t7 t8  E H K :=
  loop_rule (S := Int × (Option Addr) × Nat × Nat × Int × Int) (fun s => cmp_Or.f1 (s.1) (s.2.1) (s.2.2.1) (s.2.2.2.1) (s.2.2.2.2.1) (s.2.2.2.2.2)) (fun s H => I (s.1) (s.2.1) (s.2.2.1) (s.2.2.2.1) (s.2.2.2.2.1) (s.2.2.2.2.2) H) (fun s H => μ (s.1) (s.2.1) (s.2.2.1) (s.2.2.2.1) (s.2.2.2.2.1) (s.2.2.2.2.2) H) (fun s H hI X hX => h (s.1) (s.2.1) (s.2.2.1) (s.2.2.2.1) (s.2.2.2.2.1) (s.2.2.2.2.2) H hI X fun ze3' t6p' t6n' t6c' t7' t8' H' hI' hlt => hX (ze3', t6p', t6n', t6c', t7', t8') H' hI' hlt) (s := (ze3, t6p, t6n, t6c, t7, t8)) rfl hI
theorem cmp_Or.nok : nodesOk cmp_Or.code [[0, 1, 0, 1, 1]] = true := by kernel_rfl
def cmp_Or.run_t (l1 : Int → (Option Addr) → Nat → Nat → Int → Int → Hp → Prop) (va0p : Option Addr) (va0n : Nat) (va0c : Nat)  (E : Value → Hp → Prop) (H : Hp) (K : Int → Hp → Prop) : Prop :=
  l1 0 va0p va0n va0c (va0n : Int) 0 H
theorem cmp_Or.run_eq {va0p : Option Addr} {va0n : Nat} {va0c : Nat} { E : Value → Hp → Prop} {H : Hp} {K : Int → Hp → Prop} (h : cmp_Or.run_t (fun ze3 t6p t6n t6c t7 t8 H => cmp_Or.l1 ze3 t6p t6n t6c t7 t8  E H K) va0p va0n va0c  E H K) : cmp_Or.run va0p va0n va0c  E H K := by
  exact nodeR_imp2 (fun G => cmp_Or.run_t (fun ze3 t6p t6n t6c t7 t8 H => G [0, 1, 0, 1, 1] [(3, .int .i64 ze3), (6, .slice t6p t6n t6c), (7, .int .i64 t7), (8, .int .i64 t8)] H) va0p va0n va0c  E H K) cmp_Or.nok rfl (fun G => by kernel_rfl) (Eq.mp (by kernel_rfl) h)
def cmp_Or.b1_t  (ze3 : Int) (t6p : Option Addr) (t6n : Nat) (t6c : Nat) (t7 : Int) (t8 : Int) (X1 : Fr → Hp → Prop) (E : Value → Hp → Prop) (H : Hp) (K : Int → Hp → Prop) : Prop :=
  bcase (decide ((t8 : Int) < t7)) (
  ix t6p t6n t8 1 fun b_1 o_1 =>
  ldI .i64 (H.get b_1 o_1) fun x_1 =>
  bcase (!decide ((x_1 : Int) = ze3)) (
  K x_1 H)
  (X1 (cmp_Or.f1 ze3 t6p t6n t6c t7 (IntKind.wrap .i64 (t8 + 1))) H))
  (K ze3 H)
theorem cmp_Or.b1_eq {ze3 : Int} {t6p : Option Addr} {t6n : Nat} {t6c : Nat} {t7 : Int} {t8 : Int} {X1 : Fr → Hp → Prop} { E : Value → Hp → Prop} {H : Hp} {K : Int → Hp → Prop} (h : cmp_Or.b1_t  ze3 t6p t6n t6c t7 t8 X1 E H K) : cmp_Or.b1 ze3 t6p t6n t6c t7 t8 X1 E H K := by
  exact nodeR_imp2 (fun _ => cmp_Or.b1_t  ze3 t6p t6n t6c t7 t8 X1 E H K) cmp_Or.nok rfl (fun G => by kernel_rfl) h
/-! ### cmp.Compare[int64] (45) -/
noncomputable def cmp_Compare.A : An := { live := [(0, [0, 1]), (1, [0, 1]), (2, [0, 1, 5]), (3, [0, 1, 5, 6]), (4, [6]), (5, []), (6, []), (7, [0, 1, 6]), (8, []), (9, [0, 1]), (10, []), (11, [0, 1]), (12, []), (13, [])], ord := [], stb := [], pre := [] }
noncomputable def cmp_Compare.code : Code := bodyOf Go.Proofs.Tryz.f45
theorem cmp_Compare.ok : okCode cmp_Compare.A 20 cmp_Compare.code = true := by kernel_rfl
def cmp_Compare.rq (E : Value → Hp → Prop) (K : Int → Hp → Prop) : Ex → Fr → Hp → Prop := retQ T0 [.tmp 4] [3] (fun r H => ldR (.one false [.i .i64]) r fun u => K (asI u) H) E
def cmp_Compare.run (x0 : Int) (y1 : Int) (E : Value → Hp → Prop) (H : Hp) (K : Int → Hp → Prop) : Prop := nodeM P0 T0 cmp_Compare.A cmp_Compare.code [] [] (cmp_Compare.rq E K) (argF 0 [.int .i64 x0, .int .i64 y1]) H
theorem cmp_Compare.of {x0 : Int} {y1 : Int} {E : Value → Hp → Prop} {H : Hp} {K : Int → Hp → Prop} (h : cmp_Compare.run x0 y1 E H K) : cmp_Compare.call x0 y1 E H K :=
  callW_of T0_ok P0_mixed (A := cmp_Compare.A) (fn := Go.Proofs.Tryz.f45) Go.Proofs.Tryz.func45 rfl cmp_Compare.ok rfl h
theorem cmp_Compare.nok : nodesOk cmp_Compare.code [] = true := by kernel_rfl
def cmp_Compare.run_t  (x0 : Int) (y1 : Int)  (E : Value → Hp → Prop) (H : Hp) (K : Int → Hp → Prop) : Prop :=
  cmp_isNaN.call x0 E H fun r_1 H_1 =>
  cmp_isNaN.call y1 E H_1 fun r_2 H_2 =>
  bcase (r_1) (
  bcase (r_2) (
  K 0 H_2)
  (K (-1) H_2))
  (bcase (r_2) (
  K 1 H_2)
  (bcase (decide ((x0 : Int) < y1)) (
  K (-1) H_2)
  (bcase (decide ((y1 : Int) < x0)) (
  K 1 H_2)
  (K 0 H_2))))
theorem cmp_Compare.run_eq {x0 : Int} {y1 : Int} { E : Value → Hp → Prop} {H : Hp} {K : Int → Hp → Prop} (h : cmp_Compare.run_t  x0 y1  E H K) : cmp_Compare.run x0 y1  E H K := by
  exact nodeR_imp2 (fun _ => cmp_Compare.run_t  x0 y1  E H K) cmp_Compare.nok rfl (fun G => by kernel_rfl) h
/-! ### cmp.Compare[int] (46) -/
noncomputable def cmp_Compare_int.A : An := { live := [(0, [0, 1]), (1, [0, 1]), (2, [0, 1, 5]), (3, [0, 1, 5, 6]), (4, [6]), (5, []), (6, []), (7, [0, 1, 6]), (8, []), (9, [0, 1]), (10, []), (11, [0, 1]), (12, []), (13, [])], ord := [], stb := [], pre := [] }
noncomputable def cmp_Compare_int.code : Code := bodyOf Go.Proofs.Tryz.f46
theorem cmp_Compare_int.ok : okCode cmp_Compare_int.A 20 cmp_Compare_int.code = true := by kernel_rfl
def cmp_Compare_int.rq (E : Value → Hp → Prop) (K : Int → Hp → Prop) : Ex → Fr → Hp → Prop := retQ T0 [.tmp 4] [3] (fun r H => ldR (.one false [.i .i64]) r fun u => K (asI u) H) E
def cmp_Compare_int.run (x0 : Int) (y1 : Int) (E : Value → Hp → Prop) (H : Hp) (K : Int → Hp → Prop) : Prop := nodeM P0 T0 cmp_Compare_int.A cmp_Compare_int.code [] [] (cmp_Compare_int.rq E K) (argF 0 [.int .i64 x0, .int .i64 y1]) H
theorem cmp_Compare_int.of {x0 : Int} {y1 : Int} {E : Value → Hp → Prop} {H : Hp} {K : Int → Hp → Prop} (h : cmp_Compare_int.run x0 y1 E H K) : cmp_Compare_int.call x0 y1 E H K :=
  callW_of T0_ok P0_mixed (A := cmp_Compare_int.A) (fn := Go.Proofs.Tryz.f46) Go.Proofs.Tryz.func46 rfl cmp_Compare_int.ok rfl h
theorem cmp_Compare_int.nok : nodesOk cmp_Compare_int.code [] = true := by kernel_rfl
def cmp_Compare_int.run_t  (x0 : Int) (y1 : Int)  (E : Value → Hp → Prop) (H : Hp) (K : Int → Hp → Prop) : Prop :=
  cmp_isNaN_int.call x0 E H fun r_1 H_1 =>
  cmp_isNaN_int.call y1 E H_1 fun r_2 H_2 =>
  bcase (r_1) (
  bcase (r_2) (
  K 0 H_2)
  (K (-1) H_2))
  (bcase (r_2) (
  K 1 H_2)
  (bcase (decide ((x0 : Int) < y1)) (
  K (-1) H_2)
  (bcase (decide ((y1 : Int) < x0)) (
  K 1 H_2)
  (K 0 H_2))))
theorem cmp_Compare_int.run_eq {x0 : Int} {y1 : Int} { E : Value → Hp → Prop} {H : Hp} {K : Int → Hp → Prop} (h : cmp_Compare_int.run_t  x0 y1  E H K) : cmp_Compare_int.run x0 y1  E H K := by
  exact nodeR_imp2 (fun _ => cmp_Compare_int.run_t  x0 y1  E H K) cmp_Compare_int.nok rfl (fun G => by kernel_rfl) h
/-! ### cmp.Less[int] (59) -/
/-! ### cmp.isNaN[int64] (72) -/
noncomputable def cmp_isNaN.A : An := { live := [(0, [0]), (1, [0])], ord := [], stb := [], pre := [] }
noncomputable def cmp_isNaN.code : Code := bodyOf Go.Proofs.Tryz.f72
theorem cmp_isNaN.ok : okCode cmp_isNaN.A 6 cmp_isNaN.code = true := by kernel_rfl
def cmp_isNaN.rq (E : Value → Hp → Prop) (K : Bool → Hp → Prop) : Ex → Fr → Hp → Prop := retQ T0 [.tmp 2] [4] (fun r H => ldR (.one false [.bool]) r fun u => K (asB u) H) E
def cmp_isNaN.run (x0 : Int) (E : Value → Hp → Prop) (H : Hp) (K : Bool → Hp → Prop) : Prop := nodeM P0 T0 cmp_isNaN.A cmp_isNaN.code [] [] (cmp_isNaN.rq E K) (argF 0 [.int .i64 x0]) H
theorem cmp_isNaN.of {x0 : Int} {E : Value → Hp → Prop} {H : Hp} {K : Bool → Hp → Prop} (h : cmp_isNaN.run x0 E H K) : cmp_isNaN.call x0 E H K :=
  callW_of T0_ok P0_mixed (A := cmp_isNaN.A) (fn := Go.Proofs.Tryz.f72) Go.Proofs.Tryz.func72 rfl cmp_isNaN.ok rfl h
theorem cmp_isNaN.nok : nodesOk cmp_isNaN.code [] = true := by kernel_rfl
def cmp_isNaN.run_t  (x0 : Int)  (E : Value → Hp → Prop) (H : Hp) (K : Bool → Hp → Prop) : Prop :=
  K (!decide ((x0 : Int) = x0)) H
theorem cmp_isNaN.run_eq {x0 : Int} { E : Value → Hp → Prop} {H : Hp} {K : Bool → Hp → Prop} (h : cmp_isNaN.run_t  x0  E H K) : cmp_isNaN.run x0  E H K := by
  exact nodeR_imp2 (fun _ => cmp_isNaN.run_t  x0  E H K) cmp_isNaN.nok rfl (fun G => by kernel_rfl) h
/-! ### cmp.isNaN[int] (73) -/
noncomputable def cmp_isNaN_int.A : An := { live := [(0, [0]), (1, [0])], ord := [], stb := [], pre := [] }
noncomputable def cmp_isNaN_int.code : Code := bodyOf Go.Proofs.Tryz.f73
theorem cmp_isNaN_int.ok : okCode cmp_isNaN_int.A 6 cmp_isNaN_int.code = true := by kernel_rfl
def cmp_isNaN_int.rq (E : Value → Hp → Prop) (K : Bool → Hp → Prop) : Ex → Fr → Hp → Prop := retQ T0 [.tmp 2] [4] (fun r H => ldR (.one false [.bool]) r fun u => K (asB u) H) E
def cmp_isNaN_int.run (x0 : Int) (E : Value → Hp → Prop) (H : Hp) (K : Bool → Hp → Prop) : Prop := nodeM P0 T0 cmp_isNaN_int.A cmp_isNaN_int.code [] [] (cmp_isNaN_int.rq E K) (argF 0 [.int .i64 x0]) H
theorem cmp_isNaN_int.of {x0 : Int} {E : Value → Hp → Prop} {H : Hp} {K : Bool → Hp → Prop} (h : cmp_isNaN_int.run x0 E H K) : cmp_isNaN_int.call x0 E H K :=
  callW_of T0_ok P0_mixed (A := cmp_isNaN_int.A) (fn := Go.Proofs.Tryz.f73) Go.Proofs.Tryz.func73 rfl cmp_isNaN_int.ok rfl h
theorem cmp_isNaN_int.nok : nodesOk cmp_isNaN_int.code [] = true := by kernel_rfl
def cmp_isNaN_int.run_t  (x0 : Int)  (E : Value → Hp → Prop) (H : Hp) (K : Bool → Hp → Prop) : Prop :=
  K (!decide ((x0 : Int) = x0)) H
theorem cmp_isNaN_int.run_eq {x0 : Int} { E : Value → Hp → Prop} {H : Hp} {K : Bool → Hp → Prop} (h : cmp_isNaN_int.run_t  x0  E H K) : cmp_isNaN_int.run x0  E H K := by
  exact nodeR_imp2 (fun _ => cmp_isNaN_int.run_t  x0  E H K) cmp_isNaN_int.nok rfl (fun G => by kernel_rfl) h
end Go.Mz
