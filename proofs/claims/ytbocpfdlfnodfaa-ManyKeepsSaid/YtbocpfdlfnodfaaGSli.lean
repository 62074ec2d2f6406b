/-
  The shallow texts of functions (Sli), each with a kernel-checked equation to the translated code. It proves nothing of the program by itself.
-/
import Derived.Test.YtbocpfdlfnodfaaTab
set_option linter.unusedVariables false
set_option maxRecDepth 100000
namespace Go.Mz
/-! ### slices.ContainsFunc[[]int,int] (45) -/
noncomputable def slices_ContainsFunc.A : An := { live := [(0, [0, 1]), (1, [0, 1])], ord := [], stb := [], pre := [] }
noncomputable def slices_ContainsFunc.code : Code := bodyOf Go.Proofs.Try.f45
theorem slices_ContainsFunc.ok : okCode slices_ContainsFunc.A 9 slices_ContainsFunc.code = true := by kernel_rfl
def slices_ContainsFunc.rq (E : Value → Hp → Prop) (K : Bool → Hp → Prop) : Ex → Fr → Hp → Prop := retQ T0 [.tmp 4] [4] (fun r H => ldR (.one false [.bool]) r fun u => K (asB u) H) E
def slices_ContainsFunc.run (s0p : Option Addr) (s0n : Nat) (s0c : Nat) (f1g : Nat) (f1k : List Value) (E : Value → Hp → Prop) (H : Hp) (K : Bool → Hp → Prop) : Prop := nodeM P0 T0 slices_ContainsFunc.A slices_ContainsFunc.code [] [] (slices_ContainsFunc.rq E K) (argF 0 [.slice s0p s0n s0c, .func (.func f1g) ⟨[]⟩ ⟨f1k⟩]) H
theorem slices_ContainsFunc.of {s0p : Option Addr} {s0n : Nat} {s0c : Nat} {f1g : Nat} {f1k : List Value} {E : Value → Hp → Prop} {H : Hp} {K : Bool → Hp → Prop} (h : slices_ContainsFunc.run s0p s0n s0c f1g f1k E H K) : slices_ContainsFunc.call s0p s0n s0c f1g f1k E H K :=
  callW_of T0_ok P0_mixed (A := slices_ContainsFunc.A) (fn := Go.Proofs.Try.f45) Go.Proofs.Try.func45 rfl slices_ContainsFunc.ok rfl h
theorem slices_ContainsFunc.nok : nodesOk slices_ContainsFunc.code [] = true := by kernel_rfl
def slices_ContainsFunc.run_t  (s0p : Option Addr) (s0n : Nat) (s0c : Nat) (f1g : Nat) (f1k : List Value)  (E : Value → Hp → Prop) (H : Hp) (K : Bool → Hp → Prop) : Prop :=
  slices_IndexFunc.call s0p s0n s0c f1g f1k E H fun r_1 H_1 =>
  K (decide ((0 : Int) ≤ r_1)) H_1
theorem slices_ContainsFunc.run_eq {s0p : Option Addr} {s0n : Nat} {s0c : Nat} {f1g : Nat} {f1k : List Value} { E : Value → Hp → Prop} {H : Hp} {K : Bool → Hp → Prop} (h : slices_ContainsFunc.run_t  s0p s0n s0c f1g f1k  E H K) : slices_ContainsFunc.run s0p s0n s0c f1g f1k  E H K := by
  exact nodeR_imp2 (fun _ => slices_ContainsFunc.run_t  s0p s0n s0c f1g f1k  E H K) slices_ContainsFunc.nok rfl (fun G => by kernel_rfl) h
/-! ### slices.IndexFunc[[]int,int] (58) -/
noncomputable def slices_IndexFunc.A : An := { live := [(0, [0, 1]), (1, [0, 1]), (2, [0, 1, 7, 8]), (3, [0, 1, 7, 8]), (4, [0, 1, 5, 7, 8]), (5, [5]), (6, [0, 1, 7, 8]), (7, [])], ord := [], stb := [], pre := [] }
noncomputable def slices_IndexFunc.code : Code := bodyOf Go.Proofs.Try.f58
theorem slices_IndexFunc.ok : okCode slices_IndexFunc.A 19 slices_IndexFunc.code = true := by kernel_rfl
def slices_IndexFunc.rq (E : Value → Hp → Prop) (K : Int → Hp → Prop) : Ex → Fr → Hp → Prop := retQ T0 [.tmp 4] [3] (fun r H => ldR (.one false [.i .i64]) r fun u => K (asI u) H) E
def slices_IndexFunc.run (s0p : Option Addr) (s0n : Nat) (s0c : Nat) (f1g : Nat) (f1k : List Value) (E : Value → Hp → Prop) (H : Hp) (K : Int → Hp → Prop) : Prop := nodeM P0 T0 slices_IndexFunc.A slices_IndexFunc.code [] [] (slices_IndexFunc.rq E K) (argF 0 [.slice s0p s0n s0c, .func (.func f1g) ⟨[]⟩ ⟨f1k⟩]) H
theorem slices_IndexFunc.of {s0p : Option Addr} {s0n : Nat} {s0c : Nat} {f1g : Nat} {f1k : List Value} {E : Value → Hp → Prop} {H : Hp} {K : Int → Hp → Prop} (h : slices_IndexFunc.run s0p s0n s0c f1g f1k E H K) : slices_IndexFunc.call s0p s0n s0c f1g f1k E H K :=
  callW_of T0_ok P0_mixed (A := slices_IndexFunc.A) (fn := Go.Proofs.Try.f58) Go.Proofs.Try.func58 rfl slices_IndexFunc.ok rfl h
noncomputable def slices_IndexFunc.f1 (s0p : Option Addr) (s0n : Nat) (s0c : Nat) (f1g : Nat) (f1k : List Value) (t7 : Int) (t8 : Int) : Fr := [(0, .slice s0p s0n s0c), (1, .func (.func f1g) ⟨[]⟩ ⟨f1k⟩), (7, .int .i64 t7), (8, .int .i64 t8)]
def slices_IndexFunc.l1 (s0p : Option Addr) (s0n : Nat) (s0c : Nat) (f1g : Nat) (f1k : List Value) (t7 : Int) (t8 : Int)  (E : Value → Hp → Prop) (H : Hp) (K : Int → Hp → Prop) : Prop := nodeM P0 T0 slices_IndexFunc.A slices_IndexFunc.code [1, 0, 1, 0] [] (slices_IndexFunc.rq E K) (slices_IndexFunc.f1 s0p s0n s0c f1g f1k t7 t8) H
def slices_IndexFunc.b1 (s0p : Option Addr) (s0n : Nat) (s0c : Nat) (f1g : Nat) (f1k : List Value) (t7 : Int) (t8 : Int)  (X1 : Fr → Hp → Prop) (E : Value → Hp → Prop) (H : Hp) (K : Int → Hp → Prop) : Prop := nodeM P0 T0 slices_IndexFunc.A slices_IndexFunc.code [1, 0, 1, 0, 0] [X1] (slices_IndexFunc.rq E K) (slices_IndexFunc.f1 s0p s0n s0c f1g f1k t7 t8) H
theorem slices_IndexFunc.l1_rule { E : Value → Hp → Prop} {K : Int → Hp → Prop} (I : (Option Addr) → Nat → Nat → Nat → (List Value) → Int → Int → Hp → Prop) (μ : (Option Addr) → Nat → Nat → Nat → (List Value) → Int → Int → Hp → Nat)
    (h : ∀ s0p s0n s0c f1g f1k t7 t8 H, I s0p s0n s0c f1g f1k t7 t8 H → ∀ X : Fr → Hp → Prop, (∀ s0p' s0n' s0c' f1g' f1k' t7' t8' H', I s0p' s0n' s0c' f1g' f1k' t7' t8' H' → μ s0p' s0n' s0c' f1g' f1k' t7' t8' H' < μ s0p s0n s0c f1g f1k t7 t8 H → X (slices_IndexFunc.f1 s0p' s0n' s0c' f1g' f1k' t7' t8') H') → slices_IndexFunc.b1 s0p s0n s0c f1g f1k t7 t8  X E H K)
    {s0p : Option Addr} {s0n : Nat} {s0c : Nat} {f1g : Nat} {f1k : List Value} {t7 : Int} {t8 : Int} {H : Hp} (hI : I s0p s0n s0c f1g f1k t7 t8 H) : slices_IndexFunc.l1 s0p s0n s0c f1g f1k t7 t8  E H K :=
  loop_rule (S := (Option Addr) × Nat × Nat × Nat × (List Value) × Int × Int) (fun s => slices_IndexFunc.f1 (s.1) (s.2.1) (s.2.2.1) (s.2.2.2.1) (s.2.2.2.2.1) (s.2.2.2.2.2.1) (s.2.2.2.2.2.2)) (fun s H => I (s.1) (s.2.1) (s.2.2.1) (s.2.2.2.1) (s.2.2.2.2.1) (s.2.2.2.2.2.1) (s.2.2.2.2.2.2) H) (fun s H => μ (s.1) (s.2.1) (s.2.2.1) (s.2.2.2.1) (s.2.2.2.2.1) (s.2.2.2.2.2.1) (s.2.2.2.2.2.2) H) (fun s H hI X hX => h (s.1) (s.2.1) (s.2.2.1) (s.2.2.2.1) (s.2.2.2.2.1) (s.2.2.2.2.2.1) (s.2.2.2.2.2.2) H hI X fun s0p' s0n' s0c' f1g' f1k' t7' t8' H' hI' hlt => hX (s0p', s0n', s0c', f1g', f1k', t7', t8') H' hI' hlt) (s := (s0p, s0n, s0c, f1g, f1k, t7, t8)) rfl hI
theorem slices_IndexFunc.nok : nodesOk slices_IndexFunc.code [[0, 1, 0, 1]] = true := by kernel_rfl
def slices_IndexFunc.run_t (l1 : (Option Addr) → Nat → Nat → Nat → (List Value) → Int → Int → Hp → Prop) (s0p : Option Addr) (s0n : Nat) (s0c : Nat) (f1g : Nat) (f1k : List Value)  (E : Value → Hp → Prop) (H : Hp) (K : Int → Hp → Prop) : Prop :=
  l1 s0p s0n s0c f1g f1k (s0n : Int) 0 H
theorem slices_IndexFunc.run_eq {s0p : Option Addr} {s0n : Nat} {s0c : Nat} {f1g : Nat} {f1k : List Value} { E : Value → Hp → Prop} {H : Hp} {K : Int → Hp → Prop} (h : slices_IndexFunc.run_t (fun s0p s0n s0c f1g f1k t7 t8 H => slices_IndexFunc.l1 s0p s0n s0c f1g f1k t7 t8  E H K) s0p s0n s0c f1g f1k  E H K) : slices_IndexFunc.run s0p s0n s0c f1g f1k  E H K := by
  exact nodeR_imp2 (fun G => slices_IndexFunc.run_t (fun s0p s0n s0c f1g f1k t7 t8 H => G [0, 1, 0, 1] [(0, .slice s0p s0n s0c), (1, .func (.func f1g) ⟨[]⟩ ⟨f1k⟩), (7, .int .i64 t7), (8, .int .i64 t8)] H) s0p s0n s0c f1g f1k  E H K) slices_IndexFunc.nok rfl (fun G => by kernel_rfl) (Eq.mp (by kernel_rfl) h)
def slices_IndexFunc.b1_t  (s0p : Option Addr) (s0n : Nat) (s0c : Nat) (f1g : Nat) (f1k : List Value) (t7 : Int) (t8 : Int) (X1 : Fr → Hp → Prop) (E : Value → Hp → Prop) (H : Hp) (K : Int → Hp → Prop) : Prop :=
  bcase (decide ((t8 : Int) < t7)) (
  ix s0p s0n t8 1 fun b_1 o_1 =>
  ldI .i64 (H.get b_1 o_1) fun x_1 =>
  dcall P0 T0 f1g ([Value.int .i64 x_1] ++ f1k) (.one false [.bool]) E H fun u_1 H_1 =>
  bcase ((asB u_1)) (
  K t8 H_1)
  (X1 (slices_IndexFunc.f1 s0p s0n s0c f1g f1k t7 (IntKind.wrap .i64 (t8 + 1))) H_1))
  (K (-1) H)
theorem slices_IndexFunc.b1_eq {s0p : Option Addr} {s0n : Nat} {s0c : Nat} {f1g : Nat} {f1k : List Value} {t7 : Int} {t8 : Int} {X1 : Fr → Hp → Prop} { E : Value → Hp → Prop} {H : Hp} {K : Int → Hp → Prop} (h : slices_IndexFunc.b1_t  s0p s0n s0c f1g f1k t7 t8 X1 E H K) : slices_IndexFunc.b1 s0p s0n s0c f1g f1k t7 t8 X1 E H K := by
  exact nodeR_imp2 (fun _ => slices_IndexFunc.b1_t  s0p s0n s0c f1g f1k t7 t8 X1 E H K) slices_IndexFunc.nok rfl (fun G => by kernel_rfl) h
end Go.Mz
