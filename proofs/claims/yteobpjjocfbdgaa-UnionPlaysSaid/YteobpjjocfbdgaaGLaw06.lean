/-
  The shallow texts of functions (Law06), each with a kernel-checked equation to the translated code. It proves nothing of the program by itself.
-/
import Derived.Test.YteobpjjocfbdgaaTab
set_option linter.unusedVariables false
set_option maxRecDepth 100000
namespace Go.Mz
/-! ### compass/compasslaw06.UnionBack (3) -/
noncomputable def compasslaw06_UnionBack.A : An := { live := [(0, [0, 1]), (1, [0, 1]), (2, []), (3, [0, 1]), (4, [0, 1, 5, 6]), (5, []), (6, [0, 1, 5]), (7, [0, 1, 5, 7]), (8, [1, 5, 7, 28, 29, 30]), (9, [1, 5, 7, 28, 29, 30]), (10, [1, 5, 7, 9, 28, 29, 30]), (11, [1, 5, 7, 10, 28, 29, 30]), (12, [1, 5, 7, 28, 29, 30]), (13, [1, 5, 7, 28, 29, 30]), (14, [1, 5, 7]), (15, [1, 5, 7, 12]), (16, [1, 5, 7, 12]), (17, [1, 5, 7, 12]), (18, []), (19, [1, 5, 7, 12]), (20, []), (21, [1, 5, 7, 12]), (22, []), (23, [5, 7])], ord := [(17, [0, 2, 3, 4, 5, 1, 6, 7, 8, 9, 11, 10, 12, 13, 14, 15, 17, 18, 16, 19, 20]), (23, [0, 1, 2, 3, 4, 6, 7, 8, 5, 9, 10, 11])], stb := [(17, [(1, [5])]), (23, [(5, [8])])], pre := [(17, [[], [0], [], [], [2, 3], [2, 3, 4], [0, 1, 2, 3, 4, 5], [0, 1, 2, 3, 4, 5, 6], [0, 1, 2, 3, 4, 5, 6, 7], [0, 1, 2, 3, 4, 5, 6, 7, 8], [0, 1, 2, 3, 4, 5, 6, 7, 8, 9], [0, 1, 2, 3, 4, 5, 6, 7, 8], [0, 1, 2, 3, 4, 5, 6, 7, 8, 9, 10, 11], [0, 1, 2, 3, 4, 5, 6, 7, 8, 9, 10, 11, 12], [0, 1, 2, 3, 4, 5, 6, 7, 8, 9, 10, 11, 12, 13], [0, 1, 2, 3, 4, 5, 6, 7, 8, 9, 10, 11, 12, 13, 14], [0, 1, 2, 3, 4, 5, 6, 7, 8, 9, 10, 11, 12, 13, 14, 15], [0, 1, 2, 3, 4, 5, 6, 7, 8, 9, 10, 11, 12, 13, 14], [0, 1, 2, 3, 4, 5, 6, 7, 8, 9, 10, 11, 12, 13, 14, 17], [0, 1, 2, 3, 4, 5, 6, 7, 8, 9, 10, 11, 12, 13, 14, 15, 16, 17, 18], [0, 1, 2, 3, 4, 5, 6, 7, 8, 9, 10, 11, 12, 13, 14, 15, 16, 17, 18, 19]]), (23, [[], [0], [0, 1], [0, 1, 2], [0, 1, 2, 3], [0, 1, 2, 3, 4], [0, 1, 2, 3], [0, 1, 2, 3, 6], [0, 1, 2, 3, 6, 7], [0, 1, 2, 3, 4, 5, 6, 7, 8], [0, 1, 2, 3, 4, 5, 6, 7, 8, 9], [0, 1, 2, 3, 4, 5, 6, 7, 8, 9, 10]])] }
noncomputable def compasslaw06_UnionBack.code : Code := bodyOf Go.Proofs.Try.f3
theorem compasslaw06_UnionBack.ok : okCode compasslaw06_UnionBack.A 95 compasslaw06_UnionBack.code = true := by kernel_rfl
def compasslaw06_UnionBack.rq (E : Value → Hp → Prop) (K : Bool → Hp → Prop) : Ex → Fr → Hp → Prop := retQ T0 [.tmp 4] [4] (fun r H => ldR (.one false [.bool]) r fun u => K (asB u) H) E
def compasslaw06_UnionBack.run (pairs0p : Option Addr) (pairs0n : Nat) (pairs0c : Nat) (back1 : Int) (E : Value → Hp → Prop) (H : Hp) (K : Bool → Hp → Prop) : Prop := nodeM P0 T0 compasslaw06_UnionBack.A compasslaw06_UnionBack.code [] [] (compasslaw06_UnionBack.rq E K) (argF 0 [.slice pairs0p pairs0n pairs0c, .int .i64 back1]) H
theorem compasslaw06_UnionBack.of {pairs0p : Option Addr} {pairs0n : Nat} {pairs0c : Nat} {back1 : Int} {E : Value → Hp → Prop} {H : Hp} {K : Bool → Hp → Prop} (h : compasslaw06_UnionBack.run pairs0p pairs0n pairs0c back1 E H K) : compasslaw06_UnionBack.call pairs0p pairs0n pairs0c back1 E H K :=
  callW_of T0_ok P0_mixed (A := compasslaw06_UnionBack.A) (fn := Go.Proofs.Try.f3) Go.Proofs.Try.func3 rfl compasslaw06_UnionBack.ok rfl h
noncomputable def compasslaw06_UnionBack.f1 (back1 : Int) (s5 : Option Addr) (shots7p : Option Addr) (shots7n : Nat) (shots7c : Nat) (t28p : Option Addr) (t28n : Nat) (t28c : Nat) (t29 : Int) (t30 : Int) : Fr := [(1, .int .i64 back1), (5, .pointer s5), (7, .slice shots7p shots7n shots7c), (28, .slice t28p t28n t28c), (29, .int .i64 t29), (30, .int .i64 t30)]
noncomputable def compasslaw06_UnionBack.f2 (back1 : Int) (s5 : Option Addr) (shots7p : Option Addr) (shots7n : Nat) (shots7c : Nat) (i12 : Int) : Fr := [(1, .int .i64 back1), (5, .pointer s5), (7, .slice shots7p shots7n shots7c), (12, .int .i64 i12)]
def compasslaw06_UnionBack.j1 (back1 : Int) (s5 : Option Addr) (shots7p : Option Addr) (shots7n : Nat) (shots7c : Nat) (t28p : Option Addr) (t28n : Nat) (t28c : Nat) (t29 : Int) (t30 : Int) (X1 : Fr → Hp → Prop) (E : Value → Hp → Prop) (H : Hp) (K : Bool → Hp → Prop) : Prop := nodeM P0 T0 compasslaw06_UnionBack.A compasslaw06_UnionBack.code [1, 1, 1, 1, 1, 0, 1, 0, 0, 1, 1, 1] [X1] (compasslaw06_UnionBack.rq E K) [(1, .int .i64 back1), (5, .pointer s5), (7, .slice shots7p shots7n shots7c), (28, .slice t28p t28n t28c), (29, .int .i64 t29), (30, .int .i64 t30)] H
def compasslaw06_UnionBack.j2 (back1 : Int) (s5 : Option Addr) (shots7p : Option Addr) (shots7n : Nat) (shots7c : Nat)  (E : Value → Hp → Prop) (H : Hp) (K : Bool → Hp → Prop) : Prop := nodeM P0 T0 compasslaw06_UnionBack.A compasslaw06_UnionBack.code [1, 1, 1, 1, 1, 1] [] (compasslaw06_UnionBack.rq E K) [(1, .int .i64 back1), (5, .pointer s5), (7, .slice shots7p shots7n shots7c)] H
def compasslaw06_UnionBack.j3 (s5 : Option Addr) (shots7p : Option Addr) (shots7n : Nat) (shots7c : Nat)  (E : Value → Hp → Prop) (H : Hp) (K : Bool → Hp → Prop) : Prop := nodeM P0 T0 compasslaw06_UnionBack.A compasslaw06_UnionBack.code [1, 1, 1, 1, 1, 1, 1] [] (compasslaw06_UnionBack.rq E K) [(5, .pointer s5), (7, .slice shots7p shots7n shots7c)] H
def compasslaw06_UnionBack.l1 (back1 : Int) (s5 : Option Addr) (shots7p : Option Addr) (shots7n : Nat) (shots7c : Nat) (t28p : Option Addr) (t28n : Nat) (t28c : Nat) (t29 : Int) (t30 : Int)  (E : Value → Hp → Prop) (H : Hp) (K : Bool → Hp → Prop) : Prop := nodeM P0 T0 compasslaw06_UnionBack.A compasslaw06_UnionBack.code [1, 1, 1, 1, 1, 0, 1, 0] [] (compasslaw06_UnionBack.rq E K) (compasslaw06_UnionBack.f1 back1 s5 shots7p shots7n shots7c t28p t28n t28c t29 t30) H
def compasslaw06_UnionBack.b1 (back1 : Int) (s5 : Option Addr) (shots7p : Option Addr) (shots7n : Nat) (shots7c : Nat) (t28p : Option Addr) (t28n : Nat) (t28c : Nat) (t29 : Int) (t30 : Int)  (X1 : Fr → Hp → Prop) (E : Value → Hp → Prop) (H : Hp) (K : Bool → Hp → Prop) : Prop := nodeM P0 T0 compasslaw06_UnionBack.A compasslaw06_UnionBack.code [1, 1, 1, 1, 1, 0, 1, 0, 0] [X1] (compasslaw06_UnionBack.rq E K) (compasslaw06_UnionBack.f1 back1 s5 shots7p shots7n shots7c t28p t28n t28c t29 t30) H
theorem compasslaw06_UnionBack.l1_rule { E : Value → Hp → Prop} {K : Bool → Hp → Prop} (I : Int → (Option Addr) → (Option Addr) → Nat → Nat → (Option Addr) → Nat → Nat → Int → Int → Hp → Prop) (μ : Int → (Option Addr) → (Option Addr) → Nat → Nat → (Option Addr) → Nat → Nat → Int → Int → Hp → Nat)
    (h : ∀ back1 s5 shots7p shots7n shots7c t28p t28n t28c t29 t30 H, I back1 s5 shots7p shots7n shots7c t28p t28n t28c t29 t30 H → ∀ X : Fr → Hp → Prop, (∀ back1' s5' shots7p' shots7n' shots7c' t28p' t28n' t28c' t29' t30' H', I back1' s5' shots7p' shots7n' shots7c' t28p' t28n' t28c' t29' t30' H' → μ back1' s5' shots7p' shots7n' shots7c' t28p' t28n' t28c' t29' t30' H' < μ back1 s5 shots7p shots7n shots7c t28p t28n t28c t29 t30 H → X (compasslaw06_UnionBack.f1 back1' s5' shots7p' shots7n' shots7c' t28p' t28n' t28c' t29' t30') H') → compasslaw06_UnionBack.b1 back1 s5 shots7p shots7n shots7c t28p t28n t28c t29 t30  X E H K)
    {back1 : Int} {s5 : Option Addr} {shots7p : Option Addr} {shots7n : Nat} {shots7c : Nat} {t28p : Option Addr} {t28n : Nat} {t28c : Nat} {t29 : Int} {t30 : Int} {H : Hp} (hI : I back1 s5 shots7p shots7n shots7c t28p t28n t28c t29 t30 H) : compasslaw06_UnionBack.l1 back1 s5 shots7p shots7n shots7c t28p t28n t28c t29 t30  E H K :=
  loop_rule (S := Int × (Option Addr) × (Option Addr) × Nat × Nat × (Option Addr) × Nat × Nat × Int × Int) (fun s => compasslaw06_UnionBack.f1 (s.1) (s.2.1) (s.2.2.1) (s.2.2.2.1) (s.2.2.2.2.1) (s.2.2.2.2.2.1) (s.2.2.2.2.2.2.1) (s.2.2.2.2.2.2.2.1) (s.2.2.2.2.2.2.2.2.1) (s.2.2.2.2.2.2.2.2.2)) (fun s H => I (s.1) (s.2.1) (s.2.2.1) (s.2.2.2.1) (s.2.2.2.2.1) (s.2.2.2.2.2.1) (s.2.2.2.2.2.2.1) (s.2.2.2.2.2.2.2.1) (s.2.2.2.2.2.2.2.2.1) (s.2.2.2.2.2.2.2.2.2) H) (fun s H => μ (s.1) (s.2.1) (s.2.2.1) (s.2.2.2.1) (s.2.2.2.2.1) (s.2.2.2.2.2.1) (s.2.2.2.2.2.2.1) (s.2.2.2.2.2.2.2.1) (s.2.2.2.2.2.2.2.2.1) (s.2.2.2.2.2.2.2.2.2) H) (fun s H hI X hX => h (s.1) (s.2.1) (s.2.2.1) (s.2.2.2.1) (s.2.2.2.2.1) (s.2.2.2.2.2.1) (s.2.2.2.2.2.2.1) (s.2.2.2.2.2.2.2.1) (s.2.2.2.2.2.2.2.2.1) (s.2.2.2.2.2.2.2.2.2) H hI X fun back1' s5' shots7p' shots7n' shots7c' t28p' t28n' t28c' t29' t30' H' hI' hlt => hX (back1', s5', shots7p', shots7n', shots7c', t28p', t28n', t28c', t29', t30') H' hI' hlt) (s := (back1, s5, shots7p, shots7n, shots7c, t28p, t28n, t28c, t29, t30)) rfl hI
def compasslaw06_UnionBack.l2 (back1 : Int) (s5 : Option Addr) (shots7p : Option Addr) (shots7n : Nat) (shots7c : Nat) (i12 : Int)  (E : Value → Hp → Prop) (H : Hp) (K : Bool → Hp → Prop) : Prop := nodeM P0 T0 compasslaw06_UnionBack.A compasslaw06_UnionBack.code [1, 1, 1, 1, 1, 1, 0, 1, 0] [] (compasslaw06_UnionBack.rq E K) (compasslaw06_UnionBack.f2 back1 s5 shots7p shots7n shots7c i12) H
def compasslaw06_UnionBack.b2 (back1 : Int) (s5 : Option Addr) (shots7p : Option Addr) (shots7n : Nat) (shots7c : Nat) (i12 : Int)  (X1 : Fr → Hp → Prop) (E : Value → Hp → Prop) (H : Hp) (K : Bool → Hp → Prop) : Prop := nodeM P0 T0 compasslaw06_UnionBack.A compasslaw06_UnionBack.code [1, 1, 1, 1, 1, 1, 0, 1, 0, 0] [X1] (compasslaw06_UnionBack.rq E K) (compasslaw06_UnionBack.f2 back1 s5 shots7p shots7n shots7c i12) H
theorem compasslaw06_UnionBack.l2_rule { E : Value → Hp → Prop} {K : Bool → Hp → Prop} (I : Int → (Option Addr) → (Option Addr) → Nat → Nat → Int → Hp → Prop) (μ : Int → (Option Addr) → (Option Addr) → Nat → Nat → Int → Hp → Nat)
    (h : ∀ back1 s5 shots7p shots7n shots7c i12 H, I back1 s5 shots7p shots7n shots7c i12 H → ∀ X : Fr → Hp → Prop, (∀ back1' s5' shots7p' shots7n' shots7c' i12' H', I back1' s5' shots7p' shots7n' shots7c' i12' H' → μ back1' s5' shots7p' shots7n' shots7c' i12' H' < μ back1 s5 shots7p shots7n shots7c i12 H → X (compasslaw06_UnionBack.f2 back1' s5' shots7p' shots7n' shots7c' i12') H') → compasslaw06_UnionBack.b2 back1 s5 shots7p shots7n shots7c i12  X E H K)
    {back1 : Int} {s5 : Option Addr} {shots7p : Option Addr} {shots7n : Nat} {shots7c : Nat} {i12 : Int} {H : Hp} (hI : I back1 s5 shots7p shots7n shots7c i12 H) : compasslaw06_UnionBack.l2 back1 s5 shots7p shots7n shots7c i12  E H K :=
  loop_rule (S := Int × (Option Addr) × (Option Addr) × Nat × Nat × Int) (fun s => compasslaw06_UnionBack.f2 (s.1) (s.2.1) (s.2.2.1) (s.2.2.2.1) (s.2.2.2.2.1) (s.2.2.2.2.2)) (fun s H => I (s.1) (s.2.1) (s.2.2.1) (s.2.2.2.1) (s.2.2.2.2.1) (s.2.2.2.2.2) H) (fun s H => μ (s.1) (s.2.1) (s.2.2.1) (s.2.2.2.1) (s.2.2.2.2.1) (s.2.2.2.2.2) H) (fun s H hI X hX => h (s.1) (s.2.1) (s.2.2.1) (s.2.2.2.1) (s.2.2.2.2.1) (s.2.2.2.2.2) H hI X fun back1' s5' shots7p' shots7n' shots7c' i12' H' hI' hlt => hX (back1', s5', shots7p', shots7n', shots7c', i12') H' hI' hlt) (s := (back1, s5, shots7p, shots7n, shots7c, i12)) rfl hI
theorem compasslaw06_UnionBack.nok : nodesOk compasslaw06_UnionBack.code [[0, 1, 0, 1, 1, 1, 1, 1], [1, 1, 1, 0, 0, 1, 0, 1, 1, 1, 1, 1], [1, 1, 1, 1, 1, 1], [0, 1, 0, 1, 1, 1, 1, 1, 1], [1, 1, 1, 1, 1, 1, 1]] = true := by kernel_rfl
def compasslaw06_UnionBack.run_t (l1 : Int → (Option Addr) → (Option Addr) → Nat → Nat → (Option Addr) → Nat → Nat → Int → Int → Hp → Prop) (pairs0p : Option Addr) (pairs0n : Nat) (pairs0c : Nat) (back1 : Int)  (E : Value → Hp → Prop) (H : Hp) (K : Bool → Hp → Prop) : Prop :=
  compasslaw06_awake.call  E H fun r_1 H_1 =>
  bcase ((!r_1)) (
  K false H_1)
  (unions_New.call 12 E H_1 fun r_2 r_3 H_2 =>
  bcase (Option.isNone r_2) (
  K false H_2)
  (bcase (!decide ((r_3 : Int) = 0)) (
  K false H_2)
  (compasslaw06_names.call r_2 12 E H_2 fun r_4p r_4n r_4c H_3 =>
  nw H_3 ⟨[.slice r_4p r_4n r_4c], 28⟩ fun b_1 H_4 =>
  l1 back1 r_2 (some ⟨b_1, 0, none⟩) 1 1 pairs0p pairs0n pairs0c (pairs0n : Int) 0 H_4)))
theorem compasslaw06_UnionBack.run_eq {pairs0p : Option Addr} {pairs0n : Nat} {pairs0c : Nat} {back1 : Int} { E : Value → Hp → Prop} {H : Hp} {K : Bool → Hp → Prop} (h : compasslaw06_UnionBack.run_t (fun back1 s5 shots7p shots7n shots7c t28p t28n t28c t29 t30 H => compasslaw06_UnionBack.l1 back1 s5 shots7p shots7n shots7c t28p t28n t28c t29 t30  E H K) pairs0p pairs0n pairs0c back1  E H K) : compasslaw06_UnionBack.run pairs0p pairs0n pairs0c back1  E H K := by
  have k1 : ∀ G : List Nat → Fr → Hp → Prop, nodeR P0 T0 compasslaw06_UnionBack.A [[0, 1, 0, 1, 1, 1, 1, 1], [1, 1, 1, 0, 0, 1, 0, 1, 1, 1, 1, 1], [1, 1, 1, 1, 1, 1], [0, 1, 0, 1, 1, 1, 1, 1, 1], [1, 1, 1, 1, 1, 1, 1]] G compasslaw06_UnionBack.code [] [] (compasslaw06_UnionBack.rq E K) (argF 0 [.slice pairs0p pairs0n pairs0c, .int .i64 back1]) H = compasslaw06_UnionBack.run_t (fun back1 s5 shots7p shots7n shots7c t28p t28n t28c t29 t30 H => G [0, 1, 0, 1, 1, 1, 1, 1] [(1, .int .i64 back1), (5, .pointer s5), (7, .slice shots7p shots7n shots7c), (28, .slice t28p t28n t28c), (29, .int .i64 t29), (30, .int .i64 t30)] H) pairs0p pairs0n pairs0c back1  E H K := fun G => by kernel_rfl
  have k2 : compasslaw06_UnionBack.run_t (fun back1 s5 shots7p shots7n shots7c t28p t28n t28c t29 t30 H => compasslaw06_UnionBack.l1 back1 s5 shots7p shots7n shots7c t28p t28n t28c t29 t30  E H K) pairs0p pairs0n pairs0c back1  E H K = compasslaw06_UnionBack.run_t (fun back1 s5 shots7p shots7n shots7c t28p t28n t28c t29 t30 H => (fun q F H => nodeM P0 T0 compasslaw06_UnionBack.A compasslaw06_UnionBack.code q.reverse [] (compasslaw06_UnionBack.rq E K) F H) [0, 1, 0, 1, 1, 1, 1, 1] [(1, .int .i64 back1), (5, .pointer s5), (7, .slice shots7p shots7n shots7c), (28, .slice t28p t28n t28c), (29, .int .i64 t29), (30, .int .i64 t30)] H) pairs0p pairs0n pairs0c back1  E H K := by kernel_rfl
  exact nodeR_imp compasslaw06_UnionBack.nok rfl ((k1 _).mpr (k2.mp h))
def compasslaw06_UnionBack.j1_t  (back1 : Int) (s5 : Option Addr) (shots7p : Option Addr) (shots7n : Nat) (shots7c : Nat) (t28p : Option Addr) (t28n : Nat) (t28c : Nat) (t29 : Int) (t30 : Int) (X1 : Fr → Hp → Prop) (E : Value → Hp → Prop) (H : Hp) (K : Bool → Hp → Prop) : Prop :=
  X1 (compasslaw06_UnionBack.f1 back1 s5 shots7p shots7n shots7c t28p t28n t28c t29 (IntKind.wrap .i64 (t30 + 1))) H
theorem compasslaw06_UnionBack.j1_eq {back1 : Int} {s5 : Option Addr} {shots7p : Option Addr} {shots7n : Nat} {shots7c : Nat} {t28p : Option Addr} {t28n : Nat} {t28c : Nat} {t29 : Int} {t30 : Int} {X1 : Fr → Hp → Prop} { E : Value → Hp → Prop} {H : Hp} {K : Bool → Hp → Prop} (h : compasslaw06_UnionBack.j1_t  back1 s5 shots7p shots7n shots7c t28p t28n t28c t29 t30 X1 E H K) : compasslaw06_UnionBack.j1 back1 s5 shots7p shots7n shots7c t28p t28n t28c t29 t30 X1 E H K := by
  have k1 : ∀ G : List Nat → Fr → Hp → Prop, nodeR P0 T0 compasslaw06_UnionBack.A [[0, 1, 0, 1, 1, 1, 1, 1], [1, 1, 1, 0, 0, 1, 0, 1, 1, 1, 1, 1], [1, 1, 1, 1, 1, 1], [0, 1, 0, 1, 1, 1, 1, 1, 1], [1, 1, 1, 1, 1, 1, 1]] G compasslaw06_UnionBack.code [1, 1, 1, 1, 1, 0, 1, 0, 0, 1, 1, 1] [X1] (compasslaw06_UnionBack.rq E K) [(1, .int .i64 back1), (5, .pointer s5), (7, .slice shots7p shots7n shots7c), (28, .slice t28p t28n t28c), (29, .int .i64 t29), (30, .int .i64 t30)] H = compasslaw06_UnionBack.j1_t  back1 s5 shots7p shots7n shots7c t28p t28n t28c t29 t30 X1 E H K := fun G => by kernel_rfl
  exact nodeR_imp compasslaw06_UnionBack.nok rfl ((k1 _).mpr h)
def compasslaw06_UnionBack.j2_t (l2 : Int → (Option Addr) → (Option Addr) → Nat → Nat → Int → Hp → Prop) (back1 : Int) (s5 : Option Addr) (shots7p : Option Addr) (shots7n : Nat) (shots7c : Nat)  (E : Value → Hp → Prop) (H : Hp) (K : Bool → Hp → Prop) : Prop :=
  l2 back1 s5 shots7p shots7n shots7c (IntKind.wrap .i64 ((shots7n : Int) - 1)) H
theorem compasslaw06_UnionBack.j2_eq {back1 : Int} {s5 : Option Addr} {shots7p : Option Addr} {shots7n : Nat} {shots7c : Nat} { E : Value → Hp → Prop} {H : Hp} {K : Bool → Hp → Prop} (h : compasslaw06_UnionBack.j2_t (fun back1 s5 shots7p shots7n shots7c i12 H => compasslaw06_UnionBack.l2 back1 s5 shots7p shots7n shots7c i12  E H K) back1 s5 shots7p shots7n shots7c  E H K) : compasslaw06_UnionBack.j2 back1 s5 shots7p shots7n shots7c  E H K := by
  have k1 : ∀ G : List Nat → Fr → Hp → Prop, nodeR P0 T0 compasslaw06_UnionBack.A [[0, 1, 0, 1, 1, 1, 1, 1], [1, 1, 1, 0, 0, 1, 0, 1, 1, 1, 1, 1], [1, 1, 1, 1, 1, 1], [0, 1, 0, 1, 1, 1, 1, 1, 1], [1, 1, 1, 1, 1, 1, 1]] G compasslaw06_UnionBack.code [1, 1, 1, 1, 1, 1] [] (compasslaw06_UnionBack.rq E K) [(1, .int .i64 back1), (5, .pointer s5), (7, .slice shots7p shots7n shots7c)] H = compasslaw06_UnionBack.j2_t (fun back1 s5 shots7p shots7n shots7c i12 H => G [0, 1, 0, 1, 1, 1, 1, 1, 1] [(1, .int .i64 back1), (5, .pointer s5), (7, .slice shots7p shots7n shots7c), (12, .int .i64 i12)] H) back1 s5 shots7p shots7n shots7c  E H K := fun G => by kernel_rfl
  have k2 : compasslaw06_UnionBack.j2_t (fun back1 s5 shots7p shots7n shots7c i12 H => compasslaw06_UnionBack.l2 back1 s5 shots7p shots7n shots7c i12  E H K) back1 s5 shots7p shots7n shots7c  E H K = compasslaw06_UnionBack.j2_t (fun back1 s5 shots7p shots7n shots7c i12 H => (fun q F H => nodeM P0 T0 compasslaw06_UnionBack.A compasslaw06_UnionBack.code q.reverse [] (compasslaw06_UnionBack.rq E K) F H) [0, 1, 0, 1, 1, 1, 1, 1, 1] [(1, .int .i64 back1), (5, .pointer s5), (7, .slice shots7p shots7n shots7c), (12, .int .i64 i12)] H) back1 s5 shots7p shots7n shots7c  E H K := by kernel_rfl
  exact nodeR_imp compasslaw06_UnionBack.nok rfl ((k1 _).mpr (k2.mp h))
def compasslaw06_UnionBack.j3_t  (s5 : Option Addr) (shots7p : Option Addr) (shots7n : Nat) (shots7c : Nat)  (E : Value → Hp → Prop) (H : Hp) (K : Bool → Hp → Prop) : Prop :=
  unions_Sets_Undo.call s5 E H fun r_1 H_1 =>
  bcase (decide ((r_1 : Int) = 4)) (
  ix shots7p shots7n 0 1 fun b_1 o_1 =>
  ldS (H_1.get b_1 o_1) fun x_1p x_1n x_1c =>
  compasslaw06_names.call s5 12 E H_1 fun r_2p r_2n r_2c H_2 =>
  (ldS (H_2.get b_1 o_1) fun x_2p x_2n x_2c =>
  Value.slice x_2p x_2n x_2c = Value.slice x_1p x_1n x_1c) ∧
  compasslaw06_ints.call r_2p r_2n r_2c x_1p x_1n x_1c E H_2 fun r_3 H_3 =>
  K r_3 H_3)
  (K false H_1)
theorem compasslaw06_UnionBack.j3_eq {s5 : Option Addr} {shots7p : Option Addr} {shots7n : Nat} {shots7c : Nat} { E : Value → Hp → Prop} {H : Hp} {K : Bool → Hp → Prop} (h : compasslaw06_UnionBack.j3_t  s5 shots7p shots7n shots7c  E H K) : compasslaw06_UnionBack.j3 s5 shots7p shots7n shots7c  E H K := by
  have k1 : ∀ G : List Nat → Fr → Hp → Prop, nodeR P0 T0 compasslaw06_UnionBack.A [[0, 1, 0, 1, 1, 1, 1, 1], [1, 1, 1, 0, 0, 1, 0, 1, 1, 1, 1, 1], [1, 1, 1, 1, 1, 1], [0, 1, 0, 1, 1, 1, 1, 1, 1], [1, 1, 1, 1, 1, 1, 1]] G compasslaw06_UnionBack.code [1, 1, 1, 1, 1, 1, 1] [] (compasslaw06_UnionBack.rq E K) [(5, .pointer s5), (7, .slice shots7p shots7n shots7c)] H = compasslaw06_UnionBack.j3_t  s5 shots7p shots7n shots7c  E H K := fun G => by kernel_rfl
  exact nodeR_imp compasslaw06_UnionBack.nok rfl ((k1 _).mpr h)
def compasslaw06_UnionBack.b1_t (j1 : Int → (Option Addr) → (Option Addr) → Nat → Nat → (Option Addr) → Nat → Nat → Int → Int → Hp → Prop) (j2 : Int → (Option Addr) → (Option Addr) → Nat → Nat → Hp → Prop) (back1 : Int) (s5 : Option Addr) (shots7p : Option Addr) (shots7n : Nat) (shots7c : Nat) (t28p : Option Addr) (t28n : Nat) (t28c : Nat) (t29 : Int) (t30 : Int) (X1 : Fr → Hp → Prop) (E : Value → Hp → Prop) (H : Hp) (K : Bool → Hp → Prop) : Prop :=
  bcase (decide ((t30 : Int) < t29)) (
  ix t28p t28n t30 3 fun b_1 o_1 =>
  ldI .i64 (H.get b_1 o_1) fun x_1 =>
  ldI .i64 (H.get b_1 (o_1 + 1)) fun x_2 =>
  ldI .i64 (H.get b_1 (o_1 + 2)) fun x_3 =>
  nw H ⟨[.int .i64 0, .int .i64 0, .int .i64 0], 32⟩ fun b_2 H_1 =>
  stC H_1 b_2 0 [.int .i64 x_1, .int .i64 x_2, .int .i64 x_3] fun H_2 =>
  ldI .i64 (H_2.get b_2 1) fun x_4 =>
  ldI .i64 (H_2.get b_2 2) fun x_5 =>
  unions_Sets_Join.call s5 x_4 x_5 E H_2 fun r_1 r_2 H_3 =>
  bcase (r_1) (
  compasslaw06_names.call s5 12 E H_3 fun r_3p r_3n r_3c H_4 =>
  nw H_4 ⟨[.slice r_3p r_3n r_3c], 28⟩ fun b_3 H_5 =>
  appM 28 [.sl] 24 shots7p shots7n shots7c (some ⟨b_3, 0, none⟩) 1 H_5 fun a_1p a_1n a_1c H_6 =>
  j1 back1 s5 a_1p a_1n a_1c t28p t28n t28c t29 t30 H_6)
  (j1 back1 s5 shots7p shots7n shots7c t28p t28n t28c t29 t30 H_3))
  (j2 back1 s5 shots7p shots7n shots7c H)
theorem compasslaw06_UnionBack.b1_eq {back1 : Int} {s5 : Option Addr} {shots7p : Option Addr} {shots7n : Nat} {shots7c : Nat} {t28p : Option Addr} {t28n : Nat} {t28c : Nat} {t29 : Int} {t30 : Int} {X1 : Fr → Hp → Prop} { E : Value → Hp → Prop} {H : Hp} {K : Bool → Hp → Prop} (h : compasslaw06_UnionBack.b1_t (fun back1 s5 shots7p shots7n shots7c t28p t28n t28c t29 t30 H => compasslaw06_UnionBack.j1 back1 s5 shots7p shots7n shots7c t28p t28n t28c t29 t30 X1 E H K) (fun back1 s5 shots7p shots7n shots7c H => compasslaw06_UnionBack.j2 back1 s5 shots7p shots7n shots7c  E H K) back1 s5 shots7p shots7n shots7c t28p t28n t28c t29 t30 X1 E H K) : compasslaw06_UnionBack.b1 back1 s5 shots7p shots7n shots7c t28p t28n t28c t29 t30 X1 E H K := by
  have k1 : ∀ G : List Nat → Fr → Hp → Prop, nodeR P0 T0 compasslaw06_UnionBack.A [[0, 1, 0, 1, 1, 1, 1, 1], [1, 1, 1, 0, 0, 1, 0, 1, 1, 1, 1, 1], [1, 1, 1, 1, 1, 1], [0, 1, 0, 1, 1, 1, 1, 1, 1], [1, 1, 1, 1, 1, 1, 1]] G compasslaw06_UnionBack.code [1, 1, 1, 1, 1, 0, 1, 0, 0] [X1] (compasslaw06_UnionBack.rq E K) (compasslaw06_UnionBack.f1 back1 s5 shots7p shots7n shots7c t28p t28n t28c t29 t30) H = compasslaw06_UnionBack.b1_t (fun back1 s5 shots7p shots7n shots7c t28p t28n t28c t29 t30 H => G [1, 1, 1, 0, 0, 1, 0, 1, 1, 1, 1, 1] [(1, .int .i64 back1), (5, .pointer s5), (7, .slice shots7p shots7n shots7c), (28, .slice t28p t28n t28c), (29, .int .i64 t29), (30, .int .i64 t30)] H) (fun back1 s5 shots7p shots7n shots7c H => G [1, 1, 1, 1, 1, 1] [(1, .int .i64 back1), (5, .pointer s5), (7, .slice shots7p shots7n shots7c)] H) back1 s5 shots7p shots7n shots7c t28p t28n t28c t29 t30 X1 E H K := fun G => by kernel_rfl
  have k2 : compasslaw06_UnionBack.b1_t (fun back1 s5 shots7p shots7n shots7c t28p t28n t28c t29 t30 H => compasslaw06_UnionBack.j1 back1 s5 shots7p shots7n shots7c t28p t28n t28c t29 t30 X1 E H K) (fun back1 s5 shots7p shots7n shots7c H => compasslaw06_UnionBack.j2 back1 s5 shots7p shots7n shots7c  E H K) back1 s5 shots7p shots7n shots7c t28p t28n t28c t29 t30 X1 E H K = compasslaw06_UnionBack.b1_t (fun back1 s5 shots7p shots7n shots7c t28p t28n t28c t29 t30 H => (fun q F H => nodeM P0 T0 compasslaw06_UnionBack.A compasslaw06_UnionBack.code q.reverse [X1] (compasslaw06_UnionBack.rq E K) F H) [1, 1, 1, 0, 0, 1, 0, 1, 1, 1, 1, 1] [(1, .int .i64 back1), (5, .pointer s5), (7, .slice shots7p shots7n shots7c), (28, .slice t28p t28n t28c), (29, .int .i64 t29), (30, .int .i64 t30)] H) (fun back1 s5 shots7p shots7n shots7c H => (fun q F H => nodeM P0 T0 compasslaw06_UnionBack.A compasslaw06_UnionBack.code q.reverse [X1] (compasslaw06_UnionBack.rq E K) F H) [1, 1, 1, 1, 1, 1] [(1, .int .i64 back1), (5, .pointer s5), (7, .slice shots7p shots7n shots7c)] H) back1 s5 shots7p shots7n shots7c t28p t28n t28c t29 t30 X1 E H K := by kernel_rfl
  exact nodeR_imp compasslaw06_UnionBack.nok rfl ((k1 _).mpr (k2.mp h))
def compasslaw06_UnionBack.b2_t (j3 : (Option Addr) → (Option Addr) → Nat → Nat → Hp → Prop) (back1 : Int) (s5 : Option Addr) (shots7p : Option Addr) (shots7n : Nat) (shots7c : Nat) (i12 : Int) (X1 : Fr → Hp → Prop) (E : Value → Hp → Prop) (H : Hp) (K : Bool → Hp → Prop) : Prop :=
  bcase (decide ((0 : Int) < i12)) (
  ix shots7p shots7n i12 1 fun b_1 o_1 =>
  ldS (H.get b_1 o_1) fun x_1p x_1n x_1c =>
  compasslaw06_names.call s5 12 E H fun r_1p r_1n r_1c H_1 =>
  (ldS (H_1.get b_1 o_1) fun x_2p x_2n x_2c =>
  Value.slice x_2p x_2n x_2c = Value.slice x_1p x_1n x_1c) ∧
  compasslaw06_ints.call r_1p r_1n r_1c x_1p x_1n x_1c E H_1 fun r_2 H_2 =>
  bcase ((!r_2)) (
  K false H_2)
  (unions_Sets_Joins.call s5 E H_2 fun r_3 H_3 =>
  bcase (!decide ((r_3 : Int) = i12)) (
  K false H_3)
  (unions_Sets_Count.call s5 E H_3 fun r_4 H_4 =>
  bcase (!decide ((r_4 : Int) = (IntKind.wrap .i64 (12 - i12)))) (
  K false H_4)
  (bcase (decide ((i12 : Int) = back1)) (
  K true H_4)
  (unions_Sets_Undo.call s5 E H_4 fun r_5 H_5 =>
  bcase (!decide ((r_5 : Int) = 0)) (
  K false H_5)
  (X1 (compasslaw06_UnionBack.f2 back1 s5 shots7p shots7n shots7c (IntKind.wrap .i64 (i12 - 1))) H_5))))))
  (j3 s5 shots7p shots7n shots7c H)
theorem compasslaw06_UnionBack.b2_eq {back1 : Int} {s5 : Option Addr} {shots7p : Option Addr} {shots7n : Nat} {shots7c : Nat} {i12 : Int} {X1 : Fr → Hp → Prop} { E : Value → Hp → Prop} {H : Hp} {K : Bool → Hp → Prop} (h : compasslaw06_UnionBack.b2_t (fun s5 shots7p shots7n shots7c H => compasslaw06_UnionBack.j3 s5 shots7p shots7n shots7c  E H K) back1 s5 shots7p shots7n shots7c i12 X1 E H K) : compasslaw06_UnionBack.b2 back1 s5 shots7p shots7n shots7c i12 X1 E H K := by
  have k1 : ∀ G : List Nat → Fr → Hp → Prop, nodeR P0 T0 compasslaw06_UnionBack.A [[0, 1, 0, 1, 1, 1, 1, 1], [1, 1, 1, 0, 0, 1, 0, 1, 1, 1, 1, 1], [1, 1, 1, 1, 1, 1], [0, 1, 0, 1, 1, 1, 1, 1, 1], [1, 1, 1, 1, 1, 1, 1]] G compasslaw06_UnionBack.code [1, 1, 1, 1, 1, 1, 0, 1, 0, 0] [X1] (compasslaw06_UnionBack.rq E K) (compasslaw06_UnionBack.f2 back1 s5 shots7p shots7n shots7c i12) H = compasslaw06_UnionBack.b2_t (fun s5 shots7p shots7n shots7c H => G [1, 1, 1, 1, 1, 1, 1] [(5, .pointer s5), (7, .slice shots7p shots7n shots7c)] H) back1 s5 shots7p shots7n shots7c i12 X1 E H K := fun G => by kernel_rfl
  have k2 : compasslaw06_UnionBack.b2_t (fun s5 shots7p shots7n shots7c H => compasslaw06_UnionBack.j3 s5 shots7p shots7n shots7c  E H K) back1 s5 shots7p shots7n shots7c i12 X1 E H K = compasslaw06_UnionBack.b2_t (fun s5 shots7p shots7n shots7c H => (fun q F H => nodeM P0 T0 compasslaw06_UnionBack.A compasslaw06_UnionBack.code q.reverse [X1] (compasslaw06_UnionBack.rq E K) F H) [1, 1, 1, 1, 1, 1, 1] [(5, .pointer s5), (7, .slice shots7p shots7n shots7c)] H) back1 s5 shots7p shots7n shots7c i12 X1 E H K := by kernel_rfl
  exact nodeR_imp compasslaw06_UnionBack.nok rfl ((k1 _).mpr (k2.mp h))
/-! ### compass/compasslaw06.UnionTurns (4) -/
noncomputable def compasslaw06_UnionTurns.A : An := { live := [(0, [0]), (1, [0]), (2, []), (3, [0]), (4, [0, 3]), (5, [0, 3, 5]), (6, []), (7, [0, 3, 5]), (8, [0, 3, 5, 32, 33]), (9, [0, 3, 5, 32, 33]), (10, [0, 3, 5, 7, 32, 33]), (11, [0, 3, 5, 7, 32, 33]), (12, [0, 3, 5, 8, 32, 33]), (13, [0, 3, 5, 32, 33]), (14, [3, 5]), (15, [3, 5, 9]), (16, []), (17, [3, 9]), (18, [3, 9, 10]), (19, [3, 9, 10, 77, 78, 79]), (20, [3, 9, 10, 77, 78, 79]), (21, [3, 9, 10, 11, 12, 77, 78, 79]), (22, []), (23, [3, 9, 10, 11, 12, 77, 78, 79]), (24, [3, 9, 10, 11, 12, 77, 78, 79]), (25, [3, 9, 10, 11, 12, 77, 78, 79]), (26, [3, 9, 10, 12, 13, 14, 77, 78, 79]), (27, []), (28, [3, 9, 10, 77, 78, 79]), (29, [3, 10])], ord := [(10, [0, 1, 2, 3, 4, 5, 6, 7, 8, 9, 10, 11])], stb := [], pre := [(10, [[], [], [], [1, 2], [1, 2, 3], [1, 2, 3, 4], [], [], [6, 7], [6, 7, 8], [6, 7, 8, 9], [0, 1, 2, 3, 4, 5, 6, 7, 8, 9, 10]])] }
noncomputable def compasslaw06_UnionTurns.code : Code := bodyOf Go.Proofs.Try.f4
theorem compasslaw06_UnionTurns.ok : okCode compasslaw06_UnionTurns.A 129 compasslaw06_UnionTurns.code = true := by kernel_rfl
def compasslaw06_UnionTurns.rq (E : Value → Hp → Prop) (K : Bool → Hp → Prop) : Ex → Fr → Hp → Prop := retQ T0 [.tmp 2] [4] (fun r H => ldR (.one false [.bool]) r fun u => K (asB u) H) E
def compasslaw06_UnionTurns.run (pairs0p : Option Addr) (pairs0n : Nat) (pairs0c : Nat) (E : Value → Hp → Prop) (H : Hp) (K : Bool → Hp → Prop) : Prop := nodeM P0 T0 compasslaw06_UnionTurns.A compasslaw06_UnionTurns.code [] [] (compasslaw06_UnionTurns.rq E K) (argF 0 [.slice pairs0p pairs0n pairs0c]) H
theorem compasslaw06_UnionTurns.of {pairs0p : Option Addr} {pairs0n : Nat} {pairs0c : Nat} {E : Value → Hp → Prop} {H : Hp} {K : Bool → Hp → Prop} (h : compasslaw06_UnionTurns.run pairs0p pairs0n pairs0c E H K) : compasslaw06_UnionTurns.call pairs0p pairs0n pairs0c E H K :=
  callW_of T0_ok P0_mixed (A := compasslaw06_UnionTurns.A) (fn := Go.Proofs.Try.f4) Go.Proofs.Try.func4 rfl compasslaw06_UnionTurns.ok rfl h
noncomputable def compasslaw06_UnionTurns.f1 (pairs0p : Option Addr) (pairs0n : Nat) (pairs0c : Nat) (s3 : Option Addr) (t5 : Option Addr) (t32 : Int) (t33 : Int) : Fr := [(0, .slice pairs0p pairs0n pairs0c), (3, .pointer s3), (5, .pointer t5), (32, .int .i64 t32), (33, .int .i64 t33)]
noncomputable def compasslaw06_UnionTurns.f2 (s3 : Option Addr) (a9p : Option Addr) (a9n : Nat) (a9c : Nat) (count10 : Int) (t77p : Option Addr) (t77n : Nat) (t77c : Nat) (t78 : Int) (t79 : Int) : Fr := [(3, .pointer s3), (9, .slice a9p a9n a9c), (10, .int .i64 count10), (77, .slice t77p t77n t77c), (78, .int .i64 t78), (79, .int .i64 t79)]
def compasslaw06_UnionTurns.j1 (s3 : Option Addr) (t5 : Option Addr)  (E : Value → Hp → Prop) (H : Hp) (K : Bool → Hp → Prop) : Prop := nodeM P0 T0 compasslaw06_UnionTurns.A compasslaw06_UnionTurns.code [1, 1, 1, 1, 1, 1] [] (compasslaw06_UnionTurns.rq E K) [(3, .pointer s3), (5, .pointer t5)] H
def compasslaw06_UnionTurns.j2 (s3 : Option Addr) (a9p : Option Addr) (a9n : Nat) (a9c : Nat) (count10 : Int) (v11 : Int) (x12 : Int) (t77p : Option Addr) (t77n : Nat) (t77c : Nat) (t78 : Int) (t79 : Int) (X1 : Fr → Hp → Prop) (E : Value → Hp → Prop) (H : Hp) (K : Bool → Hp → Prop) : Prop := nodeM P0 T0 compasslaw06_UnionTurns.A compasslaw06_UnionTurns.code [1, 1, 1, 1, 1, 1, 1, 1, 1, 0, 1, 0, 0, 1, 1, 0, 0, 1, 1, 1] [X1] (compasslaw06_UnionTurns.rq E K) [(3, .pointer s3), (9, .slice a9p a9n a9c), (10, .int .i64 count10), (11, .int .i64 v11), (12, .int .i64 x12), (77, .slice t77p t77n t77c), (78, .int .i64 t78), (79, .int .i64 t79)] H
def compasslaw06_UnionTurns.j3 (s3 : Option Addr) (count10 : Int)  (E : Value → Hp → Prop) (H : Hp) (K : Bool → Hp → Prop) : Prop := nodeM P0 T0 compasslaw06_UnionTurns.A compasslaw06_UnionTurns.code [1, 1, 1, 1, 1, 1, 1, 1, 1, 1] [] (compasslaw06_UnionTurns.rq E K) [(3, .pointer s3), (10, .int .i64 count10)] H
def compasslaw06_UnionTurns.l1 (pairs0p : Option Addr) (pairs0n : Nat) (pairs0c : Nat) (s3 : Option Addr) (t5 : Option Addr) (t32 : Int) (t33 : Int)  (E : Value → Hp → Prop) (H : Hp) (K : Bool → Hp → Prop) : Prop := nodeM P0 T0 compasslaw06_UnionTurns.A compasslaw06_UnionTurns.code [1, 1, 1, 1, 1, 0, 1, 0] [] (compasslaw06_UnionTurns.rq E K) (compasslaw06_UnionTurns.f1 pairs0p pairs0n pairs0c s3 t5 t32 t33) H
def compasslaw06_UnionTurns.b1 (pairs0p : Option Addr) (pairs0n : Nat) (pairs0c : Nat) (s3 : Option Addr) (t5 : Option Addr) (t32 : Int) (t33 : Int)  (X1 : Fr → Hp → Prop) (E : Value → Hp → Prop) (H : Hp) (K : Bool → Hp → Prop) : Prop := nodeM P0 T0 compasslaw06_UnionTurns.A compasslaw06_UnionTurns.code [1, 1, 1, 1, 1, 0, 1, 0, 0] [X1] (compasslaw06_UnionTurns.rq E K) (compasslaw06_UnionTurns.f1 pairs0p pairs0n pairs0c s3 t5 t32 t33) H
theorem compasslaw06_UnionTurns.l1_rule { E : Value → Hp → Prop} {K : Bool → Hp → Prop} (I : (Option Addr) → Nat → Nat → (Option Addr) → (Option Addr) → Int → Int → Hp → Prop) (μ : (Option Addr) → Nat → Nat → (Option Addr) → (Option Addr) → Int → Int → Hp → Nat)
    (h : ∀ pairs0p pairs0n pairs0c s3 t5 t32 t33 H, I pairs0p pairs0n pairs0c s3 t5 t32 t33 H → ∀ X : Fr → Hp → Prop, (∀ pairs0p' pairs0n' pairs0c' s3' t5' t32' t33' H', I pairs0p' pairs0n' pairs0c' s3' t5' t32' t33' H' → μ pairs0p' pairs0n' pairs0c' s3' t5' t32' t33' H' < μ pairs0p pairs0n pairs0c s3 t5 t32 t33 H → X (compasslaw06_UnionTurns.f1 pairs0p' pairs0n' pairs0c' s3' t5' t32' t33') H') → compasslaw06_UnionTurns.b1 pairs0p pairs0n pairs0c s3 t5 t32 t33  X E H K)
    {pairs0p : Option Addr} {pairs0n : Nat} {pairs0c : Nat} {s3 : Option Addr} {t5 : Option Addr} {t32 : Int} {t33 : Int} {H : Hp} (hI : I pairs0p pairs0n pairs0c s3 t5 t32 t33 H) : compasslaw06_UnionTurns.l1 pairs0p pairs0n pairs0c s3 t5 t32 t33  E H K :=
  loop_rule (S := (Option Addr) × Nat × Nat × (Option Addr) × (Option Addr) × Int × Int) (fun s => compasslaw06_UnionTurns.f1 (s.1) (s.2.1) (s.2.2.1) (s.2.2.2.1) (s.2.2.2.2.1) (s.2.2.2.2.2.1) (s.2.2.2.2.2.2)) (fun s H => I (s.1) (s.2.1) (s.2.2.1) (s.2.2.2.1) (s.2.2.2.2.1) (s.2.2.2.2.2.1) (s.2.2.2.2.2.2) H) (fun s H => μ (s.1) (s.2.1) (s.2.2.1) (s.2.2.2.1) (s.2.2.2.2.1) (s.2.2.2.2.2.1) (s.2.2.2.2.2.2) H) (fun s H hI X hX => h (s.1) (s.2.1) (s.2.2.1) (s.2.2.2.1) (s.2.2.2.2.1) (s.2.2.2.2.2.1) (s.2.2.2.2.2.2) H hI X fun pairs0p' pairs0n' pairs0c' s3' t5' t32' t33' H' hI' hlt => hX (pairs0p', pairs0n', pairs0c', s3', t5', t32', t33') H' hI' hlt) (s := (pairs0p, pairs0n, pairs0c, s3, t5, t32, t33)) rfl hI
def compasslaw06_UnionTurns.l2 (s3 : Option Addr) (a9p : Option Addr) (a9n : Nat) (a9c : Nat) (count10 : Int) (t77p : Option Addr) (t77n : Nat) (t77c : Nat) (t78 : Int) (t79 : Int)  (E : Value → Hp → Prop) (H : Hp) (K : Bool → Hp → Prop) : Prop := nodeM P0 T0 compasslaw06_UnionTurns.A compasslaw06_UnionTurns.code [1, 1, 1, 1, 1, 1, 1, 1, 1, 0, 1, 0] [] (compasslaw06_UnionTurns.rq E K) (compasslaw06_UnionTurns.f2 s3 a9p a9n a9c count10 t77p t77n t77c t78 t79) H
def compasslaw06_UnionTurns.b2 (s3 : Option Addr) (a9p : Option Addr) (a9n : Nat) (a9c : Nat) (count10 : Int) (t77p : Option Addr) (t77n : Nat) (t77c : Nat) (t78 : Int) (t79 : Int)  (X1 : Fr → Hp → Prop) (E : Value → Hp → Prop) (H : Hp) (K : Bool → Hp → Prop) : Prop := nodeM P0 T0 compasslaw06_UnionTurns.A compasslaw06_UnionTurns.code [1, 1, 1, 1, 1, 1, 1, 1, 1, 0, 1, 0, 0] [X1] (compasslaw06_UnionTurns.rq E K) (compasslaw06_UnionTurns.f2 s3 a9p a9n a9c count10 t77p t77n t77c t78 t79) H
theorem compasslaw06_UnionTurns.l2_rule { E : Value → Hp → Prop} {K : Bool → Hp → Prop} (I : (Option Addr) → (Option Addr) → Nat → Nat → Int → (Option Addr) → Nat → Nat → Int → Int → Hp → Prop) (μ : (Option Addr) → (Option Addr) → Nat → Nat → Int → (Option Addr) → Nat → Nat → Int → Int → Hp → Nat)
    (h : ∀ s3 a9p a9n a9c count10 t77p t77n t77c t78 t79 H, I s3 a9p a9n a9c count10 t77p t77n t77c t78 t79 H → ∀ X : Fr → Hp → Prop, (∀ s3' a9p' a9n' a9c' count10' t77p' t77n' t77c' t78' t79' H', I s3' a9p' a9n' a9c' count10' t77p' t77n' t77c' t78' t79' H' → μ s3' a9p' a9n' a9c' count10' t77p' t77n' t77c' t78' t79' H' < μ s3 a9p a9n a9c count10 t77p t77n t77c t78 t79 H → X (compasslaw06_UnionTurns.f2 s3' a9p' a9n' a9c' count10' t77p' t77n' t77c' t78' t79') H') → compasslaw06_UnionTurns.b2 s3 a9p a9n a9c count10 t77p t77n t77c t78 t79  X E H K)
    {s3 : Option Addr} {a9p : Option Addr} {a9n : Nat} {a9c : Nat} {count10 : Int} {t77p : Option Addr} {t77n : Nat} {t77c : Nat} {t78 : Int} {t79 : Int} {H : Hp} (hI : I s3 a9p a9n a9c count10 t77p t77n t77c t78 t79 H) : compasslaw06_UnionTurns.l2 s3 a9p a9n a9c count10 t77p t77n t77c t78 t79  E H K :=
  loop_rule (S := (Option Addr) × (Option Addr) × Nat × Nat × Int × (Option Addr) × Nat × Nat × Int × Int) (fun s => compasslaw06_UnionTurns.f2 (s.1) (s.2.1) (s.2.2.1) (s.2.2.2.1) (s.2.2.2.2.1) (s.2.2.2.2.2.1) (s.2.2.2.2.2.2.1) (s.2.2.2.2.2.2.2.1) (s.2.2.2.2.2.2.2.2.1) (s.2.2.2.2.2.2.2.2.2)) (fun s H => I (s.1) (s.2.1) (s.2.2.1) (s.2.2.2.1) (s.2.2.2.2.1) (s.2.2.2.2.2.1) (s.2.2.2.2.2.2.1) (s.2.2.2.2.2.2.2.1) (s.2.2.2.2.2.2.2.2.1) (s.2.2.2.2.2.2.2.2.2) H) (fun s H => μ (s.1) (s.2.1) (s.2.2.1) (s.2.2.2.1) (s.2.2.2.2.1) (s.2.2.2.2.2.1) (s.2.2.2.2.2.2.1) (s.2.2.2.2.2.2.2.1) (s.2.2.2.2.2.2.2.2.1) (s.2.2.2.2.2.2.2.2.2) H) (fun s H hI X hX => h (s.1) (s.2.1) (s.2.2.1) (s.2.2.2.1) (s.2.2.2.2.1) (s.2.2.2.2.2.1) (s.2.2.2.2.2.2.1) (s.2.2.2.2.2.2.2.1) (s.2.2.2.2.2.2.2.2.1) (s.2.2.2.2.2.2.2.2.2) H hI X fun s3' a9p' a9n' a9c' count10' t77p' t77n' t77c' t78' t79' H' hI' hlt => hX (s3', a9p', a9n', a9c', count10', t77p', t77n', t77c', t78', t79') H' hI' hlt) (s := (s3, a9p, a9n, a9c, count10, t77p, t77n, t77c, t78, t79)) rfl hI
theorem compasslaw06_UnionTurns.nok : nodesOk compasslaw06_UnionTurns.code [[0, 1, 0, 1, 1, 1, 1, 1], [1, 1, 1, 1, 1, 1], [0, 1, 0, 1, 1, 1, 1, 1, 1, 1, 1, 1], [1, 1, 1, 0, 0, 1, 1, 0, 0, 1, 0, 1, 1, 1, 1, 1, 1, 1, 1, 1], [1, 1, 1, 1, 1, 1, 1, 1, 1, 1]] = true := by kernel_rfl
def compasslaw06_UnionTurns.run_t (l1 : (Option Addr) → Nat → Nat → (Option Addr) → (Option Addr) → Int → Int → Hp → Prop) (pairs0p : Option Addr) (pairs0n : Nat) (pairs0c : Nat)  (E : Value → Hp → Prop) (H : Hp) (K : Bool → Hp → Prop) : Prop :=
  compasslaw06_awake.call  E H fun r_1 H_1 =>
  bcase ((!r_1)) (
  K false H_1)
  (unions_New.call 12 E H_1 fun r_2 r_3 H_2 =>
  unions_New.call 12 E H_2 fun r_4 r_5 H_3 =>
  bcase (Option.isNone r_2) (
  K false H_3)
  (bcase (Option.isNone r_4) (
  K false H_3)
  (l1 pairs0p pairs0n pairs0c r_2 r_4 (pairs0n : Int) 0 H_3)))
theorem compasslaw06_UnionTurns.run_eq {pairs0p : Option Addr} {pairs0n : Nat} {pairs0c : Nat} { E : Value → Hp → Prop} {H : Hp} {K : Bool → Hp → Prop} (h : compasslaw06_UnionTurns.run_t (fun pairs0p pairs0n pairs0c s3 t5 t32 t33 H => compasslaw06_UnionTurns.l1 pairs0p pairs0n pairs0c s3 t5 t32 t33  E H K) pairs0p pairs0n pairs0c  E H K) : compasslaw06_UnionTurns.run pairs0p pairs0n pairs0c  E H K := by
  have k1 : ∀ G : List Nat → Fr → Hp → Prop, nodeR P0 T0 compasslaw06_UnionTurns.A [[0, 1, 0, 1, 1, 1, 1, 1], [1, 1, 1, 1, 1, 1], [0, 1, 0, 1, 1, 1, 1, 1, 1, 1, 1, 1], [1, 1, 1, 0, 0, 1, 1, 0, 0, 1, 0, 1, 1, 1, 1, 1, 1, 1, 1, 1], [1, 1, 1, 1, 1, 1, 1, 1, 1, 1]] G compasslaw06_UnionTurns.code [] [] (compasslaw06_UnionTurns.rq E K) (argF 0 [.slice pairs0p pairs0n pairs0c]) H = compasslaw06_UnionTurns.run_t (fun pairs0p pairs0n pairs0c s3 t5 t32 t33 H => G [0, 1, 0, 1, 1, 1, 1, 1] [(0, .slice pairs0p pairs0n pairs0c), (3, .pointer s3), (5, .pointer t5), (32, .int .i64 t32), (33, .int .i64 t33)] H) pairs0p pairs0n pairs0c  E H K := fun G => by kernel_rfl
  have k2 : compasslaw06_UnionTurns.run_t (fun pairs0p pairs0n pairs0c s3 t5 t32 t33 H => compasslaw06_UnionTurns.l1 pairs0p pairs0n pairs0c s3 t5 t32 t33  E H K) pairs0p pairs0n pairs0c  E H K = compasslaw06_UnionTurns.run_t (fun pairs0p pairs0n pairs0c s3 t5 t32 t33 H => (fun q F H => nodeM P0 T0 compasslaw06_UnionTurns.A compasslaw06_UnionTurns.code q.reverse [] (compasslaw06_UnionTurns.rq E K) F H) [0, 1, 0, 1, 1, 1, 1, 1] [(0, .slice pairs0p pairs0n pairs0c), (3, .pointer s3), (5, .pointer t5), (32, .int .i64 t32), (33, .int .i64 t33)] H) pairs0p pairs0n pairs0c  E H K := by kernel_rfl
  exact nodeR_imp compasslaw06_UnionTurns.nok rfl ((k1 _).mpr (k2.mp h))
def compasslaw06_UnionTurns.j1_t (l2 : (Option Addr) → (Option Addr) → Nat → Nat → Int → (Option Addr) → Nat → Nat → Int → Int → Hp → Prop) (s3 : Option Addr) (t5 : Option Addr)  (E : Value → Hp → Prop) (H : Hp) (K : Bool → Hp → Prop) : Prop :=
  compasslaw06_names.call s3 12 E H fun r_1p r_1n r_1c H_1 =>
  compasslaw06_names.call t5 12 E H_1 fun r_2p r_2n r_2c H_2 =>
  compasslaw06_ints.call r_1p r_1n r_1c r_2p r_2n r_2c E H_2 fun r_3 H_3 =>
  bcase ((!r_3)) (
  K false H_3)
  (unions_Sets_Count.call s3 E H_3 fun r_4 H_4 =>
  unions_Sets_Count.call t5 E H_4 fun r_5 H_5 =>
  bcase (!decide ((r_4 : Int) = r_5)) (
  K false H_5)
  (l2 s3 r_1p r_1n r_1c 0 r_1p r_1n r_1c (r_1n : Int) 0 H_5))
theorem compasslaw06_UnionTurns.j1_eq {s3 : Option Addr} {t5 : Option Addr} { E : Value → Hp → Prop} {H : Hp} {K : Bool → Hp → Prop} (h : compasslaw06_UnionTurns.j1_t (fun s3 a9p a9n a9c count10 t77p t77n t77c t78 t79 H => compasslaw06_UnionTurns.l2 s3 a9p a9n a9c count10 t77p t77n t77c t78 t79  E H K) s3 t5  E H K) : compasslaw06_UnionTurns.j1 s3 t5  E H K := by
  have k1 : ∀ G : List Nat → Fr → Hp → Prop, nodeR P0 T0 compasslaw06_UnionTurns.A [[0, 1, 0, 1, 1, 1, 1, 1], [1, 1, 1, 1, 1, 1], [0, 1, 0, 1, 1, 1, 1, 1, 1, 1, 1, 1], [1, 1, 1, 0, 0, 1, 1, 0, 0, 1, 0, 1, 1, 1, 1, 1, 1, 1, 1, 1], [1, 1, 1, 1, 1, 1, 1, 1, 1, 1]] G compasslaw06_UnionTurns.code [1, 1, 1, 1, 1, 1] [] (compasslaw06_UnionTurns.rq E K) [(3, .pointer s3), (5, .pointer t5)] H = compasslaw06_UnionTurns.j1_t (fun s3 a9p a9n a9c count10 t77p t77n t77c t78 t79 H => G [0, 1, 0, 1, 1, 1, 1, 1, 1, 1, 1, 1] [(3, .pointer s3), (9, .slice a9p a9n a9c), (10, .int .i64 count10), (77, .slice t77p t77n t77c), (78, .int .i64 t78), (79, .int .i64 t79)] H) s3 t5  E H K := fun G => by kernel_rfl
  have k2 : compasslaw06_UnionTurns.j1_t (fun s3 a9p a9n a9c count10 t77p t77n t77c t78 t79 H => compasslaw06_UnionTurns.l2 s3 a9p a9n a9c count10 t77p t77n t77c t78 t79  E H K) s3 t5  E H K = compasslaw06_UnionTurns.j1_t (fun s3 a9p a9n a9c count10 t77p t77n t77c t78 t79 H => (fun q F H => nodeM P0 T0 compasslaw06_UnionTurns.A compasslaw06_UnionTurns.code q.reverse [] (compasslaw06_UnionTurns.rq E K) F H) [0, 1, 0, 1, 1, 1, 1, 1, 1, 1, 1, 1] [(3, .pointer s3), (9, .slice a9p a9n a9c), (10, .int .i64 count10), (77, .slice t77p t77n t77c), (78, .int .i64 t78), (79, .int .i64 t79)] H) s3 t5  E H K := by kernel_rfl
  exact nodeR_imp compasslaw06_UnionTurns.nok rfl ((k1 _).mpr (k2.mp h))
def compasslaw06_UnionTurns.j2_t  (s3 : Option Addr) (a9p : Option Addr) (a9n : Nat) (a9c : Nat) (count10 : Int) (v11 : Int) (x12 : Int) (t77p : Option Addr) (t77n : Nat) (t77c : Nat) (t78 : Int) (t79 : Int) (X1 : Fr → Hp → Prop) (E : Value → Hp → Prop) (H : Hp) (K : Bool → Hp → Prop) : Prop :=
  unions_Sets_Members.call s3 v11 E H fun r_1p r_1n r_1c r_2 H_1 =>
  bcase (!decide ((r_2 : Int) = 0)) (
  K false H_1)
  (bcase (decide (((r_1n : Int) : Int) = 0)) (
  K false H_1)
  (ix r_1p r_1n 0 1 fun b_1 o_1 =>
  ldI .i64 (H_1.get b_1 o_1) fun x_1 =>
  bcase (!decide ((x_1 : Int) = x12)) (
  K false H_1)
  (X1 (compasslaw06_UnionTurns.f2 s3 a9p a9n a9c count10 t77p t77n t77c t78 (IntKind.wrap .i64 (t79 + 1))) H_1)))
theorem compasslaw06_UnionTurns.j2_eq {s3 : Option Addr} {a9p : Option Addr} {a9n : Nat} {a9c : Nat} {count10 : Int} {v11 : Int} {x12 : Int} {t77p : Option Addr} {t77n : Nat} {t77c : Nat} {t78 : Int} {t79 : Int} {X1 : Fr → Hp → Prop} { E : Value → Hp → Prop} {H : Hp} {K : Bool → Hp → Prop} (h : compasslaw06_UnionTurns.j2_t  s3 a9p a9n a9c count10 v11 x12 t77p t77n t77c t78 t79 X1 E H K) : compasslaw06_UnionTurns.j2 s3 a9p a9n a9c count10 v11 x12 t77p t77n t77c t78 t79 X1 E H K := by
  have k1 : ∀ G : List Nat → Fr → Hp → Prop, nodeR P0 T0 compasslaw06_UnionTurns.A [[0, 1, 0, 1, 1, 1, 1, 1], [1, 1, 1, 1, 1, 1], [0, 1, 0, 1, 1, 1, 1, 1, 1, 1, 1, 1], [1, 1, 1, 0, 0, 1, 1, 0, 0, 1, 0, 1, 1, 1, 1, 1, 1, 1, 1, 1], [1, 1, 1, 1, 1, 1, 1, 1, 1, 1]] G compasslaw06_UnionTurns.code [1, 1, 1, 1, 1, 1, 1, 1, 1, 0, 1, 0, 0, 1, 1, 0, 0, 1, 1, 1] [X1] (compasslaw06_UnionTurns.rq E K) [(3, .pointer s3), (9, .slice a9p a9n a9c), (10, .int .i64 count10), (11, .int .i64 v11), (12, .int .i64 x12), (77, .slice t77p t77n t77c), (78, .int .i64 t78), (79, .int .i64 t79)] H = compasslaw06_UnionTurns.j2_t  s3 a9p a9n a9c count10 v11 x12 t77p t77n t77c t78 t79 X1 E H K := fun G => by kernel_rfl
  exact nodeR_imp compasslaw06_UnionTurns.nok rfl ((k1 _).mpr h)
def compasslaw06_UnionTurns.j3_t  (s3 : Option Addr) (count10 : Int)  (E : Value → Hp → Prop) (H : Hp) (K : Bool → Hp → Prop) : Prop :=
  unions_Sets_Count.call s3 E H fun r_1 H_1 =>
  K (decide ((count10 : Int) = r_1)) H_1
theorem compasslaw06_UnionTurns.j3_eq {s3 : Option Addr} {count10 : Int} { E : Value → Hp → Prop} {H : Hp} {K : Bool → Hp → Prop} (h : compasslaw06_UnionTurns.j3_t  s3 count10  E H K) : compasslaw06_UnionTurns.j3 s3 count10  E H K := by
  have k1 : ∀ G : List Nat → Fr → Hp → Prop, nodeR P0 T0 compasslaw06_UnionTurns.A [[0, 1, 0, 1, 1, 1, 1, 1], [1, 1, 1, 1, 1, 1], [0, 1, 0, 1, 1, 1, 1, 1, 1, 1, 1, 1], [1, 1, 1, 0, 0, 1, 1, 0, 0, 1, 0, 1, 1, 1, 1, 1, 1, 1, 1, 1], [1, 1, 1, 1, 1, 1, 1, 1, 1, 1]] G compasslaw06_UnionTurns.code [1, 1, 1, 1, 1, 1, 1, 1, 1, 1] [] (compasslaw06_UnionTurns.rq E K) [(3, .pointer s3), (10, .int .i64 count10)] H = compasslaw06_UnionTurns.j3_t  s3 count10  E H K := fun G => by kernel_rfl
  exact nodeR_imp compasslaw06_UnionTurns.nok rfl ((k1 _).mpr h)
def compasslaw06_UnionTurns.b1_t (j1 : (Option Addr) → (Option Addr) → Hp → Prop) (pairs0p : Option Addr) (pairs0n : Nat) (pairs0c : Nat) (s3 : Option Addr) (t5 : Option Addr) (t32 : Int) (t33 : Int) (X1 : Fr → Hp → Prop) (E : Value → Hp → Prop) (H : Hp) (K : Bool → Hp → Prop) : Prop :=
  bcase (decide ((t33 : Int) < t32)) (
  ix pairs0p pairs0n t33 3 fun b_1 o_1 =>
  ldI .i64 (H.get b_1 (o_1 + 1)) fun x_1 =>
  ix pairs0p pairs0n t33 3 fun b_2 o_2 =>
  ldI .i64 (H.get b_2 (o_2 + 2)) fun x_2 =>
  unions_Sets_Join.call s3 x_1 x_2 E H fun r_1 r_2 H_1 =>
  ix pairs0p pairs0n (IntKind.wrap .i64 ((IntKind.wrap .i64 ((pairs0n : Int) - 1)) - t33)) 3 fun b_3 o_3 =>
  ldI .i64 (H_1.get b_3 o_3) fun x_3 =>
  ldI .i64 (H_1.get b_3 (o_3 + 1)) fun x_4 =>
  ldI .i64 (H_1.get b_3 (o_3 + 2)) fun x_5 =>
  nw H_1 ⟨[.int .i64 0, .int .i64 0, .int .i64 0], 32⟩ fun b_4 H_2 =>
  stC H_2 b_4 0 [.int .i64 x_3, .int .i64 x_4, .int .i64 x_5] fun H_3 =>
  ldI .i64 (H_3.get b_4 2) fun x_6 =>
  ldI .i64 (H_3.get b_4 1) fun x_7 =>
  unions_Sets_Join.call t5 x_6 x_7 E H_3 fun r_3 r_4 H_4 =>
  X1 (compasslaw06_UnionTurns.f1 pairs0p pairs0n pairs0c s3 t5 t32 (IntKind.wrap .i64 (t33 + 1))) H_4)
  (j1 s3 t5 H)
theorem compasslaw06_UnionTurns.b1_eq {pairs0p : Option Addr} {pairs0n : Nat} {pairs0c : Nat} {s3 : Option Addr} {t5 : Option Addr} {t32 : Int} {t33 : Int} {X1 : Fr → Hp → Prop} { E : Value → Hp → Prop} {H : Hp} {K : Bool → Hp → Prop} (h : compasslaw06_UnionTurns.b1_t (fun s3 t5 H => compasslaw06_UnionTurns.j1 s3 t5  E H K) pairs0p pairs0n pairs0c s3 t5 t32 t33 X1 E H K) : compasslaw06_UnionTurns.b1 pairs0p pairs0n pairs0c s3 t5 t32 t33 X1 E H K := by
  have k1 : ∀ G : List Nat → Fr → Hp → Prop, nodeR P0 T0 compasslaw06_UnionTurns.A [[0, 1, 0, 1, 1, 1, 1, 1], [1, 1, 1, 1, 1, 1], [0, 1, 0, 1, 1, 1, 1, 1, 1, 1, 1, 1], [1, 1, 1, 0, 0, 1, 1, 0, 0, 1, 0, 1, 1, 1, 1, 1, 1, 1, 1, 1], [1, 1, 1, 1, 1, 1, 1, 1, 1, 1]] G compasslaw06_UnionTurns.code [1, 1, 1, 1, 1, 0, 1, 0, 0] [X1] (compasslaw06_UnionTurns.rq E K) (compasslaw06_UnionTurns.f1 pairs0p pairs0n pairs0c s3 t5 t32 t33) H = compasslaw06_UnionTurns.b1_t (fun s3 t5 H => G [1, 1, 1, 1, 1, 1] [(3, .pointer s3), (5, .pointer t5)] H) pairs0p pairs0n pairs0c s3 t5 t32 t33 X1 E H K := fun G => by kernel_rfl
  have k2 : compasslaw06_UnionTurns.b1_t (fun s3 t5 H => compasslaw06_UnionTurns.j1 s3 t5  E H K) pairs0p pairs0n pairs0c s3 t5 t32 t33 X1 E H K = compasslaw06_UnionTurns.b1_t (fun s3 t5 H => (fun q F H => nodeM P0 T0 compasslaw06_UnionTurns.A compasslaw06_UnionTurns.code q.reverse [X1] (compasslaw06_UnionTurns.rq E K) F H) [1, 1, 1, 1, 1, 1] [(3, .pointer s3), (5, .pointer t5)] H) pairs0p pairs0n pairs0c s3 t5 t32 t33 X1 E H K := by kernel_rfl
  exact nodeR_imp compasslaw06_UnionTurns.nok rfl ((k1 _).mpr (k2.mp h))
def compasslaw06_UnionTurns.b2_t (j2 : (Option Addr) → (Option Addr) → Nat → Nat → Int → Int → Int → (Option Addr) → Nat → Nat → Int → Int → Hp → Prop) (j3 : (Option Addr) → Int → Hp → Prop) (s3 : Option Addr) (a9p : Option Addr) (a9n : Nat) (a9c : Nat) (count10 : Int) (t77p : Option Addr) (t77n : Nat) (t77c : Nat) (t78 : Int) (t79 : Int) (X1 : Fr → Hp → Prop) (E : Value → Hp → Prop) (H : Hp) (K : Bool → Hp → Prop) : Prop :=
  bcase (decide ((t79 : Int) < t78)) (
  ix t77p t77n t79 1 fun b_1 o_1 =>
  ldI .i64 (H.get b_1 o_1) fun x_1 =>
  bcase (decide ((x_1 : Int) < 0)) (
  K false H)
  (bcase (decide ((t79 : Int) < x_1)) (
  K false H)
  (ix a9p a9n x_1 1 fun b_2 o_2 =>
  ldI .i64 (H.get b_2 o_2) fun x_2 =>
  bcase (!decide ((x_2 : Int) = x_1)) (
  K false H)
  (bcase (decide ((x_1 : Int) = t79)) (
  j2 s3 a9p a9n a9c (IntKind.wrap .i64 (count10 + 1)) t79 x_1 t77p t77n t77c t78 t79 H)
  (j2 s3 a9p a9n a9c count10 t79 x_1 t77p t77n t77c t78 t79 H)))))
  (j3 s3 count10 H)
theorem compasslaw06_UnionTurns.b2_eq {s3 : Option Addr} {a9p : Option Addr} {a9n : Nat} {a9c : Nat} {count10 : Int} {t77p : Option Addr} {t77n : Nat} {t77c : Nat} {t78 : Int} {t79 : Int} {X1 : Fr → Hp → Prop} { E : Value → Hp → Prop} {H : Hp} {K : Bool → Hp → Prop} (h : compasslaw06_UnionTurns.b2_t (fun s3 a9p a9n a9c count10 v11 x12 t77p t77n t77c t78 t79 H => compasslaw06_UnionTurns.j2 s3 a9p a9n a9c count10 v11 x12 t77p t77n t77c t78 t79 X1 E H K) (fun s3 count10 H => compasslaw06_UnionTurns.j3 s3 count10  E H K) s3 a9p a9n a9c count10 t77p t77n t77c t78 t79 X1 E H K) : compasslaw06_UnionTurns.b2 s3 a9p a9n a9c count10 t77p t77n t77c t78 t79 X1 E H K := by
  have k1 : ∀ G : List Nat → Fr → Hp → Prop, nodeR P0 T0 compasslaw06_UnionTurns.A [[0, 1, 0, 1, 1, 1, 1, 1], [1, 1, 1, 1, 1, 1], [0, 1, 0, 1, 1, 1, 1, 1, 1, 1, 1, 1], [1, 1, 1, 0, 0, 1, 1, 0, 0, 1, 0, 1, 1, 1, 1, 1, 1, 1, 1, 1], [1, 1, 1, 1, 1, 1, 1, 1, 1, 1]] G compasslaw06_UnionTurns.code [1, 1, 1, 1, 1, 1, 1, 1, 1, 0, 1, 0, 0] [X1] (compasslaw06_UnionTurns.rq E K) (compasslaw06_UnionTurns.f2 s3 a9p a9n a9c count10 t77p t77n t77c t78 t79) H = compasslaw06_UnionTurns.b2_t (fun s3 a9p a9n a9c count10 v11 x12 t77p t77n t77c t78 t79 H => G [1, 1, 1, 0, 0, 1, 1, 0, 0, 1, 0, 1, 1, 1, 1, 1, 1, 1, 1, 1] [(3, .pointer s3), (9, .slice a9p a9n a9c), (10, .int .i64 count10), (11, .int .i64 v11), (12, .int .i64 x12), (77, .slice t77p t77n t77c), (78, .int .i64 t78), (79, .int .i64 t79)] H) (fun s3 count10 H => G [1, 1, 1, 1, 1, 1, 1, 1, 1, 1] [(3, .pointer s3), (10, .int .i64 count10)] H) s3 a9p a9n a9c count10 t77p t77n t77c t78 t79 X1 E H K := fun G => by kernel_rfl
  have k2 : compasslaw06_UnionTurns.b2_t (fun s3 a9p a9n a9c count10 v11 x12 t77p t77n t77c t78 t79 H => compasslaw06_UnionTurns.j2 s3 a9p a9n a9c count10 v11 x12 t77p t77n t77c t78 t79 X1 E H K) (fun s3 count10 H => compasslaw06_UnionTurns.j3 s3 count10  E H K) s3 a9p a9n a9c count10 t77p t77n t77c t78 t79 X1 E H K = compasslaw06_UnionTurns.b2_t (fun s3 a9p a9n a9c count10 v11 x12 t77p t77n t77c t78 t79 H => (fun q F H => nodeM P0 T0 compasslaw06_UnionTurns.A compasslaw06_UnionTurns.code q.reverse [X1] (compasslaw06_UnionTurns.rq E K) F H) [1, 1, 1, 0, 0, 1, 1, 0, 0, 1, 0, 1, 1, 1, 1, 1, 1, 1, 1, 1] [(3, .pointer s3), (9, .slice a9p a9n a9c), (10, .int .i64 count10), (11, .int .i64 v11), (12, .int .i64 x12), (77, .slice t77p t77n t77c), (78, .int .i64 t78), (79, .int .i64 t79)] H) (fun s3 count10 H => (fun q F H => nodeM P0 T0 compasslaw06_UnionTurns.A compasslaw06_UnionTurns.code q.reverse [X1] (compasslaw06_UnionTurns.rq E K) F H) [1, 1, 1, 1, 1, 1, 1, 1, 1, 1] [(3, .pointer s3), (10, .int .i64 count10)] H) s3 a9p a9n a9c count10 t77p t77n t77c t78 t79 X1 E H K := by kernel_rfl
  exact nodeR_imp compasslaw06_UnionTurns.nok rfl ((k1 _).mpr (k2.mp h))
/-! ### compass/compasslaw06.UnionPlays (5) -/
noncomputable def compasslaw06_UnionPlays.A : An := { live := [(0, [0, 1]), (1, [0, 1]), (2, []), (3, [0, 1]), (4, [0, 1, 5, 6]), (5, [0, 1, 5, 6, 7]), (6, []), (7, [0, 1, 5]), (8, []), (9, [0, 1, 5]), (10, [0, 1, 5, 8]), (11, [0, 1, 5, 8]), (12, [0, 5, 8, 35, 36, 37]), (13, [0, 5, 8, 35, 36, 37]), (14, [0, 5, 8, 11, 35, 36, 37]), (15, [0, 5, 8, 9, 35, 36, 37]), (16, []), (17, [0, 5, 8, 35, 36, 37]), (18, [])], ord := [(15, [0, 1, 2, 3, 5, 6, 7, 4, 8, 9, 10, 11, 13, 14, 15, 16, 17, 12, 18, 19])], stb := [(15, [(4, [6]), (12, [15])])], pre := [(15, [[], [0], [0, 1], [0, 1, 2], [0, 1, 2, 3], [0, 1, 2], [0, 1, 2, 5], [0, 1, 2, 5, 6], [0, 1, 2, 3, 4, 5, 6, 7], [0, 1, 2, 3, 4, 5, 6, 7, 8], [0, 1, 2, 3, 4, 5, 6, 7, 8, 9], [0, 1, 2, 3, 4, 5, 6, 7, 8, 9, 10], [0, 1, 2, 3, 4, 5, 6, 7, 8, 9, 10, 11], [0, 1, 2, 3, 4, 5, 6, 7, 8, 9, 10], [0, 1, 2, 3, 4, 5, 6, 7, 8, 9, 10], [0, 1, 2, 3, 4, 5, 6, 7, 8, 9, 10, 14], [0, 1, 2, 3, 4, 5, 6, 7, 8, 9, 10, 14, 15], [0, 1, 2, 3, 4, 5, 6, 7, 8, 9, 10, 13, 14, 15, 16], [0, 1, 2, 3, 4, 5, 6, 7, 8, 9, 10, 11, 12, 13, 14, 15, 16, 17], [0, 1, 2, 3, 4, 5, 6, 7, 8, 9, 10, 11, 12, 13, 14, 15, 16, 17, 18]])] }
noncomputable def compasslaw06_UnionPlays.code : Code := bodyOf Go.Proofs.Try.f5
theorem compasslaw06_UnionPlays.ok : okCode compasslaw06_UnionPlays.A 69 compasslaw06_UnionPlays.code = true := by kernel_rfl
def compasslaw06_UnionPlays.rq (E : Value → Hp → Prop) (K : Bool → Hp → Prop) : Ex → Fr → Hp → Prop := retQ T0 [.tmp 4] [4] (fun r H => ldR (.one false [.bool]) r fun u => K (asB u) H) E
def compasslaw06_UnionPlays.run (n0 : Int) (script1p : Option Addr) (script1n : Nat) (script1c : Nat) (E : Value → Hp → Prop) (H : Hp) (K : Bool → Hp → Prop) : Prop := nodeM P0 T0 compasslaw06_UnionPlays.A compasslaw06_UnionPlays.code [] [] (compasslaw06_UnionPlays.rq E K) (argF 0 [.int .i64 n0, .slice script1p script1n script1c]) H
theorem compasslaw06_UnionPlays.of {n0 : Int} {script1p : Option Addr} {script1n : Nat} {script1c : Nat} {E : Value → Hp → Prop} {H : Hp} {K : Bool → Hp → Prop} (h : compasslaw06_UnionPlays.run n0 script1p script1n script1c E H K) : compasslaw06_UnionPlays.call n0 script1p script1n script1c E H K :=
  callW_of T0_ok P0_mixed (A := compasslaw06_UnionPlays.A) (fn := Go.Proofs.Try.f5) Go.Proofs.Try.func5 rfl compasslaw06_UnionPlays.ok rfl h
noncomputable def compasslaw06_UnionPlays.f1 (n0 : Int) (s5 : Option Addr) (w8 : Nat) (t35p : Option Addr) (t35n : Nat) (t35c : Nat) (t36 : Int) (t37 : Int) : Fr := [(0, .int .i64 n0), (5, .pointer s5), (8, .pointer (some ⟨w8, 0, none⟩)), (35, .slice t35p t35n t35c), (36, .int .i64 t36), (37, .int .i64 t37)]
def compasslaw06_UnionPlays.l1 (n0 : Int) (s5 : Option Addr) (w8 : Nat) (t35p : Option Addr) (t35n : Nat) (t35c : Nat) (t36 : Int) (t37 : Int)  (E : Value → Hp → Prop) (H : Hp) (K : Bool → Hp → Prop) : Prop := nodeM P0 T0 compasslaw06_UnionPlays.A compasslaw06_UnionPlays.code [1, 1, 1, 1, 1, 1, 1, 1, 0, 1, 0] [] (compasslaw06_UnionPlays.rq E K) (compasslaw06_UnionPlays.f1 n0 s5 w8 t35p t35n t35c t36 t37) H
def compasslaw06_UnionPlays.b1 (n0 : Int) (s5 : Option Addr) (w8 : Nat) (t35p : Option Addr) (t35n : Nat) (t35c : Nat) (t36 : Int) (t37 : Int)  (X1 : Fr → Hp → Prop) (E : Value → Hp → Prop) (H : Hp) (K : Bool → Hp → Prop) : Prop := nodeM P0 T0 compasslaw06_UnionPlays.A compasslaw06_UnionPlays.code [1, 1, 1, 1, 1, 1, 1, 1, 0, 1, 0, 0] [X1] (compasslaw06_UnionPlays.rq E K) (compasslaw06_UnionPlays.f1 n0 s5 w8 t35p t35n t35c t36 t37) H
theorem compasslaw06_UnionPlays.l1_rule { E : Value → Hp → Prop} {K : Bool → Hp → Prop} (I : Int → (Option Addr) → Nat → (Option Addr) → Nat → Nat → Int → Int → Hp → Prop) (μ : Int → (Option Addr) → Nat → (Option Addr) → Nat → Nat → Int → Int → Hp → Nat)
    (h : ∀ n0 s5 w8 t35p t35n t35c t36 t37 H, I n0 s5 w8 t35p t35n t35c t36 t37 H → ∀ X : Fr → Hp → Prop, (∀ n0' s5' w8' t35p' t35n' t35c' t36' t37' H', I n0' s5' w8' t35p' t35n' t35c' t36' t37' H' → μ n0' s5' w8' t35p' t35n' t35c' t36' t37' H' < μ n0 s5 w8 t35p t35n t35c t36 t37 H → X (compasslaw06_UnionPlays.f1 n0' s5' w8' t35p' t35n' t35c' t36' t37') H') → compasslaw06_UnionPlays.b1 n0 s5 w8 t35p t35n t35c t36 t37  X E H K)
    {n0 : Int} {s5 : Option Addr} {w8 : Nat} {t35p : Option Addr} {t35n : Nat} {t35c : Nat} {t36 : Int} {t37 : Int} {H : Hp} (hI : I n0 s5 w8 t35p t35n t35c t36 t37 H) : compasslaw06_UnionPlays.l1 n0 s5 w8 t35p t35n t35c t36 t37  E H K :=
  loop_rule (S := Int × (Option Addr) × Nat × (Option Addr) × Nat × Nat × Int × Int) (fun s => compasslaw06_UnionPlays.f1 (s.1) (s.2.1) (s.2.2.1) (s.2.2.2.1) (s.2.2.2.2.1) (s.2.2.2.2.2.1) (s.2.2.2.2.2.2.1) (s.2.2.2.2.2.2.2)) (fun s H => I (s.1) (s.2.1) (s.2.2.1) (s.2.2.2.1) (s.2.2.2.2.1) (s.2.2.2.2.2.1) (s.2.2.2.2.2.2.1) (s.2.2.2.2.2.2.2) H) (fun s H => μ (s.1) (s.2.1) (s.2.2.1) (s.2.2.2.1) (s.2.2.2.2.1) (s.2.2.2.2.2.1) (s.2.2.2.2.2.2.1) (s.2.2.2.2.2.2.2) H) (fun s H hI X hX => h (s.1) (s.2.1) (s.2.2.1) (s.2.2.2.1) (s.2.2.2.2.1) (s.2.2.2.2.2.1) (s.2.2.2.2.2.2.1) (s.2.2.2.2.2.2.2) H hI X fun n0' s5' w8' t35p' t35n' t35c' t36' t37' H' hI' hlt => hX (n0', s5', w8', t35p', t35n', t35c', t36', t37') H' hI' hlt) (s := (n0, s5, w8, t35p, t35n, t35c, t36, t37)) rfl hI
theorem compasslaw06_UnionPlays.nok : nodesOk compasslaw06_UnionPlays.code [[0, 1, 0, 1, 1, 1, 1, 1, 1, 1, 1]] = true := by kernel_rfl
def compasslaw06_UnionPlays.run_t (l1 : Int → (Option Addr) → Nat → (Option Addr) → Nat → Nat → Int → Int → Hp → Prop) (n0 : Int) (script1p : Option Addr) (script1n : Nat) (script1c : Nat)  (E : Value → Hp → Prop) (H : Hp) (K : Bool → Hp → Prop) : Prop :=
  compasslaw06_awake.call  E H fun r_1 H_1 =>
  bcase ((!r_1)) (
  K false H_1)
  (unions_New.call n0 E H_1 fun r_2 r_3 H_2 =>
  compassref06_Wrong.call n0 E H_2 fun r_4 H_3 =>
  bcase (!decide ((r_3 : Int) = r_4)) (
  K false H_3)
  (bcase (!((Option.isNone r_2) == (!decide ((r_4 : Int) = 0)))) (
  K false H_3)
  (bcase (Option.isNone r_2) (
  K true H_3)
  (nw H_3 ⟨[.int .i64 0, .slice none 0 0], 45⟩ fun b_1 H_4 =>
  stC H_4 b_1 0 [.int .i64 n0, .slice none 0 0] fun H_5 =>
  l1 n0 r_2 b_1 script1p script1n script1c (script1n : Int) 0 H_5))))
theorem compasslaw06_UnionPlays.run_eq {n0 : Int} {script1p : Option Addr} {script1n : Nat} {script1c : Nat} { E : Value → Hp → Prop} {H : Hp} {K : Bool → Hp → Prop} (h : compasslaw06_UnionPlays.run_t (fun n0 s5 w8 t35p t35n t35c t36 t37 H => compasslaw06_UnionPlays.l1 n0 s5 w8 t35p t35n t35c t36 t37  E H K) n0 script1p script1n script1c  E H K) : compasslaw06_UnionPlays.run n0 script1p script1n script1c  E H K := by
  have k1 : ∀ G : List Nat → Fr → Hp → Prop, nodeR P0 T0 compasslaw06_UnionPlays.A [[0, 1, 0, 1, 1, 1, 1, 1, 1, 1, 1]] G compasslaw06_UnionPlays.code [] [] (compasslaw06_UnionPlays.rq E K) (argF 0 [.int .i64 n0, .slice script1p script1n script1c]) H = compasslaw06_UnionPlays.run_t (fun n0 s5 w8 t35p t35n t35c t36 t37 H => G [0, 1, 0, 1, 1, 1, 1, 1, 1, 1, 1] [(0, .int .i64 n0), (5, .pointer s5), (8, .pointer (some ⟨w8, 0, none⟩)), (35, .slice t35p t35n t35c), (36, .int .i64 t36), (37, .int .i64 t37)] H) n0 script1p script1n script1c  E H K := fun G => by kernel_rfl
  have k2 : compasslaw06_UnionPlays.run_t (fun n0 s5 w8 t35p t35n t35c t36 t37 H => compasslaw06_UnionPlays.l1 n0 s5 w8 t35p t35n t35c t36 t37  E H K) n0 script1p script1n script1c  E H K = compasslaw06_UnionPlays.run_t (fun n0 s5 w8 t35p t35n t35c t36 t37 H => (fun q F H => nodeM P0 T0 compasslaw06_UnionPlays.A compasslaw06_UnionPlays.code q.reverse [] (compasslaw06_UnionPlays.rq E K) F H) [0, 1, 0, 1, 1, 1, 1, 1, 1, 1, 1] [(0, .int .i64 n0), (5, .pointer s5), (8, .pointer (some ⟨w8, 0, none⟩)), (35, .slice t35p t35n t35c), (36, .int .i64 t36), (37, .int .i64 t37)] H) n0 script1p script1n script1c  E H K := by kernel_rfl
  exact nodeR_imp compasslaw06_UnionPlays.nok rfl ((k1 _).mpr (k2.mp h))
def compasslaw06_UnionPlays.b1_t  (n0 : Int) (s5 : Option Addr) (w8 : Nat) (t35p : Option Addr) (t35n : Nat) (t35c : Nat) (t36 : Int) (t37 : Int) (X1 : Fr → Hp → Prop) (E : Value → Hp → Prop) (H : Hp) (K : Bool → Hp → Prop) : Prop :=
  bcase (decide ((t37 : Int) < t36)) (
  ix t35p t35n t37 3 fun b_1 o_1 =>
  ldI .i64 (H.get b_1 o_1) fun x_1 =>
  ldI .i64 (H.get b_1 (o_1 + 1)) fun x_2 =>
  ldI .i64 (H.get b_1 (o_1 + 2)) fun x_3 =>
  nw H ⟨[.int .i64 0, .int .i64 0, .int .i64 0], 32⟩ fun b_2 H_1 =>
  stC H_1 b_2 0 [.int .i64 x_1, .int .i64 x_2, .int .i64 x_3] fun H_2 =>
  ldI .i64 (H_2.get w8 0) fun x_4 =>
  ldS (H_2.get w8 1) fun x_5p x_5n x_5c =>
  ldI .i64 (H_2.get b_2 0) fun x_6 =>
  ldI .i64 (H_2.get b_2 1) fun x_7 =>
  ldI .i64 (H_2.get b_2 2) fun x_8 =>
  compasslaw06_step.call s5 x_4 x_5p x_5n x_5c x_6 x_7 x_8 E H_2 fun r_1_N r_1_Joinsp r_1_Joinsn r_1_Joinsc r_2 H_3 =>
  stC H_3 w8 0 [.int .i64 r_1_N, .slice r_1_Joinsp r_1_Joinsn r_1_Joinsc] fun H_4 =>
  bcase ((!r_2)) (
  K false H_4)
  (ldS (H_4.get w8 1) fun x_9p x_9n x_9c =>
  unions_Sets_Joins.call s5 E H_4 fun r_3 H_5 =>
  (ldS (H_5.get w8 1) fun x_12p x_12n x_12c =>
  Value.slice x_12p x_12n x_12c = Value.slice x_9p x_9n x_9c) ∧
  bcase (!decide ((r_3 : Int) = (x_9n : Int))) (
  K false H_5)
  (ldS (H_5.get w8 1) fun x_10p x_10n x_10c =>
  unions_Sets_Count.call s5 E H_5 fun r_4 H_6 =>
  (ldS (H_6.get w8 1) fun x_11p x_11n x_11c =>
  Value.slice x_11p x_11n x_11c = Value.slice x_10p x_10n x_10c) ∧
  bcase (!decide ((r_4 : Int) = (IntKind.wrap .i64 (n0 - (x_10n : Int))))) (
  K false H_6)
  (X1 (compasslaw06_UnionPlays.f1 n0 s5 w8 t35p t35n t35c t36 (IntKind.wrap .i64 (t37 + 1))) H_6))))
  (K true H)
theorem compasslaw06_UnionPlays.b1_eq {n0 : Int} {s5 : Option Addr} {w8 : Nat} {t35p : Option Addr} {t35n : Nat} {t35c : Nat} {t36 : Int} {t37 : Int} {X1 : Fr → Hp → Prop} { E : Value → Hp → Prop} {H : Hp} {K : Bool → Hp → Prop} (h : compasslaw06_UnionPlays.b1_t  n0 s5 w8 t35p t35n t35c t36 t37 X1 E H K) : compasslaw06_UnionPlays.b1 n0 s5 w8 t35p t35n t35c t36 t37 X1 E H K := by
  have k1 : ∀ G : List Nat → Fr → Hp → Prop, nodeR P0 T0 compasslaw06_UnionPlays.A [[0, 1, 0, 1, 1, 1, 1, 1, 1, 1, 1]] G compasslaw06_UnionPlays.code [1, 1, 1, 1, 1, 1, 1, 1, 0, 1, 0, 0] [X1] (compasslaw06_UnionPlays.rq E K) (compasslaw06_UnionPlays.f1 n0 s5 w8 t35p t35n t35c t36 t37) H = compasslaw06_UnionPlays.b1_t  n0 s5 w8 t35p t35n t35c t36 t37 X1 E H K := fun G => by kernel_rfl
  exact nodeR_imp compasslaw06_UnionPlays.nok rfl ((k1 _).mpr h)
/-! ### compass/compasslaw06.awake (6) -/
noncomputable def compasslaw06_awake.A : An := { live := [(0, []), (1, []), (2, [1, 2]), (3, []), (4, [1]), (5, [1, 3, 4]), (6, [1, 3, 4, 5, 6]), (7, []), (8, [1]), (9, [1, 7])], ord := [], stb := [], pre := [] }
noncomputable def compasslaw06_awake.code : Code := bodyOf Go.Proofs.Try.f6
theorem compasslaw06_awake.ok : okCode compasslaw06_awake.A 65 compasslaw06_awake.code = true := by kernel_rfl
def compasslaw06_awake.rq (E : Value → Hp → Prop) (K : Bool → Hp → Prop) : Ex → Fr → Hp → Prop := retQ T0 [.tmp 0] [4] (fun r H => ldR (.one false [.bool]) r fun u => K (asB u) H) E
def compasslaw06_awake.run  (E : Value → Hp → Prop) (H : Hp) (K : Bool → Hp → Prop) : Prop := nodeM P0 T0 compasslaw06_awake.A compasslaw06_awake.code [] [] (compasslaw06_awake.rq E K) (argF 0 []) H
theorem compasslaw06_awake.of {E : Value → Hp → Prop} {H : Hp} {K : Bool → Hp → Prop} (h : compasslaw06_awake.run E H K) : compasslaw06_awake.call E H K :=
  callW_of T0_ok P0_mixed (A := compasslaw06_awake.A) (fn := Go.Proofs.Try.f6) Go.Proofs.Try.func6 rfl compasslaw06_awake.ok rfl h
theorem compasslaw06_awake.nok : nodesOk compasslaw06_awake.code [] = true := by kernel_rfl
def compasslaw06_awake.run_t    (E : Value → Hp → Prop) (H : Hp) (K : Bool → Hp → Prop) : Prop :=
  unions_New.call 3 E H fun r_1 r_2 H_1 =>
  bcase (Option.isNone r_1) (
  K false H_1)
  (bcase (!decide ((r_2 : Int) = 0)) (
  K false H_1)
  (unions_Sets_Join.call r_1 2 1 E H_1 fun r_3 r_4 H_2 =>
  unions_Sets_Find.call r_1 2 E H_2 fun r_5 r_6 H_3 =>
  bcase ((!r_3)) (
  K false H_3)
  (bcase (!decide ((r_4 : Int) = 0)) (
  K false H_3)
  (bcase (!decide ((r_5 : Int) = 1)) (
  K false H_3)
  (bcase (!decide ((r_6 : Int) = 0)) (
  K false H_3)
  (unions_Sets_Count.call r_1 E H_3 fun r_7 H_4 =>
  bcase (!decide ((r_7 : Int) = 2)) (
  K false H_4)
  (unions_Sets_Undo.call r_1 E H_4 fun r_8 H_5 =>
  bcase (!decide ((r_8 : Int) = 0)) (
  K false H_5)
  (unions_Sets_Find.call r_1 2 E H_5 fun r_9 r_10 H_6 =>
  bcase (decide ((r_9 : Int) = 2)) (
  unions_Sets_Count.call r_1 E H_6 fun r_11 H_7 =>
  K (decide ((r_11 : Int) = 3)) H_7)
  (K false H_6)))))))))
theorem compasslaw06_awake.run_eq { E : Value → Hp → Prop} {H : Hp} {K : Bool → Hp → Prop} (h : compasslaw06_awake.run_t    E H K) : compasslaw06_awake.run   E H K := by
  have k1 : ∀ G : List Nat → Fr → Hp → Prop, nodeR P0 T0 compasslaw06_awake.A [] G compasslaw06_awake.code [] [] (compasslaw06_awake.rq E K) (argF 0 []) H = compasslaw06_awake.run_t    E H K := fun G => by kernel_rfl
  exact nodeR_imp compasslaw06_awake.nok rfl ((k1 _).mpr h)
/-! ### compass/compasslaw06.names (8) -/
noncomputable def compasslaw06_names.A : An := { live := [(0, [0, 1]), (1, [0, 1]), (2, [0, 1, 5]), (3, [0, 1, 5, 6]), (4, [0, 1, 5, 6]), (5, [0, 1, 5, 6]), (6, [0, 1, 5, 6, 7, 8]), (7, [0, 1, 5, 6]), (8, [0, 1, 5, 6, 7]), (9, [5])], ord := [], stb := [], pre := [] }
noncomputable def compasslaw06_names.code : Code := bodyOf Go.Proofs.Try.f8
theorem compasslaw06_names.ok : okCode compasslaw06_names.A 27 compasslaw06_names.code = true := by kernel_rfl
def compasslaw06_names.rq (E : Value → Hp → Prop) (K : (Option Addr) → Nat → Nat → Hp → Prop) : Ex → Fr → Hp → Prop := retQ T0 [.tmp 4] [28] (fun r H => ldR (.one false [.sl]) r fun u => K (asS1 u) (asS2 u) (asS3 u) H) E
def compasslaw06_names.run (s0 : Option Addr) (n1 : Int) (E : Value → Hp → Prop) (H : Hp) (K : (Option Addr) → Nat → Nat → Hp → Prop) : Prop := nodeM P0 T0 compasslaw06_names.A compasslaw06_names.code [] [] (compasslaw06_names.rq E K) (argF 0 [.pointer s0, .int .i64 n1]) H
theorem compasslaw06_names.of {s0 : Option Addr} {n1 : Int} {E : Value → Hp → Prop} {H : Hp} {K : (Option Addr) → Nat → Nat → Hp → Prop} (h : compasslaw06_names.run s0 n1 E H K) : compasslaw06_names.call s0 n1 E H K :=
  callW_of T0_ok P0_mixed (A := compasslaw06_names.A) (fn := Go.Proofs.Try.f8) Go.Proofs.Try.func8 rfl compasslaw06_names.ok rfl h
noncomputable def compasslaw06_names.f1 (s0 : Option Addr) (n1 : Int) (out5p : Option Addr) (out5n : Nat) (out5c : Nat) (v6 : Int) : Fr := [(0, .pointer s0), (1, .int .i64 n1), (5, .slice out5p out5n out5c), (6, .int .i64 v6)]
def compasslaw06_names.j1 (s0 : Option Addr) (n1 : Int) (out5p : Option Addr) (out5n : Nat) (out5c : Nat) (v6 : Int) (x7 : Int) (X1 : Fr → Hp → Prop) (E : Value → Hp → Prop) (H : Hp) (K : (Option Addr) → Nat → Nat → Hp → Prop) : Prop := nodeM P0 T0 compasslaw06_names.A compasslaw06_names.code [1, 1, 0, 1, 0, 0, 1, 0, 0, 1, 1] [X1] (compasslaw06_names.rq E K) [(0, .pointer s0), (1, .int .i64 n1), (5, .slice out5p out5n out5c), (6, .int .i64 v6), (7, .int .i64 x7)] H
def compasslaw06_names.l1 (s0 : Option Addr) (n1 : Int) (out5p : Option Addr) (out5n : Nat) (out5c : Nat) (v6 : Int)  (E : Value → Hp → Prop) (H : Hp) (K : (Option Addr) → Nat → Nat → Hp → Prop) : Prop := nodeM P0 T0 compasslaw06_names.A compasslaw06_names.code [1, 1, 0, 1, 0] [] (compasslaw06_names.rq E K) (compasslaw06_names.f1 s0 n1 out5p out5n out5c v6) H
def compasslaw06_names.b1 (s0 : Option Addr) (n1 : Int) (out5p : Option Addr) (out5n : Nat) (out5c : Nat) (v6 : Int)  (X1 : Fr → Hp → Prop) (E : Value → Hp → Prop) (H : Hp) (K : (Option Addr) → Nat → Nat → Hp → Prop) : Prop := nodeM P0 T0 compasslaw06_names.A compasslaw06_names.code [1, 1, 0, 1, 0, 0] [X1] (compasslaw06_names.rq E K) (compasslaw06_names.f1 s0 n1 out5p out5n out5c v6) H
theorem compasslaw06_names.l1_rule { E : Value → Hp → Prop} {K : (Option Addr) → Nat → Nat → Hp → Prop} (I : (Option Addr) → Int → (Option Addr) → Nat → Nat → Int → Hp → Prop) (μ : (Option Addr) → Int → (Option Addr) → Nat → Nat → Int → Hp → Nat)
    (h : ∀ s0 n1 out5p out5n out5c v6 H, I s0 n1 out5p out5n out5c v6 H → ∀ X : Fr → Hp → Prop, (∀ s0' n1' out5p' out5n' out5c' v6' H', I s0' n1' out5p' out5n' out5c' v6' H' → μ s0' n1' out5p' out5n' out5c' v6' H' < μ s0 n1 out5p out5n out5c v6 H → X (compasslaw06_names.f1 s0' n1' out5p' out5n' out5c' v6') H') → compasslaw06_names.b1 s0 n1 out5p out5n out5c v6  X E H K)
    {s0 : Option Addr} {n1 : Int} {out5p : Option Addr} {out5n : Nat} {out5c : Nat} {v6 : Int} {H : Hp} (hI : I s0 n1 out5p out5n out5c v6 H) : compasslaw06_names.l1 s0 n1 out5p out5n out5c v6  E H K :=
  loop_rule (S := (Option Addr) × Int × (Option Addr) × Nat × Nat × Int) (fun s => compasslaw06_names.f1 (s.1) (s.2.1) (s.2.2.1) (s.2.2.2.1) (s.2.2.2.2.1) (s.2.2.2.2.2)) (fun s H => I (s.1) (s.2.1) (s.2.2.1) (s.2.2.2.1) (s.2.2.2.2.1) (s.2.2.2.2.2) H) (fun s H => μ (s.1) (s.2.1) (s.2.2.1) (s.2.2.2.1) (s.2.2.2.2.1) (s.2.2.2.2.2) H) (fun s H hI X hX => h (s.1) (s.2.1) (s.2.2.1) (s.2.2.2.1) (s.2.2.2.2.1) (s.2.2.2.2.2) H hI X fun s0' n1' out5p' out5n' out5c' v6' H' hI' hlt => hX (s0', n1', out5p', out5n', out5c', v6') H' hI' hlt) (s := (s0, n1, out5p, out5n, out5c, v6)) rfl hI
theorem compasslaw06_names.nok : nodesOk compasslaw06_names.code [[0, 1, 0, 1, 1], [1, 1, 0, 0, 1, 0, 0, 1, 0, 1, 1]] = true := by kernel_rfl
def compasslaw06_names.run_t (l1 : (Option Addr) → Int → (Option Addr) → Nat → Nat → Int → Hp → Prop) (s0 : Option Addr) (n1 : Int)  (E : Value → Hp → Prop) (H : Hp) (K : (Option Addr) → Nat → Nat → Hp → Prop) : Prop :=
  l1 s0 n1 none 0 0 0 H
theorem compasslaw06_names.run_eq {s0 : Option Addr} {n1 : Int} { E : Value → Hp → Prop} {H : Hp} {K : (Option Addr) → Nat → Nat → Hp → Prop} (h : compasslaw06_names.run_t (fun s0 n1 out5p out5n out5c v6 H => compasslaw06_names.l1 s0 n1 out5p out5n out5c v6  E H K) s0 n1  E H K) : compasslaw06_names.run s0 n1  E H K := by
  have k1 : ∀ G : List Nat → Fr → Hp → Prop, nodeR P0 T0 compasslaw06_names.A [[0, 1, 0, 1, 1], [1, 1, 0, 0, 1, 0, 0, 1, 0, 1, 1]] G compasslaw06_names.code [] [] (compasslaw06_names.rq E K) (argF 0 [.pointer s0, .int .i64 n1]) H = compasslaw06_names.run_t (fun s0 n1 out5p out5n out5c v6 H => G [0, 1, 0, 1, 1] [(0, .pointer s0), (1, .int .i64 n1), (5, .slice out5p out5n out5c), (6, .int .i64 v6)] H) s0 n1  E H K := fun G => by kernel_rfl
  have k2 : compasslaw06_names.run_t (fun s0 n1 out5p out5n out5c v6 H => compasslaw06_names.l1 s0 n1 out5p out5n out5c v6  E H K) s0 n1  E H K = compasslaw06_names.run_t (fun s0 n1 out5p out5n out5c v6 H => (fun q F H => nodeM P0 T0 compasslaw06_names.A compasslaw06_names.code q.reverse [] (compasslaw06_names.rq E K) F H) [0, 1, 0, 1, 1] [(0, .pointer s0), (1, .int .i64 n1), (5, .slice out5p out5n out5c), (6, .int .i64 v6)] H) s0 n1  E H K := by kernel_rfl
  exact nodeR_imp compasslaw06_names.nok rfl ((k1 _).mpr (k2.mp h))
def compasslaw06_names.j1_t  (s0 : Option Addr) (n1 : Int) (out5p : Option Addr) (out5n : Nat) (out5c : Nat) (v6 : Int) (x7 : Int) (X1 : Fr → Hp → Prop) (E : Value → Hp → Prop) (H : Hp) (K : (Option Addr) → Nat → Nat → Hp → Prop) : Prop :=
  nw H ⟨[.int .i64 x7], 3⟩ fun b_1 H_1 =>
  appM 3 [.i .i64] 8 out5p out5n out5c (some ⟨b_1, 0, none⟩) 1 H_1 fun a_1p a_1n a_1c H_2 =>
  X1 (compasslaw06_names.f1 s0 n1 a_1p a_1n a_1c (IntKind.wrap .i64 (v6 + 1))) H_2
theorem compasslaw06_names.j1_eq {s0 : Option Addr} {n1 : Int} {out5p : Option Addr} {out5n : Nat} {out5c : Nat} {v6 : Int} {x7 : Int} {X1 : Fr → Hp → Prop} { E : Value → Hp → Prop} {H : Hp} {K : (Option Addr) → Nat → Nat → Hp → Prop} (h : compasslaw06_names.j1_t  s0 n1 out5p out5n out5c v6 x7 X1 E H K) : compasslaw06_names.j1 s0 n1 out5p out5n out5c v6 x7 X1 E H K := by
  have k1 : ∀ G : List Nat → Fr → Hp → Prop, nodeR P0 T0 compasslaw06_names.A [[0, 1, 0, 1, 1], [1, 1, 0, 0, 1, 0, 0, 1, 0, 1, 1]] G compasslaw06_names.code [1, 1, 0, 1, 0, 0, 1, 0, 0, 1, 1] [X1] (compasslaw06_names.rq E K) [(0, .pointer s0), (1, .int .i64 n1), (5, .slice out5p out5n out5c), (6, .int .i64 v6), (7, .int .i64 x7)] H = compasslaw06_names.j1_t  s0 n1 out5p out5n out5c v6 x7 X1 E H K := fun G => by kernel_rfl
  exact nodeR_imp compasslaw06_names.nok rfl ((k1 _).mpr h)
def compasslaw06_names.b1_t (j1 : (Option Addr) → Int → (Option Addr) → Nat → Nat → Int → Int → Hp → Prop) (s0 : Option Addr) (n1 : Int) (out5p : Option Addr) (out5n : Nat) (out5c : Nat) (v6 : Int) (X1 : Fr → Hp → Prop) (E : Value → Hp → Prop) (H : Hp) (K : (Option Addr) → Nat → Nat → Hp → Prop) : Prop :=
  bcase (decide ((v6 : Int) < n1)) (
  unions_Sets_Find.call s0 v6 E H fun r_1 r_2 H_1 =>
  bcase (!decide ((r_2 : Int) = 0)) (
  j1 s0 n1 out5p out5n out5c v6 (-1) H_1)
  (j1 s0 n1 out5p out5n out5c v6 r_1 H_1))
  (K out5p out5n out5c H)
theorem compasslaw06_names.b1_eq {s0 : Option Addr} {n1 : Int} {out5p : Option Addr} {out5n : Nat} {out5c : Nat} {v6 : Int} {X1 : Fr → Hp → Prop} { E : Value → Hp → Prop} {H : Hp} {K : (Option Addr) → Nat → Nat → Hp → Prop} (h : compasslaw06_names.b1_t (fun s0 n1 out5p out5n out5c v6 x7 H => compasslaw06_names.j1 s0 n1 out5p out5n out5c v6 x7 X1 E H K) s0 n1 out5p out5n out5c v6 X1 E H K) : compasslaw06_names.b1 s0 n1 out5p out5n out5c v6 X1 E H K := by
  have k1 : ∀ G : List Nat → Fr → Hp → Prop, nodeR P0 T0 compasslaw06_names.A [[0, 1, 0, 1, 1], [1, 1, 0, 0, 1, 0, 0, 1, 0, 1, 1]] G compasslaw06_names.code [1, 1, 0, 1, 0, 0] [X1] (compasslaw06_names.rq E K) (compasslaw06_names.f1 s0 n1 out5p out5n out5c v6) H = compasslaw06_names.b1_t (fun s0 n1 out5p out5n out5c v6 x7 H => G [1, 1, 0, 0, 1, 0, 0, 1, 0, 1, 1] [(0, .pointer s0), (1, .int .i64 n1), (5, .slice out5p out5n out5c), (6, .int .i64 v6), (7, .int .i64 x7)] H) s0 n1 out5p out5n out5c v6 X1 E H K := fun G => by kernel_rfl
  have k2 : compasslaw06_names.b1_t (fun s0 n1 out5p out5n out5c v6 x7 H => compasslaw06_names.j1 s0 n1 out5p out5n out5c v6 x7 X1 E H K) s0 n1 out5p out5n out5c v6 X1 E H K = compasslaw06_names.b1_t (fun s0 n1 out5p out5n out5c v6 x7 H => (fun q F H => nodeM P0 T0 compasslaw06_names.A compasslaw06_names.code q.reverse [X1] (compasslaw06_names.rq E K) F H) [1, 1, 0, 0, 1, 0, 0, 1, 0, 1, 1] [(0, .pointer s0), (1, .int .i64 n1), (5, .slice out5p out5n out5c), (6, .int .i64 v6), (7, .int .i64 x7)] H) s0 n1 out5p out5n out5c v6 X1 E H K := by kernel_rfl
  exact nodeR_imp compasslaw06_names.nok rfl ((k1 _).mpr (k2.mp h))
/-! ### compass/compasslaw06.ints (10) -/
noncomputable def compasslaw06_ints.A : An := { live := [(0, [0, 1]), (1, [0, 1]), (2, []), (3, [0, 1]), (4, [0, 1, 12, 13]), (5, [0, 1, 12, 13]), (6, [0, 1, 5, 12, 13]), (7, []), (8, [0, 1, 12, 13]), (9, [])], ord := [(6, [0, 1, 2, 3, 4, 5, 6, 7, 8])], stb := [], pre := [(6, [[], [], [0, 1], [0, 1, 2], [], [], [4, 5], [4, 5, 6], [0, 1, 2, 3, 4, 5, 6, 7]])] }
noncomputable def compasslaw06_ints.code : Code := bodyOf Go.Proofs.Try.f10
theorem compasslaw06_ints.ok : okCode compasslaw06_ints.A 26 compasslaw06_ints.code = true := by kernel_rfl
def compasslaw06_ints.rq (E : Value → Hp → Prop) (K : Bool → Hp → Prop) : Ex → Fr → Hp → Prop := retQ T0 [.tmp 4] [4] (fun r H => ldR (.one false [.bool]) r fun u => K (asB u) H) E
def compasslaw06_ints.run (a0p : Option Addr) (a0n : Nat) (a0c : Nat) (b1p : Option Addr) (b1n : Nat) (b1c : Nat) (E : Value → Hp → Prop) (H : Hp) (K : Bool → Hp → Prop) : Prop := nodeM P0 T0 compasslaw06_ints.A compasslaw06_ints.code [] [] (compasslaw06_ints.rq E K) (argF 0 [.slice a0p a0n a0c, .slice b1p b1n b1c]) H
theorem compasslaw06_ints.of {a0p : Option Addr} {a0n : Nat} {a0c : Nat} {b1p : Option Addr} {b1n : Nat} {b1c : Nat} {E : Value → Hp → Prop} {H : Hp} {K : Bool → Hp → Prop} (h : compasslaw06_ints.run a0p a0n a0c b1p b1n b1c E H K) : compasslaw06_ints.call a0p a0n a0c b1p b1n b1c E H K :=
  callW_of T0_ok P0_mixed (A := compasslaw06_ints.A) (fn := Go.Proofs.Try.f10) Go.Proofs.Try.func10 rfl compasslaw06_ints.ok rfl h
noncomputable def compasslaw06_ints.f1 (a0p : Option Addr) (a0n : Nat) (a0c : Nat) (b1p : Option Addr) (b1n : Nat) (b1c : Nat) (t12 : Int) (t13 : Int) : Fr := [(0, .slice a0p a0n a0c), (1, .slice b1p b1n b1c), (12, .int .i64 t12), (13, .int .i64 t13)]
def compasslaw06_ints.l1 (a0p : Option Addr) (a0n : Nat) (a0c : Nat) (b1p : Option Addr) (b1n : Nat) (b1c : Nat) (t12 : Int) (t13 : Int)  (E : Value → Hp → Prop) (H : Hp) (K : Bool → Hp → Prop) : Prop := nodeM P0 T0 compasslaw06_ints.A compasslaw06_ints.code [1, 1, 0, 1, 0] [] (compasslaw06_ints.rq E K) (compasslaw06_ints.f1 a0p a0n a0c b1p b1n b1c t12 t13) H
def compasslaw06_ints.b1 (a0p : Option Addr) (a0n : Nat) (a0c : Nat) (b1p : Option Addr) (b1n : Nat) (b1c : Nat) (t12 : Int) (t13 : Int)  (X1 : Fr → Hp → Prop) (E : Value → Hp → Prop) (H : Hp) (K : Bool → Hp → Prop) : Prop := nodeM P0 T0 compasslaw06_ints.A compasslaw06_ints.code [1, 1, 0, 1, 0, 0] [X1] (compasslaw06_ints.rq E K) (compasslaw06_ints.f1 a0p a0n a0c b1p b1n b1c t12 t13) H
theorem compasslaw06_ints.l1_rule { E : Value → Hp → Prop} {K : Bool → Hp → Prop} (I : (Option Addr) → Nat → Nat → (Option Addr) → Nat → Nat → Int → Int → Hp → Prop) (μ : (Option Addr) → Nat → Nat → (Option Addr) → Nat → Nat → Int → Int → Hp → Nat)
    (h : ∀ a0p a0n a0c b1p b1n b1c t12 t13 H, I a0p a0n a0c b1p b1n b1c t12 t13 H → ∀ X : Fr → Hp → Prop, (∀ a0p' a0n' a0c' b1p' b1n' b1c' t12' t13' H', I a0p' a0n' a0c' b1p' b1n' b1c' t12' t13' H' → μ a0p' a0n' a0c' b1p' b1n' b1c' t12' t13' H' < μ a0p a0n a0c b1p b1n b1c t12 t13 H → X (compasslaw06_ints.f1 a0p' a0n' a0c' b1p' b1n' b1c' t12' t13') H') → compasslaw06_ints.b1 a0p a0n a0c b1p b1n b1c t12 t13  X E H K)
    {a0p : Option Addr} {a0n : Nat} {a0c : Nat} {b1p : Option Addr} {b1n : Nat} {b1c : Nat} {t12 : Int} {t13 : Int} {H : Hp} (hI : I a0p a0n a0c b1p b1n b1c t12 t13 H) : compasslaw06_ints.l1 a0p a0n a0c b1p b1n b1c t12 t13  E H K :=
  loop_rule (S := (Option Addr) × Nat × Nat × (Option Addr) × Nat × Nat × Int × Int) (fun s => compasslaw06_ints.f1 (s.1) (s.2.1) (s.2.2.1) (s.2.2.2.1) (s.2.2.2.2.1) (s.2.2.2.2.2.1) (s.2.2.2.2.2.2.1) (s.2.2.2.2.2.2.2)) (fun s H => I (s.1) (s.2.1) (s.2.2.1) (s.2.2.2.1) (s.2.2.2.2.1) (s.2.2.2.2.2.1) (s.2.2.2.2.2.2.1) (s.2.2.2.2.2.2.2) H) (fun s H => μ (s.1) (s.2.1) (s.2.2.1) (s.2.2.2.1) (s.2.2.2.2.1) (s.2.2.2.2.2.1) (s.2.2.2.2.2.2.1) (s.2.2.2.2.2.2.2) H) (fun s H hI X hX => h (s.1) (s.2.1) (s.2.2.1) (s.2.2.2.1) (s.2.2.2.2.1) (s.2.2.2.2.2.1) (s.2.2.2.2.2.2.1) (s.2.2.2.2.2.2.2) H hI X fun a0p' a0n' a0c' b1p' b1n' b1c' t12' t13' H' hI' hlt => hX (a0p', a0n', a0c', b1p', b1n', b1c', t12', t13') H' hI' hlt) (s := (a0p, a0n, a0c, b1p, b1n, b1c, t12, t13)) rfl hI
theorem compasslaw06_ints.nok : nodesOk compasslaw06_ints.code [[0, 1, 0, 1, 1]] = true := by kernel_rfl
def compasslaw06_ints.run_t (l1 : (Option Addr) → Nat → Nat → (Option Addr) → Nat → Nat → Int → Int → Hp → Prop) (a0p : Option Addr) (a0n : Nat) (a0c : Nat) (b1p : Option Addr) (b1n : Nat) (b1c : Nat)  (E : Value → Hp → Prop) (H : Hp) (K : Bool → Hp → Prop) : Prop :=
  bcase (!decide (((a0n : Int) : Int) = (b1n : Int))) (
  K false H)
  (l1 a0p a0n a0c b1p b1n b1c (a0n : Int) 0 H)
theorem compasslaw06_ints.run_eq {a0p : Option Addr} {a0n : Nat} {a0c : Nat} {b1p : Option Addr} {b1n : Nat} {b1c : Nat} { E : Value → Hp → Prop} {H : Hp} {K : Bool → Hp → Prop} (h : compasslaw06_ints.run_t (fun a0p a0n a0c b1p b1n b1c t12 t13 H => compasslaw06_ints.l1 a0p a0n a0c b1p b1n b1c t12 t13  E H K) a0p a0n a0c b1p b1n b1c  E H K) : compasslaw06_ints.run a0p a0n a0c b1p b1n b1c  E H K := by
  have k1 : ∀ G : List Nat → Fr → Hp → Prop, nodeR P0 T0 compasslaw06_ints.A [[0, 1, 0, 1, 1]] G compasslaw06_ints.code [] [] (compasslaw06_ints.rq E K) (argF 0 [.slice a0p a0n a0c, .slice b1p b1n b1c]) H = compasslaw06_ints.run_t (fun a0p a0n a0c b1p b1n b1c t12 t13 H => G [0, 1, 0, 1, 1] [(0, .slice a0p a0n a0c), (1, .slice b1p b1n b1c), (12, .int .i64 t12), (13, .int .i64 t13)] H) a0p a0n a0c b1p b1n b1c  E H K := fun G => by kernel_rfl
  have k2 : compasslaw06_ints.run_t (fun a0p a0n a0c b1p b1n b1c t12 t13 H => compasslaw06_ints.l1 a0p a0n a0c b1p b1n b1c t12 t13  E H K) a0p a0n a0c b1p b1n b1c  E H K = compasslaw06_ints.run_t (fun a0p a0n a0c b1p b1n b1c t12 t13 H => (fun q F H => nodeM P0 T0 compasslaw06_ints.A compasslaw06_ints.code q.reverse [] (compasslaw06_ints.rq E K) F H) [0, 1, 0, 1, 1] [(0, .slice a0p a0n a0c), (1, .slice b1p b1n b1c), (12, .int .i64 t12), (13, .int .i64 t13)] H) a0p a0n a0c b1p b1n b1c  E H K := by kernel_rfl
  exact nodeR_imp compasslaw06_ints.nok rfl ((k1 _).mpr (k2.mp h))
def compasslaw06_ints.b1_t  (a0p : Option Addr) (a0n : Nat) (a0c : Nat) (b1p : Option Addr) (b1n : Nat) (b1c : Nat) (t12 : Int) (t13 : Int) (X1 : Fr → Hp → Prop) (E : Value → Hp → Prop) (H : Hp) (K : Bool → Hp → Prop) : Prop :=
  bcase (decide ((t13 : Int) < t12)) (
  ix a0p a0n t13 1 fun b_1 o_1 =>
  ldI .i64 (H.get b_1 o_1) fun x_1 =>
  ix b1p b1n t13 1 fun b_2 o_2 =>
  ldI .i64 (H.get b_2 o_2) fun x_2 =>
  bcase (!decide ((x_1 : Int) = x_2)) (
  K false H)
  (X1 (compasslaw06_ints.f1 a0p a0n a0c b1p b1n b1c t12 (IntKind.wrap .i64 (t13 + 1))) H))
  (K true H)
theorem compasslaw06_ints.b1_eq {a0p : Option Addr} {a0n : Nat} {a0c : Nat} {b1p : Option Addr} {b1n : Nat} {b1c : Nat} {t12 : Int} {t13 : Int} {X1 : Fr → Hp → Prop} { E : Value → Hp → Prop} {H : Hp} {K : Bool → Hp → Prop} (h : compasslaw06_ints.b1_t  a0p a0n a0c b1p b1n b1c t12 t13 X1 E H K) : compasslaw06_ints.b1 a0p a0n a0c b1p b1n b1c t12 t13 X1 E H K := by
  have k1 : ∀ G : List Nat → Fr → Hp → Prop, nodeR P0 T0 compasslaw06_ints.A [[0, 1, 0, 1, 1]] G compasslaw06_ints.code [1, 1, 0, 1, 0, 0] [X1] (compasslaw06_ints.rq E K) (compasslaw06_ints.f1 a0p a0n a0c b1p b1n b1c t12 t13) H = compasslaw06_ints.b1_t  a0p a0n a0c b1p b1n b1c t12 t13 X1 E H K := fun G => by kernel_rfl
  exact nodeR_imp compasslaw06_ints.nok rfl ((k1 _).mpr h)
/-! ### compass/compasslaw06.step (16) -/
noncomputable def compasslaw06_step.A : An := { live := [(0, [0, 1, 2]), (1, [0, 4, 5, 6]), (2, [0, 4, 5, 6, 24]), (3, [0, 4, 5, 6]), (4, [0, 5, 6, 8, 9, 10]), (5, [6, 8, 9, 10, 11, 12]), (6, [0, 4, 5, 6, 24]), (7, [0, 4, 5, 6]), (8, [0, 4, 5, 6, 13, 14]), (9, [4, 6, 13, 14, 15, 16]), (10, [0, 4, 5, 6, 24]), (11, [0, 4, 6]), (12, [0, 6, 17, 18]), (13, [0, 4, 5, 6, 24]), (14, [0, 4, 5, 6]), (15, [0, 4, 5, 6, 19, 20]), (16, [4, 6, 19, 20, 21, 22]), (17, [4, 6])], ord := [(12, [0, 1, 3, 2, 4, 5, 6]), (16, [0, 1, 2, 3, 4, 5, 6, 7, 8, 9, 10])], stb := [(12, [(2, [0])]), (16, [(3, [0])])], pre := [(12, [[], [], [1], [], [1, 2, 3], [0, 1, 2], [0, 1, 2, 3, 4, 5]]), (16, [[], [], [], [1, 2], [1, 2, 3], [1, 2, 3, 4], [1, 2, 3, 4], [1, 2, 3, 4, 5, 6], [1, 2, 3, 4, 5, 6, 7], [0, 1, 2, 3, 4], [0, 1, 2, 3, 4, 5, 6, 7, 8, 9]])] }
noncomputable def compasslaw06_step.code : Code := bodyOf Go.Proofs.Try.f16
theorem compasslaw06_step.ok : okCode compasslaw06_step.A 118 compasslaw06_step.code = true := by kernel_rfl
def compasslaw06_step.rq (E : Value → Hp → Prop) (K : Int → (Option Addr) → Nat → Nat → Bool → Hp → Prop) : Ex → Fr → Hp → Prop := retQ T0 [.cell 6 45, .tmp 7] [45, 4] (fun r H => ldR (.tup [(true, [.i .i64, .sl]), (false, [.bool])]) r fun u => K (asI (cellV (tupV u 0) 0)) (asS1 (cellV (tupV u 0) 1)) (asS2 (cellV (tupV u 0) 1)) (asS3 (cellV (tupV u 0) 1)) (asB (tupV u 1)) H) E
def compasslaw06_step.run (s0 : Option Addr) (w1_N : Int) (w1_Joinsp : Option Addr) (w1_Joinsn : Nat) (w1_Joinsc : Nat) (o2_Kind : Int) (o2_U : Int) (o2_V : Int) (E : Value → Hp → Prop) (H : Hp) (K : Int → (Option Addr) → Nat → Nat → Bool → Hp → Prop) : Prop := nodeM P0 T0 compasslaw06_step.A compasslaw06_step.code [] [] (compasslaw06_step.rq E K) (argF 0 [.pointer s0, .agg ⟨[.int .i64 w1_N, .slice w1_Joinsp w1_Joinsn w1_Joinsc]⟩, .agg ⟨[.int .i64 o2_Kind, .int .i64 o2_U, .int .i64 o2_V]⟩]) H
theorem compasslaw06_step.of {s0 : Option Addr} {w1_N : Int} {w1_Joinsp : Option Addr} {w1_Joinsn : Nat} {w1_Joinsc : Nat} {o2_Kind : Int} {o2_U : Int} {o2_V : Int} {E : Value → Hp → Prop} {H : Hp} {K : Int → (Option Addr) → Nat → Nat → Bool → Hp → Prop} (h : compasslaw06_step.run s0 w1_N w1_Joinsp w1_Joinsn w1_Joinsc o2_Kind o2_U o2_V E H K) : compasslaw06_step.call s0 w1_N w1_Joinsp w1_Joinsn w1_Joinsc o2_Kind o2_U o2_V E H K :=
  callW_of T0_ok P0_mixed (A := compasslaw06_step.A) (fn := Go.Proofs.Try.f16) Go.Proofs.Try.func16 rfl compasslaw06_step.ok rfl h
theorem compasslaw06_step.nok : nodesOk compasslaw06_step.code [] = true := by kernel_rfl
def compasslaw06_step.run_t  (s0 : Option Addr) (w1_N : Int) (w1_Joinsp : Option Addr) (w1_Joinsn : Nat) (w1_Joinsc : Nat) (o2_Kind : Int) (o2_U : Int) (o2_V : Int)  (E : Value → Hp → Prop) (H : Hp) (K : Int → (Option Addr) → Nat → Nat → Bool → Hp → Prop) : Prop :=
  nw H ⟨[.int .i64 w1_N, .slice w1_Joinsp w1_Joinsn w1_Joinsc], 45⟩ fun b_1 H_1 =>
  nw H_1 ⟨[.int .i64 o2_Kind, .int .i64 o2_U, .int .i64 o2_V], 32⟩ fun b_2 H_2 =>
  nw H_2 ⟨[.int .i64 0, .slice none 0 0], 45⟩ fun b_3 H_3 =>
  ldI .i64 (H_3.get b_2 0) fun x_1 =>
  bcase (decide ((x_1 : Int) = 0)) (
  ldI .i64 (H_3.get b_1 0) fun x_2 =>
  ldS (H_3.get b_1 1) fun x_3p x_3n x_3c =>
  ldI .i64 (H_3.get b_2 1) fun x_4 =>
  ldI .i64 (H_3.get b_2 2) fun x_5 =>
  compassref06_Join.call x_2 x_3p x_3n x_3c x_4 x_5 E H_3 fun r_1_N r_1_Joinsp r_1_Joinsn r_1_Joinsc r_2 r_3 H_4 =>
  nw H_4 ⟨[.int .i64 0, .slice none 0 0], 45⟩ fun b_4 H_5 =>
  stC H_5 b_4 0 [.int .i64 r_1_N, .slice r_1_Joinsp r_1_Joinsn r_1_Joinsc] fun H_6 =>
  ldI .i64 (H_6.get b_2 1) fun x_6 =>
  ldI .i64 (H_6.get b_2 2) fun x_7 =>
  unions_Sets_Join.call s0 x_6 x_7 E H_6 fun r_4 r_5 H_7 =>
  ldI .i64 (H_7.get b_4 0) fun x_8 =>
  ldS (H_7.get b_4 1) fun x_9p x_9n x_9c =>
  bcase ((r_4 == r_2)) (
  stC H_7 b_3 0 [.int .i64 x_8, .slice x_9p x_9n x_9c] fun H_8 =>
  ldI .i64 (H_8.get b_3 0) fun x_10 =>
  ldS (H_8.get b_3 1) fun x_11p x_11n x_11c =>
  K x_10 x_11p x_11n x_11c (decide ((r_5 : Int) = r_3)) H_8)
  (stC H_7 b_3 0 [.int .i64 x_8, .slice x_9p x_9n x_9c] fun H_9 =>
  ldI .i64 (H_9.get b_3 0) fun x_12 =>
  ldS (H_9.get b_3 1) fun x_13p x_13n x_13c =>
  K x_12 x_13p x_13n x_13c false H_9))
  (bcase (decide ((x_1 : Int) = 1)) (
  ldI .i64 (H_3.get b_1 0) fun x_14 =>
  ldS (H_3.get b_1 1) fun x_15p x_15n x_15c =>
  ldI .i64 (H_3.get b_2 1) fun x_16 =>
  compassref06_Find.call x_14 x_15p x_15n x_15c x_16 E H_3 fun r_6 r_7 H_10 =>
  ldI .i64 (H_10.get b_2 1) fun x_17 =>
  unions_Sets_Find.call s0 x_17 E H_10 fun r_8 r_9 H_11 =>
  ldI .i64 (H_11.get b_1 0) fun x_18 =>
  ldS (H_11.get b_1 1) fun x_19p x_19n x_19c =>
  bcase (decide ((r_8 : Int) = r_6)) (
  stC H_11 b_3 0 [.int .i64 x_18, .slice x_19p x_19n x_19c] fun H_12 =>
  ldI .i64 (H_12.get b_3 0) fun x_20 =>
  ldS (H_12.get b_3 1) fun x_21p x_21n x_21c =>
  K x_20 x_21p x_21n x_21c (decide ((r_9 : Int) = r_7)) H_12)
  (stC H_11 b_3 0 [.int .i64 x_18, .slice x_19p x_19n x_19c] fun H_13 =>
  ldI .i64 (H_13.get b_3 0) fun x_22 =>
  ldS (H_13.get b_3 1) fun x_23p x_23n x_23c =>
  K x_22 x_23p x_23n x_23c false H_13))
  (bcase (decide ((x_1 : Int) = 2)) (
  ldI .i64 (H_3.get b_1 0) fun x_24 =>
  ldS (H_3.get b_1 1) fun x_25p x_25n x_25c =>
  compassref06_Undo.call x_24 x_25p x_25n x_25c E H_3 fun r_10_N r_10_Joinsp r_10_Joinsn r_10_Joinsc r_11 H_14 =>
  nw H_14 ⟨[.int .i64 0, .slice none 0 0], 45⟩ fun b_5 H_15 =>
  stC H_15 b_5 0 [.int .i64 r_10_N, .slice r_10_Joinsp r_10_Joinsn r_10_Joinsc] fun H_16 =>
  ldI .i64 (H_16.get b_5 0) fun x_26 =>
  ldS (H_16.get b_5 1) fun x_27p x_27n x_27c =>
  unions_Sets_Undo.call s0 E H_16 fun r_12 H_17 =>
  (ldI .i64 (H_17.get b_5 0) fun x_30 =>
  ldS (H_17.get b_5 1) fun x_31p x_31n x_31c =>
  Value.agg ⟨[.int .i64 x_30, .slice x_31p x_31n x_31c]⟩ = Value.agg ⟨[.int .i64 x_26, .slice x_27p x_27n x_27c]⟩) ∧
  stC H_17 b_3 0 [.int .i64 x_26, .slice x_27p x_27n x_27c] fun H_18 =>
  ldI .i64 (H_18.get b_3 0) fun x_28 =>
  ldS (H_18.get b_3 1) fun x_29p x_29n x_29c =>
  K x_28 x_29p x_29n x_29c (decide ((r_12 : Int) = r_11)) H_18)
  (bcase (decide ((x_1 : Int) = 3)) (
  ldI .i64 (H_3.get b_1 0) fun x_32 =>
  ldS (H_3.get b_1 1) fun x_33p x_33n x_33c =>
  ldI .i64 (H_3.get b_2 1) fun x_34 =>
  compassref06_Members.call x_32 x_33p x_33n x_33c x_34 E H_3 fun r_13p r_13n r_13c r_14 H_19 =>
  ldI .i64 (H_19.get b_2 1) fun x_35 =>
  unions_Sets_Members.call s0 x_35 E H_19 fun r_15p r_15n r_15c r_16 H_20 =>
  ldI .i64 (H_20.get b_1 0) fun x_36 =>
  ldS (H_20.get b_1 1) fun x_37p x_37n x_37c =>
  compasslaw06_ints.call r_15p r_15n r_15c r_13p r_13n r_13c E H_20 fun r_17 H_21 =>
  (ldI .i64 (H_21.get b_1 0) fun x_42 =>
  ldS (H_21.get b_1 1) fun x_43p x_43n x_43c =>
  Value.agg ⟨[.int .i64 x_42, .slice x_43p x_43n x_43c]⟩ = Value.agg ⟨[.int .i64 x_36, .slice x_37p x_37n x_37c]⟩) ∧
  bcase (r_17) (
  stC H_21 b_3 0 [.int .i64 x_36, .slice x_37p x_37n x_37c] fun H_22 =>
  ldI .i64 (H_22.get b_3 0) fun x_38 =>
  ldS (H_22.get b_3 1) fun x_39p x_39n x_39c =>
  K x_38 x_39p x_39n x_39c (decide ((r_16 : Int) = r_14)) H_22)
  (stC H_21 b_3 0 [.int .i64 x_36, .slice x_37p x_37n x_37c] fun H_23 =>
  ldI .i64 (H_23.get b_3 0) fun x_40 =>
  ldS (H_23.get b_3 1) fun x_41p x_41n x_41c =>
  K x_40 x_41p x_41n x_41c false H_23))
  (ldI .i64 (H_3.get b_1 0) fun x_44 =>
  ldS (H_3.get b_1 1) fun x_45p x_45n x_45c =>
  stC H_3 b_3 0 [.int .i64 x_44, .slice x_45p x_45n x_45c] fun H_24 =>
  ldI .i64 (H_24.get b_3 0) fun x_46 =>
  ldS (H_24.get b_3 1) fun x_47p x_47n x_47c =>
  K x_46 x_47p x_47n x_47c true H_24))))
theorem compasslaw06_step.run_eq {s0 : Option Addr} {w1_N : Int} {w1_Joinsp : Option Addr} {w1_Joinsn : Nat} {w1_Joinsc : Nat} {o2_Kind : Int} {o2_U : Int} {o2_V : Int} { E : Value → Hp → Prop} {H : Hp} {K : Int → (Option Addr) → Nat → Nat → Bool → Hp → Prop} (h : compasslaw06_step.run_t  s0 w1_N w1_Joinsp w1_Joinsn w1_Joinsc o2_Kind o2_U o2_V  E H K) : compasslaw06_step.run s0 w1_N w1_Joinsp w1_Joinsn w1_Joinsc o2_Kind o2_U o2_V  E H K := by
  have k1 : ∀ G : List Nat → Fr → Hp → Prop, nodeR P0 T0 compasslaw06_step.A [] G compasslaw06_step.code [] [] (compasslaw06_step.rq E K) (argF 0 [.pointer s0, .agg ⟨[.int .i64 w1_N, .slice w1_Joinsp w1_Joinsn w1_Joinsc]⟩, .agg ⟨[.int .i64 o2_Kind, .int .i64 o2_U, .int .i64 o2_V]⟩]) H = compasslaw06_step.run_t  s0 w1_N w1_Joinsp w1_Joinsn w1_Joinsc o2_Kind o2_U o2_V  E H K := fun G => by kernel_rfl
  exact nodeR_imp compasslaw06_step.nok rfl ((k1 _).mpr h)
end Go.Mz
