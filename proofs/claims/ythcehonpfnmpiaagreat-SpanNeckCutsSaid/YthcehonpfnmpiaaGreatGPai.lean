/-
  The shallow texts of functions (Pai), each with a kernel-checked equation to the translated code. It proves nothing of the program by itself.
-/
import Derived.Test.YthcehonpfnmpiaaGreatTab
set_option linter.unusedVariables false
set_option maxRecDepth 100000
namespace Go.Mz
/-! ### (*compass/heaps.pairing).lower (107) -/
noncomputable def heaps_pairing_lower.A : An := { live := [(0, [0, 1]), (1, [0, 1]), (2, [0, 1, 4]), (3, [0, 1, 4, 5]), (4, [0, 1, 4, 5]), (5, [0, 1, 4, 5]), (6, [0, 1, 4]), (7, [0, 1, 4]), (8, [0, 1, 4]), (9, [0, 1])], ord := [(2, [0, 1, 2, 3, 4, 5, 6, 7, 8, 9, 10]), (7, [0, 1, 2, 3, 4, 5, 6, 7, 8, 9, 10, 11, 12, 13, 14, 15])], stb := [], pre := [(2, [[], [0], [0, 1], [0, 1, 2], [], [4], [4, 5], [4, 5, 6], [4, 5, 6, 7], [0, 1, 2, 3, 4, 5, 6, 7, 8], [0, 1, 2, 3, 4, 5, 6, 7, 8, 9]]), (7, [[], [0], [0, 1], [0, 1, 2], [], [4], [4, 5], [4, 5, 6], [4, 5, 6, 7], [], [9], [9, 10], [9, 10, 11], [0, 1, 2, 3, 4, 5, 6, 7, 8, 9, 10, 11, 12], [0, 1, 2, 3, 4, 5, 6, 7, 8, 9, 10, 11, 12, 13], [0, 1, 2, 3, 4, 5, 6, 7, 8, 9, 10, 11, 12, 13, 14]])] }
noncomputable def heaps_pairing_lower.code : Code := bodyOf Go.Proofs.Tryz.f107
theorem heaps_pairing_lower.ok : okCode heaps_pairing_lower.A 85 heaps_pairing_lower.code = true := by kernel_rfl
def heaps_pairing_lower.rq (E : Value → Hp → Prop) (K : Hp → Prop) : Ex → Fr → Hp → Prop := retQ T0 [] [] (fun r H => ldR (.tup []) r fun u => K  H) E
def heaps_pairing_lower.run (p0 : Option Addr) (h1 : Int) (E : Value → Hp → Prop) (H : Hp) (K : Hp → Prop) : Prop := nodeM P0 T0 heaps_pairing_lower.A heaps_pairing_lower.code [] [] (heaps_pairing_lower.rq E K) (argF 0 [.pointer p0, .int .i64 h1]) H
theorem heaps_pairing_lower.of {p0 : Option Addr} {h1 : Int} {E : Value → Hp → Prop} {H : Hp} {K : Hp → Prop} (h : heaps_pairing_lower.run p0 h1 E H K) : heaps_pairing_lower.call p0 h1 E H K :=
  callW_of T0_ok P0_mixed (A := heaps_pairing_lower.A) (fn := Go.Proofs.Tryz.f107) Go.Proofs.Tryz.func107 rfl heaps_pairing_lower.ok rfl h
def heaps_pairing_lower.j1 (p0 : Option Addr) (h1 : Int) (x4 : Option Addr)  (E : Value → Hp → Prop) (H : Hp) (K : Hp → Prop) : Prop := nodeM P0 T0 heaps_pairing_lower.A heaps_pairing_lower.code [1, 1, 1] [] (heaps_pairing_lower.rq E K) [(0, .pointer p0), (1, .int .i64 h1), (4, .pointer x4)] H
def heaps_pairing_lower.j2 (p0 : Option Addr) (h1 : Int) (x4 : Option Addr)  (E : Value → Hp → Prop) (H : Hp) (K : Hp → Prop) : Prop := nodeM P0 T0 heaps_pairing_lower.A heaps_pairing_lower.code [1, 1, 1, 1] [] (heaps_pairing_lower.rq E K) [(0, .pointer p0), (1, .int .i64 h1), (4, .pointer x4)] H
theorem heaps_pairing_lower.nok : nodesOk heaps_pairing_lower.code [[1, 1, 1], [1, 1, 1, 1]] = true := by kernel_rfl
def heaps_pairing_lower.run_t (j1 : (Option Addr) → Int → (Option Addr) → Hp → Prop) (p0 : Option Addr) (h1 : Int)  (E : Value → Hp → Prop) (H : Hp) (K : Hp → Prop) : Prop :=
  nn p0 fun b_1 o_1 =>
  ldI .i64 (H.get b_1 (o_1 + 1)) fun x_1 =>
  bcase (decide ((h1 : Int) = x_1)) (
  K H)
  (nn p0 fun b_2 o_2 =>
  ldS (H.get b_2 (o_2 + 2)) fun x_2p x_2n x_2c =>
  ix x_2p x_2n h1 3 fun b_3 o_3 =>
  nn p0 fun b_4 o_4 =>
  ldS (H.get b_4 (o_4 + 2)) fun x_3p x_3n x_3c =>
  ldI .i64 (H.get b_3 (o_3 + 2)) fun x_4 =>
  ix x_3p x_3n (IntKind.wrap .i64 (x_4 - 1)) 3 fun b_5 o_5 =>
  ldI .i64 (H.get b_5 o_5) fun x_5 =>
  bcase (decide ((x_5 : Int) = (IntKind.wrap .i64 (h1 + 1)))) (
  ldI .i64 (H.get b_3 (o_3 + 1)) fun x_6 =>
  stC H b_5 o_5 [.int .i64 x_6] fun H_1 =>
  j1 p0 h1 (some ⟨b_3, o_3, none⟩) H_1)
  (ldI .i64 (H.get b_3 (o_3 + 1)) fun x_7 =>
  stC H b_5 (o_5 + 1) [.int .i64 x_7] fun H_2 =>
  j1 p0 h1 (some ⟨b_3, o_3, none⟩) H_2))
theorem heaps_pairing_lower.run_eq {p0 : Option Addr} {h1 : Int} { E : Value → Hp → Prop} {H : Hp} {K : Hp → Prop} (h : heaps_pairing_lower.run_t (fun p0 h1 x4 H => heaps_pairing_lower.j1 p0 h1 x4  E H K) p0 h1  E H K) : heaps_pairing_lower.run p0 h1  E H K := by
  exact nodeR_imp2 (fun G => heaps_pairing_lower.run_t (fun p0 h1 x4 H => G [1, 1, 1] [(0, .pointer p0), (1, .int .i64 h1), (4, .pointer x4)] H) p0 h1  E H K) heaps_pairing_lower.nok rfl (fun G => by kernel_rfl) (Eq.mp (by kernel_rfl) h)
def heaps_pairing_lower.j1_t (j2 : (Option Addr) → Int → (Option Addr) → Hp → Prop) (p0 : Option Addr) (h1 : Int) (x4 : Option Addr)  (E : Value → Hp → Prop) (H : Hp) (K : Hp → Prop) : Prop :=
  nn x4 fun b_1 o_1 =>
  ldI .i64 (H.get b_1 (o_1 + 1)) fun x_1 =>
  bcase (decide ((0 : Int) < x_1)) (
  nn p0 fun b_2 o_2 =>
  ldS (H.get b_2 (o_2 + 2)) fun x_2p x_2n x_2c =>
  nn x4 fun b_3 o_3 =>
  ldI .i64 (H.get b_3 (o_3 + 1)) fun x_3 =>
  nn x4 fun b_4 o_4 =>
  ldI .i64 (H.get b_4 (o_4 + 2)) fun x_4 =>
  ix x_2p x_2n (IntKind.wrap .i64 (x_3 - 1)) 3 fun b_5 o_5 =>
  stC H b_5 (o_5 + 2) [.int .i64 x_4] fun H_1 =>
  j2 p0 h1 x4 H_1)
  (j2 p0 h1 x4 H)
theorem heaps_pairing_lower.j1_eq {p0 : Option Addr} {h1 : Int} {x4 : Option Addr} { E : Value → Hp → Prop} {H : Hp} {K : Hp → Prop} (h : heaps_pairing_lower.j1_t (fun p0 h1 x4 H => heaps_pairing_lower.j2 p0 h1 x4  E H K) p0 h1 x4  E H K) : heaps_pairing_lower.j1 p0 h1 x4  E H K := by
  exact nodeR_imp2 (fun G => heaps_pairing_lower.j1_t (fun p0 h1 x4 H => G [1, 1, 1, 1] [(0, .pointer p0), (1, .int .i64 h1), (4, .pointer x4)] H) p0 h1 x4  E H K) heaps_pairing_lower.nok rfl (fun G => by kernel_rfl) (Eq.mp (by kernel_rfl) h)
def heaps_pairing_lower.j2_t  (p0 : Option Addr) (h1 : Int) (x4 : Option Addr)  (E : Value → Hp → Prop) (H : Hp) (K : Hp → Prop) : Prop :=
  nn x4 fun b_1 o_1 =>
  stC H b_1 (o_1 + 1) [.int .i64 0] fun H_1 =>
  nn x4 fun b_2 o_2 =>
  stC H_1 b_2 (o_2 + 2) [.int .i64 0] fun H_2 =>
  nn p0 fun b_3 o_3 =>
  ldI .i64 (H_2.get b_3 (o_3 + 1)) fun x_1 =>
  heaps_pairing_meld.call p0 x_1 h1 E H_2 fun r_1 H_3 =>
  nn p0 fun b_4 o_4 =>
  stC H_3 b_4 (o_4 + 1) [.int .i64 r_1] fun H_4 =>
  K H_4
theorem heaps_pairing_lower.j2_eq {p0 : Option Addr} {h1 : Int} {x4 : Option Addr} { E : Value → Hp → Prop} {H : Hp} {K : Hp → Prop} (h : heaps_pairing_lower.j2_t  p0 h1 x4  E H K) : heaps_pairing_lower.j2 p0 h1 x4  E H K := by
  exact nodeR_imp2 (fun _ => heaps_pairing_lower.j2_t  p0 h1 x4  E H K) heaps_pairing_lower.nok rfl (fun G => by kernel_rfl) h
/-! ### (*compass/heaps.pairing).pop (108) -/
noncomputable def heaps_pairing_pop.A : An := { live := [(0, [0]), (1, [0, 2]), (2, [0, 2, 3]), (3, [0, 2, 3]), (4, [0, 2, 4]), (5, [0, 2, 3, 4]), (6, [0, 2, 3, 4]), (7, [0, 2]), (8, [0, 2]), (9, [0, 2, 5]), (10, [0, 2, 5, 6]), (11, [0, 2, 5, 6]), (12, [0, 2, 5, 6]), (13, [0, 2, 5]), (14, [0, 2, 5]), (15, [0, 5]), (16, [0, 5, 7]), (17, [0, 5, 7]), (18, [0, 5, 7]), (19, [0, 5, 7]), (20, [0, 5, 7])], ord := [(1, [0, 1, 2, 3, 4, 5, 6, 7, 8, 9, 10, 11]), (5, [0, 1, 2, 3, 4, 5, 6, 7, 8, 9, 10, 11, 12, 13, 14, 15]), (12, [0, 1, 2, 3, 4, 5, 6, 7, 8, 9, 10, 11, 12, 13, 14]), (20, [0, 1, 2, 3, 4, 5, 6, 7, 8, 9, 10, 11, 12, 13])], stb := [], pre := [(1, [[], [0], [0, 1], [0, 1, 2], [], [4], [4, 5], [4, 5, 6], [0, 1, 2, 3, 4, 5, 6, 7], [0, 1, 2, 3, 4, 5, 6, 7, 8], [0, 1, 2, 3, 4, 5, 6, 7, 8, 9], [0, 1, 2, 3, 4, 5, 6, 7, 8, 9, 10]]), (5, [[], [0], [0, 1], [0, 1, 2], [], [], [5], [5, 6], [5, 6, 7], [], [0, 1, 2, 3, 4, 5, 6, 7, 8], [0, 1, 2, 3, 4, 5, 6, 7, 8, 10], [0, 1, 2, 3, 4, 5, 6, 7, 8, 10, 11], [0, 1, 2, 3, 4, 5, 6, 7, 8, 9, 10, 11, 12], [0, 1, 2, 3, 4, 5, 6, 7, 8, 9, 10, 11, 12, 13], [0, 1, 2, 3, 4, 5, 6, 7, 8, 9, 10, 11, 12, 13, 14]]), (12, [[], [], [], [], [2, 3], [2, 3, 4], [], [], [7], [6, 7, 8], [6, 7, 8, 9], [1, 2, 3, 4, 5, 6, 7, 8, 9, 10], [1, 2, 3, 4, 5, 6, 7, 8, 9, 10, 11], [0, 1, 2, 3, 4, 5, 6, 7, 8, 9, 10, 11, 12], [0, 1, 2, 3, 4, 5, 6, 7, 8, 9, 10, 11, 12, 13]]), (20, [[], [], [], [2], [2, 3], [2, 3, 4], [], [], [6, 7], [6, 7, 8], [1, 2, 3, 4, 5, 6, 7, 8, 9], [0, 1, 2, 3, 4, 5, 6, 7, 8, 9, 10], [0, 1, 2, 3, 4, 5, 6, 7, 8, 9, 10, 11], [0, 1, 2, 3, 4, 5, 6, 7, 8, 9, 10, 11, 12]])] }
noncomputable def heaps_pairing_pop.code : Code := bodyOf Go.Proofs.Tryz.f108
theorem heaps_pairing_pop.ok : okCode heaps_pairing_pop.A 118 heaps_pairing_pop.code = true := by kernel_rfl
def heaps_pairing_pop.rq (E : Value → Hp → Prop) (K : Hp → Prop) : Ex → Fr → Hp → Prop := retQ T0 [] [] (fun r H => ldR (.tup []) r fun u => K  H) E
def heaps_pairing_pop.run (p0 : Option Addr) (E : Value → Hp → Prop) (H : Hp) (K : Hp → Prop) : Prop := nodeM P0 T0 heaps_pairing_pop.A heaps_pairing_pop.code [] [] (heaps_pairing_pop.rq E K) (argF 0 [.pointer p0]) H
theorem heaps_pairing_pop.of {p0 : Option Addr} {E : Value → Hp → Prop} {H : Hp} {K : Hp → Prop} (h : heaps_pairing_pop.run p0 E H K) : heaps_pairing_pop.call p0 E H K :=
  callW_of T0_ok P0_mixed (A := heaps_pairing_pop.A) (fn := Go.Proofs.Tryz.f108) Go.Proofs.Tryz.func108 rfl heaps_pairing_pop.ok rfl h
noncomputable def heaps_pairing_pop.f1 (p0 : Option Addr) (tr2p : Option Addr) (tr2n : Nat) (tr2c : Nat) (c3 : Int) : Fr := [(0, .pointer p0), (2, .slice tr2p tr2n tr2c), (3, .int .i64 c3)]
noncomputable def heaps_pairing_pop.f2 (p0 : Option Addr) (tr2p : Option Addr) (tr2n : Nat) (tr2c : Nat) (pa5p : Option Addr) (pa5n : Nat) (pa5c : Nat) (i6 : Int) : Fr := [(0, .pointer p0), (2, .slice tr2p tr2n tr2c), (5, .slice pa5p pa5n pa5c), (6, .int .i64 i6)]
noncomputable def heaps_pairing_pop.f3 (p0 : Option Addr) (pa5p : Option Addr) (pa5n : Nat) (pa5c : Nat) (i7 : Int) : Fr := [(0, .pointer p0), (5, .slice pa5p pa5n pa5c), (7, .int .i64 i7)]
def heaps_pairing_pop.j1 (p0 : Option Addr) (tr2p : Option Addr) (tr2n : Nat) (tr2c : Nat)  (E : Value → Hp → Prop) (H : Hp) (K : Hp → Prop) : Prop := nodeM P0 T0 heaps_pairing_pop.A heaps_pairing_pop.code [1, 1] [] (heaps_pairing_pop.rq E K) [(0, .pointer p0), (2, .slice tr2p tr2n tr2c)] H
def heaps_pairing_pop.j2 (p0 : Option Addr) (tr2p : Option Addr) (tr2n : Nat) (tr2c : Nat) (pa5p : Option Addr) (pa5n : Nat) (pa5c : Nat)  (E : Value → Hp → Prop) (H : Hp) (K : Hp → Prop) : Prop := nodeM P0 T0 heaps_pairing_pop.A heaps_pairing_pop.code [1, 1, 1, 1, 1] [] (heaps_pairing_pop.rq E K) [(0, .pointer p0), (2, .slice tr2p tr2n tr2c), (5, .slice pa5p pa5n pa5c)] H
def heaps_pairing_pop.j3 (p0 : Option Addr) (pa5p : Option Addr) (pa5n : Nat) (pa5c : Nat)  (E : Value → Hp → Prop) (H : Hp) (K : Hp → Prop) : Prop := nodeM P0 T0 heaps_pairing_pop.A heaps_pairing_pop.code [1, 1, 1, 1, 1, 1] [] (heaps_pairing_pop.rq E K) [(0, .pointer p0), (5, .slice pa5p pa5n pa5c)] H
def heaps_pairing_pop.j4 (p0 : Option Addr) (pa5p : Option Addr) (pa5n : Nat) (pa5c : Nat) (i7 : Int) (X1 : Fr → Hp → Prop) (E : Value → Hp → Prop) (H : Hp) (K : Hp → Prop) : Prop := nodeM P0 T0 heaps_pairing_pop.A heaps_pairing_pop.code [1, 1, 1, 1, 1, 1, 1, 0, 0, 1, 1] [X1] (heaps_pairing_pop.rq E K) [(0, .pointer p0), (5, .slice pa5p pa5n pa5c), (7, .int .i64 i7)] H
def heaps_pairing_pop.l1 (p0 : Option Addr) (tr2p : Option Addr) (tr2n : Nat) (tr2c : Nat) (c3 : Int)  (E : Value → Hp → Prop) (H : Hp) (K : Hp → Prop) : Prop := nodeM P0 T0 heaps_pairing_pop.A heaps_pairing_pop.code [1, 0, 1, 0] [] (heaps_pairing_pop.rq E K) (heaps_pairing_pop.f1 p0 tr2p tr2n tr2c c3) H
def heaps_pairing_pop.b1 (p0 : Option Addr) (tr2p : Option Addr) (tr2n : Nat) (tr2c : Nat) (c3 : Int)  (X1 : Fr → Hp → Prop) (E : Value → Hp → Prop) (H : Hp) (K : Hp → Prop) : Prop := nodeM P0 T0 heaps_pairing_pop.A heaps_pairing_pop.code [1, 0, 1, 0, 0] [X1] (heaps_pairing_pop.rq E K) (heaps_pairing_pop.f1 p0 tr2p tr2n tr2c c3) H
theorem heaps_pairing_pop.l1_rule { E : Value → Hp → Prop} {K : Hp → Prop} (I : (Option Addr) → (Option Addr) → Nat → Nat → Int → Hp → Prop) (μ : (Option Addr) → (Option Addr) → Nat → Nat → Int → Hp → Nat)
    (h : ∀ p0 tr2p tr2n tr2c c3 H, I p0 tr2p tr2n tr2c c3 H → ∀ X : Fr → Hp → Prop, (∀ p0' tr2p' tr2n' tr2c' c3' H', I p0' tr2p' tr2n' tr2c' c3' H' → μ p0' tr2p' tr2n' tr2c' c3' H' < μ p0 tr2p tr2n tr2c c3 H → X (heaps_pairing_pop.f1 p0' tr2p' tr2n' tr2c' c3') H') → heaps_pairing_pop.b1 p0 tr2p tr2n tr2c c3  X E H K)
    {p0 : Option Addr} {tr2p : Option Addr} {tr2n : Nat} {tr2c : Nat} {c3 : Int} {H : Hp} (hI : I p0 tr2p tr2n tr2c c3 H) : heaps_pairing_pop.l1 p0 tr2p tr2n tr2c c3  E H K :=
  loop_rule (S := (Option Addr) × (Option Addr) × Nat × Nat × Int) (fun s => heaps_pairing_pop.f1 (s.1) (s.2.1) (s.2.2.1) (s.2.2.2.1) (s.2.2.2.2)) (fun s H => I (s.1) (s.2.1) (s.2.2.1) (s.2.2.2.1) (s.2.2.2.2) H) (fun s H => μ (s.1) (s.2.1) (s.2.2.1) (s.2.2.2.1) (s.2.2.2.2) H) (fun s H hI X hX => h (s.1) (s.2.1) (s.2.2.1) (s.2.2.2.1) (s.2.2.2.2) H hI X fun p0' tr2p' tr2n' tr2c' c3' H' hI' hlt => hX (p0', tr2p', tr2n', tr2c', c3') H' hI' hlt) (s := (p0, tr2p, tr2n, tr2c, c3)) rfl hI
def heaps_pairing_pop.l2 (p0 : Option Addr) (tr2p : Option Addr) (tr2n : Nat) (tr2c : Nat) (pa5p : Option Addr) (pa5n : Nat) (pa5c : Nat) (i6 : Int)  (E : Value → Hp → Prop) (H : Hp) (K : Hp → Prop) : Prop := nodeM P0 T0 heaps_pairing_pop.A heaps_pairing_pop.code [1, 1, 1, 1, 0, 1, 0] [] (heaps_pairing_pop.rq E K) (heaps_pairing_pop.f2 p0 tr2p tr2n tr2c pa5p pa5n pa5c i6) H
def heaps_pairing_pop.b2 (p0 : Option Addr) (tr2p : Option Addr) (tr2n : Nat) (tr2c : Nat) (pa5p : Option Addr) (pa5n : Nat) (pa5c : Nat) (i6 : Int)  (X1 : Fr → Hp → Prop) (E : Value → Hp → Prop) (H : Hp) (K : Hp → Prop) : Prop := nodeM P0 T0 heaps_pairing_pop.A heaps_pairing_pop.code [1, 1, 1, 1, 0, 1, 0, 0] [X1] (heaps_pairing_pop.rq E K) (heaps_pairing_pop.f2 p0 tr2p tr2n tr2c pa5p pa5n pa5c i6) H
theorem heaps_pairing_pop.l2_rule { E : Value → Hp → Prop} {K : Hp → Prop} (I : (Option Addr) → (Option Addr) → Nat → Nat → (Option Addr) → Nat → Nat → Int → Hp → Prop) (μ : (Option Addr) → (Option Addr) → Nat → Nat → (Option Addr) → Nat → Nat → Int → Hp → Nat)
    (h : ∀ p0 tr2p tr2n tr2c pa5p pa5n pa5c i6 H, I p0 tr2p tr2n tr2c pa5p pa5n pa5c i6 H → ∀ X : Fr → Hp → Prop, (∀ p0' tr2p' tr2n' tr2c' pa5p' pa5n' pa5c' i6' H', I p0' tr2p' tr2n' tr2c' pa5p' pa5n' pa5c' i6' H' → μ p0' tr2p' tr2n' tr2c' pa5p' pa5n' pa5c' i6' H' < μ p0 tr2p tr2n tr2c pa5p pa5n pa5c i6 H → X (heaps_pairing_pop.f2 p0' tr2p' tr2n' tr2c' pa5p' pa5n' pa5c' i6') H') → heaps_pairing_pop.b2 p0 tr2p tr2n tr2c pa5p pa5n pa5c i6  X E H K)
    {p0 : Option Addr} {tr2p : Option Addr} {tr2n : Nat} {tr2c : Nat} {pa5p : Option Addr} {pa5n : Nat} {pa5c : Nat} {i6 : Int} {H : Hp} (hI : I p0 tr2p tr2n tr2c pa5p pa5n pa5c i6 H) : heaps_pairing_pop.l2 p0 tr2p tr2n tr2c pa5p pa5n pa5c i6  E H K :=
  loop_rule (S := (Option Addr) × (Option Addr) × Nat × Nat × (Option Addr) × Nat × Nat × Int) (fun s => heaps_pairing_pop.f2 (s.1) (s.2.1) (s.2.2.1) (s.2.2.2.1) (s.2.2.2.2.1) (s.2.2.2.2.2.1) (s.2.2.2.2.2.2.1) (s.2.2.2.2.2.2.2)) (fun s H => I (s.1) (s.2.1) (s.2.2.1) (s.2.2.2.1) (s.2.2.2.2.1) (s.2.2.2.2.2.1) (s.2.2.2.2.2.2.1) (s.2.2.2.2.2.2.2) H) (fun s H => μ (s.1) (s.2.1) (s.2.2.1) (s.2.2.2.1) (s.2.2.2.2.1) (s.2.2.2.2.2.1) (s.2.2.2.2.2.2.1) (s.2.2.2.2.2.2.2) H) (fun s H hI X hX => h (s.1) (s.2.1) (s.2.2.1) (s.2.2.2.1) (s.2.2.2.2.1) (s.2.2.2.2.2.1) (s.2.2.2.2.2.2.1) (s.2.2.2.2.2.2.2) H hI X fun p0' tr2p' tr2n' tr2c' pa5p' pa5n' pa5c' i6' H' hI' hlt => hX (p0', tr2p', tr2n', tr2c', pa5p', pa5n', pa5c', i6') H' hI' hlt) (s := (p0, tr2p, tr2n, tr2c, pa5p, pa5n, pa5c, i6)) rfl hI
def heaps_pairing_pop.l3 (p0 : Option Addr) (pa5p : Option Addr) (pa5n : Nat) (pa5c : Nat) (i7 : Int)  (E : Value → Hp → Prop) (H : Hp) (K : Hp → Prop) : Prop := nodeM P0 T0 heaps_pairing_pop.A heaps_pairing_pop.code [1, 1, 1, 1, 1, 1, 1, 0] [] (heaps_pairing_pop.rq E K) (heaps_pairing_pop.f3 p0 pa5p pa5n pa5c i7) H
def heaps_pairing_pop.b3 (p0 : Option Addr) (pa5p : Option Addr) (pa5n : Nat) (pa5c : Nat) (i7 : Int)  (X1 : Fr → Hp → Prop) (E : Value → Hp → Prop) (H : Hp) (K : Hp → Prop) : Prop := nodeM P0 T0 heaps_pairing_pop.A heaps_pairing_pop.code [1, 1, 1, 1, 1, 1, 1, 0, 0] [X1] (heaps_pairing_pop.rq E K) (heaps_pairing_pop.f3 p0 pa5p pa5n pa5c i7) H
theorem heaps_pairing_pop.l3_rule { E : Value → Hp → Prop} {K : Hp → Prop} (I : (Option Addr) → (Option Addr) → Nat → Nat → Int → Hp → Prop) (μ : (Option Addr) → (Option Addr) → Nat → Nat → Int → Hp → Nat)
    (h : ∀ p0 pa5p pa5n pa5c i7 H, I p0 pa5p pa5n pa5c i7 H → ∀ X : Fr → Hp → Prop, (∀ p0' pa5p' pa5n' pa5c' i7' H', I p0' pa5p' pa5n' pa5c' i7' H' → μ p0' pa5p' pa5n' pa5c' i7' H' < μ p0 pa5p pa5n pa5c i7 H → X (heaps_pairing_pop.f3 p0' pa5p' pa5n' pa5c' i7') H') → heaps_pairing_pop.b3 p0 pa5p pa5n pa5c i7  X E H K)
    {p0 : Option Addr} {pa5p : Option Addr} {pa5n : Nat} {pa5c : Nat} {i7 : Int} {H : Hp} (hI : I p0 pa5p pa5n pa5c i7 H) : heaps_pairing_pop.l3 p0 pa5p pa5n pa5c i7  E H K :=
  loop_rule (S := (Option Addr) × (Option Addr) × Nat × Nat × Int) (fun s => heaps_pairing_pop.f3 (s.1) (s.2.1) (s.2.2.1) (s.2.2.2.1) (s.2.2.2.2)) (fun s H => I (s.1) (s.2.1) (s.2.2.1) (s.2.2.2.1) (s.2.2.2.2) H) (fun s H => μ (s.1) (s.2.1) (s.2.2.1) (s.2.2.2.1) (s.2.2.2.2) H) (fun s H hI X hX => h (s.1) (s.2.1) (s.2.2.1) (s.2.2.2.1) (s.2.2.2.2) H hI X fun p0' pa5p' pa5n' pa5c' i7' H' hI' hlt => hX (p0', pa5p', pa5n', pa5c', i7') H' hI' hlt) (s := (p0, pa5p, pa5n, pa5c, i7)) rfl hI
theorem heaps_pairing_pop.nok : nodesOk heaps_pairing_pop.code [[0, 1, 0, 1], [1, 1], [0, 1, 0, 1, 1, 1, 1], [1, 1, 1, 1, 1], [1, 1, 1, 1, 1, 1], [0, 1, 1, 1, 1, 1, 1, 1], [1, 1, 0, 0, 1, 1, 1, 1, 1, 1, 1]] = true := by kernel_rfl
def heaps_pairing_pop.run_t (l1 : (Option Addr) → (Option Addr) → Nat → Nat → Int → Hp → Prop) (p0 : Option Addr)  (E : Value → Hp → Prop) (H : Hp) (K : Hp → Prop) : Prop :=
  nn p0 fun b_1 o_1 =>
  ldS (H.get b_1 (o_1 + 2)) fun x_1p x_1n x_1c =>
  nn p0 fun b_2 o_2 =>
  ldI .i64 (H.get b_2 (o_2 + 1)) fun x_2 =>
  ix x_1p x_1n x_2 3 fun b_3 o_3 =>
  ldI .i64 (H.get b_3 o_3) fun x_3 =>
  l1 p0 none 0 0 x_3 H
theorem heaps_pairing_pop.run_eq {p0 : Option Addr} { E : Value → Hp → Prop} {H : Hp} {K : Hp → Prop} (h : heaps_pairing_pop.run_t (fun p0 tr2p tr2n tr2c c3 H => heaps_pairing_pop.l1 p0 tr2p tr2n tr2c c3  E H K) p0  E H K) : heaps_pairing_pop.run p0  E H K := by
  exact nodeR_imp2 (fun G => heaps_pairing_pop.run_t (fun p0 tr2p tr2n tr2c c3 H => G [0, 1, 0, 1] [(0, .pointer p0), (2, .slice tr2p tr2n tr2c), (3, .int .i64 c3)] H) p0  E H K) heaps_pairing_pop.nok rfl (fun G => by kernel_rfl) (Eq.mp (by kernel_rfl) h)
def heaps_pairing_pop.j1_t (l2 : (Option Addr) → (Option Addr) → Nat → Nat → (Option Addr) → Nat → Nat → Int → Hp → Prop) (p0 : Option Addr) (tr2p : Option Addr) (tr2n : Nat) (tr2c : Nat)  (E : Value → Hp → Prop) (H : Hp) (K : Hp → Prop) : Prop :=
  nn p0 fun b_1 o_1 =>
  stC H b_1 (o_1 + 1) [.int .i64 (-1)] fun H_1 =>
  l2 p0 tr2p tr2n tr2c none 0 0 0 H_1
theorem heaps_pairing_pop.j1_eq {p0 : Option Addr} {tr2p : Option Addr} {tr2n : Nat} {tr2c : Nat} { E : Value → Hp → Prop} {H : Hp} {K : Hp → Prop} (h : heaps_pairing_pop.j1_t (fun p0 tr2p tr2n tr2c pa5p pa5n pa5c i6 H => heaps_pairing_pop.l2 p0 tr2p tr2n tr2c pa5p pa5n pa5c i6  E H K) p0 tr2p tr2n tr2c  E H K) : heaps_pairing_pop.j1 p0 tr2p tr2n tr2c  E H K := by
  exact nodeR_imp2 (fun G => heaps_pairing_pop.j1_t (fun p0 tr2p tr2n tr2c pa5p pa5n pa5c i6 H => G [0, 1, 0, 1, 1, 1, 1] [(0, .pointer p0), (2, .slice tr2p tr2n tr2c), (5, .slice pa5p pa5n pa5c), (6, .int .i64 i6)] H) p0 tr2p tr2n tr2c  E H K) heaps_pairing_pop.nok rfl (fun G => by kernel_rfl) (Eq.mp (by kernel_rfl) h)
def heaps_pairing_pop.j2_t (j3 : (Option Addr) → (Option Addr) → Nat → Nat → Hp → Prop) (p0 : Option Addr) (tr2p : Option Addr) (tr2n : Nat) (tr2c : Nat) (pa5p : Option Addr) (pa5n : Nat) (pa5c : Nat)  (E : Value → Hp → Prop) (H : Hp) (K : Hp → Prop) : Prop :=
  2 ≠ (0 : Int) ∧
  bcase (decide (((Int.tmod (tr2n : Int) 2) : Int) = 1)) (
  ix tr2p tr2n (IntKind.wrap .i64 ((tr2n : Int) - 1)) 1 fun b_1 o_1 =>
  ldI .i64 (H.get b_1 o_1) fun x_1 =>
  nw H ⟨[.int .i64 x_1], 3⟩ fun b_2 H_1 =>
  appM 3 [.i .i64] 8 pa5p pa5n pa5c (some ⟨b_2, 0, none⟩) 1 H_1 fun a_1p a_1n a_1c H_2 =>
  j3 p0 a_1p a_1n a_1c H_2)
  (j3 p0 pa5p pa5n pa5c H)
theorem heaps_pairing_pop.j2_eq {p0 : Option Addr} {tr2p : Option Addr} {tr2n : Nat} {tr2c : Nat} {pa5p : Option Addr} {pa5n : Nat} {pa5c : Nat} { E : Value → Hp → Prop} {H : Hp} {K : Hp → Prop} (h : heaps_pairing_pop.j2_t (fun p0 pa5p pa5n pa5c H => heaps_pairing_pop.j3 p0 pa5p pa5n pa5c  E H K) p0 tr2p tr2n tr2c pa5p pa5n pa5c  E H K) : heaps_pairing_pop.j2 p0 tr2p tr2n tr2c pa5p pa5n pa5c  E H K := by
  exact nodeR_imp2 (fun G => heaps_pairing_pop.j2_t (fun p0 pa5p pa5n pa5c H => G [1, 1, 1, 1, 1, 1] [(0, .pointer p0), (5, .slice pa5p pa5n pa5c)] H) p0 tr2p tr2n tr2c pa5p pa5n pa5c  E H K) heaps_pairing_pop.nok rfl (fun G => by kernel_rfl) (Eq.mp (by kernel_rfl) h)
def heaps_pairing_pop.j3_t (l3 : (Option Addr) → (Option Addr) → Nat → Nat → Int → Hp → Prop) (p0 : Option Addr) (pa5p : Option Addr) (pa5n : Nat) (pa5c : Nat)  (E : Value → Hp → Prop) (H : Hp) (K : Hp → Prop) : Prop :=
  l3 p0 pa5p pa5n pa5c (IntKind.wrap .i64 ((pa5n : Int) - 1)) H
theorem heaps_pairing_pop.j3_eq {p0 : Option Addr} {pa5p : Option Addr} {pa5n : Nat} {pa5c : Nat} { E : Value → Hp → Prop} {H : Hp} {K : Hp → Prop} (h : heaps_pairing_pop.j3_t (fun p0 pa5p pa5n pa5c i7 H => heaps_pairing_pop.l3 p0 pa5p pa5n pa5c i7  E H K) p0 pa5p pa5n pa5c  E H K) : heaps_pairing_pop.j3 p0 pa5p pa5n pa5c  E H K := by
  exact nodeR_imp2 (fun G => heaps_pairing_pop.j3_t (fun p0 pa5p pa5n pa5c i7 H => G [0, 1, 1, 1, 1, 1, 1, 1] [(0, .pointer p0), (5, .slice pa5p pa5n pa5c), (7, .int .i64 i7)] H) p0 pa5p pa5n pa5c  E H K) heaps_pairing_pop.nok rfl (fun G => by kernel_rfl) (Eq.mp (by kernel_rfl) h)
def heaps_pairing_pop.j4_t  (p0 : Option Addr) (pa5p : Option Addr) (pa5n : Nat) (pa5c : Nat) (i7 : Int) (X1 : Fr → Hp → Prop) (E : Value → Hp → Prop) (H : Hp) (K : Hp → Prop) : Prop :=
  X1 (heaps_pairing_pop.f3 p0 pa5p pa5n pa5c (IntKind.wrap .i64 (i7 - 1))) H
theorem heaps_pairing_pop.j4_eq {p0 : Option Addr} {pa5p : Option Addr} {pa5n : Nat} {pa5c : Nat} {i7 : Int} {X1 : Fr → Hp → Prop} { E : Value → Hp → Prop} {H : Hp} {K : Hp → Prop} (h : heaps_pairing_pop.j4_t  p0 pa5p pa5n pa5c i7 X1 E H K) : heaps_pairing_pop.j4 p0 pa5p pa5n pa5c i7 X1 E H K := by
  exact nodeR_imp2 (fun _ => heaps_pairing_pop.j4_t  p0 pa5p pa5n pa5c i7 X1 E H K) heaps_pairing_pop.nok rfl (fun G => by kernel_rfl) h
def heaps_pairing_pop.b1_t (j1 : (Option Addr) → (Option Addr) → Nat → Nat → Hp → Prop) (p0 : Option Addr) (tr2p : Option Addr) (tr2n : Nat) (tr2c : Nat) (c3 : Int) (X1 : Fr → Hp → Prop) (E : Value → Hp → Prop) (H : Hp) (K : Hp → Prop) : Prop :=
  bcase (decide ((0 : Int) < c3)) (
  nn p0 fun b_1 o_1 =>
  ldS (H.get b_1 (o_1 + 2)) fun x_1p x_1n x_1c =>
  ix x_1p x_1n (IntKind.wrap .i64 (c3 - 1)) 3 fun b_2 o_2 =>
  ldI .i64 (H.get b_2 (o_2 + 1)) fun x_2 =>
  nn p0 fun b_3 o_3 =>
  ldS (H.get b_3 (o_3 + 2)) fun x_3p x_3n x_3c =>
  nn p0 fun b_4 o_4 =>
  ldS (H.get b_4 (o_4 + 2)) fun x_4p x_4n x_4c =>
  ix x_3p x_3n (IntKind.wrap .i64 (c3 - 1)) 3 fun b_5 o_5 =>
  stC H b_5 (o_5 + 1) [.int .i64 0] fun H_1 =>
  ix x_4p x_4n (IntKind.wrap .i64 (c3 - 1)) 3 fun b_6 o_6 =>
  stC H_1 b_6 (o_6 + 2) [.int .i64 0] fun H_2 =>
  nw H_2 ⟨[.int .i64 (IntKind.wrap .i64 (c3 - 1))], 3⟩ fun b_7 H_3 =>
  appM 3 [.i .i64] 8 tr2p tr2n tr2c (some ⟨b_7, 0, none⟩) 1 H_3 fun a_1p a_1n a_1c H_4 =>
  X1 (heaps_pairing_pop.f1 p0 a_1p a_1n a_1c x_2) H_4)
  (j1 p0 tr2p tr2n tr2c H)
theorem heaps_pairing_pop.b1_eq {p0 : Option Addr} {tr2p : Option Addr} {tr2n : Nat} {tr2c : Nat} {c3 : Int} {X1 : Fr → Hp → Prop} { E : Value → Hp → Prop} {H : Hp} {K : Hp → Prop} (h : heaps_pairing_pop.b1_t (fun p0 tr2p tr2n tr2c H => heaps_pairing_pop.j1 p0 tr2p tr2n tr2c  E H K) p0 tr2p tr2n tr2c c3 X1 E H K) : heaps_pairing_pop.b1 p0 tr2p tr2n tr2c c3 X1 E H K := by
  exact nodeR_imp2 (fun G => heaps_pairing_pop.b1_t (fun p0 tr2p tr2n tr2c H => G [1, 1] [(0, .pointer p0), (2, .slice tr2p tr2n tr2c)] H) p0 tr2p tr2n tr2c c3 X1 E H K) heaps_pairing_pop.nok rfl (fun G => by kernel_rfl) (Eq.mp (by kernel_rfl) h)
def heaps_pairing_pop.b2_t (j2 : (Option Addr) → (Option Addr) → Nat → Nat → (Option Addr) → Nat → Nat → Hp → Prop) (p0 : Option Addr) (tr2p : Option Addr) (tr2n : Nat) (tr2c : Nat) (pa5p : Option Addr) (pa5n : Nat) (pa5c : Nat) (i6 : Int) (X1 : Fr → Hp → Prop) (E : Value → Hp → Prop) (H : Hp) (K : Hp → Prop) : Prop :=
  bcase (decide (((IntKind.wrap .i64 (i6 + 1)) : Int) < (tr2n : Int))) (
  ix tr2p tr2n i6 1 fun b_1 o_1 =>
  ldI .i64 (H.get b_1 o_1) fun x_1 =>
  ix tr2p tr2n (IntKind.wrap .i64 (i6 + 1)) 1 fun b_2 o_2 =>
  ldI .i64 (H.get b_2 o_2) fun x_2 =>
  heaps_pairing_meld.call p0 x_1 x_2 E H fun r_1 H_1 =>
  nw H_1 ⟨[.int .i64 r_1], 3⟩ fun b_3 H_2 =>
  appM 3 [.i .i64] 8 pa5p pa5n pa5c (some ⟨b_3, 0, none⟩) 1 H_2 fun a_1p a_1n a_1c H_3 =>
  X1 (heaps_pairing_pop.f2 p0 tr2p tr2n tr2c a_1p a_1n a_1c (IntKind.wrap .i64 (i6 + 2))) H_3)
  (j2 p0 tr2p tr2n tr2c pa5p pa5n pa5c H)
theorem heaps_pairing_pop.b2_eq {p0 : Option Addr} {tr2p : Option Addr} {tr2n : Nat} {tr2c : Nat} {pa5p : Option Addr} {pa5n : Nat} {pa5c : Nat} {i6 : Int} {X1 : Fr → Hp → Prop} { E : Value → Hp → Prop} {H : Hp} {K : Hp → Prop} (h : heaps_pairing_pop.b2_t (fun p0 tr2p tr2n tr2c pa5p pa5n pa5c H => heaps_pairing_pop.j2 p0 tr2p tr2n tr2c pa5p pa5n pa5c  E H K) p0 tr2p tr2n tr2c pa5p pa5n pa5c i6 X1 E H K) : heaps_pairing_pop.b2 p0 tr2p tr2n tr2c pa5p pa5n pa5c i6 X1 E H K := by
  exact nodeR_imp2 (fun G => heaps_pairing_pop.b2_t (fun p0 tr2p tr2n tr2c pa5p pa5n pa5c H => G [1, 1, 1, 1, 1] [(0, .pointer p0), (2, .slice tr2p tr2n tr2c), (5, .slice pa5p pa5n pa5c)] H) p0 tr2p tr2n tr2c pa5p pa5n pa5c i6 X1 E H K) heaps_pairing_pop.nok rfl (fun G => by kernel_rfl) (Eq.mp (by kernel_rfl) h)
def heaps_pairing_pop.b3_t (j4 : (Option Addr) → (Option Addr) → Nat → Nat → Int → Hp → Prop) (p0 : Option Addr) (pa5p : Option Addr) (pa5n : Nat) (pa5c : Nat) (i7 : Int) (X1 : Fr → Hp → Prop) (E : Value → Hp → Prop) (H : Hp) (K : Hp → Prop) : Prop :=
  bcase (decide ((0 : Int) ≤ i7)) (
  nn p0 fun b_1 o_1 =>
  ldI .i64 (H.get b_1 (o_1 + 1)) fun x_1 =>
  bcase (decide ((x_1 : Int) < 0)) (
  ix pa5p pa5n i7 1 fun b_2 o_2 =>
  ldI .i64 (H.get b_2 o_2) fun x_2 =>
  nn p0 fun b_3 o_3 =>
  stC H b_3 (o_3 + 1) [.int .i64 x_2] fun H_1 =>
  j4 p0 pa5p pa5n pa5c i7 H_1)
  (nn p0 fun b_4 o_4 =>
  ldI .i64 (H.get b_4 (o_4 + 1)) fun x_3 =>
  ix pa5p pa5n i7 1 fun b_5 o_5 =>
  ldI .i64 (H.get b_5 o_5) fun x_4 =>
  heaps_pairing_meld.call p0 x_3 x_4 E H fun r_1 H_2 =>
  nn p0 fun b_6 o_6 =>
  stC H_2 b_6 (o_6 + 1) [.int .i64 r_1] fun H_3 =>
  j4 p0 pa5p pa5n pa5c i7 H_3))
  (K H)
theorem heaps_pairing_pop.b3_eq {p0 : Option Addr} {pa5p : Option Addr} {pa5n : Nat} {pa5c : Nat} {i7 : Int} {X1 : Fr → Hp → Prop} { E : Value → Hp → Prop} {H : Hp} {K : Hp → Prop} (h : heaps_pairing_pop.b3_t (fun p0 pa5p pa5n pa5c i7 H => heaps_pairing_pop.j4 p0 pa5p pa5n pa5c i7 X1 E H K) p0 pa5p pa5n pa5c i7 X1 E H K) : heaps_pairing_pop.b3 p0 pa5p pa5n pa5c i7 X1 E H K := by
  exact nodeR_imp2 (fun G => heaps_pairing_pop.b3_t (fun p0 pa5p pa5n pa5c i7 H => G [1, 1, 0, 0, 1, 1, 1, 1, 1, 1, 1] [(0, .pointer p0), (5, .slice pa5p pa5n pa5c), (7, .int .i64 i7)] H) p0 pa5p pa5n pa5c i7 X1 E H K) heaps_pairing_pop.nok rfl (fun G => by kernel_rfl) (Eq.mp (by kernel_rfl) h)
/-! ### (*compass/heaps.pairing).push (109) -/
noncomputable def heaps_pairing_push.A : An := { live := [(0, [0, 1]), (1, [0, 1]), (2, [0, 1]), (3, [0, 1])], ord := [], stb := [], pre := [] }
noncomputable def heaps_pairing_push.code : Code := bodyOf Go.Proofs.Tryz.f109
theorem heaps_pairing_push.ok : okCode heaps_pairing_push.A 30 heaps_pairing_push.code = true := by kernel_rfl
def heaps_pairing_push.rq (E : Value → Hp → Prop) (K : Hp → Prop) : Ex → Fr → Hp → Prop := retQ T0 [] [] (fun r H => ldR (.tup []) r fun u => K  H) E
def heaps_pairing_push.run (p0 : Option Addr) (h1 : Int) (E : Value → Hp → Prop) (H : Hp) (K : Hp → Prop) : Prop := nodeM P0 T0 heaps_pairing_push.A heaps_pairing_push.code [] [] (heaps_pairing_push.rq E K) (argF 0 [.pointer p0, .int .i64 h1]) H
theorem heaps_pairing_push.of {p0 : Option Addr} {h1 : Int} {E : Value → Hp → Prop} {H : Hp} {K : Hp → Prop} (h : heaps_pairing_push.run p0 h1 E H K) : heaps_pairing_push.call p0 h1 E H K :=
  callW_of T0_ok P0_mixed (A := heaps_pairing_push.A) (fn := Go.Proofs.Tryz.f109) Go.Proofs.Tryz.func109 rfl heaps_pairing_push.ok rfl h
theorem heaps_pairing_push.nok : nodesOk heaps_pairing_push.code [] = true := by kernel_rfl
def heaps_pairing_push.run_t  (p0 : Option Addr) (h1 : Int)  (E : Value → Hp → Prop) (H : Hp) (K : Hp → Prop) : Prop :=
  nn p0 fun b_1 o_1 =>
  ldS (H.get b_1 (o_1 + 2)) fun x_1p x_1n x_1c =>
  ix x_1p x_1n h1 3 fun b_2 o_2 =>
  stC H b_2 o_2 [.int .i64 0, .int .i64 0, .int .i64 0] fun H_1 =>
  nn p0 fun b_3 o_3 =>
  ldI .i64 (H_1.get b_3 (o_3 + 1)) fun x_2 =>
  bcase (decide ((x_2 : Int) < 0)) (
  nn p0 fun b_4 o_4 =>
  stC H_1 b_4 (o_4 + 1) [.int .i64 h1] fun H_2 =>
  K H_2)
  (nn p0 fun b_5 o_5 =>
  ldI .i64 (H_1.get b_5 (o_5 + 1)) fun x_3 =>
  heaps_pairing_meld.call p0 x_3 h1 E H_1 fun r_1 H_3 =>
  nn p0 fun b_6 o_6 =>
  stC H_3 b_6 (o_6 + 1) [.int .i64 r_1] fun H_4 =>
  K H_4)
theorem heaps_pairing_push.run_eq {p0 : Option Addr} {h1 : Int} { E : Value → Hp → Prop} {H : Hp} {K : Hp → Prop} (h : heaps_pairing_push.run_t  p0 h1  E H K) : heaps_pairing_push.run p0 h1  E H K := by
  exact nodeR_imp2 (fun _ => heaps_pairing_push.run_t  p0 h1  E H K) heaps_pairing_push.nok rfl (fun G => by kernel_rfl) h
/-! ### (*compass/heaps.pairing).top (110) -/
noncomputable def heaps_pairing_top.A : An := { live := [(0, [0]), (1, [0])], ord := [], stb := [], pre := [] }
noncomputable def heaps_pairing_top.code : Code := bodyOf Go.Proofs.Tryz.f110
theorem heaps_pairing_top.ok : okCode heaps_pairing_top.A 7 heaps_pairing_top.code = true := by kernel_rfl
def heaps_pairing_top.rq (E : Value → Hp → Prop) (K : Int → Hp → Prop) : Ex → Fr → Hp → Prop := retQ T0 [.tmp 2] [3] (fun r H => ldR (.one false [.i .i64]) r fun u => K (asI u) H) E
def heaps_pairing_top.run (p0 : Option Addr) (E : Value → Hp → Prop) (H : Hp) (K : Int → Hp → Prop) : Prop := nodeM P0 T0 heaps_pairing_top.A heaps_pairing_top.code [] [] (heaps_pairing_top.rq E K) (argF 0 [.pointer p0]) H
theorem heaps_pairing_top.of {p0 : Option Addr} {E : Value → Hp → Prop} {H : Hp} {K : Int → Hp → Prop} (h : heaps_pairing_top.run p0 E H K) : heaps_pairing_top.call p0 E H K :=
  callW_of T0_ok P0_mixed (A := heaps_pairing_top.A) (fn := Go.Proofs.Tryz.f110) Go.Proofs.Tryz.func110 rfl heaps_pairing_top.ok rfl h
theorem heaps_pairing_top.nok : nodesOk heaps_pairing_top.code [] = true := by kernel_rfl
def heaps_pairing_top.run_t  (p0 : Option Addr)  (E : Value → Hp → Prop) (H : Hp) (K : Int → Hp → Prop) : Prop :=
  nn p0 fun b_1 o_1 =>
  ldI .i64 (H.get b_1 (o_1 + 1)) fun x_1 =>
  K x_1 H
theorem heaps_pairing_top.run_eq {p0 : Option Addr} { E : Value → Hp → Prop} {H : Hp} {K : Int → Hp → Prop} (h : heaps_pairing_top.run_t  p0  E H K) : heaps_pairing_top.run p0  E H K := by
  exact nodeR_imp2 (fun _ => heaps_pairing_top.run_t  p0  E H K) heaps_pairing_top.nok rfl (fun G => by kernel_rfl) h
/-! ### (*compass/heaps.pairing).meld (111) -/
noncomputable def heaps_pairing_meld.A : An := { live := [(0, [0, 1, 2]), (1, [0, 1, 2]), (2, [0, 1, 2]), (3, [0, 1, 2]), (4, [0, 1, 2, 7, 8]), (5, [0, 1, 2, 7]), (6, [0, 1, 2, 7]), (7, [1, 2, 7]), (8, [1])], ord := [(3, [0, 1, 2, 3, 4, 5, 6, 7, 8, 9, 10, 11, 12, 13]), (6, [0, 1, 2, 3, 4, 5, 6, 7, 8, 9, 10, 11, 12, 13])], stb := [], pre := [(3, [[], [0], [0, 1], [0, 1, 2], [], [0, 1, 2, 3, 4], [], [6], [6, 7], [6, 7, 8], [], [6, 7, 8, 9, 10], [0, 1, 2, 3, 4, 5], [0, 1, 2, 3, 4, 5, 6, 7, 8, 9, 10, 11, 12]]), (6, [[], [0], [0, 1], [0, 1, 2], [], [4], [4, 5], [4, 5, 6], [4, 5, 6, 7], [], [9], [0, 1, 2, 3, 4, 5, 6, 7, 8, 9, 10], [0, 1, 2, 3, 4, 5, 6, 7, 8, 9, 10, 11], [0, 1, 2, 3, 4, 5, 6, 7, 8, 9, 10, 11, 12]])] }
noncomputable def heaps_pairing_meld.code : Code := bodyOf Go.Proofs.Tryz.f111
theorem heaps_pairing_meld.ok : okCode heaps_pairing_meld.A 66 heaps_pairing_meld.code = true := by kernel_rfl
def heaps_pairing_meld.rq (E : Value → Hp → Prop) (K : Int → Hp → Prop) : Ex → Fr → Hp → Prop := retQ T0 [.tmp 6] [3] (fun r H => ldR (.one false [.i .i64]) r fun u => K (asI u) H) E
def heaps_pairing_meld.run (p0 : Option Addr) (a1 : Int) (bb2 : Int) (E : Value → Hp → Prop) (H : Hp) (K : Int → Hp → Prop) : Prop := nodeM P0 T0 heaps_pairing_meld.A heaps_pairing_meld.code [] [] (heaps_pairing_meld.rq E K) (argF 0 [.pointer p0, .int .i64 a1, .int .i64 bb2]) H
theorem heaps_pairing_meld.of {p0 : Option Addr} {a1 : Int} {bb2 : Int} {E : Value → Hp → Prop} {H : Hp} {K : Int → Hp → Prop} (h : heaps_pairing_meld.run p0 a1 bb2 E H K) : heaps_pairing_meld.call p0 a1 bb2 E H K :=
  callW_of T0_ok P0_mixed (A := heaps_pairing_meld.A) (fn := Go.Proofs.Tryz.f111) Go.Proofs.Tryz.func111 rfl heaps_pairing_meld.ok rfl h
def heaps_pairing_meld.j1 (p0 : Option Addr) (a1 : Int) (bb2 : Int)  (E : Value → Hp → Prop) (H : Hp) (K : Int → Hp → Prop) : Prop := nodeM P0 T0 heaps_pairing_meld.A heaps_pairing_meld.code [1, 1] [] (heaps_pairing_meld.rq E K) [(0, .pointer p0), (1, .int .i64 a1), (2, .int .i64 bb2)] H
def heaps_pairing_meld.j2 (a1 : Int) (bb2 : Int) (x7 : Option Addr)  (E : Value → Hp → Prop) (H : Hp) (K : Int → Hp → Prop) : Prop := nodeM P0 T0 heaps_pairing_meld.A heaps_pairing_meld.code [1, 1, 1, 1, 1] [] (heaps_pairing_meld.rq E K) [(1, .int .i64 a1), (2, .int .i64 bb2), (7, .pointer x7)] H
theorem heaps_pairing_meld.nok : nodesOk heaps_pairing_meld.code [[1, 1], [1, 1, 1, 1, 1]] = true := by kernel_rfl
def heaps_pairing_meld.run_t (j1 : (Option Addr) → Int → Int → Hp → Prop) (p0 : Option Addr) (a1 : Int) (bb2 : Int)  (E : Value → Hp → Prop) (H : Hp) (K : Int → Hp → Prop) : Prop :=
  nn p0 fun b_1 o_1 =>
  ldP (H.get b_1 o_1) fun x_1 =>
  heaps_keyed_ahead.call x_1 bb2 a1 E H fun r_1 H_1 =>
  bcase (r_1) (
  j1 p0 bb2 a1 H_1)
  (j1 p0 a1 bb2 H_1)
theorem heaps_pairing_meld.run_eq {p0 : Option Addr} {a1 : Int} {bb2 : Int} { E : Value → Hp → Prop} {H : Hp} {K : Int → Hp → Prop} (h : heaps_pairing_meld.run_t (fun p0 a1 bb2 H => heaps_pairing_meld.j1 p0 a1 bb2  E H K) p0 a1 bb2  E H K) : heaps_pairing_meld.run p0 a1 bb2  E H K := by
  exact nodeR_imp2 (fun G => heaps_pairing_meld.run_t (fun p0 a1 bb2 H => G [1, 1] [(0, .pointer p0), (1, .int .i64 a1), (2, .int .i64 bb2)] H) p0 a1 bb2  E H K) heaps_pairing_meld.nok rfl (fun G => by kernel_rfl) (Eq.mp (by kernel_rfl) h)
def heaps_pairing_meld.j1_t (j2 : Int → Int → (Option Addr) → Hp → Prop) (p0 : Option Addr) (a1 : Int) (bb2 : Int)  (E : Value → Hp → Prop) (H : Hp) (K : Int → Hp → Prop) : Prop :=
  nn p0 fun b_1 o_1 =>
  ldS (H.get b_1 (o_1 + 2)) fun x_1p x_1n x_1c =>
  ix x_1p x_1n a1 3 fun b_2 o_2 =>
  nn p0 fun b_3 o_3 =>
  ldS (H.get b_3 (o_3 + 2)) fun x_2p x_2n x_2c =>
  ix x_2p x_2n bb2 3 fun b_4 o_4 =>
  ldI .i64 (H.get b_2 o_2) fun x_3 =>
  stC H b_4 (o_4 + 1) [.int .i64 x_3] fun H_1 =>
  stC H_1 b_4 (o_4 + 2) [.int .i64 (IntKind.wrap .i64 (a1 + 1))] fun H_2 =>
  ldI .i64 (H_2.get b_2 o_2) fun x_4 =>
  bcase (decide ((0 : Int) < x_4)) (
  nn p0 fun b_5 o_5 =>
  ldS (H_2.get b_5 (o_5 + 2)) fun x_5p x_5n x_5c =>
  ldI .i64 (H_2.get b_2 o_2) fun x_6 =>
  ix x_5p x_5n (IntKind.wrap .i64 (x_6 - 1)) 3 fun b_6 o_6 =>
  stC H_2 b_6 (o_6 + 2) [.int .i64 (IntKind.wrap .i64 (bb2 + 1))] fun H_3 =>
  j2 a1 bb2 (some ⟨b_2, o_2, none⟩) H_3)
  (j2 a1 bb2 (some ⟨b_2, o_2, none⟩) H_2)
theorem heaps_pairing_meld.j1_eq {p0 : Option Addr} {a1 : Int} {bb2 : Int} { E : Value → Hp → Prop} {H : Hp} {K : Int → Hp → Prop} (h : heaps_pairing_meld.j1_t (fun a1 bb2 x7 H => heaps_pairing_meld.j2 a1 bb2 x7  E H K) p0 a1 bb2  E H K) : heaps_pairing_meld.j1 p0 a1 bb2  E H K := by
  exact nodeR_imp2 (fun G => heaps_pairing_meld.j1_t (fun a1 bb2 x7 H => G [1, 1, 1, 1, 1] [(1, .int .i64 a1), (2, .int .i64 bb2), (7, .pointer x7)] H) p0 a1 bb2  E H K) heaps_pairing_meld.nok rfl (fun G => by kernel_rfl) (Eq.mp (by kernel_rfl) h)
def heaps_pairing_meld.j2_t  (a1 : Int) (bb2 : Int) (x7 : Option Addr)  (E : Value → Hp → Prop) (H : Hp) (K : Int → Hp → Prop) : Prop :=
  nn x7 fun b_1 o_1 =>
  stC H b_1 o_1 [.int .i64 (IntKind.wrap .i64 (bb2 + 1))] fun H_1 =>
  K a1 H_1
theorem heaps_pairing_meld.j2_eq {a1 : Int} {bb2 : Int} {x7 : Option Addr} { E : Value → Hp → Prop} {H : Hp} {K : Int → Hp → Prop} (h : heaps_pairing_meld.j2_t  a1 bb2 x7  E H K) : heaps_pairing_meld.j2 a1 bb2 x7  E H K := by
  exact nodeR_imp2 (fun _ => heaps_pairing_meld.j2_t  a1 bb2 x7  E H K) heaps_pairing_meld.nok rfl (fun G => by kernel_rfl) h
end Go.Mz
