/-
  The shallow texts of functions (LPE), each with a kernel-checked equation to the translated code. It proves nothing of the program by itself.
-/
import Derived.Test.YtmaeboaopebaiaaTab
set_option linter.unusedVariables false
set_option maxRecDepth 100000
namespace Go.Mz
/-! ### compass/compasslaw15.PairEnds (10) -/
noncomputable def compasslaw15_PairEnds.A : An := { live := [(0, [0, 1]), (1, [0, 1]), (2, []), (3, [0, 1]), (4, [0, 1, 5]), (5, [0, 1, 5, 17, 18, 19]), (6, [0, 1, 5, 17, 18, 19]), (7, [0, 1, 5, 7, 17, 18, 19]), (8, [0, 1, 5, 8, 9, 10, 17, 18, 19]), (9, []), (10, [0, 1, 5, 17, 18, 19]), (11, [0, 5]), (12, [0, 11])], ord := [], stb := [], pre := [] }
noncomputable def compasslaw15_PairEnds.code : Code := bodyOf Go.Proofs.Try.f10
theorem compasslaw15_PairEnds.ok : okCode compasslaw15_PairEnds.A 79 compasslaw15_PairEnds.code = true := by kernel_rfl
def compasslaw15_PairEnds.rq (E : Value → Hp → Prop) (K : Bool → Hp → Prop) : Ex → Fr → Hp → Prop := retQ T0 [.tmp 4] [4] (fun r H => ldR (.one false [.bool]) r fun u => K (asB u) H) E
def compasslaw15_PairEnds.run (nodes0 : Int) (kind1 : Int) (E : Value → Hp → Prop) (H : Hp) (K : Bool → Hp → Prop) : Prop := nodeM P0 T0 compasslaw15_PairEnds.A compasslaw15_PairEnds.code [] [] (compasslaw15_PairEnds.rq E K) (argF 0 [.int .i64 nodes0, .int .i64 kind1]) H
theorem compasslaw15_PairEnds.of {nodes0 : Int} {kind1 : Int} {E : Value → Hp → Prop} {H : Hp} {K : Bool → Hp → Prop} (h : compasslaw15_PairEnds.run nodes0 kind1 E H K) : compasslaw15_PairEnds.call nodes0 kind1 E H K :=
  callW_of T0_ok P0_mixed (A := compasslaw15_PairEnds.A) (fn := Go.Proofs.Try.f10) Go.Proofs.Try.func10 rfl compasslaw15_PairEnds.ok rfl h
noncomputable def compasslaw15_PairEnds.f1 (nodes0 : Int) (kind1 : Int) (g5 : Nat) (t17p : Option Addr) (t17n : Nat) (t17c : Nat) (t18 : Int) (t19 : Int) : Fr := [(0, .int .i64 nodes0), (1, .int .i64 kind1), (5, .pointer (some ⟨g5, 0, none⟩)), (17, .slice t17p t17n t17c), (18, .int .i64 t18), (19, .int .i64 t19)]
def compasslaw15_PairEnds.j1 (nodes0 : Int) (kind1 : Int) (g5 : Nat) (t17p : Option Addr) (t17n : Nat) (t17c : Nat) (t18 : Int) (t19 : Int) (X1 : Fr → Hp → Prop) (E : Value → Hp → Prop) (H : Hp) (K : Bool → Hp → Prop) : Prop := nodeM P0 T0 compasslaw15_PairEnds.A compasslaw15_PairEnds.code [1, 1, 1, 0, 1, 0, 0, 1, 1, 1] [X1] (compasslaw15_PairEnds.rq E K) [(0, .int .i64 nodes0), (1, .int .i64 kind1), (5, .pointer (some ⟨g5, 0, none⟩)), (17, .slice t17p t17n t17c), (18, .int .i64 t18), (19, .int .i64 t19)] H
def compasslaw15_PairEnds.j2 (nodes0 : Int) (g5 : Nat)  (E : Value → Hp → Prop) (H : Hp) (K : Bool → Hp → Prop) : Prop := nodeM P0 T0 compasslaw15_PairEnds.A compasslaw15_PairEnds.code [1, 1, 1, 1] [] (compasslaw15_PairEnds.rq E K) [(0, .int .i64 nodes0), (5, .pointer (some ⟨g5, 0, none⟩))] H
def compasslaw15_PairEnds.l1 (nodes0 : Int) (kind1 : Int) (g5 : Nat) (t17p : Option Addr) (t17n : Nat) (t17c : Nat) (t18 : Int) (t19 : Int)  (E : Value → Hp → Prop) (H : Hp) (K : Bool → Hp → Prop) : Prop := nodeM P0 T0 compasslaw15_PairEnds.A compasslaw15_PairEnds.code [1, 1, 1, 0, 1, 0] [] (compasslaw15_PairEnds.rq E K) (compasslaw15_PairEnds.f1 nodes0 kind1 g5 t17p t17n t17c t18 t19) H
def compasslaw15_PairEnds.b1 (nodes0 : Int) (kind1 : Int) (g5 : Nat) (t17p : Option Addr) (t17n : Nat) (t17c : Nat) (t18 : Int) (t19 : Int)  (X1 : Fr → Hp → Prop) (E : Value → Hp → Prop) (H : Hp) (K : Bool → Hp → Prop) : Prop := nodeM P0 T0 compasslaw15_PairEnds.A compasslaw15_PairEnds.code [1, 1, 1, 0, 1, 0, 0] [X1] (compasslaw15_PairEnds.rq E K) (compasslaw15_PairEnds.f1 nodes0 kind1 g5 t17p t17n t17c t18 t19) H
theorem compasslaw15_PairEnds.l1_rule { E : Value → Hp → Prop} {K : Bool → Hp → Prop} (I : Int → Int → Nat → (Option Addr) → Nat → Nat → Int → Int → Hp → Prop) (μ : Int → Int → Nat → (Option Addr) → Nat → Nat → Int → Int → Hp → Nat)
    (h : ∀ nodes0 kind1 g5 t17p t17n t17c t18 t19 H, I nodes0 kind1 g5 t17p t17n t17c t18 t19 H → ∀ X : Fr → Hp → Prop, (∀ nodes0' kind1' g5' t17p' t17n' t17c' t18' t19' H', I nodes0' kind1' g5' t17p' t17n' t17c' t18' t19' H' → μ nodes0' kind1' g5' t17p' t17n' t17c' t18' t19' H' < μ nodes0 kind1 g5 t17p t17n t17c t18 t19 H → X (compasslaw15_PairEnds.f1 nodes0' kind1' g5' t17p' t17n' t17c' t18' t19') H') → compasslaw15_PairEnds.b1 nodes0 kind1 g5 t17p t17n t17c t18 t19  X E H K)
    {nodes0 : Int} {kind1 : Int} {g5 : Nat} {t17p : Option Addr} {t17n : Nat} {t17c : Nat} {t18 : Int} {t19 : Int} {H : Hp} (hI : I nodes0 kind1 g5 t17p t17n t17c t18 t19 H) : compasslaw15_PairEnds.l1 nodes0 kind1 g5 t17p t17n t17c t18 t19  E H K :=
  loop_rule (S := Int × Int × Nat × (Option Addr) × Nat × Nat × Int × Int) (fun s => compasslaw15_PairEnds.f1 (s.1) (s.2.1) (s.2.2.1) (s.2.2.2.1) (s.2.2.2.2.1) (s.2.2.2.2.2.1) (s.2.2.2.2.2.2.1) (s.2.2.2.2.2.2.2)) (fun s H => I (s.1) (s.2.1) (s.2.2.1) (s.2.2.2.1) (s.2.2.2.2.1) (s.2.2.2.2.2.1) (s.2.2.2.2.2.2.1) (s.2.2.2.2.2.2.2) H) (fun s H => μ (s.1) (s.2.1) (s.2.2.1) (s.2.2.2.1) (s.2.2.2.2.1) (s.2.2.2.2.2.1) (s.2.2.2.2.2.2.1) (s.2.2.2.2.2.2.2) H) (fun s H hI X hX => h (s.1) (s.2.1) (s.2.2.1) (s.2.2.2.1) (s.2.2.2.2.1) (s.2.2.2.2.2.1) (s.2.2.2.2.2.2.1) (s.2.2.2.2.2.2.2) H hI X fun nodes0' kind1' g5' t17p' t17n' t17c' t18' t19' H' hI' hlt => hX (nodes0', kind1', g5', t17p', t17n', t17c', t18', t19') H' hI' hlt) (s := (nodes0, kind1, g5, t17p, t17n, t17c, t18, t19)) rfl hI
theorem compasslaw15_PairEnds.nok : nodesOk compasslaw15_PairEnds.code [[0, 1, 0, 1, 1, 1], [1, 1, 1, 0, 0, 1, 0, 1, 1, 1], [1, 1, 1, 1]] = true := by kernel_rfl
def compasslaw15_PairEnds.run_t (l1 : Int → Int → Nat → (Option Addr) → Nat → Nat → Int → Int → Hp → Prop) (nodes0 : Int) (kind1 : Int)  (E : Value → Hp → Prop) (H : Hp) (K : Bool → Hp → Prop) : Prop :=
  compasslaw15_awake.call  E H fun r_1 H_1 =>
  bcase ((!r_1)) (
  K false H_1)
  (nw H_1 ⟨[.int .i64 0, .slice none 0 0], 24⟩ fun b_1 H_2 =>
  stC H_2 b_1 0 [.int .i64 nodes0, .slice none 0 0] fun H_3 =>
  nw H_3 ⟨[.int .i64 0, .int .i64 nodes0], 3⟩ fun b_2 H_4 =>
  l1 nodes0 kind1 b_1 (some ⟨b_2, 0, none⟩) 2 2 (2 : Int) 0 H_4)
theorem compasslaw15_PairEnds.run_eq {nodes0 : Int} {kind1 : Int} { E : Value → Hp → Prop} {H : Hp} {K : Bool → Hp → Prop} (h : compasslaw15_PairEnds.run_t (fun nodes0 kind1 g5 t17p t17n t17c t18 t19 H => compasslaw15_PairEnds.l1 nodes0 kind1 g5 t17p t17n t17c t18 t19  E H K) nodes0 kind1  E H K) : compasslaw15_PairEnds.run nodes0 kind1  E H K := by
  have k1 : ∀ G : List Nat → Fr → Hp → Prop, nodeR P0 T0 compasslaw15_PairEnds.A [[0, 1, 0, 1, 1, 1], [1, 1, 1, 0, 0, 1, 0, 1, 1, 1], [1, 1, 1, 1]] G compasslaw15_PairEnds.code [] [] (compasslaw15_PairEnds.rq E K) (argF 0 [.int .i64 nodes0, .int .i64 kind1]) H = compasslaw15_PairEnds.run_t (fun nodes0 kind1 g5 t17p t17n t17c t18 t19 H => G [0, 1, 0, 1, 1, 1] [(0, .int .i64 nodes0), (1, .int .i64 kind1), (5, .pointer (some ⟨g5, 0, none⟩)), (17, .slice t17p t17n t17c), (18, .int .i64 t18), (19, .int .i64 t19)] H) nodes0 kind1  E H K := fun G => by kernel_rfl
  have k2 : compasslaw15_PairEnds.run_t (fun nodes0 kind1 g5 t17p t17n t17c t18 t19 H => compasslaw15_PairEnds.l1 nodes0 kind1 g5 t17p t17n t17c t18 t19  E H K) nodes0 kind1  E H K = compasslaw15_PairEnds.run_t (fun nodes0 kind1 g5 t17p t17n t17c t18 t19 H => (fun q F H => nodeM P0 T0 compasslaw15_PairEnds.A compasslaw15_PairEnds.code q.reverse [] (compasslaw15_PairEnds.rq E K) F H) [0, 1, 0, 1, 1, 1] [(0, .int .i64 nodes0), (1, .int .i64 kind1), (5, .pointer (some ⟨g5, 0, none⟩)), (17, .slice t17p t17n t17c), (18, .int .i64 t18), (19, .int .i64 t19)] H) nodes0 kind1  E H K := by kernel_rfl
  exact nodeR_imp compasslaw15_PairEnds.nok rfl ((k1 _).mpr (k2.mp h))
def compasslaw15_PairEnds.j1_t  (nodes0 : Int) (kind1 : Int) (g5 : Nat) (t17p : Option Addr) (t17n : Nat) (t17c : Nat) (t18 : Int) (t19 : Int) (X1 : Fr → Hp → Prop) (E : Value → Hp → Prop) (H : Hp) (K : Bool → Hp → Prop) : Prop :=
  X1 (compasslaw15_PairEnds.f1 nodes0 kind1 g5 t17p t17n t17c t18 (IntKind.wrap .i64 (t19 + 1))) H
theorem compasslaw15_PairEnds.j1_eq {nodes0 : Int} {kind1 : Int} {g5 : Nat} {t17p : Option Addr} {t17n : Nat} {t17c : Nat} {t18 : Int} {t19 : Int} {X1 : Fr → Hp → Prop} { E : Value → Hp → Prop} {H : Hp} {K : Bool → Hp → Prop} (h : compasslaw15_PairEnds.j1_t  nodes0 kind1 g5 t17p t17n t17c t18 t19 X1 E H K) : compasslaw15_PairEnds.j1 nodes0 kind1 g5 t17p t17n t17c t18 t19 X1 E H K := by
  have k1 : ∀ G : List Nat → Fr → Hp → Prop, nodeR P0 T0 compasslaw15_PairEnds.A [[0, 1, 0, 1, 1, 1], [1, 1, 1, 0, 0, 1, 0, 1, 1, 1], [1, 1, 1, 1]] G compasslaw15_PairEnds.code [1, 1, 1, 0, 1, 0, 0, 1, 1, 1] [X1] (compasslaw15_PairEnds.rq E K) [(0, .int .i64 nodes0), (1, .int .i64 kind1), (5, .pointer (some ⟨g5, 0, none⟩)), (17, .slice t17p t17n t17c), (18, .int .i64 t18), (19, .int .i64 t19)] H = compasslaw15_PairEnds.j1_t  nodes0 kind1 g5 t17p t17n t17c t18 t19 X1 E H K := fun G => by kernel_rfl
  exact nodeR_imp compasslaw15_PairEnds.nok rfl ((k1 _).mpr h)
def compasslaw15_PairEnds.j2_t  (nodes0 : Int) (g5 : Nat)  (E : Value → Hp → Prop) (H : Hp) (K : Bool → Hp → Prop) : Prop :=
  ldI .i64 (H.get g5 0) fun x_1 =>
  ldS (H.get g5 1) fun x_2p x_2n x_2c =>
  bimatch_Sides.call x_1 x_2p x_2n x_2c nodes0 E H fun r_1_Code r_1_At H_1 =>
  nw H_1 ⟨[.int .i64 0, .int .i64 0], 42⟩ fun b_1 H_2 =>
  stC H_2 b_1 0 [.int .i64 r_1_Code, .int .i64 r_1_At] fun H_3 =>
  ldI .i64 (H_3.get b_1 0) fun x_3 =>
  bcase (decide ((0 : Int) ≤ nodes0)) (
  bcase (((decide ((x_3 : Int) = 0)) == (decide ((nodes0 : Int) ≤ 1024)))) (
  ldI .i64 (H_3.get b_1 1) fun x_4 =>
  nw H_3 ⟨[.int .i64 x_4], 3⟩ fun b_2 H_4 =>
  nw H_4 ⟨[.int .i64 0], 3⟩ fun b_3 H_5 =>
  compasslaw15_ints.call (some ⟨b_2, 0, none⟩) 1 1 (some ⟨b_3, 0, none⟩) 1 1 E H_5 fun r_2 H_6 =>
  K r_2 H_6)
  (K false H_3))
  (bcase (((decide ((x_3 : Int) = 0)) == false)) (
  ldI .i64 (H_3.get b_1 1) fun x_5 =>
  nw H_3 ⟨[.int .i64 x_5], 3⟩ fun b_4 H_7 =>
  nw H_7 ⟨[.int .i64 0], 3⟩ fun b_5 H_8 =>
  compasslaw15_ints.call (some ⟨b_4, 0, none⟩) 1 1 (some ⟨b_5, 0, none⟩) 1 1 E H_8 fun r_3 H_9 =>
  K r_3 H_9)
  (K false H_3))
theorem compasslaw15_PairEnds.j2_eq {nodes0 : Int} {g5 : Nat} { E : Value → Hp → Prop} {H : Hp} {K : Bool → Hp → Prop} (h : compasslaw15_PairEnds.j2_t  nodes0 g5  E H K) : compasslaw15_PairEnds.j2 nodes0 g5  E H K := by
  have k1 : ∀ G : List Nat → Fr → Hp → Prop, nodeR P0 T0 compasslaw15_PairEnds.A [[0, 1, 0, 1, 1, 1], [1, 1, 1, 0, 0, 1, 0, 1, 1, 1], [1, 1, 1, 1]] G compasslaw15_PairEnds.code [1, 1, 1, 1] [] (compasslaw15_PairEnds.rq E K) [(0, .int .i64 nodes0), (5, .pointer (some ⟨g5, 0, none⟩))] H = compasslaw15_PairEnds.j2_t  nodes0 g5  E H K := fun G => by kernel_rfl
  exact nodeR_imp compasslaw15_PairEnds.nok rfl ((k1 _).mpr h)
def compasslaw15_PairEnds.b1_t (j1 : Int → Int → Nat → (Option Addr) → Nat → Nat → Int → Int → Hp → Prop) (j2 : Int → Nat → Hp → Prop) (nodes0 : Int) (kind1 : Int) (g5 : Nat) (t17p : Option Addr) (t17n : Nat) (t17c : Nat) (t18 : Int) (t19 : Int) (X1 : Fr → Hp → Prop) (E : Value → Hp → Prop) (H : Hp) (K : Bool → Hp → Prop) : Prop :=
  bcase (decide ((t19 : Int) < t18)) (
  ix t17p t17n t19 1 fun b_1 o_1 =>
  ldI .i64 (H.get b_1 o_1) fun x_1 =>
  ldI .i64 (H.get g5 0) fun x_2 =>
  ldS (H.get g5 1) fun x_3p x_3n x_3c =>
  bimatch_Solve.call x_2 x_3p x_3n x_3c x_1 kind1 E H fun r_1p r_1n r_1c r_2p r_2n r_2c r_3 H_1 =>
  bcase (!decide (((r_1n : Int) : Int) = 0)) (
  K false H_1)
  (bcase (!decide (((r_2n : Int) : Int) = 0)) (
  K false H_1)
  (bcase (decide ((0 : Int) ≤ nodes0)) (
  bcase (decide ((nodes0 : Int) ≤ 1024)) (
  bcase (decide ((1 : Int) ≤ kind1)) (
  bcase (!((decide ((r_3 : Int) = 0)) == (decide ((kind1 : Int) ≤ 2)))) (
  K false H_1)
  (j1 nodes0 kind1 g5 t17p t17n t17c t18 t19 H_1))
  (bcase (!((decide ((r_3 : Int) = 0)) == false)) (
  K false H_1)
  (j1 nodes0 kind1 g5 t17p t17n t17c t18 t19 H_1)))
  (bcase (!((decide ((r_3 : Int) = 0)) == false)) (
  K false H_1)
  (j1 nodes0 kind1 g5 t17p t17n t17c t18 t19 H_1)))
  (bcase (!((decide ((r_3 : Int) = 0)) == false)) (
  K false H_1)
  (j1 nodes0 kind1 g5 t17p t17n t17c t18 t19 H_1)))))
  (j2 nodes0 g5 H)
theorem compasslaw15_PairEnds.b1_eq {nodes0 : Int} {kind1 : Int} {g5 : Nat} {t17p : Option Addr} {t17n : Nat} {t17c : Nat} {t18 : Int} {t19 : Int} {X1 : Fr → Hp → Prop} { E : Value → Hp → Prop} {H : Hp} {K : Bool → Hp → Prop} (h : compasslaw15_PairEnds.b1_t (fun nodes0 kind1 g5 t17p t17n t17c t18 t19 H => compasslaw15_PairEnds.j1 nodes0 kind1 g5 t17p t17n t17c t18 t19 X1 E H K) (fun nodes0 g5 H => compasslaw15_PairEnds.j2 nodes0 g5  E H K) nodes0 kind1 g5 t17p t17n t17c t18 t19 X1 E H K) : compasslaw15_PairEnds.b1 nodes0 kind1 g5 t17p t17n t17c t18 t19 X1 E H K := by
  have k1 : ∀ G : List Nat → Fr → Hp → Prop, nodeR P0 T0 compasslaw15_PairEnds.A [[0, 1, 0, 1, 1, 1], [1, 1, 1, 0, 0, 1, 0, 1, 1, 1], [1, 1, 1, 1]] G compasslaw15_PairEnds.code [1, 1, 1, 0, 1, 0, 0] [X1] (compasslaw15_PairEnds.rq E K) (compasslaw15_PairEnds.f1 nodes0 kind1 g5 t17p t17n t17c t18 t19) H = compasslaw15_PairEnds.b1_t (fun nodes0 kind1 g5 t17p t17n t17c t18 t19 H => G [1, 1, 1, 0, 0, 1, 0, 1, 1, 1] [(0, .int .i64 nodes0), (1, .int .i64 kind1), (5, .pointer (some ⟨g5, 0, none⟩)), (17, .slice t17p t17n t17c), (18, .int .i64 t18), (19, .int .i64 t19)] H) (fun nodes0 g5 H => G [1, 1, 1, 1] [(0, .int .i64 nodes0), (5, .pointer (some ⟨g5, 0, none⟩))] H) nodes0 kind1 g5 t17p t17n t17c t18 t19 X1 E H K := fun G => by kernel_rfl
  have k2 : compasslaw15_PairEnds.b1_t (fun nodes0 kind1 g5 t17p t17n t17c t18 t19 H => compasslaw15_PairEnds.j1 nodes0 kind1 g5 t17p t17n t17c t18 t19 X1 E H K) (fun nodes0 g5 H => compasslaw15_PairEnds.j2 nodes0 g5  E H K) nodes0 kind1 g5 t17p t17n t17c t18 t19 X1 E H K = compasslaw15_PairEnds.b1_t (fun nodes0 kind1 g5 t17p t17n t17c t18 t19 H => (fun q F H => nodeM P0 T0 compasslaw15_PairEnds.A compasslaw15_PairEnds.code q.reverse [X1] (compasslaw15_PairEnds.rq E K) F H) [1, 1, 1, 0, 0, 1, 0, 1, 1, 1] [(0, .int .i64 nodes0), (1, .int .i64 kind1), (5, .pointer (some ⟨g5, 0, none⟩)), (17, .slice t17p t17n t17c), (18, .int .i64 t18), (19, .int .i64 t19)] H) (fun nodes0 g5 H => (fun q F H => nodeM P0 T0 compasslaw15_PairEnds.A compasslaw15_PairEnds.code q.reverse [X1] (compasslaw15_PairEnds.rq E K) F H) [1, 1, 1, 1] [(0, .int .i64 nodes0), (5, .pointer (some ⟨g5, 0, none⟩))] H) nodes0 kind1 g5 t17p t17n t17c t18 t19 X1 E H K := by kernel_rfl
  exact nodeR_imp compasslaw15_PairEnds.nok rfl ((k1 _).mpr (k2.mp h))
end Go.Mz
