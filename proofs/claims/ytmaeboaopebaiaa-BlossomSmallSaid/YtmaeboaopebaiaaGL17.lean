/-
  The shallow texts of functions (L17), each with a kernel-checked equation to the translated code. It proves nothing of the program by itself.
-/
import Derived.Test.YtmaeboaopebaiaaTab
set_option linter.unusedVariables false
set_option maxRecDepth 100000
namespace Go.Mz
/-! ### compass/compasslaw17.awake (15) -/
noncomputable def compasslaw17_awake.A : An := { live := [(0, []), (1, []), (2, [1, 3]), (3, [1, 3, 4, 5, 6])], ord := [], stb := [], pre := [] }
noncomputable def compasslaw17_awake.code : Code := bodyOf Go.Proofs.Try.f15
theorem compasslaw17_awake.ok : okCode compasslaw17_awake.A 56 compasslaw17_awake.code = true := by kernel_rfl
def compasslaw17_awake.rq (E : Value → Hp → Prop) (K : Bool → Hp → Prop) : Ex → Fr → Hp → Prop := retQ T0 [.tmp 0] [4] (fun r H => ldR (.one false [.bool]) r fun u => K (asB u) H) E
def compasslaw17_awake.run  (E : Value → Hp → Prop) (H : Hp) (K : Bool → Hp → Prop) : Prop := nodeM P0 T0 compasslaw17_awake.A compasslaw17_awake.code [] [] (compasslaw17_awake.rq E K) (argF 0 []) H
theorem compasslaw17_awake.of {E : Value → Hp → Prop} {H : Hp} {K : Bool → Hp → Prop} (h : compasslaw17_awake.run E H K) : compasslaw17_awake.call E H K :=
  callW_of T0_ok P0_mixed (A := compasslaw17_awake.A) (fn := Go.Proofs.Try.f15) Go.Proofs.Try.func15 rfl compasslaw17_awake.ok rfl h
theorem compasslaw17_awake.nok : nodesOk compasslaw17_awake.code [] = true := by kernel_rfl
def compasslaw17_awake.run_t    (E : Value → Hp → Prop) (H : Hp) (K : Bool → Hp → Prop) : Prop :=
  compasslaw17_five.call  E H fun r_1_Nodes r_1_Edgesp r_1_Edgesn r_1_Edgesc H_1 =>
  blossom_Solve.call r_1_Nodes r_1_Edgesp r_1_Edgesn r_1_Edgesc E H_1 fun r_2p r_2n r_2c r_3p r_3n r_3c r_4 H_2 =>
  nw H_2 ⟨[.int .i64 0, .int .i64 1, .int .i64 0, .int .i64 0, .int .i64 0, .int .i64 2, .int .i64 0, .int .i64 0, .int .i64 3, .int .i64 0, .int .i64 0, .int .i64 0], 37⟩ fun b_1 H_3 =>
  blossom_Solve.call 4 (some ⟨b_1, 0, none⟩) 3 3 E H_3 fun r_5p r_5n r_5c r_6p r_6n r_6c r_7 H_4 =>
  bcase (decide ((r_4 : Int) = 0)) (
  bcase (decide (((r_2n : Int) : Int) = 3)) (
  ix r_2p r_2n 2 1 fun b_2 o_1 =>
  ldI .i64 (H_4.get b_2 o_1) fun x_1 =>
  bcase (decide ((x_1 : Int) = 5)) (
  bcase (decide ((r_7 : Int) = 0)) (
  bcase (decide (((r_5n : Int) : Int) = 1)) (
  bcase (decide (((r_6n : Int) : Int) = 1)) (
  ix r_6p r_6n 0 1 fun b_3 o_2 =>
  ldI .i64 (H_4.get b_3 o_2) fun x_2 =>
  K (decide ((x_2 : Int) = 0)) H_4)
  (K false H_4))
  (K false H_4))
  (K false H_4))
  (K false H_4))
  (K false H_4))
  (K false H_4)
theorem compasslaw17_awake.run_eq { E : Value → Hp → Prop} {H : Hp} {K : Bool → Hp → Prop} (h : compasslaw17_awake.run_t    E H K) : compasslaw17_awake.run   E H K := by
  have k1 : ∀ G : List Nat → Fr → Hp → Prop, nodeR P0 T0 compasslaw17_awake.A [] G compasslaw17_awake.code [] [] (compasslaw17_awake.rq E K) (argF 0 []) H = compasslaw17_awake.run_t    E H K := fun G => by kernel_rfl
  exact nodeR_imp compasslaw17_awake.nok rfl ((k1 _).mpr h)
/-! ### compass/compasslaw17.ints (20) -/
noncomputable def compasslaw17_ints.A : An := { live := [(0, [0, 1]), (1, [0, 1]), (2, []), (3, [0, 1]), (4, [0, 1, 12, 13]), (5, [0, 1, 12, 13]), (6, [0, 1, 5, 12, 13]), (7, []), (8, [0, 1, 12, 13]), (9, [])], ord := [(6, [0, 1, 2, 3, 4, 5, 6, 7, 8])], stb := [], pre := [(6, [[], [], [0, 1], [0, 1, 2], [], [], [4, 5], [4, 5, 6], [0, 1, 2, 3, 4, 5, 6, 7]])] }
noncomputable def compasslaw17_ints.code : Code := bodyOf Go.Proofs.Try.f20
theorem compasslaw17_ints.ok : okCode compasslaw17_ints.A 26 compasslaw17_ints.code = true := by kernel_rfl
def compasslaw17_ints.rq (E : Value → Hp → Prop) (K : Bool → Hp → Prop) : Ex → Fr → Hp → Prop := retQ T0 [.tmp 4] [4] (fun r H => ldR (.one false [.bool]) r fun u => K (asB u) H) E
def compasslaw17_ints.run (a0p : Option Addr) (a0n : Nat) (a0c : Nat) (b1p : Option Addr) (b1n : Nat) (b1c : Nat) (E : Value → Hp → Prop) (H : Hp) (K : Bool → Hp → Prop) : Prop := nodeM P0 T0 compasslaw17_ints.A compasslaw17_ints.code [] [] (compasslaw17_ints.rq E K) (argF 0 [.slice a0p a0n a0c, .slice b1p b1n b1c]) H
theorem compasslaw17_ints.of {a0p : Option Addr} {a0n : Nat} {a0c : Nat} {b1p : Option Addr} {b1n : Nat} {b1c : Nat} {E : Value → Hp → Prop} {H : Hp} {K : Bool → Hp → Prop} (h : compasslaw17_ints.run a0p a0n a0c b1p b1n b1c E H K) : compasslaw17_ints.call a0p a0n a0c b1p b1n b1c E H K :=
  callW_of T0_ok P0_mixed (A := compasslaw17_ints.A) (fn := Go.Proofs.Try.f20) Go.Proofs.Try.func20 rfl compasslaw17_ints.ok rfl h
noncomputable def compasslaw17_ints.f1 (a0p : Option Addr) (a0n : Nat) (a0c : Nat) (b1p : Option Addr) (b1n : Nat) (b1c : Nat) (t12 : Int) (t13 : Int) : Fr := [(0, .slice a0p a0n a0c), (1, .slice b1p b1n b1c), (12, .int .i64 t12), (13, .int .i64 t13)]
def compasslaw17_ints.l1 (a0p : Option Addr) (a0n : Nat) (a0c : Nat) (b1p : Option Addr) (b1n : Nat) (b1c : Nat) (t12 : Int) (t13 : Int)  (E : Value → Hp → Prop) (H : Hp) (K : Bool → Hp → Prop) : Prop := nodeM P0 T0 compasslaw17_ints.A compasslaw17_ints.code [1, 1, 0, 1, 0] [] (compasslaw17_ints.rq E K) (compasslaw17_ints.f1 a0p a0n a0c b1p b1n b1c t12 t13) H
def compasslaw17_ints.b1 (a0p : Option Addr) (a0n : Nat) (a0c : Nat) (b1p : Option Addr) (b1n : Nat) (b1c : Nat) (t12 : Int) (t13 : Int)  (X1 : Fr → Hp → Prop) (E : Value → Hp → Prop) (H : Hp) (K : Bool → Hp → Prop) : Prop := nodeM P0 T0 compasslaw17_ints.A compasslaw17_ints.code [1, 1, 0, 1, 0, 0] [X1] (compasslaw17_ints.rq E K) (compasslaw17_ints.f1 a0p a0n a0c b1p b1n b1c t12 t13) H
theorem compasslaw17_ints.l1_rule { E : Value → Hp → Prop} {K : Bool → Hp → Prop} (I : (Option Addr) → Nat → Nat → (Option Addr) → Nat → Nat → Int → Int → Hp → Prop) (μ : (Option Addr) → Nat → Nat → (Option Addr) → Nat → Nat → Int → Int → Hp → Nat)
    (h : ∀ a0p a0n a0c b1p b1n b1c t12 t13 H, I a0p a0n a0c b1p b1n b1c t12 t13 H → ∀ X : Fr → Hp → Prop, (∀ a0p' a0n' a0c' b1p' b1n' b1c' t12' t13' H', I a0p' a0n' a0c' b1p' b1n' b1c' t12' t13' H' → μ a0p' a0n' a0c' b1p' b1n' b1c' t12' t13' H' < μ a0p a0n a0c b1p b1n b1c t12 t13 H → X (compasslaw17_ints.f1 a0p' a0n' a0c' b1p' b1n' b1c' t12' t13') H') → compasslaw17_ints.b1 a0p a0n a0c b1p b1n b1c t12 t13  X E H K)
    {a0p : Option Addr} {a0n : Nat} {a0c : Nat} {b1p : Option Addr} {b1n : Nat} {b1c : Nat} {t12 : Int} {t13 : Int} {H : Hp} (hI : I a0p a0n a0c b1p b1n b1c t12 t13 H) : compasslaw17_ints.l1 a0p a0n a0c b1p b1n b1c t12 t13  E H K :=
  loop_rule (S := (Option Addr) × Nat × Nat × (Option Addr) × Nat × Nat × Int × Int) (fun s => compasslaw17_ints.f1 (s.1) (s.2.1) (s.2.2.1) (s.2.2.2.1) (s.2.2.2.2.1) (s.2.2.2.2.2.1) (s.2.2.2.2.2.2.1) (s.2.2.2.2.2.2.2)) (fun s H => I (s.1) (s.2.1) (s.2.2.1) (s.2.2.2.1) (s.2.2.2.2.1) (s.2.2.2.2.2.1) (s.2.2.2.2.2.2.1) (s.2.2.2.2.2.2.2) H) (fun s H => μ (s.1) (s.2.1) (s.2.2.1) (s.2.2.2.1) (s.2.2.2.2.1) (s.2.2.2.2.2.1) (s.2.2.2.2.2.2.1) (s.2.2.2.2.2.2.2) H) (fun s H hI X hX => h (s.1) (s.2.1) (s.2.2.1) (s.2.2.2.1) (s.2.2.2.2.1) (s.2.2.2.2.2.1) (s.2.2.2.2.2.2.1) (s.2.2.2.2.2.2.2) H hI X fun a0p' a0n' a0c' b1p' b1n' b1c' t12' t13' H' hI' hlt => hX (a0p', a0n', a0c', b1p', b1n', b1c', t12', t13') H' hI' hlt) (s := (a0p, a0n, a0c, b1p, b1n, b1c, t12, t13)) rfl hI
theorem compasslaw17_ints.nok : nodesOk compasslaw17_ints.code [[0, 1, 0, 1, 1]] = true := by kernel_rfl
def compasslaw17_ints.run_t (l1 : (Option Addr) → Nat → Nat → (Option Addr) → Nat → Nat → Int → Int → Hp → Prop) (a0p : Option Addr) (a0n : Nat) (a0c : Nat) (b1p : Option Addr) (b1n : Nat) (b1c : Nat)  (E : Value → Hp → Prop) (H : Hp) (K : Bool → Hp → Prop) : Prop :=
  bcase (!decide (((a0n : Int) : Int) = (b1n : Int))) (
  K false H)
  (l1 a0p a0n a0c b1p b1n b1c (a0n : Int) 0 H)
theorem compasslaw17_ints.run_eq {a0p : Option Addr} {a0n : Nat} {a0c : Nat} {b1p : Option Addr} {b1n : Nat} {b1c : Nat} { E : Value → Hp → Prop} {H : Hp} {K : Bool → Hp → Prop} (h : compasslaw17_ints.run_t (fun a0p a0n a0c b1p b1n b1c t12 t13 H => compasslaw17_ints.l1 a0p a0n a0c b1p b1n b1c t12 t13  E H K) a0p a0n a0c b1p b1n b1c  E H K) : compasslaw17_ints.run a0p a0n a0c b1p b1n b1c  E H K := by
  have k1 : ∀ G : List Nat → Fr → Hp → Prop, nodeR P0 T0 compasslaw17_ints.A [[0, 1, 0, 1, 1]] G compasslaw17_ints.code [] [] (compasslaw17_ints.rq E K) (argF 0 [.slice a0p a0n a0c, .slice b1p b1n b1c]) H = compasslaw17_ints.run_t (fun a0p a0n a0c b1p b1n b1c t12 t13 H => G [0, 1, 0, 1, 1] [(0, .slice a0p a0n a0c), (1, .slice b1p b1n b1c), (12, .int .i64 t12), (13, .int .i64 t13)] H) a0p a0n a0c b1p b1n b1c  E H K := fun G => by kernel_rfl
  have k2 : compasslaw17_ints.run_t (fun a0p a0n a0c b1p b1n b1c t12 t13 H => compasslaw17_ints.l1 a0p a0n a0c b1p b1n b1c t12 t13  E H K) a0p a0n a0c b1p b1n b1c  E H K = compasslaw17_ints.run_t (fun a0p a0n a0c b1p b1n b1c t12 t13 H => (fun q F H => nodeM P0 T0 compasslaw17_ints.A compasslaw17_ints.code q.reverse [] (compasslaw17_ints.rq E K) F H) [0, 1, 0, 1, 1] [(0, .slice a0p a0n a0c), (1, .slice b1p b1n b1c), (12, .int .i64 t12), (13, .int .i64 t13)] H) a0p a0n a0c b1p b1n b1c  E H K := by kernel_rfl
  exact nodeR_imp compasslaw17_ints.nok rfl ((k1 _).mpr (k2.mp h))
def compasslaw17_ints.b1_t  (a0p : Option Addr) (a0n : Nat) (a0c : Nat) (b1p : Option Addr) (b1n : Nat) (b1c : Nat) (t12 : Int) (t13 : Int) (X1 : Fr → Hp → Prop) (E : Value → Hp → Prop) (H : Hp) (K : Bool → Hp → Prop) : Prop :=
  bcase (decide ((t13 : Int) < t12)) (
  ix a0p a0n t13 1 fun b_1 o_1 =>
  ldI .i64 (H.get b_1 o_1) fun x_1 =>
  ix b1p b1n t13 1 fun b_2 o_2 =>
  ldI .i64 (H.get b_2 o_2) fun x_2 =>
  bcase (!decide ((x_1 : Int) = x_2)) (
  K false H)
  (X1 (compasslaw17_ints.f1 a0p a0n a0c b1p b1n b1c t12 (IntKind.wrap .i64 (t13 + 1))) H))
  (K true H)
theorem compasslaw17_ints.b1_eq {a0p : Option Addr} {a0n : Nat} {a0c : Nat} {b1p : Option Addr} {b1n : Nat} {b1c : Nat} {t12 : Int} {t13 : Int} {X1 : Fr → Hp → Prop} { E : Value → Hp → Prop} {H : Hp} {K : Bool → Hp → Prop} (h : compasslaw17_ints.b1_t  a0p a0n a0c b1p b1n b1c t12 t13 X1 E H K) : compasslaw17_ints.b1 a0p a0n a0c b1p b1n b1c t12 t13 X1 E H K := by
  have k1 : ∀ G : List Nat → Fr → Hp → Prop, nodeR P0 T0 compasslaw17_ints.A [[0, 1, 0, 1, 1]] G compasslaw17_ints.code [1, 1, 0, 1, 0, 0] [X1] (compasslaw17_ints.rq E K) (compasslaw17_ints.f1 a0p a0n a0c b1p b1n b1c t12 t13) H = compasslaw17_ints.b1_t  a0p a0n a0c b1p b1n b1c t12 t13 X1 E H K := fun G => by kernel_rfl
  exact nodeR_imp compasslaw17_ints.nok rfl ((k1 _).mpr h)
/-! ### compass/compasslaw17.five (38) -/
noncomputable def compasslaw17_five.A : An := { live := [(0, []), (1, [0])], ord := [], stb := [], pre := [] }
noncomputable def compasslaw17_five.code : Code := bodyOf Go.Proofs.Try.f38
theorem compasslaw17_five.ok : okCode compasslaw17_five.A 9 compasslaw17_five.code = true := by kernel_rfl
def compasslaw17_five.rq (E : Value → Hp → Prop) (K : Int → (Option Addr) → Nat → Nat → Hp → Prop) : Ex → Fr → Hp → Prop := retQ T0 [.cell 0 24] [24] (fun r H => ldR (.one true [.i .i64, .sl]) r fun u => K (asI (cellV u 0)) (asS1 (cellV u 1)) (asS2 (cellV u 1)) (asS3 (cellV u 1)) H) E
def compasslaw17_five.run  (E : Value → Hp → Prop) (H : Hp) (K : Int → (Option Addr) → Nat → Nat → Hp → Prop) : Prop := nodeM P0 T0 compasslaw17_five.A compasslaw17_five.code [] [] (compasslaw17_five.rq E K) (argF 0 []) H
theorem compasslaw17_five.of {E : Value → Hp → Prop} {H : Hp} {K : Int → (Option Addr) → Nat → Nat → Hp → Prop} (h : compasslaw17_five.run E H K) : compasslaw17_five.call E H K :=
  callW_of T0_ok P0_mixed (A := compasslaw17_five.A) (fn := Go.Proofs.Try.f38) Go.Proofs.Try.func38 rfl compasslaw17_five.ok rfl h
theorem compasslaw17_five.nok : nodesOk compasslaw17_five.code [] = true := by kernel_rfl
def compasslaw17_five.run_t    (E : Value → Hp → Prop) (H : Hp) (K : Int → (Option Addr) → Nat → Nat → Hp → Prop) : Prop :=
  nw H ⟨[.int .i64 0, .slice none 0 0], 24⟩ fun b_1 H_1 =>
  nw H_1 ⟨[.int .i64 0, .int .i64 1, .int .i64 0, .int .i64 0, .int .i64 1, .int .i64 2, .int .i64 0, .int .i64 0, .int .i64 2, .int .i64 3, .int .i64 0, .int .i64 0, .int .i64 3, .int .i64 4, .int .i64 0, .int .i64 0, .int .i64 4, .int .i64 0, .int .i64 0, .int .i64 0, .int .i64 0, .int .i64 5, .int .i64 0, .int .i64 0], 37⟩ fun b_2 H_2 =>
  stC H_2 b_1 0 [.int .i64 6, .slice (some ⟨b_2, 0, none⟩) 6 6] fun H_3 =>
  ldI .i64 (H_3.get b_1 0) fun x_1 =>
  ldS (H_3.get b_1 1) fun x_2p x_2n x_2c =>
  K x_1 x_2p x_2n x_2c H_3
theorem compasslaw17_five.run_eq { E : Value → Hp → Prop} {H : Hp} {K : Int → (Option Addr) → Nat → Nat → Hp → Prop} (h : compasslaw17_five.run_t    E H K) : compasslaw17_five.run   E H K := by
  have k1 : ∀ G : List Nat → Fr → Hp → Prop, nodeR P0 T0 compasslaw17_five.A [] G compasslaw17_five.code [] [] (compasslaw17_five.rq E K) (argF 0 []) H = compasslaw17_five.run_t    E H K := fun G => by kernel_rfl
  exact nodeR_imp compasslaw17_five.nok rfl ((k1 _).mpr h)
end Go.Mz
