/-
  The shallow texts of functions (L19), each with a kernel-checked equation to the translated code. It proves nothing of the program by itself.
-/
import Derived.Test.YtbocpfdlfnodfaaTab
set_option linter.unusedVariables false
set_option maxRecDepth 100000
namespace Go.Mz
/-! ### compass/compasslaw19.awake (9) -/
noncomputable def compasslaw19_awake.A : An := { live := [(0, []), (1, []), (2, [1, 3]), (3, [1, 3, 6])], ord := [], stb := [], pre := [] }
noncomputable def compasslaw19_awake.code : Code := bodyOf Go.Proofs.Try.f9
theorem compasslaw19_awake.ok : okCode compasslaw19_awake.A 32 compasslaw19_awake.code = true := by kernel_rfl
def compasslaw19_awake.rq (E : Value → Hp → Prop) (K : Bool → Hp → Prop) : Ex → Fr → Hp → Prop := retQ T0 [.tmp 0] [4] (fun r H => ldR (.one false [.bool]) r fun u => K (asB u) H) E
def compasslaw19_awake.run  (E : Value → Hp → Prop) (H : Hp) (K : Bool → Hp → Prop) : Prop := nodeM P0 T0 compasslaw19_awake.A compasslaw19_awake.code [] [] (compasslaw19_awake.rq E K) (argF 0 []) H
theorem compasslaw19_awake.of {E : Value → Hp → Prop} {H : Hp} {K : Bool → Hp → Prop} (h : compasslaw19_awake.run E H K) : compasslaw19_awake.call E H K :=
  callW_of T0_ok P0_mixed (A := compasslaw19_awake.A) (fn := Go.Proofs.Try.f9) Go.Proofs.Try.func9 rfl compasslaw19_awake.ok rfl h
theorem compasslaw19_awake.nok : nodesOk compasslaw19_awake.code [] = true := by kernel_rfl
def compasslaw19_awake.run_t    (E : Value → Hp → Prop) (H : Hp) (K : Bool → Hp → Prop) : Prop :=
  compasslaw19_star.call  E H fun r_1_Nodes r_1_Edgesp r_1_Edgesn r_1_Edgesc H_1 =>
  nw H_1 ⟨[.int .i64 2, .int .i64 1, .int .i64 1, .int .i64 1], 3⟩ fun b_1 H_2 =>
  bmatch_Solve.call r_1_Nodes r_1_Edgesp r_1_Edgesn r_1_Edgesc (some ⟨b_1, 0, none⟩) 4 4 E H_2 fun r_2p r_2n r_2c r_3p r_3n r_3c r_4 H_3 =>
  compasslaw19_star.call  E H_3 fun r_5_Nodes r_5_Edgesp r_5_Edgesn r_5_Edgesc H_4 =>
  nw H_4 ⟨[.int .i64 2, .int .i64 1, .int .i64 1], 3⟩ fun b_2 H_5 =>
  bmatch_Solve.call r_5_Nodes r_5_Edgesp r_5_Edgesn r_5_Edgesc (some ⟨b_2, 0, none⟩) 3 3 E H_5 fun r_6p r_6n r_6c r_7p r_7n r_7c r_8 H_6 =>
  bcase (decide ((r_4 : Int) = 0)) (
  bcase (decide (((r_2n : Int) : Int) = 2)) (
  K (decide ((r_8 : Int) = 130)) H_6)
  (K false H_6))
  (K false H_6)
theorem compasslaw19_awake.run_eq { E : Value → Hp → Prop} {H : Hp} {K : Bool → Hp → Prop} (h : compasslaw19_awake.run_t    E H K) : compasslaw19_awake.run   E H K := by
  exact nodeR_imp2 (fun _ => compasslaw19_awake.run_t    E H K) compasslaw19_awake.nok rfl (fun G => by kernel_rfl) h
/-! ### compass/compasslaw19.ints (17) -/
noncomputable def compasslaw19_ints.A : An := { live := [(0, [0, 1]), (1, [0, 1]), (2, []), (3, [0, 1]), (4, [0, 1, 12, 13]), (5, [0, 1, 12, 13]), (6, [0, 1, 5, 12, 13]), (7, []), (8, [0, 1, 12, 13]), (9, [])], ord := [(6, [0, 1, 2, 3, 4, 5, 6, 7, 8])], stb := [], pre := [(6, [[], [], [0, 1], [0, 1, 2], [], [], [4, 5], [4, 5, 6], [0, 1, 2, 3, 4, 5, 6, 7]])] }
noncomputable def compasslaw19_ints.code : Code := bodyOf Go.Proofs.Try.f17
theorem compasslaw19_ints.ok : okCode compasslaw19_ints.A 26 compasslaw19_ints.code = true := by kernel_rfl
def compasslaw19_ints.rq (E : Value → Hp → Prop) (K : Bool → Hp → Prop) : Ex → Fr → Hp → Prop := retQ T0 [.tmp 4] [4] (fun r H => ldR (.one false [.bool]) r fun u => K (asB u) H) E
def compasslaw19_ints.run (a0p : Option Addr) (a0n : Nat) (a0c : Nat) (b1p : Option Addr) (b1n : Nat) (b1c : Nat) (E : Value → Hp → Prop) (H : Hp) (K : Bool → Hp → Prop) : Prop := nodeM P0 T0 compasslaw19_ints.A compasslaw19_ints.code [] [] (compasslaw19_ints.rq E K) (argF 0 [.slice a0p a0n a0c, .slice b1p b1n b1c]) H
theorem compasslaw19_ints.of {a0p : Option Addr} {a0n : Nat} {a0c : Nat} {b1p : Option Addr} {b1n : Nat} {b1c : Nat} {E : Value → Hp → Prop} {H : Hp} {K : Bool → Hp → Prop} (h : compasslaw19_ints.run a0p a0n a0c b1p b1n b1c E H K) : compasslaw19_ints.call a0p a0n a0c b1p b1n b1c E H K :=
  callW_of T0_ok P0_mixed (A := compasslaw19_ints.A) (fn := Go.Proofs.Try.f17) Go.Proofs.Try.func17 rfl compasslaw19_ints.ok rfl h
noncomputable def compasslaw19_ints.f1 (a0p : Option Addr) (a0n : Nat) (a0c : Nat) (b1p : Option Addr) (b1n : Nat) (b1c : Nat) (t12 : Int) (t13 : Int) : Fr := [(0, .slice a0p a0n a0c), (1, .slice b1p b1n b1c), (12, .int .i64 t12), (13, .int .i64 t13)]
def compasslaw19_ints.l1 (a0p : Option Addr) (a0n : Nat) (a0c : Nat) (b1p : Option Addr) (b1n : Nat) (b1c : Nat) (t12 : Int) (t13 : Int)  (E : Value → Hp → Prop) (H : Hp) (K : Bool → Hp → Prop) : Prop := nodeM P0 T0 compasslaw19_ints.A compasslaw19_ints.code [1, 1, 0, 1, 0] [] (compasslaw19_ints.rq E K) (compasslaw19_ints.f1 a0p a0n a0c b1p b1n b1c t12 t13) H
def compasslaw19_ints.b1 (a0p : Option Addr) (a0n : Nat) (a0c : Nat) (b1p : Option Addr) (b1n : Nat) (b1c : Nat) (t12 : Int) (t13 : Int)  (X1 : Fr → Hp → Prop) (E : Value → Hp → Prop) (H : Hp) (K : Bool → Hp → Prop) : Prop := nodeM P0 T0 compasslaw19_ints.A compasslaw19_ints.code [1, 1, 0, 1, 0, 0] [X1] (compasslaw19_ints.rq E K) (compasslaw19_ints.f1 a0p a0n a0c b1p b1n b1c t12 t13) H
theorem compasslaw19_ints.l1_rule { E : Value → Hp → Prop} {K : Bool → Hp → Prop} (I : (Option Addr) → Nat → Nat → (Option Addr) → Nat → Nat → Int → Int → Hp → Prop) (μ : (Option Addr) → Nat → Nat → (Option Addr) → Nat → Nat → Int → Int → Hp → Nat)
    (h : ∀ a0p a0n a0c b1p b1n b1c t12 t13 H, I a0p a0n a0c b1p b1n b1c t12 t13 H → ∀ X : Fr → Hp → Prop, (∀ a0p' a0n' a0c' b1p' b1n' b1c' t12' t13' H', I a0p' a0n' a0c' b1p' b1n' b1c' t12' t13' H' → μ a0p' a0n' a0c' b1p' b1n' b1c' t12' t13' H' < μ a0p a0n a0c b1p b1n b1c t12 t13 H → X (compasslaw19_ints.f1 a0p' a0n' a0c' b1p' b1n' b1c' t12' t13') H') → compasslaw19_ints.b1 a0p a0n a0c b1p b1n b1c t12 t13  X E H K)
    {a0p : Option Addr} {a0n : Nat} {a0c : Nat} {b1p : Option Addr} {b1n : Nat} {b1c : Nat} {t12 : Int} {t13 : Int} {H : Hp} (hI : I a0p a0n a0c b1p b1n b1c t12 t13 H) : compasslaw19_ints.l1 a0p a0n a0c b1p b1n b1c t12 t13  E H K :=
  loop_rule (S := (Option Addr) × Nat × Nat × (Option Addr) × Nat × Nat × Int × Int) (fun s => compasslaw19_ints.f1 (s.1) (s.2.1) (s.2.2.1) (s.2.2.2.1) (s.2.2.2.2.1) (s.2.2.2.2.2.1) (s.2.2.2.2.2.2.1) (s.2.2.2.2.2.2.2)) (fun s H => I (s.1) (s.2.1) (s.2.2.1) (s.2.2.2.1) (s.2.2.2.2.1) (s.2.2.2.2.2.1) (s.2.2.2.2.2.2.1) (s.2.2.2.2.2.2.2) H) (fun s H => μ (s.1) (s.2.1) (s.2.2.1) (s.2.2.2.1) (s.2.2.2.2.1) (s.2.2.2.2.2.1) (s.2.2.2.2.2.2.1) (s.2.2.2.2.2.2.2) H) (fun s H hI X hX => h (s.1) (s.2.1) (s.2.2.1) (s.2.2.2.1) (s.2.2.2.2.1) (s.2.2.2.2.2.1) (s.2.2.2.2.2.2.1) (s.2.2.2.2.2.2.2) H hI X fun a0p' a0n' a0c' b1p' b1n' b1c' t12' t13' H' hI' hlt => hX (a0p', a0n', a0c', b1p', b1n', b1c', t12', t13') H' hI' hlt) (s := (a0p, a0n, a0c, b1p, b1n, b1c, t12, t13)) rfl hI
theorem compasslaw19_ints.nok : nodesOk compasslaw19_ints.code [[0, 1, 0, 1, 1]] = true := by kernel_rfl
def compasslaw19_ints.run_t (l1 : (Option Addr) → Nat → Nat → (Option Addr) → Nat → Nat → Int → Int → Hp → Prop) (a0p : Option Addr) (a0n : Nat) (a0c : Nat) (b1p : Option Addr) (b1n : Nat) (b1c : Nat)  (E : Value → Hp → Prop) (H : Hp) (K : Bool → Hp → Prop) : Prop :=
  bcase (!decide (((a0n : Int) : Int) = (b1n : Int))) (
  K false H)
  (l1 a0p a0n a0c b1p b1n b1c (a0n : Int) 0 H)
theorem compasslaw19_ints.run_eq {a0p : Option Addr} {a0n : Nat} {a0c : Nat} {b1p : Option Addr} {b1n : Nat} {b1c : Nat} { E : Value → Hp → Prop} {H : Hp} {K : Bool → Hp → Prop} (h : compasslaw19_ints.run_t (fun a0p a0n a0c b1p b1n b1c t12 t13 H => compasslaw19_ints.l1 a0p a0n a0c b1p b1n b1c t12 t13  E H K) a0p a0n a0c b1p b1n b1c  E H K) : compasslaw19_ints.run a0p a0n a0c b1p b1n b1c  E H K := by
  exact nodeR_imp2 (fun G => compasslaw19_ints.run_t (fun a0p a0n a0c b1p b1n b1c t12 t13 H => G [0, 1, 0, 1, 1] [(0, .slice a0p a0n a0c), (1, .slice b1p b1n b1c), (12, .int .i64 t12), (13, .int .i64 t13)] H) a0p a0n a0c b1p b1n b1c  E H K) compasslaw19_ints.nok rfl (fun G => by kernel_rfl) (Eq.mp (by kernel_rfl) h)
def compasslaw19_ints.b1_t  (a0p : Option Addr) (a0n : Nat) (a0c : Nat) (b1p : Option Addr) (b1n : Nat) (b1c : Nat) (t12 : Int) (t13 : Int) (X1 : Fr → Hp → Prop) (E : Value → Hp → Prop) (H : Hp) (K : Bool → Hp → Prop) : Prop :=
  bcase (decide ((t13 : Int) < t12)) (
  ix a0p a0n t13 1 fun b_1 o_1 =>
  ldI .i64 (H.get b_1 o_1) fun x_1 =>
  ix b1p b1n t13 1 fun b_2 o_2 =>
  ldI .i64 (H.get b_2 o_2) fun x_2 =>
  bcase (!decide ((x_1 : Int) = x_2)) (
  K false H)
  (X1 (compasslaw19_ints.f1 a0p a0n a0c b1p b1n b1c t12 (IntKind.wrap .i64 (t13 + 1))) H))
  (K true H)
theorem compasslaw19_ints.b1_eq {a0p : Option Addr} {a0n : Nat} {a0c : Nat} {b1p : Option Addr} {b1n : Nat} {b1c : Nat} {t12 : Int} {t13 : Int} {X1 : Fr → Hp → Prop} { E : Value → Hp → Prop} {H : Hp} {K : Bool → Hp → Prop} (h : compasslaw19_ints.b1_t  a0p a0n a0c b1p b1n b1c t12 t13 X1 E H K) : compasslaw19_ints.b1 a0p a0n a0c b1p b1n b1c t12 t13 X1 E H K := by
  exact nodeR_imp2 (fun _ => compasslaw19_ints.b1_t  a0p a0n a0c b1p b1n b1c t12 t13 X1 E H K) compasslaw19_ints.nok rfl (fun G => by kernel_rfl) h
/-! ### compass/compasslaw19.star (21) -/
noncomputable def compasslaw19_star.A : An := { live := [(0, []), (1, [0])], ord := [], stb := [], pre := [] }
noncomputable def compasslaw19_star.code : Code := bodyOf Go.Proofs.Try.f21
theorem compasslaw19_star.ok : okCode compasslaw19_star.A 6 compasslaw19_star.code = true := by kernel_rfl
def compasslaw19_star.rq (E : Value → Hp → Prop) (K : Int → (Option Addr) → Nat → Nat → Hp → Prop) : Ex → Fr → Hp → Prop := retQ T0 [.cell 0 24] [24] (fun r H => ldR (.one true [.i .i64, .sl]) r fun u => K (asI (cellV u 0)) (asS1 (cellV u 1)) (asS2 (cellV u 1)) (asS3 (cellV u 1)) H) E
def compasslaw19_star.run  (E : Value → Hp → Prop) (H : Hp) (K : Int → (Option Addr) → Nat → Nat → Hp → Prop) : Prop := nodeM P0 T0 compasslaw19_star.A compasslaw19_star.code [] [] (compasslaw19_star.rq E K) (argF 0 []) H
theorem compasslaw19_star.of {E : Value → Hp → Prop} {H : Hp} {K : Int → (Option Addr) → Nat → Nat → Hp → Prop} (h : compasslaw19_star.run E H K) : compasslaw19_star.call E H K :=
  callW_of T0_ok P0_mixed (A := compasslaw19_star.A) (fn := Go.Proofs.Try.f21) Go.Proofs.Try.func21 rfl compasslaw19_star.ok rfl h
theorem compasslaw19_star.nok : nodesOk compasslaw19_star.code [] = true := by kernel_rfl
def compasslaw19_star.run_t    (E : Value → Hp → Prop) (H : Hp) (K : Int → (Option Addr) → Nat → Nat → Hp → Prop) : Prop :=
  nw H ⟨[.int .i64 0, .slice none 0 0], 24⟩ fun b_1 H_1 =>
  nw H_1 ⟨[.int .i64 0, .int .i64 1, .int .i64 0, .int .i64 0, .int .i64 2, .int .i64 0, .int .i64 0, .int .i64 0, .int .i64 0, .int .i64 3, .int .i64 0, .int .i64 0], 44⟩ fun b_2 H_2 =>
  stC H_2 b_1 0 [.int .i64 4, .slice (some ⟨b_2, 0, none⟩) 3 3] fun H_3 =>
  ldI .i64 (H_3.get b_1 0) fun x_1 =>
  ldS (H_3.get b_1 1) fun x_2p x_2n x_2c =>
  K x_1 x_2p x_2n x_2c H_3
theorem compasslaw19_star.run_eq { E : Value → Hp → Prop} {H : Hp} {K : Int → (Option Addr) → Nat → Nat → Hp → Prop} (h : compasslaw19_star.run_t    E H K) : compasslaw19_star.run   E H K := by
  exact nodeR_imp2 (fun _ => compasslaw19_star.run_t    E H K) compasslaw19_star.nok rfl (fun G => by kernel_rfl) h
end Go.Mz
