/-
  The shallow texts of functions (ShA), each with a kernel-checked equation to the translated code. It proves nothing of the program by itself.
-/
import Derived.Test.YtajgpmohnbjpcaaTab
set_option linter.unusedVariables false
set_option maxRecDepth 100000
namespace Go.Mz
/-! ### compass/compasslaw08.awake (25) -/
noncomputable def compasslaw08_awake.A : An := { live := [(0, []), (1, []), (2, [1]), (3, [1, 2, 3]), (4, [2, 3, 4, 5, 6])], ord := [], stb := [], pre := [] }
noncomputable def compasslaw08_awake.code : Code := bodyOf Go.Proofs.Try.f25
theorem compasslaw08_awake.ok : okCode compasslaw08_awake.A 65 compasslaw08_awake.code = true := by kernel_rfl
def compasslaw08_awake.rq (E : Value → Hp → Prop) (K : Bool → Hp → Prop) : Ex → Fr → Hp → Prop := retQ T0 [.tmp 0] [4] (fun r H => ldR (.one false [.bool]) r fun u => K (asB u) H) E
def compasslaw08_awake.run  (E : Value → Hp → Prop) (H : Hp) (K : Bool → Hp → Prop) : Prop := nodeM P0 T0 compasslaw08_awake.A compasslaw08_awake.code [] [] (compasslaw08_awake.rq E K) (argF 0 []) H
theorem compasslaw08_awake.of {E : Value → Hp → Prop} {H : Hp} {K : Bool → Hp → Prop} (h : compasslaw08_awake.run E H K) : compasslaw08_awake.call E H K :=
  callW_of T0_ok P0_mixed (A := compasslaw08_awake.A) (fn := Go.Proofs.Try.f25) Go.Proofs.Try.func25 rfl compasslaw08_awake.ok rfl h
theorem compasslaw08_awake.nok : nodesOk compasslaw08_awake.code [] = true := by kernel_rfl
def compasslaw08_awake.run_t    (E : Value → Hp → Prop) (H : Hp) (K : Bool → Hp → Prop) : Prop :=
  nw H ⟨[.int .i64 0, .int .i64 2, .int .i64 0, .int .i64 9, .int .i64 0, .int .i64 1, .int .i64 0, .int .i64 2, .int .i64 1, .int .i64 2, .int .i64 0, .int .i64 3], 69⟩ fun b_1 H_1 =>
  nw H_1 ⟨[.int .i64 0, .slice none 0 0], 51⟩ fun b_2 H_2 =>
  stC H_2 b_2 0 [.int .i64 3, .slice (some ⟨b_1, 0, none⟩) 3 3] fun H_3 =>
  ldI .i64 (H_3.get b_2 0) fun x_1 =>
  ldS (H_3.get b_2 1) fun x_2p x_2n x_2c =>
  short_Dijkstra.call x_1 x_2p x_2n x_2c 0 1 E H_3 fun r_1_Distp r_1_Distn r_1_Distc r_1_Viap r_1_Vian r_1_Viac r_2 H_4 =>
  nw H_4 ⟨[.slice none 0 0, .slice none 0 0], 54⟩ fun b_3 H_5 =>
  stC H_5 b_3 0 [.slice r_1_Distp r_1_Distn r_1_Distc, .slice r_1_Viap r_1_Vian r_1_Viac] fun H_6 =>
  ldI .i64 (H_6.get b_2 0) fun x_3 =>
  ldS (H_6.get b_2 1) fun x_4p x_4n x_4c =>
  short_Way.call x_3 x_4p x_4n x_4c 0 2 E H_6 fun r_3p r_3n r_3c r_4 r_5 H_7 =>
  bcase (decide ((r_2 : Int) = 0)) (
  bcase (decide ((r_5 : Int) = 0)) (
  ldS (H_7.get b_3 0) fun x_5p x_5n x_5c =>
  bcase (decide (((x_5n : Int) : Int) = 3)) (
  ldS (H_7.get b_3 0) fun x_6p x_6n x_6c =>
  ix x_6p x_6n 2 1 fun b_4 o_1 =>
  ldI .i64 (H_7.get b_4 o_1) fun x_7 =>
  bcase (decide ((x_7 : Int) = 5)) (
  bcase (decide (((r_3n : Int) : Int) = 2)) (
  ix r_3p r_3n 0 1 fun b_5 o_2 =>
  ldI .i64 (H_7.get b_5 o_2) fun x_8 =>
  bcase (decide ((x_8 : Int) = 1)) (
  ix r_3p r_3n 1 1 fun b_6 o_3 =>
  ldI .i64 (H_7.get b_6 o_3) fun x_9 =>
  bcase (decide ((x_9 : Int) = 2)) (
  bcase (decide ((r_4 : Int) = 5)) (
  K true H_7)
  (K false H_7))
  (K false H_7))
  (K false H_7))
  (K false H_7))
  (K false H_7))
  (K false H_7))
  (K false H_7))
  (K false H_7)
theorem compasslaw08_awake.run_eq { E : Value → Hp → Prop} {H : Hp} {K : Bool → Hp → Prop} (h : compasslaw08_awake.run_t    E H K) : compasslaw08_awake.run   E H K := by
  have k1 : ∀ G : List Nat → Fr → Hp → Prop, nodeR P0 T0 compasslaw08_awake.A [] G compasslaw08_awake.code [] [] (compasslaw08_awake.rq E K) (argF 0 []) H = compasslaw08_awake.run_t    E H K := fun G => by kernel_rfl
  exact nodeR_imp compasslaw08_awake.nok rfl ((k1 _).mpr h)
/-! ### compass/compasslaw08.longs (29) -/
noncomputable def compasslaw08_longs.A : An := { live := [(0, [0, 1]), (1, [0, 1]), (2, []), (3, [0, 1]), (4, [0, 1, 12, 13]), (5, [0, 1, 12, 13]), (6, [0, 1, 5, 12, 13]), (7, []), (8, [0, 1, 12, 13]), (9, [])], ord := [(6, [0, 1, 2, 3, 4, 5, 6, 7, 8])], stb := [], pre := [(6, [[], [], [0, 1], [0, 1, 2], [], [], [4, 5], [4, 5, 6], [0, 1, 2, 3, 4, 5, 6, 7]])] }
noncomputable def compasslaw08_longs.code : Code := bodyOf Go.Proofs.Try.f29
theorem compasslaw08_longs.ok : okCode compasslaw08_longs.A 26 compasslaw08_longs.code = true := by kernel_rfl
def compasslaw08_longs.rq (E : Value → Hp → Prop) (K : Bool → Hp → Prop) : Ex → Fr → Hp → Prop := retQ T0 [.tmp 4] [4] (fun r H => ldR (.one false [.bool]) r fun u => K (asB u) H) E
def compasslaw08_longs.run (a0p : Option Addr) (a0n : Nat) (a0c : Nat) (b1p : Option Addr) (b1n : Nat) (b1c : Nat) (E : Value → Hp → Prop) (H : Hp) (K : Bool → Hp → Prop) : Prop := nodeM P0 T0 compasslaw08_longs.A compasslaw08_longs.code [] [] (compasslaw08_longs.rq E K) (argF 0 [.slice a0p a0n a0c, .slice b1p b1n b1c]) H
theorem compasslaw08_longs.of {a0p : Option Addr} {a0n : Nat} {a0c : Nat} {b1p : Option Addr} {b1n : Nat} {b1c : Nat} {E : Value → Hp → Prop} {H : Hp} {K : Bool → Hp → Prop} (h : compasslaw08_longs.run a0p a0n a0c b1p b1n b1c E H K) : compasslaw08_longs.call a0p a0n a0c b1p b1n b1c E H K :=
  callW_of T0_ok P0_mixed (A := compasslaw08_longs.A) (fn := Go.Proofs.Try.f29) Go.Proofs.Try.func29 rfl compasslaw08_longs.ok rfl h
noncomputable def compasslaw08_longs.f1 (a0p : Option Addr) (a0n : Nat) (a0c : Nat) (b1p : Option Addr) (b1n : Nat) (b1c : Nat) (t12 : Int) (t13 : Int) : Fr := [(0, .slice a0p a0n a0c), (1, .slice b1p b1n b1c), (12, .int .i64 t12), (13, .int .i64 t13)]
def compasslaw08_longs.l1 (a0p : Option Addr) (a0n : Nat) (a0c : Nat) (b1p : Option Addr) (b1n : Nat) (b1c : Nat) (t12 : Int) (t13 : Int)  (E : Value → Hp → Prop) (H : Hp) (K : Bool → Hp → Prop) : Prop := nodeM P0 T0 compasslaw08_longs.A compasslaw08_longs.code [1, 1, 0, 1, 0] [] (compasslaw08_longs.rq E K) (compasslaw08_longs.f1 a0p a0n a0c b1p b1n b1c t12 t13) H
def compasslaw08_longs.b1 (a0p : Option Addr) (a0n : Nat) (a0c : Nat) (b1p : Option Addr) (b1n : Nat) (b1c : Nat) (t12 : Int) (t13 : Int)  (X1 : Fr → Hp → Prop) (E : Value → Hp → Prop) (H : Hp) (K : Bool → Hp → Prop) : Prop := nodeM P0 T0 compasslaw08_longs.A compasslaw08_longs.code [1, 1, 0, 1, 0, 0] [X1] (compasslaw08_longs.rq E K) (compasslaw08_longs.f1 a0p a0n a0c b1p b1n b1c t12 t13) H
theorem compasslaw08_longs.l1_rule { E : Value → Hp → Prop} {K : Bool → Hp → Prop} (I : (Option Addr) → Nat → Nat → (Option Addr) → Nat → Nat → Int → Int → Hp → Prop) (μ : (Option Addr) → Nat → Nat → (Option Addr) → Nat → Nat → Int → Int → Hp → Nat)
    (h : ∀ a0p a0n a0c b1p b1n b1c t12 t13 H, I a0p a0n a0c b1p b1n b1c t12 t13 H → ∀ X : Fr → Hp → Prop, (∀ a0p' a0n' a0c' b1p' b1n' b1c' t12' t13' H', I a0p' a0n' a0c' b1p' b1n' b1c' t12' t13' H' → μ a0p' a0n' a0c' b1p' b1n' b1c' t12' t13' H' < μ a0p a0n a0c b1p b1n b1c t12 t13 H → X (compasslaw08_longs.f1 a0p' a0n' a0c' b1p' b1n' b1c' t12' t13') H') → compasslaw08_longs.b1 a0p a0n a0c b1p b1n b1c t12 t13  X E H K)
    {a0p : Option Addr} {a0n : Nat} {a0c : Nat} {b1p : Option Addr} {b1n : Nat} {b1c : Nat} {t12 : Int} {t13 : Int} {H : Hp} (hI : I a0p a0n a0c b1p b1n b1c t12 t13 H) : compasslaw08_longs.l1 a0p a0n a0c b1p b1n b1c t12 t13  E H K :=
  loop_rule (S := (Option Addr) × Nat × Nat × (Option Addr) × Nat × Nat × Int × Int) (fun s => compasslaw08_longs.f1 (s.1) (s.2.1) (s.2.2.1) (s.2.2.2.1) (s.2.2.2.2.1) (s.2.2.2.2.2.1) (s.2.2.2.2.2.2.1) (s.2.2.2.2.2.2.2)) (fun s H => I (s.1) (s.2.1) (s.2.2.1) (s.2.2.2.1) (s.2.2.2.2.1) (s.2.2.2.2.2.1) (s.2.2.2.2.2.2.1) (s.2.2.2.2.2.2.2) H) (fun s H => μ (s.1) (s.2.1) (s.2.2.1) (s.2.2.2.1) (s.2.2.2.2.1) (s.2.2.2.2.2.1) (s.2.2.2.2.2.2.1) (s.2.2.2.2.2.2.2) H) (fun s H hI X hX => h (s.1) (s.2.1) (s.2.2.1) (s.2.2.2.1) (s.2.2.2.2.1) (s.2.2.2.2.2.1) (s.2.2.2.2.2.2.1) (s.2.2.2.2.2.2.2) H hI X fun a0p' a0n' a0c' b1p' b1n' b1c' t12' t13' H' hI' hlt => hX (a0p', a0n', a0c', b1p', b1n', b1c', t12', t13') H' hI' hlt) (s := (a0p, a0n, a0c, b1p, b1n, b1c, t12, t13)) rfl hI
theorem compasslaw08_longs.nok : nodesOk compasslaw08_longs.code [[0, 1, 0, 1, 1]] = true := by kernel_rfl
def compasslaw08_longs.run_t (l1 : (Option Addr) → Nat → Nat → (Option Addr) → Nat → Nat → Int → Int → Hp → Prop) (a0p : Option Addr) (a0n : Nat) (a0c : Nat) (b1p : Option Addr) (b1n : Nat) (b1c : Nat)  (E : Value → Hp → Prop) (H : Hp) (K : Bool → Hp → Prop) : Prop :=
  bcase (!decide (((a0n : Int) : Int) = (b1n : Int))) (
  K false H)
  (l1 a0p a0n a0c b1p b1n b1c (a0n : Int) 0 H)
theorem compasslaw08_longs.run_eq {a0p : Option Addr} {a0n : Nat} {a0c : Nat} {b1p : Option Addr} {b1n : Nat} {b1c : Nat} { E : Value → Hp → Prop} {H : Hp} {K : Bool → Hp → Prop} (h : compasslaw08_longs.run_t (fun a0p a0n a0c b1p b1n b1c t12 t13 H => compasslaw08_longs.l1 a0p a0n a0c b1p b1n b1c t12 t13  E H K) a0p a0n a0c b1p b1n b1c  E H K) : compasslaw08_longs.run a0p a0n a0c b1p b1n b1c  E H K := by
  have k1 : ∀ G : List Nat → Fr → Hp → Prop, nodeR P0 T0 compasslaw08_longs.A [[0, 1, 0, 1, 1]] G compasslaw08_longs.code [] [] (compasslaw08_longs.rq E K) (argF 0 [.slice a0p a0n a0c, .slice b1p b1n b1c]) H = compasslaw08_longs.run_t (fun a0p a0n a0c b1p b1n b1c t12 t13 H => G [0, 1, 0, 1, 1] [(0, .slice a0p a0n a0c), (1, .slice b1p b1n b1c), (12, .int .i64 t12), (13, .int .i64 t13)] H) a0p a0n a0c b1p b1n b1c  E H K := fun G => by kernel_rfl
  have k2 : compasslaw08_longs.run_t (fun a0p a0n a0c b1p b1n b1c t12 t13 H => compasslaw08_longs.l1 a0p a0n a0c b1p b1n b1c t12 t13  E H K) a0p a0n a0c b1p b1n b1c  E H K = compasslaw08_longs.run_t (fun a0p a0n a0c b1p b1n b1c t12 t13 H => (fun q F H => nodeM P0 T0 compasslaw08_longs.A compasslaw08_longs.code q.reverse [] (compasslaw08_longs.rq E K) F H) [0, 1, 0, 1, 1] [(0, .slice a0p a0n a0c), (1, .slice b1p b1n b1c), (12, .int .i64 t12), (13, .int .i64 t13)] H) a0p a0n a0c b1p b1n b1c  E H K := by kernel_rfl
  exact nodeR_imp compasslaw08_longs.nok rfl ((k1 _).mpr (k2.mp h))
def compasslaw08_longs.b1_t  (a0p : Option Addr) (a0n : Nat) (a0c : Nat) (b1p : Option Addr) (b1n : Nat) (b1c : Nat) (t12 : Int) (t13 : Int) (X1 : Fr → Hp → Prop) (E : Value → Hp → Prop) (H : Hp) (K : Bool → Hp → Prop) : Prop :=
  bcase (decide ((t13 : Int) < t12)) (
  ix a0p a0n t13 1 fun b_1 o_1 =>
  ldI .i64 (H.get b_1 o_1) fun x_1 =>
  ix b1p b1n t13 1 fun b_2 o_2 =>
  ldI .i64 (H.get b_2 o_2) fun x_2 =>
  bcase (!decide ((x_1 : Int) = x_2)) (
  K false H)
  (X1 (compasslaw08_longs.f1 a0p a0n a0c b1p b1n b1c t12 (IntKind.wrap .i64 (t13 + 1))) H))
  (K true H)
theorem compasslaw08_longs.b1_eq {a0p : Option Addr} {a0n : Nat} {a0c : Nat} {b1p : Option Addr} {b1n : Nat} {b1c : Nat} {t12 : Int} {t13 : Int} {X1 : Fr → Hp → Prop} { E : Value → Hp → Prop} {H : Hp} {K : Bool → Hp → Prop} (h : compasslaw08_longs.b1_t  a0p a0n a0c b1p b1n b1c t12 t13 X1 E H K) : compasslaw08_longs.b1 a0p a0n a0c b1p b1n b1c t12 t13 X1 E H K := by
  have k1 : ∀ G : List Nat → Fr → Hp → Prop, nodeR P0 T0 compasslaw08_longs.A [[0, 1, 0, 1, 1]] G compasslaw08_longs.code [1, 1, 0, 1, 0, 0] [X1] (compasslaw08_longs.rq E K) (compasslaw08_longs.f1 a0p a0n a0c b1p b1n b1c t12 t13) H = compasslaw08_longs.b1_t  a0p a0n a0c b1p b1n b1c t12 t13 X1 E H K := fun G => by kernel_rfl
  exact nodeR_imp compasslaw08_longs.nok rfl ((k1 _).mpr h)
/-! ### compass/compasslaw08.below (33) -/
end Go.Mz
