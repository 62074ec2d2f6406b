/-
  The shallow texts of functions (L19), each with a kernel-checked equation to the translated code. It proves nothing of the program by itself.
-/
import Derived.Test.YtbocpfdlfnodfaaTab
set_option linter.unusedVariables false
set_option maxRecDepth 100000
namespace Go.Mz
/-! ### compass/compasslaw19.awake (9) -/
noncomputable def compasslaw19_awake.A : An := { live := [(0, []), (1, []), (2, [1, 3]), (3, [1, 3, 6])], ord := [], stb := [], pre := [] }
noncomputable def compasslaw19_awake.code : Code := bodyOf Go.Proofs.Try.f9
theorem compasslaw19_awake.ok : okCode compasslaw19_awake.A 32 compasslaw19_awake.code = true := by kernel_rfl
def compasslaw19_awake.rq (E : Value → Hp → Prop) (K : Bool → Hp → Prop) : Ex → Fr → Hp → Prop := retQ T0 [.tmp 0] [4] (fun r H => ldR (.one false [.bool]) r fun u => K (asB u) H) E
def compasslaw19_awake.run  (E : Value → Hp → Prop) (H : Hp) (K : Bool → Hp → Prop) : Prop := nodeM P0 T0 compasslaw19_awake.A compasslaw19_awake.code [] [] (compasslaw19_awake.rq E K) (argF 0 []) H
theorem compasslaw19_awake.of {E : Value → Hp → Prop} {H : Hp} {K : Bool → Hp → Prop} (h : compasslaw19_awake.run E H K) : compasslaw19_awake.call E H K :=
  callW_of T0_ok P0_mixed (A := compasslaw19_awake.A) (fn := Go.Proofs.Try.f9) Go.Proofs.Try.func9 rfl compasslaw19_awake.ok rfl h
theorem compasslaw19_awake.nok : nodesOk compasslaw19_awake.code [] = true := by kernel_rfl
def compasslaw19_awake.run_t    (E : Value → Hp → Prop) (H : Hp) (K : Bool → Hp → Prop) : Prop :=
  compasslaw19_star.call  E H fun r_1_Nodes r_1_Edgesp r_1_Edgesn r_1_Edgesc H_1 =>
  nw H_1 ⟨[.int .i64 2, .int .i64 1, .int .i64 1, .int .i64 1], 3⟩ fun b_1 H_2 =>
  bmatch_Solve.call r_1_Nodes r_1_Edgesp r_1_Edgesn r_1_Edgesc (some ⟨b_1, 0, none⟩) 4 4 E H_2 fun r_2p r_2n r_2c r_3p r_3n r_3c r_4 H_3 =>
  compasslaw19_star.call  E H_3 fun r_5_Nodes r_5_Edgesp r_5_Edgesn r_5_Edgesc H_4 =>
  nw H_4 ⟨[.int .i64 2, .int .i64 1, .int .i64 1], 3⟩ fun b_2 H_5 =>
  bmatch_Solve.call r_5_Nodes r_5_Edgesp r_5_Edgesn r_5_Edgesc (some ⟨b_2, 0, none⟩) 3 3 E H_5 fun r_6p r_6n r_6c r_7p r_7n r_7c r_8 H_6 =>
  bcase (decide ((r_4 : Int) = 0)) (
  bcase (decide (((r_2n : Int) : Int) = 2)) (
  K (decide ((r_8 : Int) = 130)) H_6)
  (K false H_6))
  (K false H_6)
theorem compasslaw19_awake.run_eq { E : Value → Hp → Prop} {H : Hp} {K : Bool → Hp → Prop} (h : compasslaw19_awake.run_t    E H K) : compasslaw19_awake.run   E H K := by
  exact nodeR_imp2 (fun _ => compasslaw19_awake.run_t    E H K) compasslaw19_awake.nok rfl (fun G => by kernel_rfl) h
/-! ### compass/compasslaw19.ints (17) -/
/-! ### compass/compasslaw19.star (21) -/
noncomputable def compasslaw19_star.A : An := { live := [(0, []), (1, [0])], ord := [], stb := [], pre := [] }
noncomputable def compasslaw19_star.code : Code := bodyOf Go.Proofs.Try.f21
theorem compasslaw19_star.ok : okCode compasslaw19_star.A 6 compasslaw19_star.code = true := by kernel_rfl
def compasslaw19_star.rq (E : Value → Hp → Prop) (K : Int → (Option Addr) → Nat → Nat → Hp → Prop) : Ex → Fr → Hp → Prop := retQ T0 [.cell 0 24] [24] (fun r H => ldR (.one true [.i .i64, .sl]) r fun u => K (asI (cellV u 0)) (asS1 (cellV u 1)) (asS2 (cellV u 1)) (asS3 (cellV u 1)) H) E
def compasslaw19_star.run  (E : Value → Hp → Prop) (H : Hp) (K : Int → (Option Addr) → Nat → Nat → Hp → Prop) : Prop := nodeM P0 T0 compasslaw19_star.A compasslaw19_star.code [] [] (compasslaw19_star.rq E K) (argF 0 []) H
theorem compasslaw19_star.of {E : Value → Hp → Prop} {H : Hp} {K : Int → (Option Addr) → Nat → Nat → Hp → Prop} (h : compasslaw19_star.run E H K) : compasslaw19_star.call E H K :=
  callW_of T0_ok P0_mixed (A := compasslaw19_star.A) (fn := Go.Proofs.Try.f21) Go.Proofs.Try.func21 rfl compasslaw19_star.ok rfl h
theorem compasslaw19_star.nok : nodesOk compasslaw19_star.code [] = true := by kernel_rfl
def compasslaw19_star.run_t    (E : Value → Hp → Prop) (H : Hp) (K : Int → (Option Addr) → Nat → Nat → Hp → Prop) : Prop :=
  nw H ⟨[.int .i64 0, .slice none 0 0], 24⟩ fun b_1 H_1 =>
  nw H_1 ⟨[.int .i64 0, .int .i64 1, .int .i64 0, .int .i64 0, .int .i64 2, .int .i64 0, .int .i64 0, .int .i64 0, .int .i64 0, .int .i64 3, .int .i64 0, .int .i64 0], 44⟩ fun b_2 H_2 =>
  stC H_2 b_1 0 [.int .i64 4, .slice (some ⟨b_2, 0, none⟩) 3 3] fun H_3 =>
  ldI .i64 (H_3.get b_1 0) fun x_1 =>
  ldS (H_3.get b_1 1) fun x_2p x_2n x_2c =>
  K x_1 x_2p x_2n x_2c H_3
theorem compasslaw19_star.run_eq { E : Value → Hp → Prop} {H : Hp} {K : Int → (Option Addr) → Nat → Nat → Hp → Prop} (h : compasslaw19_star.run_t    E H K) : compasslaw19_star.run   E H K := by
  exact nodeR_imp2 (fun _ => compasslaw19_star.run_t    E H K) compasslaw19_star.nok rfl (fun G => by kernel_rfl) h
end Go.Mz
