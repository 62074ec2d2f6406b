/-
  The shallow texts of functions (L15), each with a kernel-checked equation to the translated code. It proves nothing of the program by itself.
-/
import Derived.Test.YtmaeboaopebaiaaTab
set_option linter.unusedVariables false
set_option maxRecDepth 100000
namespace Go.Mz
/-! ### compass/compasslaw15.awake (24) -/
noncomputable def compasslaw15_awake.A : An := { live := [(0, []), (1, []), (2, [1]), (3, [1]), (4, [1]), (5, [1, 2, 3, 4]), (6, []), (7, [])], ord := [], stb := [], pre := [] }
noncomputable def compasslaw15_awake.code : Code := bodyOf Go.Proofs.Try.f24
theorem compasslaw15_awake.ok : okCode compasslaw15_awake.A 46 compasslaw15_awake.code = true := by kernel_rfl
def compasslaw15_awake.rq (E : Value → Hp → Prop) (K : Bool → Hp → Prop) : Ex → Fr → Hp → Prop := retQ T0 [.tmp 0] [4] (fun r H => ldR (.one false [.bool]) r fun u => K (asB u) H) E
def compasslaw15_awake.run  (E : Value → Hp → Prop) (H : Hp) (K : Bool → Hp → Prop) : Prop := nodeM P0 T0 compasslaw15_awake.A compasslaw15_awake.code [] [] (compasslaw15_awake.rq E K) (argF 0 []) H
theorem compasslaw15_awake.of {E : Value → Hp → Prop} {H : Hp} {K : Bool → Hp → Prop} (h : compasslaw15_awake.run E H K) : compasslaw15_awake.call E H K :=
  callW_of T0_ok P0_mixed (A := compasslaw15_awake.A) (fn := Go.Proofs.Try.f24) Go.Proofs.Try.func24 rfl compasslaw15_awake.ok rfl h
noncomputable def compasslaw15_awake.f1 (kind1 : Int) : Fr := [(1, .int .i64 kind1)]
def compasslaw15_awake.j1   (E : Value → Hp → Prop) (H : Hp) (K : Bool → Hp → Prop) : Prop := nodeM P0 T0 compasslaw15_awake.A compasslaw15_awake.code [1, 1] [] (compasslaw15_awake.rq E K) [] H
def compasslaw15_awake.l1 (kind1 : Int)  (E : Value → Hp → Prop) (H : Hp) (K : Bool → Hp → Prop) : Prop := nodeM P0 T0 compasslaw15_awake.A compasslaw15_awake.code [1, 0, 1, 0] [] (compasslaw15_awake.rq E K) (compasslaw15_awake.f1 kind1) H
def compasslaw15_awake.b1 (kind1 : Int)  (X1 : Fr → Hp → Prop) (E : Value → Hp → Prop) (H : Hp) (K : Bool → Hp → Prop) : Prop := nodeM P0 T0 compasslaw15_awake.A compasslaw15_awake.code [1, 0, 1, 0, 0] [X1] (compasslaw15_awake.rq E K) (compasslaw15_awake.f1 kind1) H
theorem compasslaw15_awake.l1_rule { E : Value → Hp → Prop} {K : Bool → Hp → Prop} (I : Int → Hp → Prop) (μ : Int → Hp → Nat)
    (h : ∀ kind1 H, I kind1 H → ∀ X : Fr → Hp → Prop, (∀ kind1' H', I kind1' H' → μ kind1' H' < μ kind1 H → X (compasslaw15_awake.f1 kind1') H') → compasslaw15_awake.b1 kind1  X E H K)
    {kind1 : Int} {H : Hp} (hI : I kind1 H) : compasslaw15_awake.l1 kind1  E H K :=
  loop_rule (S := Int) (fun s => compasslaw15_awake.f1 s) (fun s H => I s H) (fun s H => μ s H) (fun s H hI X hX => h s H hI X fun kind1' H' hI' hlt => hX kind1' H' hI' hlt) (s := kind1) rfl hI
theorem compasslaw15_awake.nok : nodesOk compasslaw15_awake.code [[0, 1, 0, 1], [1, 1]] = true := by kernel_rfl
def compasslaw15_awake.run_t (l1 : Int → Hp → Prop)   (E : Value → Hp → Prop) (H : Hp) (K : Bool → Hp → Prop) : Prop :=
  l1 1 H
theorem compasslaw15_awake.run_eq { E : Value → Hp → Prop} {H : Hp} {K : Bool → Hp → Prop} (h : compasslaw15_awake.run_t (fun kind1 H => compasslaw15_awake.l1 kind1  E H K)   E H K) : compasslaw15_awake.run   E H K := by
  have k1 : ∀ G : List Nat → Fr → Hp → Prop, nodeR P0 T0 compasslaw15_awake.A [[0, 1, 0, 1], [1, 1]] G compasslaw15_awake.code [] [] (compasslaw15_awake.rq E K) (argF 0 []) H = compasslaw15_awake.run_t (fun kind1 H => G [0, 1, 0, 1] [(1, .int .i64 kind1)] H)   E H K := fun G => by kernel_rfl
  have k2 : compasslaw15_awake.run_t (fun kind1 H => compasslaw15_awake.l1 kind1  E H K)   E H K = compasslaw15_awake.run_t (fun kind1 H => (fun q F H => nodeM P0 T0 compasslaw15_awake.A compasslaw15_awake.code q.reverse [] (compasslaw15_awake.rq E K) F H) [0, 1, 0, 1] [(1, .int .i64 kind1)] H)   E H K := by kernel_rfl
  exact nodeR_imp compasslaw15_awake.nok rfl ((k1 _).mpr (k2.mp h))
def compasslaw15_awake.j1_t    (E : Value → Hp → Prop) (H : Hp) (K : Bool → Hp → Prop) : Prop :=
  compasslaw15_path.call  E H fun r_1_Nodes r_1_Edgesp r_1_Edgesn r_1_Edgesc H_1 =>
  bimatch_Sides.call r_1_Nodes r_1_Edgesp r_1_Edgesn r_1_Edgesc 1 E H_1 fun r_2_Code r_2_At H_2 =>
  K (decide ((r_2_Code : Int) = 140) && (decide ((r_2_At : Int) = 1) && true)) H_2
theorem compasslaw15_awake.j1_eq { E : Value → Hp → Prop} {H : Hp} {K : Bool → Hp → Prop} (h : compasslaw15_awake.j1_t    E H K) : compasslaw15_awake.j1   E H K := by
  have k1 : ∀ G : List Nat → Fr → Hp → Prop, nodeR P0 T0 compasslaw15_awake.A [[0, 1, 0, 1], [1, 1]] G compasslaw15_awake.code [1, 1] [] (compasslaw15_awake.rq E K) [] H = compasslaw15_awake.j1_t    E H K := fun G => by kernel_rfl
  exact nodeR_imp compasslaw15_awake.nok rfl ((k1 _).mpr h)
def compasslaw15_awake.b1_t (j1 : Hp → Prop) (kind1 : Int) (X1 : Fr → Hp → Prop) (E : Value → Hp → Prop) (H : Hp) (K : Bool → Hp → Prop) : Prop :=
  bcase (decide ((kind1 : Int) ≤ 2)) (
  compasslaw15_path.call  E H fun r_1_Nodes r_1_Edgesp r_1_Edgesn r_1_Edgesc H_1 =>
  bimatch_Solve.call r_1_Nodes r_1_Edgesp r_1_Edgesn r_1_Edgesc 2 kind1 E H_1 fun r_2p r_2n r_2c r_3p r_3n r_3c r_4 H_2 =>
  bcase (!decide ((r_4 : Int) = 0)) (
  K false H_2)
  (bcase (!decide (((r_2n : Int) : Int) = 2)) (
  K false H_2)
  (ix r_2p r_2n 0 1 fun b_1 o_1 =>
  ldI .i64 (H_2.get b_1 o_1) fun x_1 =>
  bcase (!decide ((x_1 : Int) = 0)) (
  K false H_2)
  (ix r_2p r_2n 1 1 fun b_2 o_2 =>
  ldI .i64 (H_2.get b_2 o_2) fun x_2 =>
  bcase (!decide ((x_2 : Int) = 2)) (
  K false H_2)
  (bcase (!decide (((r_3n : Int) : Int) = 2)) (
  K false H_2)
  (X1 (compasslaw15_awake.f1 (IntKind.wrap .i64 (kind1 + 1))) H_2))))))
  (j1  H)
theorem compasslaw15_awake.b1_eq {kind1 : Int} {X1 : Fr → Hp → Prop} { E : Value → Hp → Prop} {H : Hp} {K : Bool → Hp → Prop} (h : compasslaw15_awake.b1_t (fun  H => compasslaw15_awake.j1   E H K) kind1 X1 E H K) : compasslaw15_awake.b1 kind1 X1 E H K := by
  have k1 : ∀ G : List Nat → Fr → Hp → Prop, nodeR P0 T0 compasslaw15_awake.A [[0, 1, 0, 1], [1, 1]] G compasslaw15_awake.code [1, 0, 1, 0, 0] [X1] (compasslaw15_awake.rq E K) (compasslaw15_awake.f1 kind1) H = compasslaw15_awake.b1_t (fun  H => G [1, 1] [] H) kind1 X1 E H K := fun G => by kernel_rfl
  have k2 : compasslaw15_awake.b1_t (fun  H => compasslaw15_awake.j1   E H K) kind1 X1 E H K = compasslaw15_awake.b1_t (fun  H => (fun q F H => nodeM P0 T0 compasslaw15_awake.A compasslaw15_awake.code q.reverse [X1] (compasslaw15_awake.rq E K) F H) [1, 1] [] H) kind1 X1 E H K := by kernel_rfl
  exact nodeR_imp compasslaw15_awake.nok rfl ((k1 _).mpr (k2.mp h))
/-! ### compass/compasslaw15.near (32) -/
/-! ### compass/compasslaw15.ints (33) -/
/-! ### compass/compasslaw15.path (56) -/
noncomputable def compasslaw15_path.A : An := { live := [(0, []), (1, [0])], ord := [], stb := [], pre := [] }
noncomputable def compasslaw15_path.code : Code := bodyOf Go.Proofs.Try.f56
theorem compasslaw15_path.ok : okCode compasslaw15_path.A 6 compasslaw15_path.code = true := by kernel_rfl
def compasslaw15_path.rq (E : Value → Hp → Prop) (K : Int → (Option Addr) → Nat → Nat → Hp → Prop) : Ex → Fr → Hp → Prop := retQ T0 [.cell 0 24] [24] (fun r H => ldR (.one true [.i .i64, .sl]) r fun u => K (asI (cellV u 0)) (asS1 (cellV u 1)) (asS2 (cellV u 1)) (asS3 (cellV u 1)) H) E
def compasslaw15_path.run  (E : Value → Hp → Prop) (H : Hp) (K : Int → (Option Addr) → Nat → Nat → Hp → Prop) : Prop := nodeM P0 T0 compasslaw15_path.A compasslaw15_path.code [] [] (compasslaw15_path.rq E K) (argF 0 []) H
theorem compasslaw15_path.of {E : Value → Hp → Prop} {H : Hp} {K : Int → (Option Addr) → Nat → Nat → Hp → Prop} (h : compasslaw15_path.run E H K) : compasslaw15_path.call E H K :=
  callW_of T0_ok P0_mixed (A := compasslaw15_path.A) (fn := Go.Proofs.Try.f56) Go.Proofs.Try.func56 rfl compasslaw15_path.ok rfl h
theorem compasslaw15_path.nok : nodesOk compasslaw15_path.code [] = true := by kernel_rfl
def compasslaw15_path.run_t    (E : Value → Hp → Prop) (H : Hp) (K : Int → (Option Addr) → Nat → Nat → Hp → Prop) : Prop :=
  nw H ⟨[.int .i64 0, .slice none 0 0], 24⟩ fun b_1 H_1 =>
  nw H_1 ⟨[.int .i64 0, .int .i64 2, .int .i64 0, .int .i64 0, .int .i64 2, .int .i64 1, .int .i64 0, .int .i64 0, .int .i64 1, .int .i64 3, .int .i64 0, .int .i64 0], 37⟩ fun b_2 H_2 =>
  stC H_2 b_1 0 [.int .i64 4, .slice (some ⟨b_2, 0, none⟩) 3 3] fun H_3 =>
  ldI .i64 (H_3.get b_1 0) fun x_1 =>
  ldS (H_3.get b_1 1) fun x_2p x_2n x_2c =>
  K x_1 x_2p x_2n x_2c H_3
theorem compasslaw15_path.run_eq { E : Value → Hp → Prop} {H : Hp} {K : Int → (Option Addr) → Nat → Nat → Hp → Prop} (h : compasslaw15_path.run_t    E H K) : compasslaw15_path.run   E H K := by
  have k1 : ∀ G : List Nat → Fr → Hp → Prop, nodeR P0 T0 compasslaw15_path.A [] G compasslaw15_path.code [] [] (compasslaw15_path.rq E K) (argF 0 []) H = compasslaw15_path.run_t    E H K := fun G => by kernel_rfl
  exact nodeR_imp compasslaw15_path.nok rfl ((k1 _).mpr h)
end Go.Mz
