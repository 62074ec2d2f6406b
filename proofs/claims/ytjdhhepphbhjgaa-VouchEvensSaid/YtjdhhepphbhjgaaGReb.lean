/-
  The shallow texts of functions (Reb), each with a kernel-checked equation to the translated code. It proves nothing of the program by itself.
-/
import Derived.Test.YtjdhhepphbhjgaaTab
set_option linter.unusedVariables false
set_option maxRecDepth 100000
namespace Go.Mz
/-! ### compass/compassref12.Covered (43) -/
/-! ### compass/compassref12.Heaviest (44) -/
/-! ### compass/compassref12.Covers (85) -/
/-! ### compass/compassref11.Pots (86) -/
noncomputable def compassref11_Pots.A : An := { live := [(0, [0, 1]), (1, [1, 2]), (2, []), (3, [1, 2]), (4, [1, 2, 5]), (5, [1, 2, 5]), (6, [1, 2, 5]), (7, []), (8, [])], ord := [], stb := [], pre := [] }
noncomputable def compassref11_Pots.code : Code := bodyOf Go.Proofs.Try.f86
theorem compassref11_Pots.ok : okCode compassref11_Pots.A 29 compassref11_Pots.code = true := by kernel_rfl
def compassref11_Pots.rq (E : Value → Hp → Prop) (K : Bool → Hp → Prop) : Ex → Fr → Hp → Prop := retQ T0 [.tmp 4] [4] (fun r H => ldR (.one false [.bool]) r fun u => K (asB u) H) E
def compassref11_Pots.run (g0_Nodes : Int) (g0_Edgesp : Option Addr) (g0_Edgesn : Nat) (g0_Edgesc : Nat) (pot1p : Option Addr) (pot1n : Nat) (pot1c : Nat) (E : Value → Hp → Prop) (H : Hp) (K : Bool → Hp → Prop) : Prop := nodeM P0 T0 compassref11_Pots.A compassref11_Pots.code [] [] (compassref11_Pots.rq E K) (argF 0 [.agg ⟨[.int .i64 g0_Nodes, .slice g0_Edgesp g0_Edgesn g0_Edgesc]⟩, .slice pot1p pot1n pot1c]) H
theorem compassref11_Pots.of {g0_Nodes : Int} {g0_Edgesp : Option Addr} {g0_Edgesn : Nat} {g0_Edgesc : Nat} {pot1p : Option Addr} {pot1n : Nat} {pot1c : Nat} {E : Value → Hp → Prop} {H : Hp} {K : Bool → Hp → Prop} (h : compassref11_Pots.run g0_Nodes g0_Edgesp g0_Edgesn g0_Edgesc pot1p pot1n pot1c E H K) : compassref11_Pots.call g0_Nodes g0_Edgesp g0_Edgesn g0_Edgesc pot1p pot1n pot1c E H K :=
  callW_of T0_ok P0_mixed (A := compassref11_Pots.A) (fn := Go.Proofs.Try.f86) Go.Proofs.Try.func86 rfl compassref11_Pots.ok rfl h
noncomputable def compassref11_Pots.f1 (pot1p : Option Addr) (pot1n : Nat) (pot1c : Nat) (g2 : Nat) (v5 : Int) : Fr := [(1, .slice pot1p pot1n pot1c), (2, .pointer (some ⟨g2, 0, none⟩)), (5, .int .i64 v5)]
def compassref11_Pots.l1 (pot1p : Option Addr) (pot1n : Nat) (pot1c : Nat) (g2 : Nat) (v5 : Int)  (E : Value → Hp → Prop) (H : Hp) (K : Bool → Hp → Prop) : Prop := nodeM P0 T0 compassref11_Pots.A compassref11_Pots.code [1, 1, 0, 1, 0] [] (compassref11_Pots.rq E K) (compassref11_Pots.f1 pot1p pot1n pot1c g2 v5) H
def compassref11_Pots.b1 (pot1p : Option Addr) (pot1n : Nat) (pot1c : Nat) (g2 : Nat) (v5 : Int)  (X1 : Fr → Hp → Prop) (E : Value → Hp → Prop) (H : Hp) (K : Bool → Hp → Prop) : Prop := nodeM P0 T0 compassref11_Pots.A compassref11_Pots.code [1, 1, 0, 1, 0, 0] [X1] (compassref11_Pots.rq E K) (compassref11_Pots.f1 pot1p pot1n pot1c g2 v5) H
theorem compassref11_Pots.l1_rule { E : Value → Hp → Prop} {K : Bool → Hp → Prop} (I : (Option Addr) → Nat → Nat → Nat → Int → Hp → Prop) (μ : (Option Addr) → Nat → Nat → Nat → Int → Hp → Nat)
    (h : ∀ pot1p pot1n pot1c g2 v5 H, I pot1p pot1n pot1c g2 v5 H → ∀ X : Fr → Hp → Prop, (∀ pot1p' pot1n' pot1c' g2' v5' H', I pot1p' pot1n' pot1c' g2' v5' H' → μ pot1p' pot1n' pot1c' g2' v5' H' < μ pot1p pot1n pot1c g2 v5 H → X (compassref11_Pots.f1 pot1p' pot1n' pot1c' g2' v5') H') → compassref11_Pots.b1 pot1p pot1n pot1c g2 v5  X E H K)
    {pot1p : Option Addr} {pot1n : Nat} {pot1c : Nat} {g2 : Nat} {v5 : Int} {H : Hp} (hI : I pot1p pot1n pot1c g2 v5 H) : compassref11_Pots.l1 pot1p pot1n pot1c g2 v5  E H K :=
  loop_rule (S := (Option Addr) × Nat × Nat × Nat × Int) (fun s => compassref11_Pots.f1 (s.1) (s.2.1) (s.2.2.1) (s.2.2.2.1) (s.2.2.2.2)) (fun s H => I (s.1) (s.2.1) (s.2.2.1) (s.2.2.2.1) (s.2.2.2.2) H) (fun s H => μ (s.1) (s.2.1) (s.2.2.1) (s.2.2.2.1) (s.2.2.2.2) H) (fun s H hI X hX => h (s.1) (s.2.1) (s.2.2.1) (s.2.2.2.1) (s.2.2.2.2) H hI X fun pot1p' pot1n' pot1c' g2' v5' H' hI' hlt => hX (pot1p', pot1n', pot1c', g2', v5') H' hI' hlt) (s := (pot1p, pot1n, pot1c, g2, v5)) rfl hI
theorem compassref11_Pots.nok : nodesOk compassref11_Pots.code [[0, 1, 0, 1, 1]] = true := by kernel_rfl
def compassref11_Pots.run_t (l1 : (Option Addr) → Nat → Nat → Nat → Int → Hp → Prop) (g0_Nodes : Int) (g0_Edgesp : Option Addr) (g0_Edgesn : Nat) (g0_Edgesc : Nat) (pot1p : Option Addr) (pot1n : Nat) (pot1c : Nat)  (E : Value → Hp → Prop) (H : Hp) (K : Bool → Hp → Prop) : Prop :=
  nw H ⟨[.int .i64 g0_Nodes, .slice g0_Edgesp g0_Edgesn g0_Edgesc], 24⟩ fun b_1 H_1 =>
  ldI .i64 (H_1.get b_1 0) fun x_1 =>
  bcase (!decide (((pot1n : Int) : Int) = x_1)) (
  K false H_1)
  (l1 pot1p pot1n pot1c b_1 0 H_1)
theorem compassref11_Pots.run_eq {g0_Nodes : Int} {g0_Edgesp : Option Addr} {g0_Edgesn : Nat} {g0_Edgesc : Nat} {pot1p : Option Addr} {pot1n : Nat} {pot1c : Nat} { E : Value → Hp → Prop} {H : Hp} {K : Bool → Hp → Prop} (h : compassref11_Pots.run_t (fun pot1p pot1n pot1c g2 v5 H => compassref11_Pots.l1 pot1p pot1n pot1c g2 v5  E H K) g0_Nodes g0_Edgesp g0_Edgesn g0_Edgesc pot1p pot1n pot1c  E H K) : compassref11_Pots.run g0_Nodes g0_Edgesp g0_Edgesn g0_Edgesc pot1p pot1n pot1c  E H K := by
  have k1 : ∀ G : List Nat → Fr → Hp → Prop, nodeR P0 T0 compassref11_Pots.A [[0, 1, 0, 1, 1]] G compassref11_Pots.code [] [] (compassref11_Pots.rq E K) (argF 0 [.agg ⟨[.int .i64 g0_Nodes, .slice g0_Edgesp g0_Edgesn g0_Edgesc]⟩, .slice pot1p pot1n pot1c]) H = compassref11_Pots.run_t (fun pot1p pot1n pot1c g2 v5 H => G [0, 1, 0, 1, 1] [(1, .slice pot1p pot1n pot1c), (2, .pointer (some ⟨g2, 0, none⟩)), (5, .int .i64 v5)] H) g0_Nodes g0_Edgesp g0_Edgesn g0_Edgesc pot1p pot1n pot1c  E H K := fun G => by kernel_rfl
  have k2 : compassref11_Pots.run_t (fun pot1p pot1n pot1c g2 v5 H => compassref11_Pots.l1 pot1p pot1n pot1c g2 v5  E H K) g0_Nodes g0_Edgesp g0_Edgesn g0_Edgesc pot1p pot1n pot1c  E H K = compassref11_Pots.run_t (fun pot1p pot1n pot1c g2 v5 H => (fun q F H => nodeM P0 T0 compassref11_Pots.A compassref11_Pots.code q.reverse [] (compassref11_Pots.rq E K) F H) [0, 1, 0, 1, 1] [(1, .slice pot1p pot1n pot1c), (2, .pointer (some ⟨g2, 0, none⟩)), (5, .int .i64 v5)] H) g0_Nodes g0_Edgesp g0_Edgesn g0_Edgesc pot1p pot1n pot1c  E H K := by kernel_rfl
  exact nodeR_imp compassref11_Pots.nok rfl ((k1 _).mpr (k2.mp h))
def compassref11_Pots.b1_t  (pot1p : Option Addr) (pot1n : Nat) (pot1c : Nat) (g2 : Nat) (v5 : Int) (X1 : Fr → Hp → Prop) (E : Value → Hp → Prop) (H : Hp) (K : Bool → Hp → Prop) : Prop :=
  ldI .i64 (H.get g2 0) fun x_1 =>
  bcase (decide ((v5 : Int) < x_1)) (
  ix pot1p pot1n v5 1 fun b_1 o_1 =>
  ldI .i64 (H.get b_1 o_1) fun x_2 =>
  bcase (decide ((x_2 : Int) < (-4398046511104))) (
  K false H)
  (ix pot1p pot1n v5 1 fun b_2 o_2 =>
  ldI .i64 (H.get b_2 o_2) fun x_3 =>
  bcase (decide ((4398046511104 : Int) < x_3)) (
  K false H)
  (X1 (compassref11_Pots.f1 pot1p pot1n pot1c g2 (IntKind.wrap .i64 (v5 + 1))) H)))
  (K true H)
theorem compassref11_Pots.b1_eq {pot1p : Option Addr} {pot1n : Nat} {pot1c : Nat} {g2 : Nat} {v5 : Int} {X1 : Fr → Hp → Prop} { E : Value → Hp → Prop} {H : Hp} {K : Bool → Hp → Prop} (h : compassref11_Pots.b1_t  pot1p pot1n pot1c g2 v5 X1 E H K) : compassref11_Pots.b1 pot1p pot1n pot1c g2 v5 X1 E H K := by
  have k1 : ∀ G : List Nat → Fr → Hp → Prop, nodeR P0 T0 compassref11_Pots.A [[0, 1, 0, 1, 1]] G compassref11_Pots.code [1, 1, 0, 1, 0, 0] [X1] (compassref11_Pots.rq E K) (compassref11_Pots.f1 pot1p pot1n pot1c g2 v5) H = compassref11_Pots.b1_t  pot1p pot1n pot1c g2 v5 X1 E H K := fun G => by kernel_rfl
  exact nodeR_imp compassref11_Pots.nok rfl ((k1 _).mpr h)
/-! ### compass/compassref12.Has (90) -/
noncomputable def compassref12_Has.A : An := { live := [(0, [0, 1]), (1, [0, 1]), (2, [0, 1, 5]), (3, [0, 1, 5]), (4, [0, 1, 5]), (5, []), (6, [])], ord := [], stb := [], pre := [] }
noncomputable def compassref12_Has.code : Code := bodyOf Go.Proofs.Try.f90
theorem compassref12_Has.ok : okCode compassref12_Has.A 18 compassref12_Has.code = true := by kernel_rfl
def compassref12_Has.rq (E : Value → Hp → Prop) (K : Bool → Hp → Prop) : Ex → Fr → Hp → Prop := retQ T0 [.tmp 4] [4] (fun r H => ldR (.one false [.bool]) r fun u => K (asB u) H) E
def compassref12_Has.run (list0p : Option Addr) (list0n : Nat) (list0c : Nat) (x1 : Int) (E : Value → Hp → Prop) (H : Hp) (K : Bool → Hp → Prop) : Prop := nodeM P0 T0 compassref12_Has.A compassref12_Has.code [] [] (compassref12_Has.rq E K) (argF 0 [.slice list0p list0n list0c, .int .i64 x1]) H
theorem compassref12_Has.of {list0p : Option Addr} {list0n : Nat} {list0c : Nat} {x1 : Int} {E : Value → Hp → Prop} {H : Hp} {K : Bool → Hp → Prop} (h : compassref12_Has.run list0p list0n list0c x1 E H K) : compassref12_Has.call list0p list0n list0c x1 E H K :=
  callW_of T0_ok P0_mixed (A := compassref12_Has.A) (fn := Go.Proofs.Try.f90) Go.Proofs.Try.func90 rfl compassref12_Has.ok rfl h
noncomputable def compassref12_Has.f1 (list0p : Option Addr) (list0n : Nat) (list0c : Nat) (x1 : Int) (i5 : Int) : Fr := [(0, .slice list0p list0n list0c), (1, .int .i64 x1), (5, .int .i64 i5)]
def compassref12_Has.l1 (list0p : Option Addr) (list0n : Nat) (list0c : Nat) (x1 : Int) (i5 : Int)  (E : Value → Hp → Prop) (H : Hp) (K : Bool → Hp → Prop) : Prop := nodeM P0 T0 compassref12_Has.A compassref12_Has.code [1, 0, 1, 0] [] (compassref12_Has.rq E K) (compassref12_Has.f1 list0p list0n list0c x1 i5) H
def compassref12_Has.b1 (list0p : Option Addr) (list0n : Nat) (list0c : Nat) (x1 : Int) (i5 : Int)  (X1 : Fr → Hp → Prop) (E : Value → Hp → Prop) (H : Hp) (K : Bool → Hp → Prop) : Prop := nodeM P0 T0 compassref12_Has.A compassref12_Has.code [1, 0, 1, 0, 0] [X1] (compassref12_Has.rq E K) (compassref12_Has.f1 list0p list0n list0c x1 i5) H
theorem compassref12_Has.l1_rule { E : Value → Hp → Prop} {K : Bool → Hp → Prop} (I : (Option Addr) → Nat → Nat → Int → Int → Hp → Prop) (μ : (Option Addr) → Nat → Nat → Int → Int → Hp → Nat)
    (h : ∀ list0p list0n list0c x1 i5 H, I list0p list0n list0c x1 i5 H → ∀ X : Fr → Hp → Prop, (∀ list0p' list0n' list0c' x1' i5' H', I list0p' list0n' list0c' x1' i5' H' → μ list0p' list0n' list0c' x1' i5' H' < μ list0p list0n list0c x1 i5 H → X (compassref12_Has.f1 list0p' list0n' list0c' x1' i5') H') → compassref12_Has.b1 list0p list0n list0c x1 i5  X E H K)
    {list0p : Option Addr} {list0n : Nat} {list0c : Nat} {x1 : Int} {i5 : Int} {H : Hp} (hI : I list0p list0n list0c x1 i5 H) : compassref12_Has.l1 list0p list0n list0c x1 i5  E H K :=
  loop_rule (S := (Option Addr) × Nat × Nat × Int × Int) (fun s => compassref12_Has.f1 (s.1) (s.2.1) (s.2.2.1) (s.2.2.2.1) (s.2.2.2.2)) (fun s H => I (s.1) (s.2.1) (s.2.2.1) (s.2.2.2.1) (s.2.2.2.2) H) (fun s H => μ (s.1) (s.2.1) (s.2.2.1) (s.2.2.2.1) (s.2.2.2.2) H) (fun s H hI X hX => h (s.1) (s.2.1) (s.2.2.1) (s.2.2.2.1) (s.2.2.2.2) H hI X fun list0p' list0n' list0c' x1' i5' H' hI' hlt => hX (list0p', list0n', list0c', x1', i5') H' hI' hlt) (s := (list0p, list0n, list0c, x1, i5)) rfl hI
theorem compassref12_Has.nok : nodesOk compassref12_Has.code [[0, 1, 0, 1]] = true := by kernel_rfl
def compassref12_Has.run_t (l1 : (Option Addr) → Nat → Nat → Int → Int → Hp → Prop) (list0p : Option Addr) (list0n : Nat) (list0c : Nat) (x1 : Int)  (E : Value → Hp → Prop) (H : Hp) (K : Bool → Hp → Prop) : Prop :=
  l1 list0p list0n list0c x1 0 H
theorem compassref12_Has.run_eq {list0p : Option Addr} {list0n : Nat} {list0c : Nat} {x1 : Int} { E : Value → Hp → Prop} {H : Hp} {K : Bool → Hp → Prop} (h : compassref12_Has.run_t (fun list0p list0n list0c x1 i5 H => compassref12_Has.l1 list0p list0n list0c x1 i5  E H K) list0p list0n list0c x1  E H K) : compassref12_Has.run list0p list0n list0c x1  E H K := by
  have k1 : ∀ G : List Nat → Fr → Hp → Prop, nodeR P0 T0 compassref12_Has.A [[0, 1, 0, 1]] G compassref12_Has.code [] [] (compassref12_Has.rq E K) (argF 0 [.slice list0p list0n list0c, .int .i64 x1]) H = compassref12_Has.run_t (fun list0p list0n list0c x1 i5 H => G [0, 1, 0, 1] [(0, .slice list0p list0n list0c), (1, .int .i64 x1), (5, .int .i64 i5)] H) list0p list0n list0c x1  E H K := fun G => by kernel_rfl
  have k2 : compassref12_Has.run_t (fun list0p list0n list0c x1 i5 H => compassref12_Has.l1 list0p list0n list0c x1 i5  E H K) list0p list0n list0c x1  E H K = compassref12_Has.run_t (fun list0p list0n list0c x1 i5 H => (fun q F H => nodeM P0 T0 compassref12_Has.A compassref12_Has.code q.reverse [] (compassref12_Has.rq E K) F H) [0, 1, 0, 1] [(0, .slice list0p list0n list0c), (1, .int .i64 x1), (5, .int .i64 i5)] H) list0p list0n list0c x1  E H K := by kernel_rfl
  exact nodeR_imp compassref12_Has.nok rfl ((k1 _).mpr (k2.mp h))
def compassref12_Has.b1_t  (list0p : Option Addr) (list0n : Nat) (list0c : Nat) (x1 : Int) (i5 : Int) (X1 : Fr → Hp → Prop) (E : Value → Hp → Prop) (H : Hp) (K : Bool → Hp → Prop) : Prop :=
  bcase (decide ((i5 : Int) < (list0n : Int))) (
  ix list0p list0n i5 1 fun b_1 o_1 =>
  ldI .i64 (H.get b_1 o_1) fun x_1 =>
  bcase (decide ((x_1 : Int) = x1)) (
  K true H)
  (X1 (compassref12_Has.f1 list0p list0n list0c x1 (IntKind.wrap .i64 (i5 + 1))) H))
  (K false H)
theorem compassref12_Has.b1_eq {list0p : Option Addr} {list0n : Nat} {list0c : Nat} {x1 : Int} {i5 : Int} {X1 : Fr → Hp → Prop} { E : Value → Hp → Prop} {H : Hp} {K : Bool → Hp → Prop} (h : compassref12_Has.b1_t  list0p list0n list0c x1 i5 X1 E H K) : compassref12_Has.b1 list0p list0n list0c x1 i5 X1 E H K := by
  have k1 : ∀ G : List Nat → Fr → Hp → Prop, nodeR P0 T0 compassref12_Has.A [[0, 1, 0, 1]] G compassref12_Has.code [1, 0, 1, 0, 0] [X1] (compassref12_Has.rq E K) (compassref12_Has.f1 list0p list0n list0c x1 i5) H = compassref12_Has.b1_t  list0p list0n list0c x1 i5 X1 E H K := fun G => by kernel_rfl
  exact nodeR_imp compassref12_Has.nok rfl ((k1 _).mpr h)
end Go.Mz
