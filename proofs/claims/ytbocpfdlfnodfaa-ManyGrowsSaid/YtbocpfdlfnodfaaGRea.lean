/-
  The shallow texts of functions (Rea), each with a kernel-checked equation to the translated code. It proves nothing of the program by itself.
-/
import Derived.Test.YtbocpfdlfnodfaaTab
set_option linter.unusedVariables false
set_option maxRecDepth 100000
namespace Go.Mz
/-! ### compass/compassref12.Taken (14) -/
noncomputable def compassref12_Taken.A : An := { live := [(0, [0, 1, 2]), (1, [1, 2, 3]), (2, []), (3, [1, 2, 3]), (4, [1, 2, 3, 7]), (5, [1, 2, 3, 7]), (6, [1, 2, 3, 7]), (7, []), (8, [1, 2, 3]), (9, [1, 2, 3, 8]), (10, [1, 2, 3, 8]), (11, [1, 2, 3, 8]), (12, []), (13, [])], ord := [(6, [0, 1, 2, 3, 4, 5, 6, 7, 8, 9, 10, 11, 12, 13, 14, 15, 16, 17, 18]), (11, [0, 1, 2, 4, 5, 6, 7, 3, 8])], stb := [(11, [(3, [7])])], pre := [(6, [[], [0], [], [], [2, 3], [2, 3, 4], [0, 1, 2, 3, 4, 5], [0, 1, 2, 3, 4, 5, 6], [0, 1, 2, 3, 4, 5, 6, 7], [], [9], [], [], [11, 12], [11, 12, 13], [9, 10, 11, 12, 13, 14], [9, 10, 11, 12, 13, 14, 15], [9, 10, 11, 12, 13, 14, 15, 16], [0, 1, 2, 3, 4, 5, 6, 7, 8, 9, 10, 11, 12, 13, 14, 15, 16, 17]]), (11, [[], [], [], [0, 1, 2], [], [], [4, 5], [4, 5, 6], [0, 1, 2, 3, 4, 5, 6, 7]])] }
noncomputable def compassref12_Taken.code : Code := bodyOf Go.Proofs.Try.f14
theorem compassref12_Taken.ok : okCode compassref12_Taken.A 55 compassref12_Taken.code = true := by kernel_rfl
def compassref12_Taken.rq (E : Value → Hp → Prop) (K : Bool → Hp → Prop) : Ex → Fr → Hp → Prop := retQ T0 [.tmp 6] [4] (fun r H => ldR (.one false [.bool]) r fun u => K (asB u) H) E
def compassref12_Taken.run (g0_Nodes : Int) (g0_Edgesp : Option Addr) (g0_Edgesn : Nat) (g0_Edgesc : Nat) (m1p : Option Addr) (m1n : Nat) (m1c : Nat) (mo2p : Option Addr) (mo2n : Nat) (mo2c : Nat) (E : Value → Hp → Prop) (H : Hp) (K : Bool → Hp → Prop) : Prop := nodeM P0 T0 compassref12_Taken.A compassref12_Taken.code [] [] (compassref12_Taken.rq E K) (argF 0 [.agg ⟨[.int .i64 g0_Nodes, .slice g0_Edgesp g0_Edgesn g0_Edgesc]⟩, .slice m1p m1n m1c, .slice mo2p mo2n mo2c]) H
theorem compassref12_Taken.of {g0_Nodes : Int} {g0_Edgesp : Option Addr} {g0_Edgesn : Nat} {g0_Edgesc : Nat} {m1p : Option Addr} {m1n : Nat} {m1c : Nat} {mo2p : Option Addr} {mo2n : Nat} {mo2c : Nat} {E : Value → Hp → Prop} {H : Hp} {K : Bool → Hp → Prop} (h : compassref12_Taken.run g0_Nodes g0_Edgesp g0_Edgesn g0_Edgesc m1p m1n m1c mo2p mo2n mo2c E H K) : compassref12_Taken.call g0_Nodes g0_Edgesp g0_Edgesn g0_Edgesc m1p m1n m1c mo2p mo2n mo2c E H K :=
  callW_of T0_ok P0_mixed (A := compassref12_Taken.A) (fn := Go.Proofs.Try.f14) Go.Proofs.Try.func14 rfl compassref12_Taken.ok rfl h
noncomputable def compassref12_Taken.f1 (m1p : Option Addr) (m1n : Nat) (m1c : Nat) (mo2p : Option Addr) (mo2n : Nat) (mo2c : Nat) (g3 : Nat) (i7 : Int) : Fr := [(1, .slice m1p m1n m1c), (2, .slice mo2p mo2n mo2c), (3, .pointer (some ⟨g3, 0, none⟩)), (7, .int .i64 i7)]
noncomputable def compassref12_Taken.f2 (m1p : Option Addr) (m1n : Nat) (m1c : Nat) (mo2p : Option Addr) (mo2n : Nat) (mo2c : Nat) (g3 : Nat) (v8 : Int) : Fr := [(1, .slice m1p m1n m1c), (2, .slice mo2p mo2n mo2c), (3, .pointer (some ⟨g3, 0, none⟩)), (8, .int .i64 v8)]
def compassref12_Taken.j1 (m1p : Option Addr) (m1n : Nat) (m1c : Nat) (mo2p : Option Addr) (mo2n : Nat) (mo2c : Nat) (g3 : Nat)  (E : Value → Hp → Prop) (H : Hp) (K : Bool → Hp → Prop) : Prop := nodeM P0 T0 compassref12_Taken.A compassref12_Taken.code [1, 1, 1] [] (compassref12_Taken.rq E K) [(1, .slice m1p m1n m1c), (2, .slice mo2p mo2n mo2c), (3, .pointer (some ⟨g3, 0, none⟩))] H
def compassref12_Taken.l1 (m1p : Option Addr) (m1n : Nat) (m1c : Nat) (mo2p : Option Addr) (mo2n : Nat) (mo2c : Nat) (g3 : Nat) (i7 : Int)  (E : Value → Hp → Prop) (H : Hp) (K : Bool → Hp → Prop) : Prop := nodeM P0 T0 compassref12_Taken.A compassref12_Taken.code [1, 1, 0, 1, 0] [] (compassref12_Taken.rq E K) (compassref12_Taken.f1 m1p m1n m1c mo2p mo2n mo2c g3 i7) H
def compassref12_Taken.b1 (m1p : Option Addr) (m1n : Nat) (m1c : Nat) (mo2p : Option Addr) (mo2n : Nat) (mo2c : Nat) (g3 : Nat) (i7 : Int)  (X1 : Fr → Hp → Prop) (E : Value → Hp → Prop) (H : Hp) (K : Bool → Hp → Prop) : Prop := nodeM P0 T0 compassref12_Taken.A compassref12_Taken.code [1, 1, 0, 1, 0, 0] [X1] (compassref12_Taken.rq E K) (compassref12_Taken.f1 m1p m1n m1c mo2p mo2n mo2c g3 i7) H
theorem compassref12_Taken.l1_rule { E : Value → Hp → Prop} {K : Bool → Hp → Prop} (I : (Option Addr) → Nat → Nat → (Option Addr) → Nat → Nat → Nat → Int → Hp → Prop) (μ : (Option Addr) → Nat → Nat → (Option Addr) → Nat → Nat → Nat → Int → Hp → Nat)
    (h : ∀ m1p m1n m1c mo2p mo2n mo2c g3 i7 H, I m1p m1n m1c mo2p mo2n mo2c g3 i7 H → ∀ X : Fr → Hp → Prop, (∀ m1p' m1n' m1c' mo2p' mo2n' mo2c' g3' i7' H', I m1p' m1n' m1c' mo2p' mo2n' mo2c' g3' i7' H' → μ m1p' m1n' m1c' mo2p' mo2n' mo2c' g3' i7' H' < μ m1p m1n m1c mo2p mo2n mo2c g3 i7 H → X (compassref12_Taken.f1 m1p' m1n' m1c' mo2p' mo2n' mo2c' g3' i7') H') → compassref12_Taken.b1 m1p m1n m1c mo2p mo2n mo2c g3 i7  X E H K)
    {m1p : Option Addr} {m1n : Nat} {m1c : Nat} {mo2p : Option Addr} {mo2n : Nat} {mo2c : Nat} {g3 : Nat} {i7 : Int} {H : Hp} (hI : I m1p m1n m1c mo2p mo2n mo2c g3 i7 H) : compassref12_Taken.l1 m1p m1n m1c mo2p mo2n mo2c g3 i7  E H K :=
  loop_rule (S := (Option Addr) × Nat × Nat × (Option Addr) × Nat × Nat × Nat × Int) (fun s => compassref12_Taken.f1 (s.1) (s.2.1) (s.2.2.1) (s.2.2.2.1) (s.2.2.2.2.1) (s.2.2.2.2.2.1) (s.2.2.2.2.2.2.1) (s.2.2.2.2.2.2.2)) (fun s H => I (s.1) (s.2.1) (s.2.2.1) (s.2.2.2.1) (s.2.2.2.2.1) (s.2.2.2.2.2.1) (s.2.2.2.2.2.2.1) (s.2.2.2.2.2.2.2) H) (fun s H => μ (s.1) (s.2.1) (s.2.2.1) (s.2.2.2.1) (s.2.2.2.2.1) (s.2.2.2.2.2.1) (s.2.2.2.2.2.2.1) (s.2.2.2.2.2.2.2) H) (fun s H hI X hX => h (s.1) (s.2.1) (s.2.2.1) (s.2.2.2.1) (s.2.2.2.2.1) (s.2.2.2.2.2.1) (s.2.2.2.2.2.2.1) (s.2.2.2.2.2.2.2) H hI X fun m1p' m1n' m1c' mo2p' mo2n' mo2c' g3' i7' H' hI' hlt => hX (m1p', m1n', m1c', mo2p', mo2n', mo2c', g3', i7') H' hI' hlt) (s := (m1p, m1n, m1c, mo2p, mo2n, mo2c, g3, i7)) rfl hI
def compassref12_Taken.l2 (m1p : Option Addr) (m1n : Nat) (m1c : Nat) (mo2p : Option Addr) (mo2n : Nat) (mo2c : Nat) (g3 : Nat) (v8 : Int)  (E : Value → Hp → Prop) (H : Hp) (K : Bool → Hp → Prop) : Prop := nodeM P0 T0 compassref12_Taken.A compassref12_Taken.code [1, 1, 1, 0, 1, 0] [] (compassref12_Taken.rq E K) (compassref12_Taken.f2 m1p m1n m1c mo2p mo2n mo2c g3 v8) H
def compassref12_Taken.b2 (m1p : Option Addr) (m1n : Nat) (m1c : Nat) (mo2p : Option Addr) (mo2n : Nat) (mo2c : Nat) (g3 : Nat) (v8 : Int)  (X1 : Fr → Hp → Prop) (E : Value → Hp → Prop) (H : Hp) (K : Bool → Hp → Prop) : Prop := nodeM P0 T0 compassref12_Taken.A compassref12_Taken.code [1, 1, 1, 0, 1, 0, 0] [X1] (compassref12_Taken.rq E K) (compassref12_Taken.f2 m1p m1n m1c mo2p mo2n mo2c g3 v8) H
theorem compassref12_Taken.l2_rule { E : Value → Hp → Prop} {K : Bool → Hp → Prop} (I : (Option Addr) → Nat → Nat → (Option Addr) → Nat → Nat → Nat → Int → Hp → Prop) (μ : (Option Addr) → Nat → Nat → (Option Addr) → Nat → Nat → Nat → Int → Hp → Nat)
    (h : ∀ m1p m1n m1c mo2p mo2n mo2c g3 v8 H, I m1p m1n m1c mo2p mo2n mo2c g3 v8 H → ∀ X : Fr → Hp → Prop, (∀ m1p' m1n' m1c' mo2p' mo2n' mo2c' g3' v8' H', I m1p' m1n' m1c' mo2p' mo2n' mo2c' g3' v8' H' → μ m1p' m1n' m1c' mo2p' mo2n' mo2c' g3' v8' H' < μ m1p m1n m1c mo2p mo2n mo2c g3 v8 H → X (compassref12_Taken.f2 m1p' m1n' m1c' mo2p' mo2n' mo2c' g3' v8') H') → compassref12_Taken.b2 m1p m1n m1c mo2p mo2n mo2c g3 v8  X E H K)
    {m1p : Option Addr} {m1n : Nat} {m1c : Nat} {mo2p : Option Addr} {mo2n : Nat} {mo2c : Nat} {g3 : Nat} {v8 : Int} {H : Hp} (hI : I m1p m1n m1c mo2p mo2n mo2c g3 v8 H) : compassref12_Taken.l2 m1p m1n m1c mo2p mo2n mo2c g3 v8  E H K :=
  loop_rule (S := (Option Addr) × Nat × Nat × (Option Addr) × Nat × Nat × Nat × Int) (fun s => compassref12_Taken.f2 (s.1) (s.2.1) (s.2.2.1) (s.2.2.2.1) (s.2.2.2.2.1) (s.2.2.2.2.2.1) (s.2.2.2.2.2.2.1) (s.2.2.2.2.2.2.2)) (fun s H => I (s.1) (s.2.1) (s.2.2.1) (s.2.2.2.1) (s.2.2.2.2.1) (s.2.2.2.2.2.1) (s.2.2.2.2.2.2.1) (s.2.2.2.2.2.2.2) H) (fun s H => μ (s.1) (s.2.1) (s.2.2.1) (s.2.2.2.1) (s.2.2.2.2.1) (s.2.2.2.2.2.1) (s.2.2.2.2.2.2.1) (s.2.2.2.2.2.2.2) H) (fun s H hI X hX => h (s.1) (s.2.1) (s.2.2.1) (s.2.2.2.1) (s.2.2.2.2.1) (s.2.2.2.2.2.1) (s.2.2.2.2.2.2.1) (s.2.2.2.2.2.2.2) H hI X fun m1p' m1n' m1c' mo2p' mo2n' mo2c' g3' v8' H' hI' hlt => hX (m1p', m1n', m1c', mo2p', mo2n', mo2c', g3', v8') H' hI' hlt) (s := (m1p, m1n, m1c, mo2p, mo2n, mo2c, g3, v8)) rfl hI
theorem compassref12_Taken.nok : nodesOk compassref12_Taken.code [[0, 1, 0, 1, 1], [1, 1, 1], [0, 1, 0, 1, 1, 1]] = true := by kernel_rfl
def compassref12_Taken.run_t (l1 : (Option Addr) → Nat → Nat → (Option Addr) → Nat → Nat → Nat → Int → Hp → Prop) (g0_Nodes : Int) (g0_Edgesp : Option Addr) (g0_Edgesn : Nat) (g0_Edgesc : Nat) (m1p : Option Addr) (m1n : Nat) (m1c : Nat) (mo2p : Option Addr) (mo2n : Nat) (mo2c : Nat)  (E : Value → Hp → Prop) (H : Hp) (K : Bool → Hp → Prop) : Prop :=
  nw H ⟨[.int .i64 g0_Nodes, .slice g0_Edgesp g0_Edgesn g0_Edgesc], 24⟩ fun b_1 H_1 =>
  ldS (H_1.get b_1 1) fun x_1p x_1n x_1c =>
  compassref12_Rising.call m1p m1n m1c (x_1n : Int) E H_1 fun r_1 H_2 =>
  bcase ((!r_1)) (
  K false H_2)
  (l1 m1p m1n m1c mo2p mo2n mo2c b_1 0 H_2)
theorem compassref12_Taken.run_eq {g0_Nodes : Int} {g0_Edgesp : Option Addr} {g0_Edgesn : Nat} {g0_Edgesc : Nat} {m1p : Option Addr} {m1n : Nat} {m1c : Nat} {mo2p : Option Addr} {mo2n : Nat} {mo2c : Nat} { E : Value → Hp → Prop} {H : Hp} {K : Bool → Hp → Prop} (h : compassref12_Taken.run_t (fun m1p m1n m1c mo2p mo2n mo2c g3 i7 H => compassref12_Taken.l1 m1p m1n m1c mo2p mo2n mo2c g3 i7  E H K) g0_Nodes g0_Edgesp g0_Edgesn g0_Edgesc m1p m1n m1c mo2p mo2n mo2c  E H K) : compassref12_Taken.run g0_Nodes g0_Edgesp g0_Edgesn g0_Edgesc m1p m1n m1c mo2p mo2n mo2c  E H K := by
  exact nodeR_imp2 (fun G => compassref12_Taken.run_t (fun m1p m1n m1c mo2p mo2n mo2c g3 i7 H => G [0, 1, 0, 1, 1] [(1, .slice m1p m1n m1c), (2, .slice mo2p mo2n mo2c), (3, .pointer (some ⟨g3, 0, none⟩)), (7, .int .i64 i7)] H) g0_Nodes g0_Edgesp g0_Edgesn g0_Edgesc m1p m1n m1c mo2p mo2n mo2c  E H K) compassref12_Taken.nok rfl (fun G => by kernel_rfl) (Eq.mp (by kernel_rfl) h)
def compassref12_Taken.j1_t (l2 : (Option Addr) → Nat → Nat → (Option Addr) → Nat → Nat → Nat → Int → Hp → Prop) (m1p : Option Addr) (m1n : Nat) (m1c : Nat) (mo2p : Option Addr) (mo2n : Nat) (mo2c : Nat) (g3 : Nat)  (E : Value → Hp → Prop) (H : Hp) (K : Bool → Hp → Prop) : Prop :=
  l2 m1p m1n m1c mo2p mo2n mo2c g3 0 H
theorem compassref12_Taken.j1_eq {m1p : Option Addr} {m1n : Nat} {m1c : Nat} {mo2p : Option Addr} {mo2n : Nat} {mo2c : Nat} {g3 : Nat} { E : Value → Hp → Prop} {H : Hp} {K : Bool → Hp → Prop} (h : compassref12_Taken.j1_t (fun m1p m1n m1c mo2p mo2n mo2c g3 v8 H => compassref12_Taken.l2 m1p m1n m1c mo2p mo2n mo2c g3 v8  E H K) m1p m1n m1c mo2p mo2n mo2c g3  E H K) : compassref12_Taken.j1 m1p m1n m1c mo2p mo2n mo2c g3  E H K := by
  exact nodeR_imp2 (fun G => compassref12_Taken.j1_t (fun m1p m1n m1c mo2p mo2n mo2c g3 v8 H => G [0, 1, 0, 1, 1, 1] [(1, .slice m1p m1n m1c), (2, .slice mo2p mo2n mo2c), (3, .pointer (some ⟨g3, 0, none⟩)), (8, .int .i64 v8)] H) m1p m1n m1c mo2p mo2n mo2c g3  E H K) compassref12_Taken.nok rfl (fun G => by kernel_rfl) (Eq.mp (by kernel_rfl) h)
def compassref12_Taken.b1_t (j1 : (Option Addr) → Nat → Nat → (Option Addr) → Nat → Nat → Nat → Hp → Prop) (m1p : Option Addr) (m1n : Nat) (m1c : Nat) (mo2p : Option Addr) (mo2n : Nat) (mo2c : Nat) (g3 : Nat) (i7 : Int) (X1 : Fr → Hp → Prop) (E : Value → Hp → Prop) (H : Hp) (K : Bool → Hp → Prop) : Prop :=
  bcase (decide ((i7 : Int) < (m1n : Int))) (
  ldS (H.get g3 1) fun x_1p x_1n x_1c =>
  ix m1p m1n i7 1 fun b_1 o_1 =>
  ldI .i64 (H.get b_1 o_1) fun x_2 =>
  ix x_1p x_1n x_2 4 fun b_2 o_2 =>
  ldI .i64 (H.get b_2 o_2) fun x_3 =>
  ldS (H.get g3 1) fun x_4p x_4n x_4c =>
  ix m1p m1n i7 1 fun b_3 o_3 =>
  ldI .i64 (H.get b_3 o_3) fun x_5 =>
  ix x_4p x_4n x_5 4 fun b_4 o_4 =>
  ldI .i64 (H.get b_4 (o_4 + 1)) fun x_6 =>
  bcase (decide ((x_3 : Int) = x_6)) (
  K false H)
  (X1 (compassref12_Taken.f1 m1p m1n m1c mo2p mo2n mo2c g3 (IntKind.wrap .i64 (i7 + 1))) H))
  (j1 m1p m1n m1c mo2p mo2n mo2c g3 H)
theorem compassref12_Taken.b1_eq {m1p : Option Addr} {m1n : Nat} {m1c : Nat} {mo2p : Option Addr} {mo2n : Nat} {mo2c : Nat} {g3 : Nat} {i7 : Int} {X1 : Fr → Hp → Prop} { E : Value → Hp → Prop} {H : Hp} {K : Bool → Hp → Prop} (h : compassref12_Taken.b1_t (fun m1p m1n m1c mo2p mo2n mo2c g3 H => compassref12_Taken.j1 m1p m1n m1c mo2p mo2n mo2c g3  E H K) m1p m1n m1c mo2p mo2n mo2c g3 i7 X1 E H K) : compassref12_Taken.b1 m1p m1n m1c mo2p mo2n mo2c g3 i7 X1 E H K := by
  exact nodeR_imp2 (fun G => compassref12_Taken.b1_t (fun m1p m1n m1c mo2p mo2n mo2c g3 H => G [1, 1, 1] [(1, .slice m1p m1n m1c), (2, .slice mo2p mo2n mo2c), (3, .pointer (some ⟨g3, 0, none⟩))] H) m1p m1n m1c mo2p mo2n mo2c g3 i7 X1 E H K) compassref12_Taken.nok rfl (fun G => by kernel_rfl) (Eq.mp (by kernel_rfl) h)
def compassref12_Taken.b2_t  (m1p : Option Addr) (m1n : Nat) (m1c : Nat) (mo2p : Option Addr) (mo2n : Nat) (mo2c : Nat) (g3 : Nat) (v8 : Int) (X1 : Fr → Hp → Prop) (E : Value → Hp → Prop) (H : Hp) (K : Bool → Hp → Prop) : Prop :=
  ldI .i64 (H.get g3 0) fun x_1 =>
  bcase (decide ((v8 : Int) < x_1)) (
  ldI .i64 (H.get g3 0) fun x_2 =>
  ldS (H.get g3 1) fun x_3p x_3n x_3c =>
  ix mo2p mo2n v8 1 fun b_1 o_1 =>
  ldI .i64 (H.get b_1 o_1) fun x_4 =>
  compassref12_At.call x_2 x_3p x_3n x_3c m1p m1n m1c v8 E H fun r_1 H_1 =>
  (ldI .i64 (H_1.get b_1 o_1) fun x_5 =>
  Value.int .i64 x_5 = Value.int .i64 x_4) ∧
  bcase (decide ((x_4 : Int) < r_1)) (
  K false H_1)
  (X1 (compassref12_Taken.f2 m1p m1n m1c mo2p mo2n mo2c g3 (IntKind.wrap .i64 (v8 + 1))) H_1))
  (K true H)
theorem compassref12_Taken.b2_eq {m1p : Option Addr} {m1n : Nat} {m1c : Nat} {mo2p : Option Addr} {mo2n : Nat} {mo2c : Nat} {g3 : Nat} {v8 : Int} {X1 : Fr → Hp → Prop} { E : Value → Hp → Prop} {H : Hp} {K : Bool → Hp → Prop} (h : compassref12_Taken.b2_t  m1p m1n m1c mo2p mo2n mo2c g3 v8 X1 E H K) : compassref12_Taken.b2 m1p m1n m1c mo2p mo2n mo2c g3 v8 X1 E H K := by
  exact nodeR_imp2 (fun _ => compassref12_Taken.b2_t  m1p m1n m1c mo2p mo2n mo2c g3 v8 X1 E H K) compassref12_Taken.nok rfl (fun G => by kernel_rfl) h
/-! ### compass/compassref12.Rising (25) -/
noncomputable def compassref12_Rising.A : An := { live := [(0, [0, 1]), (1, [0, 1]), (2, [0, 1, 5]), (3, [0, 1, 5]), (4, [0, 1, 5]), (5, []), (6, [])], ord := [(4, [0, 1, 2, 3, 4, 5, 6, 7, 8, 9, 10, 11, 12, 13, 14, 15, 16, 17, 18, 19, 20, 21, 22, 23, 24, 25, 26, 27, 28])], stb := [], pre := [(4, [[], [], [0, 1], [0, 1, 2], [0, 1, 2, 3], [0, 1, 2, 3, 4], [0, 1, 2, 3, 4, 5], [0, 1, 2, 3, 4, 5], [0, 1, 2, 3, 4, 5, 6, 7], [0, 1, 2, 3, 4, 5, 6, 7, 8], [0, 1, 2, 3, 4, 5], [0, 1, 2, 3, 4, 5, 6, 7, 8, 9, 10], [0, 1, 2, 3, 4, 5, 6, 7, 8, 9, 10, 11], [0, 1, 2, 3, 4, 5, 6, 7, 8, 9, 10, 11, 12], [0, 1, 2, 3, 4, 5, 6, 7, 8, 9, 10, 11, 12, 13], [0, 1, 2, 3, 4, 5, 6, 7, 8, 9, 10, 11, 12, 13, 14], [0, 1, 2, 3, 4, 5, 6, 7, 8, 9, 10, 11, 12, 13, 14, 15], [0, 1, 2, 3, 4, 5, 6, 7, 8, 9, 10, 11, 12, 13, 14, 15, 16], [0, 1, 2, 3, 4, 5, 6, 7, 8, 9, 10, 11, 12, 13, 14, 15, 16], [0, 1, 2, 3, 4, 5, 6, 7, 8, 9, 10, 11, 12, 13, 14, 15, 16, 17, 18], [0, 1, 2, 3, 4, 5, 6, 7, 8, 9, 10, 11, 12, 13, 14, 15, 16, 17, 18, 19], [0, 1, 2, 3, 4, 5, 6, 7, 8, 9, 10, 11, 12, 13, 14, 15, 16], [0, 1, 2, 3, 4, 5, 6, 7, 8, 9, 10, 11, 12, 13, 14, 15, 16], [0, 1, 2, 3, 4, 5, 6, 7, 8, 9, 10, 11, 12, 13, 14, 15, 16, 22], [0, 1, 2, 3, 4, 5, 6, 7, 8, 9, 10, 11, 12, 13, 14, 15, 16, 21, 22, 23], [0, 1, 2, 3, 4, 5, 6, 7, 8, 9, 10, 11, 12, 13, 14, 15, 16, 21, 22, 23, 24], [0, 1, 2, 3, 4, 5, 6, 7, 8, 9, 10, 11, 12, 13, 14, 15, 16, 17, 18, 19, 20, 21, 22, 23, 24, 25], [0, 1, 2, 3, 4, 5, 6, 7, 8, 9, 10, 11, 12, 13, 14, 15, 16, 17, 18, 19, 20, 21, 22, 23, 24, 25, 26], [0, 1, 2, 3, 4, 5, 6, 7, 8, 9, 10, 11, 12, 13, 14, 15, 16, 17, 18, 19, 20, 21, 22, 23, 24, 25, 26, 27]])] }
noncomputable def compassref12_Rising.code : Code := bodyOf Go.Proofs.Try.f25
theorem compassref12_Rising.ok : okCode compassref12_Rising.A 41 compassref12_Rising.code = true := by kernel_rfl
def compassref12_Rising.rq (E : Value → Hp → Prop) (K : Bool → Hp → Prop) : Ex → Fr → Hp → Prop := retQ T0 [.tmp 4] [4] (fun r H => ldR (.one false [.bool]) r fun u => K (asB u) H) E
def compassref12_Rising.run (li0p : Option Addr) (li0n : Nat) (li0c : Nat) (n1 : Int) (E : Value → Hp → Prop) (H : Hp) (K : Bool → Hp → Prop) : Prop := nodeM P0 T0 compassref12_Rising.A compassref12_Rising.code [] [] (compassref12_Rising.rq E K) (argF 0 [.slice li0p li0n li0c, .int .i64 n1]) H
theorem compassref12_Rising.of {li0p : Option Addr} {li0n : Nat} {li0c : Nat} {n1 : Int} {E : Value → Hp → Prop} {H : Hp} {K : Bool → Hp → Prop} (h : compassref12_Rising.run li0p li0n li0c n1 E H K) : compassref12_Rising.call li0p li0n li0c n1 E H K :=
  callW_of T0_ok P0_mixed (A := compassref12_Rising.A) (fn := Go.Proofs.Try.f25) Go.Proofs.Try.func25 rfl compassref12_Rising.ok rfl h
noncomputable def compassref12_Rising.f1 (li0p : Option Addr) (li0n : Nat) (li0c : Nat) (n1 : Int) (i5 : Int) : Fr := [(0, .slice li0p li0n li0c), (1, .int .i64 n1), (5, .int .i64 i5)]
def compassref12_Rising.j1 (li0p : Option Addr) (li0n : Nat) (li0c : Nat) (n1 : Int) (i5 : Int) (X1 : Fr → Hp → Prop) (E : Value → Hp → Prop) (H : Hp) (K : Bool → Hp → Prop) : Prop := nodeM P0 T0 compassref12_Rising.A compassref12_Rising.code [1, 0, 1, 0, 0, 1, 1] [X1] (compassref12_Rising.rq E K) [(0, .slice li0p li0n li0c), (1, .int .i64 n1), (5, .int .i64 i5)] H
def compassref12_Rising.l1 (li0p : Option Addr) (li0n : Nat) (li0c : Nat) (n1 : Int) (i5 : Int)  (E : Value → Hp → Prop) (H : Hp) (K : Bool → Hp → Prop) : Prop := nodeM P0 T0 compassref12_Rising.A compassref12_Rising.code [1, 0, 1, 0] [] (compassref12_Rising.rq E K) (compassref12_Rising.f1 li0p li0n li0c n1 i5) H
def compassref12_Rising.b1 (li0p : Option Addr) (li0n : Nat) (li0c : Nat) (n1 : Int) (i5 : Int)  (X1 : Fr → Hp → Prop) (E : Value → Hp → Prop) (H : Hp) (K : Bool → Hp → Prop) : Prop := nodeM P0 T0 compassref12_Rising.A compassref12_Rising.code [1, 0, 1, 0, 0] [X1] (compassref12_Rising.rq E K) (compassref12_Rising.f1 li0p li0n li0c n1 i5) H
theorem compassref12_Rising.l1_rule { E : Value → Hp → Prop} {K : Bool → Hp → Prop} (I : (Option Addr) → Nat → Nat → Int → Int → Hp → Prop) (μ : (Option Addr) → Nat → Nat → Int → Int → Hp → Nat)
    (h : ∀ li0p li0n li0c n1 i5 H, I li0p li0n li0c n1 i5 H → ∀ X : Fr → Hp → Prop, (∀ li0p' li0n' li0c' n1' i5' H', I li0p' li0n' li0c' n1' i5' H' → μ li0p' li0n' li0c' n1' i5' H' < μ li0p li0n li0c n1 i5 H → X (compassref12_Rising.f1 li0p' li0n' li0c' n1' i5') H') → compassref12_Rising.b1 li0p li0n li0c n1 i5  X E H K)
    {li0p : Option Addr} {li0n : Nat} {li0c : Nat} {n1 : Int} {i5 : Int} {H : Hp} (hI : I li0p li0n li0c n1 i5 H) : compassref12_Rising.l1 li0p li0n li0c n1 i5  E H K :=
  loop_rule (S := (Option Addr) × Nat × Nat × Int × Int) (fun s => compassref12_Rising.f1 (s.1) (s.2.1) (s.2.2.1) (s.2.2.2.1) (s.2.2.2.2)) (fun s H => I (s.1) (s.2.1) (s.2.2.1) (s.2.2.2.1) (s.2.2.2.2) H) (fun s H => μ (s.1) (s.2.1) (s.2.2.1) (s.2.2.2.1) (s.2.2.2.2) H) (fun s H hI X hX => h (s.1) (s.2.1) (s.2.2.1) (s.2.2.2.1) (s.2.2.2.2) H hI X fun li0p' li0n' li0c' n1' i5' H' hI' hlt => hX (li0p', li0n', li0c', n1', i5') H' hI' hlt) (s := (li0p, li0n, li0c, n1, i5)) rfl hI
theorem compassref12_Rising.nok : nodesOk compassref12_Rising.code [[0, 1, 0, 1], [1, 1, 0, 0, 1, 0, 1]] = true := by kernel_rfl
def compassref12_Rising.run_t (l1 : (Option Addr) → Nat → Nat → Int → Int → Hp → Prop) (li0p : Option Addr) (li0n : Nat) (li0c : Nat) (n1 : Int)  (E : Value → Hp → Prop) (H : Hp) (K : Bool → Hp → Prop) : Prop :=
  l1 li0p li0n li0c n1 0 H
theorem compassref12_Rising.run_eq {li0p : Option Addr} {li0n : Nat} {li0c : Nat} {n1 : Int} { E : Value → Hp → Prop} {H : Hp} {K : Bool → Hp → Prop} (h : compassref12_Rising.run_t (fun li0p li0n li0c n1 i5 H => compassref12_Rising.l1 li0p li0n li0c n1 i5  E H K) li0p li0n li0c n1  E H K) : compassref12_Rising.run li0p li0n li0c n1  E H K := by
  exact nodeR_imp2 (fun G => compassref12_Rising.run_t (fun li0p li0n li0c n1 i5 H => G [0, 1, 0, 1] [(0, .slice li0p li0n li0c), (1, .int .i64 n1), (5, .int .i64 i5)] H) li0p li0n li0c n1  E H K) compassref12_Rising.nok rfl (fun G => by kernel_rfl) (Eq.mp (by kernel_rfl) h)
def compassref12_Rising.j1_t  (li0p : Option Addr) (li0n : Nat) (li0c : Nat) (n1 : Int) (i5 : Int) (X1 : Fr → Hp → Prop) (E : Value → Hp → Prop) (H : Hp) (K : Bool → Hp → Prop) : Prop :=
  X1 (compassref12_Rising.f1 li0p li0n li0c n1 (IntKind.wrap .i64 (i5 + 1))) H
theorem compassref12_Rising.j1_eq {li0p : Option Addr} {li0n : Nat} {li0c : Nat} {n1 : Int} {i5 : Int} {X1 : Fr → Hp → Prop} { E : Value → Hp → Prop} {H : Hp} {K : Bool → Hp → Prop} (h : compassref12_Rising.j1_t  li0p li0n li0c n1 i5 X1 E H K) : compassref12_Rising.j1 li0p li0n li0c n1 i5 X1 E H K := by
  exact nodeR_imp2 (fun _ => compassref12_Rising.j1_t  li0p li0n li0c n1 i5 X1 E H K) compassref12_Rising.nok rfl (fun G => by kernel_rfl) h
def compassref12_Rising.b1_t (j1 : (Option Addr) → Nat → Nat → Int → Int → Hp → Prop) (li0p : Option Addr) (li0n : Nat) (li0c : Nat) (n1 : Int) (i5 : Int) (X1 : Fr → Hp → Prop) (E : Value → Hp → Prop) (H : Hp) (K : Bool → Hp → Prop) : Prop :=
  bcase (decide ((i5 : Int) < (li0n : Int))) (
  ix li0p li0n i5 1 fun b_1 o_1 =>
  ldI .i64 (H.get b_1 o_1) fun x_1 =>
  bcase (decide ((x_1 : Int) < 0)) (
  K false H)
  (ix li0p li0n i5 1 fun b_2 o_2 =>
  ldI .i64 (H.get b_2 o_2) fun x_2 =>
  bcase (decide ((n1 : Int) ≤ x_2)) (
  K false H)
  (bcase (decide ((0 : Int) < i5)) (
  ix li0p li0n i5 1 fun b_3 o_3 =>
  ldI .i64 (H.get b_3 o_3) fun x_3 =>
  ix li0p li0n (IntKind.wrap .i64 (i5 - 1)) 1 fun b_4 o_4 =>
  ldI .i64 (H.get b_4 o_4) fun x_4 =>
  bcase (decide ((x_3 : Int) ≤ x_4)) (
  K false H)
  (j1 li0p li0n li0c n1 i5 H))
  (j1 li0p li0n li0c n1 i5 H))))
  (K true H)
theorem compassref12_Rising.b1_eq {li0p : Option Addr} {li0n : Nat} {li0c : Nat} {n1 : Int} {i5 : Int} {X1 : Fr → Hp → Prop} { E : Value → Hp → Prop} {H : Hp} {K : Bool → Hp → Prop} (h : compassref12_Rising.b1_t (fun li0p li0n li0c n1 i5 H => compassref12_Rising.j1 li0p li0n li0c n1 i5 X1 E H K) li0p li0n li0c n1 i5 X1 E H K) : compassref12_Rising.b1 li0p li0n li0c n1 i5 X1 E H K := by
  exact nodeR_imp2 (fun G => compassref12_Rising.b1_t (fun li0p li0n li0c n1 i5 H => G [1, 1, 0, 0, 1, 0, 1] [(0, .slice li0p li0n li0c), (1, .int .i64 n1), (5, .int .i64 i5)] H) li0p li0n li0c n1 i5 X1 E H K) compassref12_Rising.nok rfl (fun G => by kernel_rfl) (Eq.mp (by kernel_rfl) h)
/-! ### compass/compassref12.At (27) -/
noncomputable def compassref12_At.A : An := { live := [(0, [0, 1, 2]), (1, [1, 2, 3]), (2, [1, 2, 3, 7]), (3, [1, 2, 3, 7, 8]), (4, [1, 2, 3, 7, 8]), (5, [1, 2, 3, 7, 8]), (6, [1, 2, 3, 7, 8]), (7, [1, 2, 3, 7, 8]), (8, [1, 2, 3, 7, 8]), (9, [7])], ord := [(5, [0, 1, 2, 3, 4, 5, 6, 7, 8, 9, 10]), (7, [0, 1, 2, 3, 4, 5, 6, 7, 8, 9, 10])], stb := [], pre := [(5, [[], [0], [], [], [2, 3], [2, 3, 4], [0, 1, 2, 3, 4, 5], [0, 1, 2, 3, 4, 5, 6], [0, 1, 2, 3, 4, 5, 6, 7], [], [0, 1, 2, 3, 4, 5, 6, 7, 8, 9]]), (7, [[], [0], [], [], [2, 3], [2, 3, 4], [0, 1, 2, 3, 4, 5], [0, 1, 2, 3, 4, 5, 6], [0, 1, 2, 3, 4, 5, 6, 7], [], [0, 1, 2, 3, 4, 5, 6, 7, 8, 9]])] }
noncomputable def compassref12_At.code : Code := bodyOf Go.Proofs.Try.f27
theorem compassref12_At.ok : okCode compassref12_At.A 42 compassref12_At.code = true := by kernel_rfl
def compassref12_At.rq (E : Value → Hp → Prop) (K : Int → Hp → Prop) : Ex → Fr → Hp → Prop := retQ T0 [.tmp 6] [3] (fun r H => ldR (.one false [.i .i64]) r fun u => K (asI u) H) E
def compassref12_At.run (g0_Nodes : Int) (g0_Edgesp : Option Addr) (g0_Edgesn : Nat) (g0_Edgesc : Nat) (li1p : Option Addr) (li1n : Nat) (li1c : Nat) (v2 : Int) (E : Value → Hp → Prop) (H : Hp) (K : Int → Hp → Prop) : Prop := nodeM P0 T0 compassref12_At.A compassref12_At.code [] [] (compassref12_At.rq E K) (argF 0 [.agg ⟨[.int .i64 g0_Nodes, .slice g0_Edgesp g0_Edgesn g0_Edgesc]⟩, .slice li1p li1n li1c, .int .i64 v2]) H
theorem compassref12_At.of {g0_Nodes : Int} {g0_Edgesp : Option Addr} {g0_Edgesn : Nat} {g0_Edgesc : Nat} {li1p : Option Addr} {li1n : Nat} {li1c : Nat} {v2 : Int} {E : Value → Hp → Prop} {H : Hp} {K : Int → Hp → Prop} (h : compassref12_At.run g0_Nodes g0_Edgesp g0_Edgesn g0_Edgesc li1p li1n li1c v2 E H K) : compassref12_At.call g0_Nodes g0_Edgesp g0_Edgesn g0_Edgesc li1p li1n li1c v2 E H K :=
  callW_of T0_ok P0_mixed (A := compassref12_At.A) (fn := Go.Proofs.Try.f27) Go.Proofs.Try.func27 rfl compassref12_At.ok rfl h
noncomputable def compassref12_At.f1 (li1p : Option Addr) (li1n : Nat) (li1c : Nat) (v2 : Int) (g3 : Nat) (n7 : Int) (i8 : Int) : Fr := [(1, .slice li1p li1n li1c), (2, .int .i64 v2), (3, .pointer (some ⟨g3, 0, none⟩)), (7, .int .i64 n7), (8, .int .i64 i8)]
def compassref12_At.j1 (li1p : Option Addr) (li1n : Nat) (li1c : Nat) (v2 : Int) (g3 : Nat) (n7 : Int) (i8 : Int) (X1 : Fr → Hp → Prop) (E : Value → Hp → Prop) (H : Hp) (K : Int → Hp → Prop) : Prop := nodeM P0 T0 compassref12_At.A compassref12_At.code [1, 1, 0, 1, 0, 0, 1, 0, 0, 1] [X1] (compassref12_At.rq E K) [(1, .slice li1p li1n li1c), (2, .int .i64 v2), (3, .pointer (some ⟨g3, 0, none⟩)), (7, .int .i64 n7), (8, .int .i64 i8)] H
def compassref12_At.j2 (li1p : Option Addr) (li1n : Nat) (li1c : Nat) (v2 : Int) (g3 : Nat) (n7 : Int) (i8 : Int) (X1 : Fr → Hp → Prop) (E : Value → Hp → Prop) (H : Hp) (K : Int → Hp → Prop) : Prop := nodeM P0 T0 compassref12_At.A compassref12_At.code [1, 1, 0, 1, 0, 0, 1, 1] [X1] (compassref12_At.rq E K) [(1, .slice li1p li1n li1c), (2, .int .i64 v2), (3, .pointer (some ⟨g3, 0, none⟩)), (7, .int .i64 n7), (8, .int .i64 i8)] H
def compassref12_At.l1 (li1p : Option Addr) (li1n : Nat) (li1c : Nat) (v2 : Int) (g3 : Nat) (n7 : Int) (i8 : Int)  (E : Value → Hp → Prop) (H : Hp) (K : Int → Hp → Prop) : Prop := nodeM P0 T0 compassref12_At.A compassref12_At.code [1, 1, 0, 1, 0] [] (compassref12_At.rq E K) (compassref12_At.f1 li1p li1n li1c v2 g3 n7 i8) H
def compassref12_At.b1 (li1p : Option Addr) (li1n : Nat) (li1c : Nat) (v2 : Int) (g3 : Nat) (n7 : Int) (i8 : Int)  (X1 : Fr → Hp → Prop) (E : Value → Hp → Prop) (H : Hp) (K : Int → Hp → Prop) : Prop := nodeM P0 T0 compassref12_At.A compassref12_At.code [1, 1, 0, 1, 0, 0] [X1] (compassref12_At.rq E K) (compassref12_At.f1 li1p li1n li1c v2 g3 n7 i8) H
theorem compassref12_At.l1_rule { E : Value → Hp → Prop} {K : Int → Hp → Prop} (I : (Option Addr) → Nat → Nat → Int → Nat → Int → Int → Hp → Prop) (μ : (Option Addr) → Nat → Nat → Int → Nat → Int → Int → Hp → Nat)
    (h : ∀ li1p li1n li1c v2 g3 n7 i8 H, I li1p li1n li1c v2 g3 n7 i8 H → ∀ X : Fr → Hp → Prop, (∀ li1p' li1n' li1c' v2' g3' n7' i8' H', I li1p' li1n' li1c' v2' g3' n7' i8' H' → μ li1p' li1n' li1c' v2' g3' n7' i8' H' < μ li1p li1n li1c v2 g3 n7 i8 H → X (compassref12_At.f1 li1p' li1n' li1c' v2' g3' n7' i8') H') → compassref12_At.b1 li1p li1n li1c v2 g3 n7 i8  X E H K)
    {li1p : Option Addr} {li1n : Nat} {li1c : Nat} {v2 : Int} {g3 : Nat} {n7 : Int} {i8 : Int} {H : Hp} (hI : I li1p li1n li1c v2 g3 n7 i8 H) : compassref12_At.l1 li1p li1n li1c v2 g3 n7 i8  E H K :=
  loop_rule (S := (Option Addr) × Nat × Nat × Int × Nat × Int × Int) (fun s => compassref12_At.f1 (s.1) (s.2.1) (s.2.2.1) (s.2.2.2.1) (s.2.2.2.2.1) (s.2.2.2.2.2.1) (s.2.2.2.2.2.2)) (fun s H => I (s.1) (s.2.1) (s.2.2.1) (s.2.2.2.1) (s.2.2.2.2.1) (s.2.2.2.2.2.1) (s.2.2.2.2.2.2) H) (fun s H => μ (s.1) (s.2.1) (s.2.2.1) (s.2.2.2.1) (s.2.2.2.2.1) (s.2.2.2.2.2.1) (s.2.2.2.2.2.2) H) (fun s H hI X hX => h (s.1) (s.2.1) (s.2.2.1) (s.2.2.2.1) (s.2.2.2.2.1) (s.2.2.2.2.2.1) (s.2.2.2.2.2.2) H hI X fun li1p' li1n' li1c' v2' g3' n7' i8' H' hI' hlt => hX (li1p', li1n', li1c', v2', g3', n7', i8') H' hI' hlt) (s := (li1p, li1n, li1c, v2, g3, n7, i8)) rfl hI
theorem compassref12_At.nok : nodesOk compassref12_At.code [[0, 1, 0, 1, 1], [1, 0, 0, 1, 0, 0, 1, 0, 1, 1], [1, 1, 0, 0, 1, 0, 1, 1]] = true := by kernel_rfl
def compassref12_At.run_t (l1 : (Option Addr) → Nat → Nat → Int → Nat → Int → Int → Hp → Prop) (g0_Nodes : Int) (g0_Edgesp : Option Addr) (g0_Edgesn : Nat) (g0_Edgesc : Nat) (li1p : Option Addr) (li1n : Nat) (li1c : Nat) (v2 : Int)  (E : Value → Hp → Prop) (H : Hp) (K : Int → Hp → Prop) : Prop :=
  nw H ⟨[.int .i64 g0_Nodes, .slice g0_Edgesp g0_Edgesn g0_Edgesc], 24⟩ fun b_1 H_1 =>
  l1 li1p li1n li1c v2 b_1 0 0 H_1
theorem compassref12_At.run_eq {g0_Nodes : Int} {g0_Edgesp : Option Addr} {g0_Edgesn : Nat} {g0_Edgesc : Nat} {li1p : Option Addr} {li1n : Nat} {li1c : Nat} {v2 : Int} { E : Value → Hp → Prop} {H : Hp} {K : Int → Hp → Prop} (h : compassref12_At.run_t (fun li1p li1n li1c v2 g3 n7 i8 H => compassref12_At.l1 li1p li1n li1c v2 g3 n7 i8  E H K) g0_Nodes g0_Edgesp g0_Edgesn g0_Edgesc li1p li1n li1c v2  E H K) : compassref12_At.run g0_Nodes g0_Edgesp g0_Edgesn g0_Edgesc li1p li1n li1c v2  E H K := by
  exact nodeR_imp2 (fun G => compassref12_At.run_t (fun li1p li1n li1c v2 g3 n7 i8 H => G [0, 1, 0, 1, 1] [(1, .slice li1p li1n li1c), (2, .int .i64 v2), (3, .pointer (some ⟨g3, 0, none⟩)), (7, .int .i64 n7), (8, .int .i64 i8)] H) g0_Nodes g0_Edgesp g0_Edgesn g0_Edgesc li1p li1n li1c v2  E H K) compassref12_At.nok rfl (fun G => by kernel_rfl) (Eq.mp (by kernel_rfl) h)
def compassref12_At.j1_t (j2 : (Option Addr) → Nat → Nat → Int → Nat → Int → Int → Hp → Prop) (li1p : Option Addr) (li1n : Nat) (li1c : Nat) (v2 : Int) (g3 : Nat) (n7 : Int) (i8 : Int) (X1 : Fr → Hp → Prop) (E : Value → Hp → Prop) (H : Hp) (K : Int → Hp → Prop) : Prop :=
  ldS (H.get g3 1) fun x_1p x_1n x_1c =>
  ix li1p li1n i8 1 fun b_1 o_1 =>
  ldI .i64 (H.get b_1 o_1) fun x_2 =>
  ix x_1p x_1n x_2 4 fun b_2 o_2 =>
  ldI .i64 (H.get b_2 (o_2 + 1)) fun x_3 =>
  bcase (decide ((x_3 : Int) = v2)) (
  j2 li1p li1n li1c v2 g3 (IntKind.wrap .i64 (n7 + 1)) i8 H)
  (j2 li1p li1n li1c v2 g3 n7 i8 H)
theorem compassref12_At.j1_eq {li1p : Option Addr} {li1n : Nat} {li1c : Nat} {v2 : Int} {g3 : Nat} {n7 : Int} {i8 : Int} {X1 : Fr → Hp → Prop} { E : Value → Hp → Prop} {H : Hp} {K : Int → Hp → Prop} (h : compassref12_At.j1_t (fun li1p li1n li1c v2 g3 n7 i8 H => compassref12_At.j2 li1p li1n li1c v2 g3 n7 i8 X1 E H K) li1p li1n li1c v2 g3 n7 i8 X1 E H K) : compassref12_At.j1 li1p li1n li1c v2 g3 n7 i8 X1 E H K := by
  exact nodeR_imp2 (fun G => compassref12_At.j1_t (fun li1p li1n li1c v2 g3 n7 i8 H => G [1, 1, 0, 0, 1, 0, 1, 1] [(1, .slice li1p li1n li1c), (2, .int .i64 v2), (3, .pointer (some ⟨g3, 0, none⟩)), (7, .int .i64 n7), (8, .int .i64 i8)] H) li1p li1n li1c v2 g3 n7 i8 X1 E H K) compassref12_At.nok rfl (fun G => by kernel_rfl) (Eq.mp (by kernel_rfl) h)
def compassref12_At.j2_t  (li1p : Option Addr) (li1n : Nat) (li1c : Nat) (v2 : Int) (g3 : Nat) (n7 : Int) (i8 : Int) (X1 : Fr → Hp → Prop) (E : Value → Hp → Prop) (H : Hp) (K : Int → Hp → Prop) : Prop :=
  X1 (compassref12_At.f1 li1p li1n li1c v2 g3 n7 (IntKind.wrap .i64 (i8 + 1))) H
theorem compassref12_At.j2_eq {li1p : Option Addr} {li1n : Nat} {li1c : Nat} {v2 : Int} {g3 : Nat} {n7 : Int} {i8 : Int} {X1 : Fr → Hp → Prop} { E : Value → Hp → Prop} {H : Hp} {K : Int → Hp → Prop} (h : compassref12_At.j2_t  li1p li1n li1c v2 g3 n7 i8 X1 E H K) : compassref12_At.j2 li1p li1n li1c v2 g3 n7 i8 X1 E H K := by
  exact nodeR_imp2 (fun _ => compassref12_At.j2_t  li1p li1n li1c v2 g3 n7 i8 X1 E H K) compassref12_At.nok rfl (fun G => by kernel_rfl) h
def compassref12_At.b1_t (j1 : (Option Addr) → Nat → Nat → Int → Nat → Int → Int → Hp → Prop) (li1p : Option Addr) (li1n : Nat) (li1c : Nat) (v2 : Int) (g3 : Nat) (n7 : Int) (i8 : Int) (X1 : Fr → Hp → Prop) (E : Value → Hp → Prop) (H : Hp) (K : Int → Hp → Prop) : Prop :=
  bcase (decide ((i8 : Int) < (li1n : Int))) (
  ldS (H.get g3 1) fun x_1p x_1n x_1c =>
  ix li1p li1n i8 1 fun b_1 o_1 =>
  ldI .i64 (H.get b_1 o_1) fun x_2 =>
  ix x_1p x_1n x_2 4 fun b_2 o_2 =>
  ldI .i64 (H.get b_2 o_2) fun x_3 =>
  bcase (decide ((x_3 : Int) = v2)) (
  j1 li1p li1n li1c v2 g3 (IntKind.wrap .i64 (n7 + 1)) i8 H)
  (j1 li1p li1n li1c v2 g3 n7 i8 H))
  (K n7 H)
theorem compassref12_At.b1_eq {li1p : Option Addr} {li1n : Nat} {li1c : Nat} {v2 : Int} {g3 : Nat} {n7 : Int} {i8 : Int} {X1 : Fr → Hp → Prop} { E : Value → Hp → Prop} {H : Hp} {K : Int → Hp → Prop} (h : compassref12_At.b1_t (fun li1p li1n li1c v2 g3 n7 i8 H => compassref12_At.j1 li1p li1n li1c v2 g3 n7 i8 X1 E H K) li1p li1n li1c v2 g3 n7 i8 X1 E H K) : compassref12_At.b1 li1p li1n li1c v2 g3 n7 i8 X1 E H K := by
  exact nodeR_imp2 (fun G => compassref12_At.b1_t (fun li1p li1n li1c v2 g3 n7 i8 H => G [1, 0, 0, 1, 0, 0, 1, 0, 1, 1] [(1, .slice li1p li1n li1c), (2, .int .i64 v2), (3, .pointer (some ⟨g3, 0, none⟩)), (7, .int .i64 n7), (8, .int .i64 i8)] H) li1p li1n li1c v2 g3 n7 i8 X1 E H K) compassref12_At.nok rfl (fun G => by kernel_rfl) (Eq.mp (by kernel_rfl) h)
/-! ### compass/compassref03.Check (47) -/
/-! ### compass/compassref03.Bad (59) -/
end Go.Mz
