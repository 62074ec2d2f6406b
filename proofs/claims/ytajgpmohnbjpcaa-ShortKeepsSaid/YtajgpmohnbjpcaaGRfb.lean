/-
  The shallow texts of functions (Rfb), each with a kernel-checked equation to the translated code. It proves nothing of the program by itself.
-/
import Derived.Test.YtajgpmohnbjpcaaTab
set_option linter.unusedVariables false
set_option maxRecDepth 100000
namespace Go.Mz
/-! ### compass/compassref08.Dijkstra (27) -/
noncomputable def compassref08_Dijkstra.A : An := { live := [(0, [0, 1, 2]), (1, [1, 2, 3]), (2, [2, 3, 7]), (3, [7]), (4, [2, 3]), (5, []), (6, [3]), (7, [3, 8]), (8, [3, 8]), (9, [3, 8]), (10, []), (11, [])], ord := [], stb := [], pre := [] }
noncomputable def compassref08_Dijkstra.code : Code := bodyOf Go.Proofs.Try.f27
theorem compassref08_Dijkstra.ok : okCode compassref08_Dijkstra.A 35 compassref08_Dijkstra.code = true := by kernel_rfl
def compassref08_Dijkstra.rq (E : Value → Hp → Prop) (K : Int → Hp → Prop) : Ex → Fr → Hp → Prop := retQ T0 [.tmp 6] [3] (fun r H => ldR (.one false [.i .i64]) r fun u => K (asI u) H) E
def compassref08_Dijkstra.run (g0_Nodes : Int) (g0_Edgesp : Option Addr) (g0_Edgesn : Nat) (g0_Edgesc : Nat) (s1 : Int) (kind2 : Int) (E : Value → Hp → Prop) (H : Hp) (K : Int → Hp → Prop) : Prop := nodeM P0 T0 compassref08_Dijkstra.A compassref08_Dijkstra.code [] [] (compassref08_Dijkstra.rq E K) (argF 0 [.agg ⟨[.int .i64 g0_Nodes, .slice g0_Edgesp g0_Edgesn g0_Edgesc]⟩, .int .i64 s1, .int .i64 kind2]) H
theorem compassref08_Dijkstra.of {g0_Nodes : Int} {g0_Edgesp : Option Addr} {g0_Edgesn : Nat} {g0_Edgesc : Nat} {s1 : Int} {kind2 : Int} {E : Value → Hp → Prop} {H : Hp} {K : Int → Hp → Prop} (h : compassref08_Dijkstra.run g0_Nodes g0_Edgesp g0_Edgesn g0_Edgesc s1 kind2 E H K) : compassref08_Dijkstra.call g0_Nodes g0_Edgesp g0_Edgesn g0_Edgesc s1 kind2 E H K :=
  callW_of T0_ok P0_mixed (A := compassref08_Dijkstra.A) (fn := Go.Proofs.Try.f27) Go.Proofs.Try.func27 rfl compassref08_Dijkstra.ok rfl h
noncomputable def compassref08_Dijkstra.f1 (g3 : Nat) (i8 : Int) : Fr := [(3, .pointer (some ⟨g3, 0, none⟩)), (8, .int .i64 i8)]
def compassref08_Dijkstra.l1 (g3 : Nat) (i8 : Int)  (E : Value → Hp → Prop) (H : Hp) (K : Int → Hp → Prop) : Prop := nodeM P0 T0 compassref08_Dijkstra.A compassref08_Dijkstra.code [1, 1, 1, 1, 0, 1, 0] [] (compassref08_Dijkstra.rq E K) (compassref08_Dijkstra.f1 g3 i8) H
def compassref08_Dijkstra.b1 (g3 : Nat) (i8 : Int)  (X1 : Fr → Hp → Prop) (E : Value → Hp → Prop) (H : Hp) (K : Int → Hp → Prop) : Prop := nodeM P0 T0 compassref08_Dijkstra.A compassref08_Dijkstra.code [1, 1, 1, 1, 0, 1, 0, 0] [X1] (compassref08_Dijkstra.rq E K) (compassref08_Dijkstra.f1 g3 i8) H
theorem compassref08_Dijkstra.l1_rule { E : Value → Hp → Prop} {K : Int → Hp → Prop} (I : Nat → Int → Hp → Prop) (μ : Nat → Int → Hp → Nat)
    (h : ∀ g3 i8 H, I g3 i8 H → ∀ X : Fr → Hp → Prop, (∀ g3' i8' H', I g3' i8' H' → μ g3' i8' H' < μ g3 i8 H → X (compassref08_Dijkstra.f1 g3' i8') H') → compassref08_Dijkstra.b1 g3 i8  X E H K)
    {g3 : Nat} {i8 : Int} {H : Hp} (hI : I g3 i8 H) : compassref08_Dijkstra.l1 g3 i8  E H K :=
  loop_rule (S := Nat × Int) (fun s => compassref08_Dijkstra.f1 (s.1) (s.2)) (fun s H => I (s.1) (s.2) H) (fun s H => μ (s.1) (s.2) H) (fun s H hI X hX => h (s.1) (s.2) H hI X fun g3' i8' H' hI' hlt => hX (g3', i8') H' hI' hlt) (s := (g3, i8)) rfl hI
theorem compassref08_Dijkstra.nok : nodesOk compassref08_Dijkstra.code [[0, 1, 0, 1, 1, 1, 1]] = true := by kernel_rfl
def compassref08_Dijkstra.run_t (l1 : Nat → Int → Hp → Prop) (g0_Nodes : Int) (g0_Edgesp : Option Addr) (g0_Edgesn : Nat) (g0_Edgesc : Nat) (s1 : Int) (kind2 : Int)  (E : Value → Hp → Prop) (H : Hp) (K : Int → Hp → Prop) : Prop :=
  nw H ⟨[.int .i64 g0_Nodes, .slice g0_Edgesp g0_Edgesn g0_Edgesc], 51⟩ fun b_1 H_1 =>
  ldI .i64 (H_1.get b_1 0) fun x_1 =>
  ldS (H_1.get b_1 1) fun x_2p x_2n x_2c =>
  compassref04_Wrong.call x_1 x_2p x_2n x_2c s1 E H_1 fun r_1 H_2 =>
  bcase (!decide ((r_1 : Int) = 0)) (
  K r_1 H_2)
  (bcase (decide ((kind2 : Int) < 1)) (
  K 50 H_2)
  (bcase (decide ((4 : Int) < kind2)) (
  K 50 H_2)
  (l1 b_1 0 H_2)))
theorem compassref08_Dijkstra.run_eq {g0_Nodes : Int} {g0_Edgesp : Option Addr} {g0_Edgesn : Nat} {g0_Edgesc : Nat} {s1 : Int} {kind2 : Int} { E : Value → Hp → Prop} {H : Hp} {K : Int → Hp → Prop} (h : compassref08_Dijkstra.run_t (fun g3 i8 H => compassref08_Dijkstra.l1 g3 i8  E H K) g0_Nodes g0_Edgesp g0_Edgesn g0_Edgesc s1 kind2  E H K) : compassref08_Dijkstra.run g0_Nodes g0_Edgesp g0_Edgesn g0_Edgesc s1 kind2  E H K := by
  have k1 : ∀ G : List Nat → Fr → Hp → Prop, nodeR P0 T0 compassref08_Dijkstra.A [[0, 1, 0, 1, 1, 1, 1]] G compassref08_Dijkstra.code [] [] (compassref08_Dijkstra.rq E K) (argF 0 [.agg ⟨[.int .i64 g0_Nodes, .slice g0_Edgesp g0_Edgesn g0_Edgesc]⟩, .int .i64 s1, .int .i64 kind2]) H = compassref08_Dijkstra.run_t (fun g3 i8 H => G [0, 1, 0, 1, 1, 1, 1] [(3, .pointer (some ⟨g3, 0, none⟩)), (8, .int .i64 i8)] H) g0_Nodes g0_Edgesp g0_Edgesn g0_Edgesc s1 kind2  E H K := fun G => by kernel_rfl
  have k2 : compassref08_Dijkstra.run_t (fun g3 i8 H => compassref08_Dijkstra.l1 g3 i8  E H K) g0_Nodes g0_Edgesp g0_Edgesn g0_Edgesc s1 kind2  E H K = compassref08_Dijkstra.run_t (fun g3 i8 H => (fun q F H => nodeM P0 T0 compassref08_Dijkstra.A compassref08_Dijkstra.code q.reverse [] (compassref08_Dijkstra.rq E K) F H) [0, 1, 0, 1, 1, 1, 1] [(3, .pointer (some ⟨g3, 0, none⟩)), (8, .int .i64 i8)] H) g0_Nodes g0_Edgesp g0_Edgesn g0_Edgesc s1 kind2  E H K := by kernel_rfl
  exact nodeR_imp compassref08_Dijkstra.nok rfl ((k1 _).mpr (k2.mp h))
def compassref08_Dijkstra.b1_t  (g3 : Nat) (i8 : Int) (X1 : Fr → Hp → Prop) (E : Value → Hp → Prop) (H : Hp) (K : Int → Hp → Prop) : Prop :=
  ldS (H.get g3 1) fun x_1p x_1n x_1c =>
  bcase (decide ((i8 : Int) < (x_1n : Int))) (
  ldS (H.get g3 1) fun x_2p x_2n x_2c =>
  ix x_2p x_2n i8 4 fun b_1 o_1 =>
  ldI .i64 (H.get b_1 (o_1 + 3)) fun x_3 =>
  bcase (decide ((x_3 : Int) < 0)) (
  K 80 H)
  (X1 (compassref08_Dijkstra.f1 g3 (IntKind.wrap .i64 (i8 + 1))) H))
  (K 0 H)
theorem compassref08_Dijkstra.b1_eq {g3 : Nat} {i8 : Int} {X1 : Fr → Hp → Prop} { E : Value → Hp → Prop} {H : Hp} {K : Int → Hp → Prop} (h : compassref08_Dijkstra.b1_t  g3 i8 X1 E H K) : compassref08_Dijkstra.b1 g3 i8 X1 E H K := by
  have k1 : ∀ G : List Nat → Fr → Hp → Prop, nodeR P0 T0 compassref08_Dijkstra.A [[0, 1, 0, 1, 1, 1, 1]] G compassref08_Dijkstra.code [1, 1, 1, 1, 0, 1, 0, 0] [X1] (compassref08_Dijkstra.rq E K) (compassref08_Dijkstra.f1 g3 i8) H = compassref08_Dijkstra.b1_t  g3 i8 X1 E H K := fun G => by kernel_rfl
  exact nodeR_imp compassref08_Dijkstra.nok rfl ((k1 _).mpr h)
/-! ### compass/compassref08.Dist (28) -/
noncomputable def compassref08_Dist.A : An := { live := [(0, [0, 1]), (1, [1, 2]), (2, [1, 2, 6]), (3, [6]), (4, [1, 2]), (5, [1, 2, 7]), (6, [1, 2, 7, 8]), (7, [1, 2, 7, 8]), (8, [1, 2, 7, 8]), (9, [1, 2, 7]), (10, [2, 7]), (11, [2, 7]), (12, []), (13, [7])], ord := [], stb := [], pre := [] }
noncomputable def compassref08_Dist.code : Code := bodyOf Go.Proofs.Try.f28
theorem compassref08_Dist.ok : okCode compassref08_Dist.A 40 compassref08_Dist.code = true := by kernel_rfl
def compassref08_Dist.rq (E : Value → Hp → Prop) (K : (Option Addr) → Nat → Nat → Int → Hp → Prop) : Ex → Fr → Hp → Prop := retQ T0 [.tmp 4, .tmp 5] [22, 3] (fun r H => ldR (.tup [(false, [.sl]), (false, [.i .i64])]) r fun u => K (asS1 (tupV u 0)) (asS2 (tupV u 0)) (asS3 (tupV u 0)) (asI (tupV u 1)) H) E
def compassref08_Dist.run (g0_Nodes : Int) (g0_Edgesp : Option Addr) (g0_Edgesn : Nat) (g0_Edgesc : Nat) (s1 : Int) (E : Value → Hp → Prop) (H : Hp) (K : (Option Addr) → Nat → Nat → Int → Hp → Prop) : Prop := nodeM P0 T0 compassref08_Dist.A compassref08_Dist.code [] [] (compassref08_Dist.rq E K) (argF 0 [.agg ⟨[.int .i64 g0_Nodes, .slice g0_Edgesp g0_Edgesn g0_Edgesc]⟩, .int .i64 s1]) H
theorem compassref08_Dist.of {g0_Nodes : Int} {g0_Edgesp : Option Addr} {g0_Edgesn : Nat} {g0_Edgesc : Nat} {s1 : Int} {E : Value → Hp → Prop} {H : Hp} {K : (Option Addr) → Nat → Nat → Int → Hp → Prop} (h : compassref08_Dist.run g0_Nodes g0_Edgesp g0_Edgesn g0_Edgesc s1 E H K) : compassref08_Dist.call g0_Nodes g0_Edgesp g0_Edgesn g0_Edgesc s1 E H K :=
  callW_of T0_ok P0_mixed (A := compassref08_Dist.A) (fn := Go.Proofs.Try.f28) Go.Proofs.Try.func28 rfl compassref08_Dist.ok rfl h
noncomputable def compassref08_Dist.f1 (s1 : Int) (g2 : Nat) (dist7p : Option Addr) (dist7n : Nat) (dist7c : Nat) (v8 : Int) : Fr := [(1, .int .i64 s1), (2, .pointer (some ⟨g2, 0, none⟩)), (7, .slice dist7p dist7n dist7c), (8, .int .i64 v8)]
def compassref08_Dist.j1 (s1 : Int) (g2 : Nat) (dist7p : Option Addr) (dist7n : Nat) (dist7c : Nat)  (E : Value → Hp → Prop) (H : Hp) (K : (Option Addr) → Nat → Nat → Int → Hp → Prop) : Prop := nodeM P0 T0 compassref08_Dist.A compassref08_Dist.code [1, 1, 1, 1, 1] [] (compassref08_Dist.rq E K) [(1, .int .i64 s1), (2, .pointer (some ⟨g2, 0, none⟩)), (7, .slice dist7p dist7n dist7c)] H
def compassref08_Dist.l1 (s1 : Int) (g2 : Nat) (dist7p : Option Addr) (dist7n : Nat) (dist7c : Nat) (v8 : Int)  (E : Value → Hp → Prop) (H : Hp) (K : (Option Addr) → Nat → Nat → Int → Hp → Prop) : Prop := nodeM P0 T0 compassref08_Dist.A compassref08_Dist.code [1, 1, 1, 1, 0, 1, 0] [] (compassref08_Dist.rq E K) (compassref08_Dist.f1 s1 g2 dist7p dist7n dist7c v8) H
def compassref08_Dist.b1 (s1 : Int) (g2 : Nat) (dist7p : Option Addr) (dist7n : Nat) (dist7c : Nat) (v8 : Int)  (X1 : Fr → Hp → Prop) (E : Value → Hp → Prop) (H : Hp) (K : (Option Addr) → Nat → Nat → Int → Hp → Prop) : Prop := nodeM P0 T0 compassref08_Dist.A compassref08_Dist.code [1, 1, 1, 1, 0, 1, 0, 0] [X1] (compassref08_Dist.rq E K) (compassref08_Dist.f1 s1 g2 dist7p dist7n dist7c v8) H
theorem compassref08_Dist.l1_rule { E : Value → Hp → Prop} {K : (Option Addr) → Nat → Nat → Int → Hp → Prop} (I : Int → Nat → (Option Addr) → Nat → Nat → Int → Hp → Prop) (μ : Int → Nat → (Option Addr) → Nat → Nat → Int → Hp → Nat)
    (h : ∀ s1 g2 dist7p dist7n dist7c v8 H, I s1 g2 dist7p dist7n dist7c v8 H → ∀ X : Fr → Hp → Prop, (∀ s1' g2' dist7p' dist7n' dist7c' v8' H', I s1' g2' dist7p' dist7n' dist7c' v8' H' → μ s1' g2' dist7p' dist7n' dist7c' v8' H' < μ s1 g2 dist7p dist7n dist7c v8 H → X (compassref08_Dist.f1 s1' g2' dist7p' dist7n' dist7c' v8') H') → compassref08_Dist.b1 s1 g2 dist7p dist7n dist7c v8  X E H K)
    {s1 : Int} {g2 : Nat} {dist7p : Option Addr} {dist7n : Nat} {dist7c : Nat} {v8 : Int} {H : Hp} (hI : I s1 g2 dist7p dist7n dist7c v8 H) : compassref08_Dist.l1 s1 g2 dist7p dist7n dist7c v8  E H K :=
  loop_rule (S := Int × Nat × (Option Addr) × Nat × Nat × Int) (fun s => compassref08_Dist.f1 (s.1) (s.2.1) (s.2.2.1) (s.2.2.2.1) (s.2.2.2.2.1) (s.2.2.2.2.2)) (fun s H => I (s.1) (s.2.1) (s.2.2.1) (s.2.2.2.1) (s.2.2.2.2.1) (s.2.2.2.2.2) H) (fun s H => μ (s.1) (s.2.1) (s.2.2.1) (s.2.2.2.1) (s.2.2.2.2.1) (s.2.2.2.2.2) H) (fun s H hI X hX => h (s.1) (s.2.1) (s.2.2.1) (s.2.2.2.1) (s.2.2.2.2.1) (s.2.2.2.2.2) H hI X fun s1' g2' dist7p' dist7n' dist7c' v8' H' hI' hlt => hX (s1', g2', dist7p', dist7n', dist7c', v8') H' hI' hlt) (s := (s1, g2, dist7p, dist7n, dist7c, v8)) rfl hI
theorem compassref08_Dist.nok : nodesOk compassref08_Dist.code [[0, 1, 0, 1, 1, 1, 1], [1, 1, 1, 1, 1]] = true := by kernel_rfl
def compassref08_Dist.run_t (l1 : Int → Nat → (Option Addr) → Nat → Nat → Int → Hp → Prop) (g0_Nodes : Int) (g0_Edgesp : Option Addr) (g0_Edgesn : Nat) (g0_Edgesc : Nat) (s1 : Int)  (E : Value → Hp → Prop) (H : Hp) (K : (Option Addr) → Nat → Nat → Int → Hp → Prop) : Prop :=
  nw H ⟨[.int .i64 g0_Nodes, .slice g0_Edgesp g0_Edgesn g0_Edgesc], 51⟩ fun b_1 H_1 =>
  ldI .i64 (H_1.get b_1 0) fun x_1 =>
  ldS (H_1.get b_1 1) fun x_2p x_2n x_2c =>
  compassref04_Wrong.call x_1 x_2p x_2n x_2c s1 E H_1 fun r_1 H_2 =>
  bcase (!decide ((r_1 : Int) = 0)) (
  K none 0 0 r_1 H_2)
  (ldI .i64 (H_2.get b_1 0) fun x_3 =>
  mkS x_3 x_3 2 [.i .i64] 8 H_2 fun b_2 H_3 =>
  l1 s1 b_1 (some ⟨b_2, 0, none⟩) x_3.toNat x_3.toNat 0 H_3)
theorem compassref08_Dist.run_eq {g0_Nodes : Int} {g0_Edgesp : Option Addr} {g0_Edgesn : Nat} {g0_Edgesc : Nat} {s1 : Int} { E : Value → Hp → Prop} {H : Hp} {K : (Option Addr) → Nat → Nat → Int → Hp → Prop} (h : compassref08_Dist.run_t (fun s1 g2 dist7p dist7n dist7c v8 H => compassref08_Dist.l1 s1 g2 dist7p dist7n dist7c v8  E H K) g0_Nodes g0_Edgesp g0_Edgesn g0_Edgesc s1  E H K) : compassref08_Dist.run g0_Nodes g0_Edgesp g0_Edgesn g0_Edgesc s1  E H K := by
  have k1 : ∀ G : List Nat → Fr → Hp → Prop, nodeR P0 T0 compassref08_Dist.A [[0, 1, 0, 1, 1, 1, 1], [1, 1, 1, 1, 1]] G compassref08_Dist.code [] [] (compassref08_Dist.rq E K) (argF 0 [.agg ⟨[.int .i64 g0_Nodes, .slice g0_Edgesp g0_Edgesn g0_Edgesc]⟩, .int .i64 s1]) H = compassref08_Dist.run_t (fun s1 g2 dist7p dist7n dist7c v8 H => G [0, 1, 0, 1, 1, 1, 1] [(1, .int .i64 s1), (2, .pointer (some ⟨g2, 0, none⟩)), (7, .slice dist7p dist7n dist7c), (8, .int .i64 v8)] H) g0_Nodes g0_Edgesp g0_Edgesn g0_Edgesc s1  E H K := fun G => by kernel_rfl
  have k2 : compassref08_Dist.run_t (fun s1 g2 dist7p dist7n dist7c v8 H => compassref08_Dist.l1 s1 g2 dist7p dist7n dist7c v8  E H K) g0_Nodes g0_Edgesp g0_Edgesn g0_Edgesc s1  E H K = compassref08_Dist.run_t (fun s1 g2 dist7p dist7n dist7c v8 H => (fun q F H => nodeM P0 T0 compassref08_Dist.A compassref08_Dist.code q.reverse [] (compassref08_Dist.rq E K) F H) [0, 1, 0, 1, 1, 1, 1] [(1, .int .i64 s1), (2, .pointer (some ⟨g2, 0, none⟩)), (7, .slice dist7p dist7n dist7c), (8, .int .i64 v8)] H) g0_Nodes g0_Edgesp g0_Edgesn g0_Edgesc s1  E H K := by kernel_rfl
  exact nodeR_imp compassref08_Dist.nok rfl ((k1 _).mpr (k2.mp h))
def compassref08_Dist.j1_t  (s1 : Int) (g2 : Nat) (dist7p : Option Addr) (dist7n : Nat) (dist7c : Nat)  (E : Value → Hp → Prop) (H : Hp) (K : (Option Addr) → Nat → Nat → Int → Hp → Prop) : Prop :=
  ix dist7p dist7n s1 1 fun b_1 o_1 =>
  stC H b_1 o_1 [.int .i64 0] fun H_1 =>
  ldI .i64 (H_1.get g2 0) fun x_1 =>
  ldS (H_1.get g2 1) fun x_2p x_2n x_2c =>
  ldI .i64 (H_1.get g2 0) fun x_3 =>
  compassref08_rounds.call x_1 x_2p x_2n x_2c dist7p dist7n dist7c x_3 E H_1 fun r_1p r_1n r_1c H_2 =>
  ldI .i64 (H_2.get g2 0) fun x_4 =>
  ldS (H_2.get g2 1) fun x_5p x_5n x_5c =>
  compassref08_settled.call x_4 x_5p x_5n x_5c r_1p r_1n r_1c E H_2 fun r_2 H_3 =>
  bcase ((!r_2)) (
  K none 0 0 80 H_3)
  (K r_1p r_1n r_1c 0 H_3)
theorem compassref08_Dist.j1_eq {s1 : Int} {g2 : Nat} {dist7p : Option Addr} {dist7n : Nat} {dist7c : Nat} { E : Value → Hp → Prop} {H : Hp} {K : (Option Addr) → Nat → Nat → Int → Hp → Prop} (h : compassref08_Dist.j1_t  s1 g2 dist7p dist7n dist7c  E H K) : compassref08_Dist.j1 s1 g2 dist7p dist7n dist7c  E H K := by
  have k1 : ∀ G : List Nat → Fr → Hp → Prop, nodeR P0 T0 compassref08_Dist.A [[0, 1, 0, 1, 1, 1, 1], [1, 1, 1, 1, 1]] G compassref08_Dist.code [1, 1, 1, 1, 1] [] (compassref08_Dist.rq E K) [(1, .int .i64 s1), (2, .pointer (some ⟨g2, 0, none⟩)), (7, .slice dist7p dist7n dist7c)] H = compassref08_Dist.j1_t  s1 g2 dist7p dist7n dist7c  E H K := fun G => by kernel_rfl
  exact nodeR_imp compassref08_Dist.nok rfl ((k1 _).mpr h)
def compassref08_Dist.b1_t (j1 : Int → Nat → (Option Addr) → Nat → Nat → Hp → Prop) (s1 : Int) (g2 : Nat) (dist7p : Option Addr) (dist7n : Nat) (dist7c : Nat) (v8 : Int) (X1 : Fr → Hp → Prop) (E : Value → Hp → Prop) (H : Hp) (K : (Option Addr) → Nat → Nat → Int → Hp → Prop) : Prop :=
  ldI .i64 (H.get g2 0) fun x_1 =>
  bcase (decide ((v8 : Int) < x_1)) (
  ix dist7p dist7n v8 1 fun b_1 o_1 =>
  stC H b_1 o_1 [.int .i64 4611686018427387904] fun H_1 =>
  X1 (compassref08_Dist.f1 s1 g2 dist7p dist7n dist7c (IntKind.wrap .i64 (v8 + 1))) H_1)
  (j1 s1 g2 dist7p dist7n dist7c H)
theorem compassref08_Dist.b1_eq {s1 : Int} {g2 : Nat} {dist7p : Option Addr} {dist7n : Nat} {dist7c : Nat} {v8 : Int} {X1 : Fr → Hp → Prop} { E : Value → Hp → Prop} {H : Hp} {K : (Option Addr) → Nat → Nat → Int → Hp → Prop} (h : compassref08_Dist.b1_t (fun s1 g2 dist7p dist7n dist7c H => compassref08_Dist.j1 s1 g2 dist7p dist7n dist7c  E H K) s1 g2 dist7p dist7n dist7c v8 X1 E H K) : compassref08_Dist.b1 s1 g2 dist7p dist7n dist7c v8 X1 E H K := by
  have k1 : ∀ G : List Nat → Fr → Hp → Prop, nodeR P0 T0 compassref08_Dist.A [[0, 1, 0, 1, 1, 1, 1], [1, 1, 1, 1, 1]] G compassref08_Dist.code [1, 1, 1, 1, 0, 1, 0, 0] [X1] (compassref08_Dist.rq E K) (compassref08_Dist.f1 s1 g2 dist7p dist7n dist7c v8) H = compassref08_Dist.b1_t (fun s1 g2 dist7p dist7n dist7c H => G [1, 1, 1, 1, 1] [(1, .int .i64 s1), (2, .pointer (some ⟨g2, 0, none⟩)), (7, .slice dist7p dist7n dist7c)] H) s1 g2 dist7p dist7n dist7c v8 X1 E H K := fun G => by kernel_rfl
  have k2 : compassref08_Dist.b1_t (fun s1 g2 dist7p dist7n dist7c H => compassref08_Dist.j1 s1 g2 dist7p dist7n dist7c  E H K) s1 g2 dist7p dist7n dist7c v8 X1 E H K = compassref08_Dist.b1_t (fun s1 g2 dist7p dist7n dist7c H => (fun q F H => nodeM P0 T0 compassref08_Dist.A compassref08_Dist.code q.reverse [X1] (compassref08_Dist.rq E K) F H) [1, 1, 1, 1, 1] [(1, .int .i64 s1), (2, .pointer (some ⟨g2, 0, none⟩)), (7, .slice dist7p dist7n dist7c)] H) s1 g2 dist7p dist7n dist7c v8 X1 E H K := by kernel_rfl
  exact nodeR_imp compassref08_Dist.nok rfl ((k1 _).mpr (k2.mp h))
/-! ### compass/compassref08.Tree (30) -/
/-! ### compass/compassref08.Way (35) -/
/-! ### compass/compassref08.Cost (36) -/
/-! ### compass/compassref08.Potentials (38) -/
/-! ### compass/compassref08.rounds (50) -/
noncomputable def compassref08_rounds.A : An := { live := [(0, [0, 1, 2]), (1, [1, 2, 3]), (2, [1, 2, 3, 7]), (3, [1, 2, 3, 7]), (4, [1, 2, 3, 7]), (5, [1, 2, 3, 7, 8]), (6, [1, 2, 3, 7, 8, 9]), (7, [1, 2, 3, 7, 8, 9]), (8, [1, 2, 3, 7, 8, 9]), (9, [1, 2, 3, 7, 8, 9, 10]), (10, [1, 2, 3, 7, 8, 9, 10]), (11, [2, 3, 7, 8]), (12, [1])], ord := [(9, [0, 1, 2, 3, 4, 5, 6, 7, 8, 9, 10, 11, 12, 13, 14, 15, 16, 17, 18, 19, 20, 21]), (10, [0, 1, 2, 3, 4, 5, 6, 7, 8, 9, 10, 11, 12])], stb := [], pre := [(9, [[], [], [1], [0, 1, 2], [0, 1, 2, 3], [0, 1, 2, 3, 4], [0, 1, 2, 3, 4, 5], [0, 1, 2, 3, 4, 5, 6], [0, 1, 2, 3, 4, 5, 6], [0, 1, 2, 3, 4, 5, 6, 8], [0, 1, 2, 3, 4, 5, 6, 7, 8, 9], [0, 1, 2, 3, 4, 5, 6, 7, 8, 9, 10], [0, 1, 2, 3, 4, 5, 6], [0, 1, 2, 3, 4, 5, 6, 12], [0, 1, 2, 3, 4, 5, 6, 7, 8, 9, 10, 11, 12, 13], [0, 1, 2, 3, 4, 5, 6], [0, 1, 2, 3, 4, 5, 6], [0, 1, 2, 3, 4, 5, 6, 16], [0, 1, 2, 3, 4, 5, 6, 15, 16, 17], [0, 1, 2, 3, 4, 5, 6, 15, 16, 17, 18], [0, 1, 2, 3, 4, 5, 6, 7, 8, 9, 10, 11, 12, 13, 14, 15, 16, 17, 18, 19], [0, 1, 2, 3, 4, 5, 6, 7, 8, 9, 10, 11, 12, 13, 14, 15, 16, 17, 18, 19, 20]]), (10, [[], [], [1], [], [], [4], [3, 4, 5], [3, 4, 5, 6], [], [8], [3, 4, 5, 6, 7, 8, 9], [0, 1, 2, 3, 4, 5, 6, 7, 8, 9, 10], [0, 1, 2, 3, 4, 5, 6, 7, 8, 9, 10, 11]])] }
noncomputable def compassref08_rounds.code : Code := bodyOf Go.Proofs.Try.f50
theorem compassref08_rounds.ok : okCode compassref08_rounds.A 67 compassref08_rounds.code = true := by kernel_rfl
def compassref08_rounds.rq (E : Value → Hp → Prop) (K : (Option Addr) → Nat → Nat → Hp → Prop) : Ex → Fr → Hp → Prop := retQ T0 [.tmp 6] [22] (fun r H => ldR (.one false [.sl]) r fun u => K (asS1 u) (asS2 u) (asS3 u) H) E
def compassref08_rounds.run (g0_Nodes : Int) (g0_Edgesp : Option Addr) (g0_Edgesn : Nat) (g0_Edgesc : Nat) (dist1p : Option Addr) (dist1n : Nat) (dist1c : Nat) (times2 : Int) (E : Value → Hp → Prop) (H : Hp) (K : (Option Addr) → Nat → Nat → Hp → Prop) : Prop := nodeM P0 T0 compassref08_rounds.A compassref08_rounds.code [] [] (compassref08_rounds.rq E K) (argF 0 [.agg ⟨[.int .i64 g0_Nodes, .slice g0_Edgesp g0_Edgesn g0_Edgesc]⟩, .slice dist1p dist1n dist1c, .int .i64 times2]) H
theorem compassref08_rounds.of {g0_Nodes : Int} {g0_Edgesp : Option Addr} {g0_Edgesn : Nat} {g0_Edgesc : Nat} {dist1p : Option Addr} {dist1n : Nat} {dist1c : Nat} {times2 : Int} {E : Value → Hp → Prop} {H : Hp} {K : (Option Addr) → Nat → Nat → Hp → Prop} (h : compassref08_rounds.run g0_Nodes g0_Edgesp g0_Edgesn g0_Edgesc dist1p dist1n dist1c times2 E H K) : compassref08_rounds.call g0_Nodes g0_Edgesp g0_Edgesn g0_Edgesc dist1p dist1n dist1c times2 E H K :=
  callW_of T0_ok P0_mixed (A := compassref08_rounds.A) (fn := Go.Proofs.Try.f50) Go.Proofs.Try.func50 rfl compassref08_rounds.ok rfl h
noncomputable def compassref08_rounds.f1 (dist1p : Option Addr) (dist1n : Nat) (dist1c : Nat) (times2 : Int) (g3 : Nat) (k7 : Int) : Fr := [(1, .slice dist1p dist1n dist1c), (2, .int .i64 times2), (3, .pointer (some ⟨g3, 0, none⟩)), (7, .int .i64 k7)]
noncomputable def compassref08_rounds.f2 (dist1p : Option Addr) (dist1n : Nat) (dist1c : Nat) (times2 : Int) (g3 : Nat) (k7 : Int) (next8p : Option Addr) (next8n : Nat) (next8c : Nat) (i9 : Int) : Fr := [(1, .slice dist1p dist1n dist1c), (2, .int .i64 times2), (3, .pointer (some ⟨g3, 0, none⟩)), (7, .int .i64 k7), (8, .slice next8p next8n next8c), (9, .int .i64 i9)]
def compassref08_rounds.j1 (dist1p : Option Addr) (dist1n : Nat) (dist1c : Nat) (times2 : Int) (g3 : Nat) (k7 : Int) (next8p : Option Addr) (next8n : Nat) (next8c : Nat) (i9 : Int) (X1 : Fr → Hp → Prop) (X2 : Fr → Hp → Prop) (E : Value → Hp → Prop) (H : Hp) (K : (Option Addr) → Nat → Nat → Hp → Prop) : Prop := nodeM P0 T0 compassref08_rounds.A compassref08_rounds.code [1, 0, 1, 0, 0, 1, 0, 0, 1, 0, 1, 0, 0, 1, 1] [X1, X2] (compassref08_rounds.rq E K) [(1, .slice dist1p dist1n dist1c), (2, .int .i64 times2), (3, .pointer (some ⟨g3, 0, none⟩)), (7, .int .i64 k7), (8, .slice next8p next8n next8c), (9, .int .i64 i9)] H
def compassref08_rounds.j2 (dist1p : Option Addr) (dist1n : Nat) (dist1c : Nat) (times2 : Int) (g3 : Nat) (k7 : Int) (X1 : Fr → Hp → Prop) (E : Value → Hp → Prop) (H : Hp) (K : (Option Addr) → Nat → Nat → Hp → Prop) : Prop := nodeM P0 T0 compassref08_rounds.A compassref08_rounds.code [1, 0, 1, 0, 0, 1, 1] [X1] (compassref08_rounds.rq E K) [(1, .slice dist1p dist1n dist1c), (2, .int .i64 times2), (3, .pointer (some ⟨g3, 0, none⟩)), (7, .int .i64 k7)] H
def compassref08_rounds.l1 (dist1p : Option Addr) (dist1n : Nat) (dist1c : Nat) (times2 : Int) (g3 : Nat) (k7 : Int)  (E : Value → Hp → Prop) (H : Hp) (K : (Option Addr) → Nat → Nat → Hp → Prop) : Prop := nodeM P0 T0 compassref08_rounds.A compassref08_rounds.code [1, 0, 1, 0] [] (compassref08_rounds.rq E K) (compassref08_rounds.f1 dist1p dist1n dist1c times2 g3 k7) H
def compassref08_rounds.b1 (dist1p : Option Addr) (dist1n : Nat) (dist1c : Nat) (times2 : Int) (g3 : Nat) (k7 : Int)  (X1 : Fr → Hp → Prop) (E : Value → Hp → Prop) (H : Hp) (K : (Option Addr) → Nat → Nat → Hp → Prop) : Prop := nodeM P0 T0 compassref08_rounds.A compassref08_rounds.code [1, 0, 1, 0, 0] [X1] (compassref08_rounds.rq E K) (compassref08_rounds.f1 dist1p dist1n dist1c times2 g3 k7) H
theorem compassref08_rounds.l1_rule { E : Value → Hp → Prop} {K : (Option Addr) → Nat → Nat → Hp → Prop} (I : (Option Addr) → Nat → Nat → Int → Nat → Int → Hp → Prop) (μ : (Option Addr) → Nat → Nat → Int → Nat → Int → Hp → Nat)
    (h : ∀ dist1p dist1n dist1c times2 g3 k7 H, I dist1p dist1n dist1c times2 g3 k7 H → ∀ X : Fr → Hp → Prop, (∀ dist1p' dist1n' dist1c' times2' g3' k7' H', I dist1p' dist1n' dist1c' times2' g3' k7' H' → μ dist1p' dist1n' dist1c' times2' g3' k7' H' < μ dist1p dist1n dist1c times2 g3 k7 H → X (compassref08_rounds.f1 dist1p' dist1n' dist1c' times2' g3' k7') H') → compassref08_rounds.b1 dist1p dist1n dist1c times2 g3 k7  X E H K)
    {dist1p : Option Addr} {dist1n : Nat} {dist1c : Nat} {times2 : Int} {g3 : Nat} {k7 : Int} {H : Hp} (hI : I dist1p dist1n dist1c times2 g3 k7 H) : compassref08_rounds.l1 dist1p dist1n dist1c times2 g3 k7  E H K :=
  loop_rule (S := (Option Addr) × Nat × Nat × Int × Nat × Int) (fun s => compassref08_rounds.f1 (s.1) (s.2.1) (s.2.2.1) (s.2.2.2.1) (s.2.2.2.2.1) (s.2.2.2.2.2)) (fun s H => I (s.1) (s.2.1) (s.2.2.1) (s.2.2.2.1) (s.2.2.2.2.1) (s.2.2.2.2.2) H) (fun s H => μ (s.1) (s.2.1) (s.2.2.1) (s.2.2.2.1) (s.2.2.2.2.1) (s.2.2.2.2.2) H) (fun s H hI X hX => h (s.1) (s.2.1) (s.2.2.1) (s.2.2.2.1) (s.2.2.2.2.1) (s.2.2.2.2.2) H hI X fun dist1p' dist1n' dist1c' times2' g3' k7' H' hI' hlt => hX (dist1p', dist1n', dist1c', times2', g3', k7') H' hI' hlt) (s := (dist1p, dist1n, dist1c, times2, g3, k7)) rfl hI
def compassref08_rounds.l2 (dist1p : Option Addr) (dist1n : Nat) (dist1c : Nat) (times2 : Int) (g3 : Nat) (k7 : Int) (next8p : Option Addr) (next8n : Nat) (next8c : Nat) (i9 : Int) (X1 : Fr → Hp → Prop) (E : Value → Hp → Prop) (H : Hp) (K : (Option Addr) → Nat → Nat → Hp → Prop) : Prop := nodeM P0 T0 compassref08_rounds.A compassref08_rounds.code [1, 0, 1, 0, 0, 1, 0, 0, 1, 0, 1, 0] [X1] (compassref08_rounds.rq E K) (compassref08_rounds.f2 dist1p dist1n dist1c times2 g3 k7 next8p next8n next8c i9) H
def compassref08_rounds.b2 (dist1p : Option Addr) (dist1n : Nat) (dist1c : Nat) (times2 : Int) (g3 : Nat) (k7 : Int) (next8p : Option Addr) (next8n : Nat) (next8c : Nat) (i9 : Int) (X1 : Fr → Hp → Prop) (X2 : Fr → Hp → Prop) (E : Value → Hp → Prop) (H : Hp) (K : (Option Addr) → Nat → Nat → Hp → Prop) : Prop := nodeM P0 T0 compassref08_rounds.A compassref08_rounds.code [1, 0, 1, 0, 0, 1, 0, 0, 1, 0, 1, 0, 0] [X1, X2] (compassref08_rounds.rq E K) (compassref08_rounds.f2 dist1p dist1n dist1c times2 g3 k7 next8p next8n next8c i9) H
theorem compassref08_rounds.l2_rule {X1 : Fr → Hp → Prop} { E : Value → Hp → Prop} {K : (Option Addr) → Nat → Nat → Hp → Prop} (I : (Option Addr) → Nat → Nat → Int → Nat → Int → (Option Addr) → Nat → Nat → Int → Hp → Prop) (μ : (Option Addr) → Nat → Nat → Int → Nat → Int → (Option Addr) → Nat → Nat → Int → Hp → Nat)
    (h : ∀ dist1p dist1n dist1c times2 g3 k7 next8p next8n next8c i9 H, I dist1p dist1n dist1c times2 g3 k7 next8p next8n next8c i9 H → ∀ X : Fr → Hp → Prop, (∀ dist1p' dist1n' dist1c' times2' g3' k7' next8p' next8n' next8c' i9' H', I dist1p' dist1n' dist1c' times2' g3' k7' next8p' next8n' next8c' i9' H' → μ dist1p' dist1n' dist1c' times2' g3' k7' next8p' next8n' next8c' i9' H' < μ dist1p dist1n dist1c times2 g3 k7 next8p next8n next8c i9 H → X (compassref08_rounds.f2 dist1p' dist1n' dist1c' times2' g3' k7' next8p' next8n' next8c' i9') H') → compassref08_rounds.b2 dist1p dist1n dist1c times2 g3 k7 next8p next8n next8c i9 X1 X E H K)
    {dist1p : Option Addr} {dist1n : Nat} {dist1c : Nat} {times2 : Int} {g3 : Nat} {k7 : Int} {next8p : Option Addr} {next8n : Nat} {next8c : Nat} {i9 : Int} {H : Hp} (hI : I dist1p dist1n dist1c times2 g3 k7 next8p next8n next8c i9 H) : compassref08_rounds.l2 dist1p dist1n dist1c times2 g3 k7 next8p next8n next8c i9 X1 E H K :=
  loop_rule (S := (Option Addr) × Nat × Nat × Int × Nat × Int × (Option Addr) × Nat × Nat × Int) (fun s => compassref08_rounds.f2 (s.1) (s.2.1) (s.2.2.1) (s.2.2.2.1) (s.2.2.2.2.1) (s.2.2.2.2.2.1) (s.2.2.2.2.2.2.1) (s.2.2.2.2.2.2.2.1) (s.2.2.2.2.2.2.2.2.1) (s.2.2.2.2.2.2.2.2.2)) (fun s H => I (s.1) (s.2.1) (s.2.2.1) (s.2.2.2.1) (s.2.2.2.2.1) (s.2.2.2.2.2.1) (s.2.2.2.2.2.2.1) (s.2.2.2.2.2.2.2.1) (s.2.2.2.2.2.2.2.2.1) (s.2.2.2.2.2.2.2.2.2) H) (fun s H => μ (s.1) (s.2.1) (s.2.2.1) (s.2.2.2.1) (s.2.2.2.2.1) (s.2.2.2.2.2.1) (s.2.2.2.2.2.2.1) (s.2.2.2.2.2.2.2.1) (s.2.2.2.2.2.2.2.2.1) (s.2.2.2.2.2.2.2.2.2) H) (fun s H hI X hX => h (s.1) (s.2.1) (s.2.2.1) (s.2.2.2.1) (s.2.2.2.2.1) (s.2.2.2.2.2.1) (s.2.2.2.2.2.2.1) (s.2.2.2.2.2.2.2.1) (s.2.2.2.2.2.2.2.2.1) (s.2.2.2.2.2.2.2.2.2) H hI X fun dist1p' dist1n' dist1c' times2' g3' k7' next8p' next8n' next8c' i9' H' hI' hlt => hX (dist1p', dist1n', dist1c', times2', g3', k7', next8p', next8n', next8c', i9') H' hI' hlt) (s := (dist1p, dist1n, dist1c, times2, g3, k7, next8p, next8n, next8c, i9)) rfl hI
theorem compassref08_rounds.nok : nodesOk compassref08_rounds.code [[0, 1, 0, 1], [0, 1, 0, 1, 0, 0, 1, 0, 0, 1, 0, 1], [1, 1, 0, 0, 1, 0, 1, 0, 0, 1, 0, 0, 1, 0, 1], [1, 1, 0, 0, 1, 0, 1]] = true := by kernel_rfl
def compassref08_rounds.run_t (l1 : (Option Addr) → Nat → Nat → Int → Nat → Int → Hp → Prop) (g0_Nodes : Int) (g0_Edgesp : Option Addr) (g0_Edgesn : Nat) (g0_Edgesc : Nat) (dist1p : Option Addr) (dist1n : Nat) (dist1c : Nat) (times2 : Int)  (E : Value → Hp → Prop) (H : Hp) (K : (Option Addr) → Nat → Nat → Hp → Prop) : Prop :=
  nw H ⟨[.int .i64 g0_Nodes, .slice g0_Edgesp g0_Edgesn g0_Edgesc], 51⟩ fun b_1 H_1 =>
  l1 dist1p dist1n dist1c times2 b_1 0 H_1
theorem compassref08_rounds.run_eq {g0_Nodes : Int} {g0_Edgesp : Option Addr} {g0_Edgesn : Nat} {g0_Edgesc : Nat} {dist1p : Option Addr} {dist1n : Nat} {dist1c : Nat} {times2 : Int} { E : Value → Hp → Prop} {H : Hp} {K : (Option Addr) → Nat → Nat → Hp → Prop} (h : compassref08_rounds.run_t (fun dist1p dist1n dist1c times2 g3 k7 H => compassref08_rounds.l1 dist1p dist1n dist1c times2 g3 k7  E H K) g0_Nodes g0_Edgesp g0_Edgesn g0_Edgesc dist1p dist1n dist1c times2  E H K) : compassref08_rounds.run g0_Nodes g0_Edgesp g0_Edgesn g0_Edgesc dist1p dist1n dist1c times2  E H K := by
  have k1 : ∀ G : List Nat → Fr → Hp → Prop, nodeR P0 T0 compassref08_rounds.A [[0, 1, 0, 1], [0, 1, 0, 1, 0, 0, 1, 0, 0, 1, 0, 1], [1, 1, 0, 0, 1, 0, 1, 0, 0, 1, 0, 0, 1, 0, 1], [1, 1, 0, 0, 1, 0, 1]] G compassref08_rounds.code [] [] (compassref08_rounds.rq E K) (argF 0 [.agg ⟨[.int .i64 g0_Nodes, .slice g0_Edgesp g0_Edgesn g0_Edgesc]⟩, .slice dist1p dist1n dist1c, .int .i64 times2]) H = compassref08_rounds.run_t (fun dist1p dist1n dist1c times2 g3 k7 H => G [0, 1, 0, 1] [(1, .slice dist1p dist1n dist1c), (2, .int .i64 times2), (3, .pointer (some ⟨g3, 0, none⟩)), (7, .int .i64 k7)] H) g0_Nodes g0_Edgesp g0_Edgesn g0_Edgesc dist1p dist1n dist1c times2  E H K := fun G => by kernel_rfl
  have k2 : compassref08_rounds.run_t (fun dist1p dist1n dist1c times2 g3 k7 H => compassref08_rounds.l1 dist1p dist1n dist1c times2 g3 k7  E H K) g0_Nodes g0_Edgesp g0_Edgesn g0_Edgesc dist1p dist1n dist1c times2  E H K = compassref08_rounds.run_t (fun dist1p dist1n dist1c times2 g3 k7 H => (fun q F H => nodeM P0 T0 compassref08_rounds.A compassref08_rounds.code q.reverse [] (compassref08_rounds.rq E K) F H) [0, 1, 0, 1] [(1, .slice dist1p dist1n dist1c), (2, .int .i64 times2), (3, .pointer (some ⟨g3, 0, none⟩)), (7, .int .i64 k7)] H) g0_Nodes g0_Edgesp g0_Edgesn g0_Edgesc dist1p dist1n dist1c times2  E H K := by kernel_rfl
  exact nodeR_imp compassref08_rounds.nok rfl ((k1 _).mpr (k2.mp h))
def compassref08_rounds.j1_t  (dist1p : Option Addr) (dist1n : Nat) (dist1c : Nat) (times2 : Int) (g3 : Nat) (k7 : Int) (next8p : Option Addr) (next8n : Nat) (next8c : Nat) (i9 : Int) (X1 : Fr → Hp → Prop) (X2 : Fr → Hp → Prop) (E : Value → Hp → Prop) (H : Hp) (K : (Option Addr) → Nat → Nat → Hp → Prop) : Prop :=
  X2 (compassref08_rounds.f2 dist1p dist1n dist1c times2 g3 k7 next8p next8n next8c (IntKind.wrap .i64 (i9 + 1))) H
theorem compassref08_rounds.j1_eq {dist1p : Option Addr} {dist1n : Nat} {dist1c : Nat} {times2 : Int} {g3 : Nat} {k7 : Int} {next8p : Option Addr} {next8n : Nat} {next8c : Nat} {i9 : Int} {X1 X2 : Fr → Hp → Prop} { E : Value → Hp → Prop} {H : Hp} {K : (Option Addr) → Nat → Nat → Hp → Prop} (h : compassref08_rounds.j1_t  dist1p dist1n dist1c times2 g3 k7 next8p next8n next8c i9 X1 X2 E H K) : compassref08_rounds.j1 dist1p dist1n dist1c times2 g3 k7 next8p next8n next8c i9 X1 X2 E H K := by
  have k1 : ∀ G : List Nat → Fr → Hp → Prop, nodeR P0 T0 compassref08_rounds.A [[0, 1, 0, 1], [0, 1, 0, 1, 0, 0, 1, 0, 0, 1, 0, 1], [1, 1, 0, 0, 1, 0, 1, 0, 0, 1, 0, 0, 1, 0, 1], [1, 1, 0, 0, 1, 0, 1]] G compassref08_rounds.code [1, 0, 1, 0, 0, 1, 0, 0, 1, 0, 1, 0, 0, 1, 1] [X1, X2] (compassref08_rounds.rq E K) [(1, .slice dist1p dist1n dist1c), (2, .int .i64 times2), (3, .pointer (some ⟨g3, 0, none⟩)), (7, .int .i64 k7), (8, .slice next8p next8n next8c), (9, .int .i64 i9)] H = compassref08_rounds.j1_t  dist1p dist1n dist1c times2 g3 k7 next8p next8n next8c i9 X1 X2 E H K := fun G => by kernel_rfl
  exact nodeR_imp compassref08_rounds.nok rfl ((k1 _).mpr h)
def compassref08_rounds.j2_t  (dist1p : Option Addr) (dist1n : Nat) (dist1c : Nat) (times2 : Int) (g3 : Nat) (k7 : Int) (X1 : Fr → Hp → Prop) (E : Value → Hp → Prop) (H : Hp) (K : (Option Addr) → Nat → Nat → Hp → Prop) : Prop :=
  X1 (compassref08_rounds.f1 dist1p dist1n dist1c times2 g3 (IntKind.wrap .i64 (k7 + 1))) H
theorem compassref08_rounds.j2_eq {dist1p : Option Addr} {dist1n : Nat} {dist1c : Nat} {times2 : Int} {g3 : Nat} {k7 : Int} {X1 : Fr → Hp → Prop} { E : Value → Hp → Prop} {H : Hp} {K : (Option Addr) → Nat → Nat → Hp → Prop} (h : compassref08_rounds.j2_t  dist1p dist1n dist1c times2 g3 k7 X1 E H K) : compassref08_rounds.j2 dist1p dist1n dist1c times2 g3 k7 X1 E H K := by
  have k1 : ∀ G : List Nat → Fr → Hp → Prop, nodeR P0 T0 compassref08_rounds.A [[0, 1, 0, 1], [0, 1, 0, 1, 0, 0, 1, 0, 0, 1, 0, 1], [1, 1, 0, 0, 1, 0, 1, 0, 0, 1, 0, 0, 1, 0, 1], [1, 1, 0, 0, 1, 0, 1]] G compassref08_rounds.code [1, 0, 1, 0, 0, 1, 1] [X1] (compassref08_rounds.rq E K) [(1, .slice dist1p dist1n dist1c), (2, .int .i64 times2), (3, .pointer (some ⟨g3, 0, none⟩)), (7, .int .i64 k7)] H = compassref08_rounds.j2_t  dist1p dist1n dist1c times2 g3 k7 X1 E H K := fun G => by kernel_rfl
  exact nodeR_imp compassref08_rounds.nok rfl ((k1 _).mpr h)
def compassref08_rounds.b1_t (l2 : (Option Addr) → Nat → Nat → Int → Nat → Int → (Option Addr) → Nat → Nat → Int → Hp → Prop) (dist1p : Option Addr) (dist1n : Nat) (dist1c : Nat) (times2 : Int) (g3 : Nat) (k7 : Int) (X1 : Fr → Hp → Prop) (E : Value → Hp → Prop) (H : Hp) (K : (Option Addr) → Nat → Nat → Hp → Prop) : Prop :=
  bcase (decide ((k7 : Int) < times2)) (
  nw H ⟨[], 2⟩ fun b_1 H_1 =>
  appM 2 [.i .i64] 8 (some ⟨b_1, 0, none⟩) 0 0 dist1p dist1n H_1 fun a_1p a_1n a_1c H_2 =>
  l2 dist1p dist1n dist1c times2 g3 k7 a_1p a_1n a_1c 0 H_2)
  (K dist1p dist1n dist1c H)
theorem compassref08_rounds.b1_eq {dist1p : Option Addr} {dist1n : Nat} {dist1c : Nat} {times2 : Int} {g3 : Nat} {k7 : Int} {X1 : Fr → Hp → Prop} { E : Value → Hp → Prop} {H : Hp} {K : (Option Addr) → Nat → Nat → Hp → Prop} (h : compassref08_rounds.b1_t (fun dist1p dist1n dist1c times2 g3 k7 next8p next8n next8c i9 H => compassref08_rounds.l2 dist1p dist1n dist1c times2 g3 k7 next8p next8n next8c i9 X1 E H K) dist1p dist1n dist1c times2 g3 k7 X1 E H K) : compassref08_rounds.b1 dist1p dist1n dist1c times2 g3 k7 X1 E H K := by
  have k1 : ∀ G : List Nat → Fr → Hp → Prop, nodeR P0 T0 compassref08_rounds.A [[0, 1, 0, 1], [0, 1, 0, 1, 0, 0, 1, 0, 0, 1, 0, 1], [1, 1, 0, 0, 1, 0, 1, 0, 0, 1, 0, 0, 1, 0, 1], [1, 1, 0, 0, 1, 0, 1]] G compassref08_rounds.code [1, 0, 1, 0, 0] [X1] (compassref08_rounds.rq E K) (compassref08_rounds.f1 dist1p dist1n dist1c times2 g3 k7) H = compassref08_rounds.b1_t (fun dist1p dist1n dist1c times2 g3 k7 next8p next8n next8c i9 H => G [0, 1, 0, 1, 0, 0, 1, 0, 0, 1, 0, 1] [(1, .slice dist1p dist1n dist1c), (2, .int .i64 times2), (3, .pointer (some ⟨g3, 0, none⟩)), (7, .int .i64 k7), (8, .slice next8p next8n next8c), (9, .int .i64 i9)] H) dist1p dist1n dist1c times2 g3 k7 X1 E H K := fun G => by kernel_rfl
  have k2 : compassref08_rounds.b1_t (fun dist1p dist1n dist1c times2 g3 k7 next8p next8n next8c i9 H => compassref08_rounds.l2 dist1p dist1n dist1c times2 g3 k7 next8p next8n next8c i9 X1 E H K) dist1p dist1n dist1c times2 g3 k7 X1 E H K = compassref08_rounds.b1_t (fun dist1p dist1n dist1c times2 g3 k7 next8p next8n next8c i9 H => (fun q F H => nodeM P0 T0 compassref08_rounds.A compassref08_rounds.code q.reverse [X1] (compassref08_rounds.rq E K) F H) [0, 1, 0, 1, 0, 0, 1, 0, 0, 1, 0, 1] [(1, .slice dist1p dist1n dist1c), (2, .int .i64 times2), (3, .pointer (some ⟨g3, 0, none⟩)), (7, .int .i64 k7), (8, .slice next8p next8n next8c), (9, .int .i64 i9)] H) dist1p dist1n dist1c times2 g3 k7 X1 E H K := by kernel_rfl
  exact nodeR_imp compassref08_rounds.nok rfl ((k1 _).mpr (k2.mp h))
def compassref08_rounds.b2_t (j1 : (Option Addr) → Nat → Nat → Int → Nat → Int → (Option Addr) → Nat → Nat → Int → Hp → Prop) (j2 : (Option Addr) → Nat → Nat → Int → Nat → Int → Hp → Prop) (dist1p : Option Addr) (dist1n : Nat) (dist1c : Nat) (times2 : Int) (g3 : Nat) (k7 : Int) (next8p : Option Addr) (next8n : Nat) (next8c : Nat) (i9 : Int) (X1 : Fr → Hp → Prop) (X2 : Fr → Hp → Prop) (E : Value → Hp → Prop) (H : Hp) (K : (Option Addr) → Nat → Nat → Hp → Prop) : Prop :=
  ldS (H.get g3 1) fun x_1p x_1n x_1c =>
  bcase (decide ((i9 : Int) < (x_1n : Int))) (
  ldS (H.get g3 1) fun x_2p x_2n x_2c =>
  ix x_2p x_2n i9 4 fun b_1 o_1 =>
  ldI .i64 (H.get b_1 o_1) fun x_3 =>
  ldI .i64 (H.get b_1 (o_1 + 1)) fun x_4 =>
  ldI .i64 (H.get b_1 (o_1 + 2)) fun x_5 =>
  ldI .i64 (H.get b_1 (o_1 + 3)) fun x_6 =>
  nw H ⟨[.int .i64 0, .int .i64 0, .int .i64 0, .int .i64 0], 69⟩ fun b_2 H_1 =>
  stC H_1 b_2 0 [.int .i64 x_3, .int .i64 x_4, .int .i64 x_5, .int .i64 x_6] fun H_2 =>
  ldI .i64 (H_2.get b_2 0) fun x_7 =>
  ix dist1p dist1n x_7 1 fun b_3 o_2 =>
  ldI .i64 (H_2.get b_3 o_2) fun x_8 =>
  bcase (decide ((x_8 : Int) < 4611686018427387904)) (
  ldI .i64 (H_2.get b_2 0) fun x_9 =>
  ix dist1p dist1n x_9 1 fun b_4 o_3 =>
  ldI .i64 (H_2.get b_4 o_3) fun x_10 =>
  ldI .i64 (H_2.get b_2 3) fun x_11 =>
  ldI .i64 (H_2.get b_2 1) fun x_12 =>
  ix next8p next8n x_12 1 fun b_5 o_4 =>
  ldI .i64 (H_2.get b_5 o_4) fun x_13 =>
  bcase (decide (((IntKind.wrap .i64 (x_10 + x_11)) : Int) < x_13)) (
  ldI .i64 (H_2.get b_2 1) fun x_14 =>
  ldI .i64 (H_2.get b_2 0) fun x_15 =>
  ix dist1p dist1n x_15 1 fun b_6 o_5 =>
  ldI .i64 (H_2.get b_6 o_5) fun x_16 =>
  ldI .i64 (H_2.get b_2 3) fun x_17 =>
  ix next8p next8n x_14 1 fun b_7 o_6 =>
  stC H_2 b_7 o_6 [.int .i64 (IntKind.wrap .i64 (x_16 + x_17))] fun H_3 =>
  j1 dist1p dist1n dist1c times2 g3 k7 next8p next8n next8c i9 H_3)
  (j1 dist1p dist1n dist1c times2 g3 k7 next8p next8n next8c i9 H_2))
  (j1 dist1p dist1n dist1c times2 g3 k7 next8p next8n next8c i9 H_2))
  (j2 next8p next8n next8c times2 g3 k7 H)
theorem compassref08_rounds.b2_eq {dist1p : Option Addr} {dist1n : Nat} {dist1c : Nat} {times2 : Int} {g3 : Nat} {k7 : Int} {next8p : Option Addr} {next8n : Nat} {next8c : Nat} {i9 : Int} {X1 X2 : Fr → Hp → Prop} { E : Value → Hp → Prop} {H : Hp} {K : (Option Addr) → Nat → Nat → Hp → Prop} (h : compassref08_rounds.b2_t (fun dist1p dist1n dist1c times2 g3 k7 next8p next8n next8c i9 H => compassref08_rounds.j1 dist1p dist1n dist1c times2 g3 k7 next8p next8n next8c i9 X1 X2 E H K) (fun dist1p dist1n dist1c times2 g3 k7 H => compassref08_rounds.j2 dist1p dist1n dist1c times2 g3 k7 X1 E H K) dist1p dist1n dist1c times2 g3 k7 next8p next8n next8c i9 X1 X2 E H K) : compassref08_rounds.b2 dist1p dist1n dist1c times2 g3 k7 next8p next8n next8c i9 X1 X2 E H K := by
  have k1 : ∀ G : List Nat → Fr → Hp → Prop, nodeR P0 T0 compassref08_rounds.A [[0, 1, 0, 1], [0, 1, 0, 1, 0, 0, 1, 0, 0, 1, 0, 1], [1, 1, 0, 0, 1, 0, 1, 0, 0, 1, 0, 0, 1, 0, 1], [1, 1, 0, 0, 1, 0, 1]] G compassref08_rounds.code [1, 0, 1, 0, 0, 1, 0, 0, 1, 0, 1, 0, 0] [X1, X2] (compassref08_rounds.rq E K) (compassref08_rounds.f2 dist1p dist1n dist1c times2 g3 k7 next8p next8n next8c i9) H = compassref08_rounds.b2_t (fun dist1p dist1n dist1c times2 g3 k7 next8p next8n next8c i9 H => G [1, 1, 0, 0, 1, 0, 1, 0, 0, 1, 0, 0, 1, 0, 1] [(1, .slice dist1p dist1n dist1c), (2, .int .i64 times2), (3, .pointer (some ⟨g3, 0, none⟩)), (7, .int .i64 k7), (8, .slice next8p next8n next8c), (9, .int .i64 i9)] H) (fun dist1p dist1n dist1c times2 g3 k7 H => G [1, 1, 0, 0, 1, 0, 1] [(1, .slice dist1p dist1n dist1c), (2, .int .i64 times2), (3, .pointer (some ⟨g3, 0, none⟩)), (7, .int .i64 k7)] H) dist1p dist1n dist1c times2 g3 k7 next8p next8n next8c i9 X1 X2 E H K := fun G => by kernel_rfl
  have k2 : compassref08_rounds.b2_t (fun dist1p dist1n dist1c times2 g3 k7 next8p next8n next8c i9 H => compassref08_rounds.j1 dist1p dist1n dist1c times2 g3 k7 next8p next8n next8c i9 X1 X2 E H K) (fun dist1p dist1n dist1c times2 g3 k7 H => compassref08_rounds.j2 dist1p dist1n dist1c times2 g3 k7 X1 E H K) dist1p dist1n dist1c times2 g3 k7 next8p next8n next8c i9 X1 X2 E H K = compassref08_rounds.b2_t (fun dist1p dist1n dist1c times2 g3 k7 next8p next8n next8c i9 H => (fun q F H => nodeM P0 T0 compassref08_rounds.A compassref08_rounds.code q.reverse [X1, X2] (compassref08_rounds.rq E K) F H) [1, 1, 0, 0, 1, 0, 1, 0, 0, 1, 0, 0, 1, 0, 1] [(1, .slice dist1p dist1n dist1c), (2, .int .i64 times2), (3, .pointer (some ⟨g3, 0, none⟩)), (7, .int .i64 k7), (8, .slice next8p next8n next8c), (9, .int .i64 i9)] H) (fun dist1p dist1n dist1c times2 g3 k7 H => (fun q F H => nodeM P0 T0 compassref08_rounds.A compassref08_rounds.code q.reverse [X1, X2] (compassref08_rounds.rq E K) F H) [1, 1, 0, 0, 1, 0, 1] [(1, .slice dist1p dist1n dist1c), (2, .int .i64 times2), (3, .pointer (some ⟨g3, 0, none⟩)), (7, .int .i64 k7)] H) dist1p dist1n dist1c times2 g3 k7 next8p next8n next8c i9 X1 X2 E H K := by kernel_rfl
  exact nodeR_imp compassref08_rounds.nok rfl ((k1 _).mpr (k2.mp h))
/-! ### compass/compassref08.settled (51) -/
noncomputable def compassref08_settled.A : An := { live := [(0, [0, 1]), (1, [1, 2]), (2, [1, 2, 5]), (3, [1, 2, 5]), (4, [1, 2, 5]), (5, [1, 2, 5, 6]), (6, []), (7, [])], ord := [(5, [0, 1, 2, 3, 4, 5, 6, 7, 8, 9, 10, 11, 12, 13, 14, 15, 16, 17, 18, 19, 20, 21])], stb := [], pre := [(5, [[], [], [1], [0, 1, 2], [0, 1, 2, 3], [0, 1, 2, 3, 4], [0, 1, 2, 3, 4, 5], [0, 1, 2, 3, 4, 5, 6], [0, 1, 2, 3, 4, 5, 6], [0, 1, 2, 3, 4, 5, 6, 8], [0, 1, 2, 3, 4, 5, 6, 7, 8, 9], [0, 1, 2, 3, 4, 5, 6, 7, 8, 9, 10], [0, 1, 2, 3, 4, 5, 6], [0, 1, 2, 3, 4, 5, 6, 12], [0, 1, 2, 3, 4, 5, 6, 7, 8, 9, 10, 11, 12, 13], [0, 1, 2, 3, 4, 5, 6], [0, 1, 2, 3, 4, 5, 6], [0, 1, 2, 3, 4, 5, 6, 16], [0, 1, 2, 3, 4, 5, 6, 15, 16, 17], [0, 1, 2, 3, 4, 5, 6, 15, 16, 17, 18], [0, 1, 2, 3, 4, 5, 6, 7, 8, 9, 10, 11, 12, 13, 14, 15, 16, 17, 18, 19], [0, 1, 2, 3, 4, 5, 6, 7, 8, 9, 10, 11, 12, 13, 14, 15, 16, 17, 18, 19, 20]])] }
noncomputable def compassref08_settled.code : Code := bodyOf Go.Proofs.Try.f51
theorem compassref08_settled.ok : okCode compassref08_settled.A 41 compassref08_settled.code = true := by kernel_rfl
def compassref08_settled.rq (E : Value → Hp → Prop) (K : Bool → Hp → Prop) : Ex → Fr → Hp → Prop := retQ T0 [.tmp 4] [4] (fun r H => ldR (.one false [.bool]) r fun u => K (asB u) H) E
def compassref08_settled.run (g0_Nodes : Int) (g0_Edgesp : Option Addr) (g0_Edgesn : Nat) (g0_Edgesc : Nat) (dist1p : Option Addr) (dist1n : Nat) (dist1c : Nat) (E : Value → Hp → Prop) (H : Hp) (K : Bool → Hp → Prop) : Prop := nodeM P0 T0 compassref08_settled.A compassref08_settled.code [] [] (compassref08_settled.rq E K) (argF 0 [.agg ⟨[.int .i64 g0_Nodes, .slice g0_Edgesp g0_Edgesn g0_Edgesc]⟩, .slice dist1p dist1n dist1c]) H
theorem compassref08_settled.of {g0_Nodes : Int} {g0_Edgesp : Option Addr} {g0_Edgesn : Nat} {g0_Edgesc : Nat} {dist1p : Option Addr} {dist1n : Nat} {dist1c : Nat} {E : Value → Hp → Prop} {H : Hp} {K : Bool → Hp → Prop} (h : compassref08_settled.run g0_Nodes g0_Edgesp g0_Edgesn g0_Edgesc dist1p dist1n dist1c E H K) : compassref08_settled.call g0_Nodes g0_Edgesp g0_Edgesn g0_Edgesc dist1p dist1n dist1c E H K :=
  callW_of T0_ok P0_mixed (A := compassref08_settled.A) (fn := Go.Proofs.Try.f51) Go.Proofs.Try.func51 rfl compassref08_settled.ok rfl h
noncomputable def compassref08_settled.f1 (dist1p : Option Addr) (dist1n : Nat) (dist1c : Nat) (g2 : Nat) (i5 : Int) : Fr := [(1, .slice dist1p dist1n dist1c), (2, .pointer (some ⟨g2, 0, none⟩)), (5, .int .i64 i5)]
def compassref08_settled.j1 (dist1p : Option Addr) (dist1n : Nat) (dist1c : Nat) (g2 : Nat) (i5 : Int) (X1 : Fr → Hp → Prop) (E : Value → Hp → Prop) (H : Hp) (K : Bool → Hp → Prop) : Prop := nodeM P0 T0 compassref08_settled.A compassref08_settled.code [1, 0, 1, 0, 0, 1, 1] [X1] (compassref08_settled.rq E K) [(1, .slice dist1p dist1n dist1c), (2, .pointer (some ⟨g2, 0, none⟩)), (5, .int .i64 i5)] H
def compassref08_settled.l1 (dist1p : Option Addr) (dist1n : Nat) (dist1c : Nat) (g2 : Nat) (i5 : Int)  (E : Value → Hp → Prop) (H : Hp) (K : Bool → Hp → Prop) : Prop := nodeM P0 T0 compassref08_settled.A compassref08_settled.code [1, 0, 1, 0] [] (compassref08_settled.rq E K) (compassref08_settled.f1 dist1p dist1n dist1c g2 i5) H
def compassref08_settled.b1 (dist1p : Option Addr) (dist1n : Nat) (dist1c : Nat) (g2 : Nat) (i5 : Int)  (X1 : Fr → Hp → Prop) (E : Value → Hp → Prop) (H : Hp) (K : Bool → Hp → Prop) : Prop := nodeM P0 T0 compassref08_settled.A compassref08_settled.code [1, 0, 1, 0, 0] [X1] (compassref08_settled.rq E K) (compassref08_settled.f1 dist1p dist1n dist1c g2 i5) H
theorem compassref08_settled.l1_rule { E : Value → Hp → Prop} {K : Bool → Hp → Prop} (I : (Option Addr) → Nat → Nat → Nat → Int → Hp → Prop) (μ : (Option Addr) → Nat → Nat → Nat → Int → Hp → Nat)
    (h : ∀ dist1p dist1n dist1c g2 i5 H, I dist1p dist1n dist1c g2 i5 H → ∀ X : Fr → Hp → Prop, (∀ dist1p' dist1n' dist1c' g2' i5' H', I dist1p' dist1n' dist1c' g2' i5' H' → μ dist1p' dist1n' dist1c' g2' i5' H' < μ dist1p dist1n dist1c g2 i5 H → X (compassref08_settled.f1 dist1p' dist1n' dist1c' g2' i5') H') → compassref08_settled.b1 dist1p dist1n dist1c g2 i5  X E H K)
    {dist1p : Option Addr} {dist1n : Nat} {dist1c : Nat} {g2 : Nat} {i5 : Int} {H : Hp} (hI : I dist1p dist1n dist1c g2 i5 H) : compassref08_settled.l1 dist1p dist1n dist1c g2 i5  E H K :=
  loop_rule (S := (Option Addr) × Nat × Nat × Nat × Int) (fun s => compassref08_settled.f1 (s.1) (s.2.1) (s.2.2.1) (s.2.2.2.1) (s.2.2.2.2)) (fun s H => I (s.1) (s.2.1) (s.2.2.1) (s.2.2.2.1) (s.2.2.2.2) H) (fun s H => μ (s.1) (s.2.1) (s.2.2.1) (s.2.2.2.1) (s.2.2.2.2) H) (fun s H hI X hX => h (s.1) (s.2.1) (s.2.2.1) (s.2.2.2.1) (s.2.2.2.2) H hI X fun dist1p' dist1n' dist1c' g2' i5' H' hI' hlt => hX (dist1p', dist1n', dist1c', g2', i5') H' hI' hlt) (s := (dist1p, dist1n, dist1c, g2, i5)) rfl hI
theorem compassref08_settled.nok : nodesOk compassref08_settled.code [[0, 1, 0, 1], [1, 1, 0, 0, 1, 0, 1]] = true := by kernel_rfl
def compassref08_settled.run_t (l1 : (Option Addr) → Nat → Nat → Nat → Int → Hp → Prop) (g0_Nodes : Int) (g0_Edgesp : Option Addr) (g0_Edgesn : Nat) (g0_Edgesc : Nat) (dist1p : Option Addr) (dist1n : Nat) (dist1c : Nat)  (E : Value → Hp → Prop) (H : Hp) (K : Bool → Hp → Prop) : Prop :=
  nw H ⟨[.int .i64 g0_Nodes, .slice g0_Edgesp g0_Edgesn g0_Edgesc], 51⟩ fun b_1 H_1 =>
  l1 dist1p dist1n dist1c b_1 0 H_1
theorem compassref08_settled.run_eq {g0_Nodes : Int} {g0_Edgesp : Option Addr} {g0_Edgesn : Nat} {g0_Edgesc : Nat} {dist1p : Option Addr} {dist1n : Nat} {dist1c : Nat} { E : Value → Hp → Prop} {H : Hp} {K : Bool → Hp → Prop} (h : compassref08_settled.run_t (fun dist1p dist1n dist1c g2 i5 H => compassref08_settled.l1 dist1p dist1n dist1c g2 i5  E H K) g0_Nodes g0_Edgesp g0_Edgesn g0_Edgesc dist1p dist1n dist1c  E H K) : compassref08_settled.run g0_Nodes g0_Edgesp g0_Edgesn g0_Edgesc dist1p dist1n dist1c  E H K := by
  have k1 : ∀ G : List Nat → Fr → Hp → Prop, nodeR P0 T0 compassref08_settled.A [[0, 1, 0, 1], [1, 1, 0, 0, 1, 0, 1]] G compassref08_settled.code [] [] (compassref08_settled.rq E K) (argF 0 [.agg ⟨[.int .i64 g0_Nodes, .slice g0_Edgesp g0_Edgesn g0_Edgesc]⟩, .slice dist1p dist1n dist1c]) H = compassref08_settled.run_t (fun dist1p dist1n dist1c g2 i5 H => G [0, 1, 0, 1] [(1, .slice dist1p dist1n dist1c), (2, .pointer (some ⟨g2, 0, none⟩)), (5, .int .i64 i5)] H) g0_Nodes g0_Edgesp g0_Edgesn g0_Edgesc dist1p dist1n dist1c  E H K := fun G => by kernel_rfl
  have k2 : compassref08_settled.run_t (fun dist1p dist1n dist1c g2 i5 H => compassref08_settled.l1 dist1p dist1n dist1c g2 i5  E H K) g0_Nodes g0_Edgesp g0_Edgesn g0_Edgesc dist1p dist1n dist1c  E H K = compassref08_settled.run_t (fun dist1p dist1n dist1c g2 i5 H => (fun q F H => nodeM P0 T0 compassref08_settled.A compassref08_settled.code q.reverse [] (compassref08_settled.rq E K) F H) [0, 1, 0, 1] [(1, .slice dist1p dist1n dist1c), (2, .pointer (some ⟨g2, 0, none⟩)), (5, .int .i64 i5)] H) g0_Nodes g0_Edgesp g0_Edgesn g0_Edgesc dist1p dist1n dist1c  E H K := by kernel_rfl
  exact nodeR_imp compassref08_settled.nok rfl ((k1 _).mpr (k2.mp h))
def compassref08_settled.j1_t  (dist1p : Option Addr) (dist1n : Nat) (dist1c : Nat) (g2 : Nat) (i5 : Int) (X1 : Fr → Hp → Prop) (E : Value → Hp → Prop) (H : Hp) (K : Bool → Hp → Prop) : Prop :=
  X1 (compassref08_settled.f1 dist1p dist1n dist1c g2 (IntKind.wrap .i64 (i5 + 1))) H
theorem compassref08_settled.j1_eq {dist1p : Option Addr} {dist1n : Nat} {dist1c : Nat} {g2 : Nat} {i5 : Int} {X1 : Fr → Hp → Prop} { E : Value → Hp → Prop} {H : Hp} {K : Bool → Hp → Prop} (h : compassref08_settled.j1_t  dist1p dist1n dist1c g2 i5 X1 E H K) : compassref08_settled.j1 dist1p dist1n dist1c g2 i5 X1 E H K := by
  have k1 : ∀ G : List Nat → Fr → Hp → Prop, nodeR P0 T0 compassref08_settled.A [[0, 1, 0, 1], [1, 1, 0, 0, 1, 0, 1]] G compassref08_settled.code [1, 0, 1, 0, 0, 1, 1] [X1] (compassref08_settled.rq E K) [(1, .slice dist1p dist1n dist1c), (2, .pointer (some ⟨g2, 0, none⟩)), (5, .int .i64 i5)] H = compassref08_settled.j1_t  dist1p dist1n dist1c g2 i5 X1 E H K := fun G => by kernel_rfl
  exact nodeR_imp compassref08_settled.nok rfl ((k1 _).mpr h)
def compassref08_settled.b1_t (j1 : (Option Addr) → Nat → Nat → Nat → Int → Hp → Prop) (dist1p : Option Addr) (dist1n : Nat) (dist1c : Nat) (g2 : Nat) (i5 : Int) (X1 : Fr → Hp → Prop) (E : Value → Hp → Prop) (H : Hp) (K : Bool → Hp → Prop) : Prop :=
  ldS (H.get g2 1) fun x_1p x_1n x_1c =>
  bcase (decide ((i5 : Int) < (x_1n : Int))) (
  ldS (H.get g2 1) fun x_2p x_2n x_2c =>
  ix x_2p x_2n i5 4 fun b_1 o_1 =>
  ldI .i64 (H.get b_1 o_1) fun x_3 =>
  ldI .i64 (H.get b_1 (o_1 + 1)) fun x_4 =>
  ldI .i64 (H.get b_1 (o_1 + 2)) fun x_5 =>
  ldI .i64 (H.get b_1 (o_1 + 3)) fun x_6 =>
  nw H ⟨[.int .i64 0, .int .i64 0, .int .i64 0, .int .i64 0], 69⟩ fun b_2 H_1 =>
  stC H_1 b_2 0 [.int .i64 x_3, .int .i64 x_4, .int .i64 x_5, .int .i64 x_6] fun H_2 =>
  ldI .i64 (H_2.get b_2 0) fun x_7 =>
  ix dist1p dist1n x_7 1 fun b_3 o_2 =>
  ldI .i64 (H_2.get b_3 o_2) fun x_8 =>
  bcase (decide ((x_8 : Int) < 4611686018427387904)) (
  ldI .i64 (H_2.get b_2 0) fun x_9 =>
  ix dist1p dist1n x_9 1 fun b_4 o_3 =>
  ldI .i64 (H_2.get b_4 o_3) fun x_10 =>
  ldI .i64 (H_2.get b_2 3) fun x_11 =>
  ldI .i64 (H_2.get b_2 1) fun x_12 =>
  ix dist1p dist1n x_12 1 fun b_5 o_4 =>
  ldI .i64 (H_2.get b_5 o_4) fun x_13 =>
  bcase (decide (((IntKind.wrap .i64 (x_10 + x_11)) : Int) < x_13)) (
  K false H_2)
  (j1 dist1p dist1n dist1c g2 i5 H_2))
  (j1 dist1p dist1n dist1c g2 i5 H_2))
  (K true H)
theorem compassref08_settled.b1_eq {dist1p : Option Addr} {dist1n : Nat} {dist1c : Nat} {g2 : Nat} {i5 : Int} {X1 : Fr → Hp → Prop} { E : Value → Hp → Prop} {H : Hp} {K : Bool → Hp → Prop} (h : compassref08_settled.b1_t (fun dist1p dist1n dist1c g2 i5 H => compassref08_settled.j1 dist1p dist1n dist1c g2 i5 X1 E H K) dist1p dist1n dist1c g2 i5 X1 E H K) : compassref08_settled.b1 dist1p dist1n dist1c g2 i5 X1 E H K := by
  have k1 : ∀ G : List Nat → Fr → Hp → Prop, nodeR P0 T0 compassref08_settled.A [[0, 1, 0, 1], [1, 1, 0, 0, 1, 0, 1]] G compassref08_settled.code [1, 0, 1, 0, 0] [X1] (compassref08_settled.rq E K) (compassref08_settled.f1 dist1p dist1n dist1c g2 i5) H = compassref08_settled.b1_t (fun dist1p dist1n dist1c g2 i5 H => G [1, 1, 0, 0, 1, 0, 1] [(1, .slice dist1p dist1n dist1c), (2, .pointer (some ⟨g2, 0, none⟩)), (5, .int .i64 i5)] H) dist1p dist1n dist1c g2 i5 X1 E H K := fun G => by kernel_rfl
  have k2 : compassref08_settled.b1_t (fun dist1p dist1n dist1c g2 i5 H => compassref08_settled.j1 dist1p dist1n dist1c g2 i5 X1 E H K) dist1p dist1n dist1c g2 i5 X1 E H K = compassref08_settled.b1_t (fun dist1p dist1n dist1c g2 i5 H => (fun q F H => nodeM P0 T0 compassref08_settled.A compassref08_settled.code q.reverse [X1] (compassref08_settled.rq E K) F H) [1, 1, 0, 0, 1, 0, 1] [(1, .slice dist1p dist1n dist1c), (2, .pointer (some ⟨g2, 0, none⟩)), (5, .int .i64 i5)] H) dist1p dist1n dist1c g2 i5 X1 E H K := by kernel_rfl
  exact nodeR_imp compassref08_settled.nok rfl ((k1 _).mpr (k2.mp h))
end Go.Mz
