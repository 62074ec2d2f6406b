/-
  The shallow texts of functions (Rec), each with a kernel-checked equation to the translated code. It proves nothing of the program by itself.
-/
import Derived.Test.YtbocpfdlfnodfaaTab
set_option linter.unusedVariables false
set_option maxRecDepth 100000
namespace Go.Mz
/-! ### compass/compassref12.Odd (26) -/
noncomputable def compassref12_Odd.A : An := { live := [(0, [0, 1]), (1, [1, 2]), (2, [1, 2, 5]), (3, [1, 2, 5, 6]), (4, [1, 2, 5, 6]), (5, [1, 2, 5, 6]), (6, [1, 2, 5, 6]), (7, [1, 2, 5]), (8, [1, 2, 7]), (9, [1, 2, 7, 9]), (10, [1, 2, 7, 9, 10]), (11, [1, 2, 7, 9, 10]), (12, [1, 2, 7, 9, 10]), (13, [1, 2, 7, 9, 10]), (14, [2, 9]), (15, [2, 9, 11]), (16, [2, 9, 11, 12]), (17, [2, 9, 11, 12]), (18, [2, 9, 11, 12]), (19, [11])], ord := [(6, [0, 1, 2, 3, 4, 5, 6, 7, 8, 9, 10])], stb := [], pre := [(6, [[], [0], [], [2], [], [2, 3, 4], [2, 3, 4, 5], [2, 3, 4, 5, 6], [0, 1, 2, 3, 4, 5, 6, 7], [0, 1, 2, 3, 4, 5, 6, 7, 8], [0, 1, 2, 3, 4, 5, 6, 7, 8, 9]])] }
noncomputable def compassref12_Odd.code : Code := bodyOf Go.Proofs.Try.f26
theorem compassref12_Odd.ok : okCode compassref12_Odd.A 94 compassref12_Odd.code = true := by kernel_rfl
def compassref12_Odd.rq (E : Value → Hp → Prop) (K : Int → Hp → Prop) : Ex → Fr → Hp → Prop := retQ T0 [.tmp 4] [3] (fun r H => ldR (.one false [.i .i64]) r fun u => K (asI u) H) E
def compassref12_Odd.run (g0_Nodes : Int) (g0_Edgesp : Option Addr) (g0_Edgesn : Nat) (g0_Edgesc : Nat) (se1p : Option Addr) (se1n : Nat) (se1c : Nat) (E : Value → Hp → Prop) (H : Hp) (K : Int → Hp → Prop) : Prop := nodeM P0 T0 compassref12_Odd.A compassref12_Odd.code [] [] (compassref12_Odd.rq E K) (argF 0 [.agg ⟨[.int .i64 g0_Nodes, .slice g0_Edgesp g0_Edgesn g0_Edgesc]⟩, .slice se1p se1n se1c]) H
theorem compassref12_Odd.of {g0_Nodes : Int} {g0_Edgesp : Option Addr} {g0_Edgesn : Nat} {g0_Edgesc : Nat} {se1p : Option Addr} {se1n : Nat} {se1c : Nat} {E : Value → Hp → Prop} {H : Hp} {K : Int → Hp → Prop} (h : compassref12_Odd.run g0_Nodes g0_Edgesp g0_Edgesn g0_Edgesc se1p se1n se1c E H K) : compassref12_Odd.call g0_Nodes g0_Edgesp g0_Edgesn g0_Edgesc se1p se1n se1c E H K :=
  callW_of T0_ok P0_mixed (A := compassref12_Odd.A) (fn := Go.Proofs.Try.f26) Go.Proofs.Try.func26 rfl compassref12_Odd.ok rfl h
noncomputable def compassref12_Odd.f1 (se1p : Option Addr) (se1n : Nat) (se1c : Nat) (g2 : Nat) (le5 : Nat) (i6 : Int) : Fr := [(1, .slice se1p se1n se1c), (2, .pointer (some ⟨g2, 0, none⟩)), (5, .pointer (some ⟨le5, 0, none⟩)), (6, .int .i64 i6)]
noncomputable def compassref12_Odd.f2 (se1p : Option Addr) (se1n : Nat) (se1c : Nat) (g2 : Nat) (pa7p : Option Addr) (pa7n : Nat) (pa7c : Nat) (si9p : Option Addr) (si9n : Nat) (si9c : Nat) (v10 : Int) : Fr := [(1, .slice se1p se1n se1c), (2, .pointer (some ⟨g2, 0, none⟩)), (7, .slice pa7p pa7n pa7c), (9, .slice si9p si9n si9c), (10, .int .i64 v10)]
noncomputable def compassref12_Odd.f3 (g2 : Nat) (si9p : Option Addr) (si9n : Nat) (si9c : Nat) (n11 : Int) (v12 : Int) : Fr := [(2, .pointer (some ⟨g2, 0, none⟩)), (9, .slice si9p si9n si9c), (11, .int .i64 n11), (12, .int .i64 v12)]
def compassref12_Odd.j1 (se1p : Option Addr) (se1n : Nat) (se1c : Nat) (g2 : Nat) (le5 : Nat) (i6 : Int) (X1 : Fr → Hp → Prop) (E : Value → Hp → Prop) (H : Hp) (K : Int → Hp → Prop) : Prop := nodeM P0 T0 compassref12_Odd.A compassref12_Odd.code [1, 1, 0, 1, 0, 0, 1, 1] [X1] (compassref12_Odd.rq E K) [(1, .slice se1p se1n se1c), (2, .pointer (some ⟨g2, 0, none⟩)), (5, .pointer (some ⟨le5, 0, none⟩)), (6, .int .i64 i6)] H
def compassref12_Odd.j2 (se1p : Option Addr) (se1n : Nat) (se1c : Nat) (g2 : Nat) (le5 : Nat)  (E : Value → Hp → Prop) (H : Hp) (K : Int → Hp → Prop) : Prop := nodeM P0 T0 compassref12_Odd.A compassref12_Odd.code [1, 1, 1] [] (compassref12_Odd.rq E K) [(1, .slice se1p se1n se1c), (2, .pointer (some ⟨g2, 0, none⟩)), (5, .pointer (some ⟨le5, 0, none⟩))] H
def compassref12_Odd.j3 (se1p : Option Addr) (se1n : Nat) (se1c : Nat) (g2 : Nat) (pa7p : Option Addr) (pa7n : Nat) (pa7c : Nat) (si9p : Option Addr) (si9n : Nat) (si9c : Nat) (v10 : Int) (X1 : Fr → Hp → Prop) (E : Value → Hp → Prop) (H : Hp) (K : Int → Hp → Prop) : Prop := nodeM P0 T0 compassref12_Odd.A compassref12_Odd.code [1, 1, 1, 1, 1, 0, 1, 0, 0, 1, 1] [X1] (compassref12_Odd.rq E K) [(1, .slice se1p se1n se1c), (2, .pointer (some ⟨g2, 0, none⟩)), (7, .slice pa7p pa7n pa7c), (9, .slice si9p si9n si9c), (10, .int .i64 v10)] H
def compassref12_Odd.j4 (g2 : Nat) (si9p : Option Addr) (si9n : Nat) (si9c : Nat)  (E : Value → Hp → Prop) (H : Hp) (K : Int → Hp → Prop) : Prop := nodeM P0 T0 compassref12_Odd.A compassref12_Odd.code [1, 1, 1, 1, 1, 1] [] (compassref12_Odd.rq E K) [(2, .pointer (some ⟨g2, 0, none⟩)), (9, .slice si9p si9n si9c)] H
def compassref12_Odd.l1 (se1p : Option Addr) (se1n : Nat) (se1c : Nat) (g2 : Nat) (le5 : Nat) (i6 : Int)  (E : Value → Hp → Prop) (H : Hp) (K : Int → Hp → Prop) : Prop := nodeM P0 T0 compassref12_Odd.A compassref12_Odd.code [1, 1, 0, 1, 0] [] (compassref12_Odd.rq E K) (compassref12_Odd.f1 se1p se1n se1c g2 le5 i6) H
def compassref12_Odd.b1 (se1p : Option Addr) (se1n : Nat) (se1c : Nat) (g2 : Nat) (le5 : Nat) (i6 : Int)  (X1 : Fr → Hp → Prop) (E : Value → Hp → Prop) (H : Hp) (K : Int → Hp → Prop) : Prop := nodeM P0 T0 compassref12_Odd.A compassref12_Odd.code [1, 1, 0, 1, 0, 0] [X1] (compassref12_Odd.rq E K) (compassref12_Odd.f1 se1p se1n se1c g2 le5 i6) H
theorem compassref12_Odd.l1_rule { E : Value → Hp → Prop} {K : Int → Hp → Prop} (I : (Option Addr) → Nat → Nat → Nat → Nat → Int → Hp → Prop) (μ : (Option Addr) → Nat → Nat → Nat → Nat → Int → Hp → Nat)
    (h : ∀ se1p se1n se1c g2 le5 i6 H, I se1p se1n se1c g2 le5 i6 H → ∀ X : Fr → Hp → Prop, (∀ se1p' se1n' se1c' g2' le5' i6' H', I se1p' se1n' se1c' g2' le5' i6' H' → μ se1p' se1n' se1c' g2' le5' i6' H' < μ se1p se1n se1c g2 le5 i6 H → X (compassref12_Odd.f1 se1p' se1n' se1c' g2' le5' i6') H') → compassref12_Odd.b1 se1p se1n se1c g2 le5 i6  X E H K)
    {se1p : Option Addr} {se1n : Nat} {se1c : Nat} {g2 : Nat} {le5 : Nat} {i6 : Int} {H : Hp} (hI : I se1p se1n se1c g2 le5 i6 H) : compassref12_Odd.l1 se1p se1n se1c g2 le5 i6  E H K :=
  loop_rule (S := (Option Addr) × Nat × Nat × Nat × Nat × Int) (fun s => compassref12_Odd.f1 (s.1) (s.2.1) (s.2.2.1) (s.2.2.2.1) (s.2.2.2.2.1) (s.2.2.2.2.2)) (fun s H => I (s.1) (s.2.1) (s.2.2.1) (s.2.2.2.1) (s.2.2.2.2.1) (s.2.2.2.2.2) H) (fun s H => μ (s.1) (s.2.1) (s.2.2.1) (s.2.2.2.1) (s.2.2.2.2.1) (s.2.2.2.2.2) H) (fun s H hI X hX => h (s.1) (s.2.1) (s.2.2.1) (s.2.2.2.1) (s.2.2.2.2.1) (s.2.2.2.2.2) H hI X fun se1p' se1n' se1c' g2' le5' i6' H' hI' hlt => hX (se1p', se1n', se1c', g2', le5', i6') H' hI' hlt) (s := (se1p, se1n, se1c, g2, le5, i6)) rfl hI
def compassref12_Odd.l2 (se1p : Option Addr) (se1n : Nat) (se1c : Nat) (g2 : Nat) (pa7p : Option Addr) (pa7n : Nat) (pa7c : Nat) (si9p : Option Addr) (si9n : Nat) (si9c : Nat) (v10 : Int)  (E : Value → Hp → Prop) (H : Hp) (K : Int → Hp → Prop) : Prop := nodeM P0 T0 compassref12_Odd.A compassref12_Odd.code [1, 1, 1, 1, 1, 0, 1, 0] [] (compassref12_Odd.rq E K) (compassref12_Odd.f2 se1p se1n se1c g2 pa7p pa7n pa7c si9p si9n si9c v10) H
def compassref12_Odd.b2 (se1p : Option Addr) (se1n : Nat) (se1c : Nat) (g2 : Nat) (pa7p : Option Addr) (pa7n : Nat) (pa7c : Nat) (si9p : Option Addr) (si9n : Nat) (si9c : Nat) (v10 : Int)  (X1 : Fr → Hp → Prop) (E : Value → Hp → Prop) (H : Hp) (K : Int → Hp → Prop) : Prop := nodeM P0 T0 compassref12_Odd.A compassref12_Odd.code [1, 1, 1, 1, 1, 0, 1, 0, 0] [X1] (compassref12_Odd.rq E K) (compassref12_Odd.f2 se1p se1n se1c g2 pa7p pa7n pa7c si9p si9n si9c v10) H
theorem compassref12_Odd.l2_rule { E : Value → Hp → Prop} {K : Int → Hp → Prop} (I : (Option Addr) → Nat → Nat → Nat → (Option Addr) → Nat → Nat → (Option Addr) → Nat → Nat → Int → Hp → Prop) (μ : (Option Addr) → Nat → Nat → Nat → (Option Addr) → Nat → Nat → (Option Addr) → Nat → Nat → Int → Hp → Nat)
    (h : ∀ se1p se1n se1c g2 pa7p pa7n pa7c si9p si9n si9c v10 H, I se1p se1n se1c g2 pa7p pa7n pa7c si9p si9n si9c v10 H → ∀ X : Fr → Hp → Prop, (∀ se1p' se1n' se1c' g2' pa7p' pa7n' pa7c' si9p' si9n' si9c' v10' H', I se1p' se1n' se1c' g2' pa7p' pa7n' pa7c' si9p' si9n' si9c' v10' H' → μ se1p' se1n' se1c' g2' pa7p' pa7n' pa7c' si9p' si9n' si9c' v10' H' < μ se1p se1n se1c g2 pa7p pa7n pa7c si9p si9n si9c v10 H → X (compassref12_Odd.f2 se1p' se1n' se1c' g2' pa7p' pa7n' pa7c' si9p' si9n' si9c' v10') H') → compassref12_Odd.b2 se1p se1n se1c g2 pa7p pa7n pa7c si9p si9n si9c v10  X E H K)
    {se1p : Option Addr} {se1n : Nat} {se1c : Nat} {g2 : Nat} {pa7p : Option Addr} {pa7n : Nat} {pa7c : Nat} {si9p : Option Addr} {si9n : Nat} {si9c : Nat} {v10 : Int} {H : Hp} (hI : I se1p se1n se1c g2 pa7p pa7n pa7c si9p si9n si9c v10 H) : compassref12_Odd.l2 se1p se1n se1c g2 pa7p pa7n pa7c si9p si9n si9c v10  E H K :=
  loop_rule (S := (Option Addr) × Nat × Nat × Nat × (Option Addr) × Nat × Nat × (Option Addr) × Nat × Nat × Int) (fun s => compassref12_Odd.f2 (s.1) (s.2.1) (s.2.2.1) (s.2.2.2.1) (s.2.2.2.2.1) (s.2.2.2.2.2.1) (s.2.2.2.2.2.2.1) (s.2.2.2.2.2.2.2.1) (s.2.2.2.2.2.2.2.2.1) (s.2.2.2.2.2.2.2.2.2.1) (s.2.2.2.2.2.2.2.2.2.2)) (fun s H => I (s.1) (s.2.1) (s.2.2.1) (s.2.2.2.1) (s.2.2.2.2.1) (s.2.2.2.2.2.1) (s.2.2.2.2.2.2.1) (s.2.2.2.2.2.2.2.1) (s.2.2.2.2.2.2.2.2.1) (s.2.2.2.2.2.2.2.2.2.1) (s.2.2.2.2.2.2.2.2.2.2) H) (fun s H => μ (s.1) (s.2.1) (s.2.2.1) (s.2.2.2.1) (s.2.2.2.2.1) (s.2.2.2.2.2.1) (s.2.2.2.2.2.2.1) (s.2.2.2.2.2.2.2.1) (s.2.2.2.2.2.2.2.2.1) (s.2.2.2.2.2.2.2.2.2.1) (s.2.2.2.2.2.2.2.2.2.2) H) (fun s H hI X hX => h (s.1) (s.2.1) (s.2.2.1) (s.2.2.2.1) (s.2.2.2.2.1) (s.2.2.2.2.2.1) (s.2.2.2.2.2.2.1) (s.2.2.2.2.2.2.2.1) (s.2.2.2.2.2.2.2.2.1) (s.2.2.2.2.2.2.2.2.2.1) (s.2.2.2.2.2.2.2.2.2.2) H hI X fun se1p' se1n' se1c' g2' pa7p' pa7n' pa7c' si9p' si9n' si9c' v10' H' hI' hlt => hX (se1p', se1n', se1c', g2', pa7p', pa7n', pa7c', si9p', si9n', si9c', v10') H' hI' hlt) (s := (se1p, se1n, se1c, g2, pa7p, pa7n, pa7c, si9p, si9n, si9c, v10)) rfl hI
def compassref12_Odd.l3 (g2 : Nat) (si9p : Option Addr) (si9n : Nat) (si9c : Nat) (n11 : Int) (v12 : Int)  (E : Value → Hp → Prop) (H : Hp) (K : Int → Hp → Prop) : Prop := nodeM P0 T0 compassref12_Odd.A compassref12_Odd.code [1, 1, 1, 1, 1, 1, 1, 0, 1, 0] [] (compassref12_Odd.rq E K) (compassref12_Odd.f3 g2 si9p si9n si9c n11 v12) H
def compassref12_Odd.b3 (g2 : Nat) (si9p : Option Addr) (si9n : Nat) (si9c : Nat) (n11 : Int) (v12 : Int)  (X1 : Fr → Hp → Prop) (E : Value → Hp → Prop) (H : Hp) (K : Int → Hp → Prop) : Prop := nodeM P0 T0 compassref12_Odd.A compassref12_Odd.code [1, 1, 1, 1, 1, 1, 1, 0, 1, 0, 0] [X1] (compassref12_Odd.rq E K) (compassref12_Odd.f3 g2 si9p si9n si9c n11 v12) H
theorem compassref12_Odd.l3_rule { E : Value → Hp → Prop} {K : Int → Hp → Prop} (I : Nat → (Option Addr) → Nat → Nat → Int → Int → Hp → Prop) (μ : Nat → (Option Addr) → Nat → Nat → Int → Int → Hp → Nat)
    (h : ∀ g2 si9p si9n si9c n11 v12 H, I g2 si9p si9n si9c n11 v12 H → ∀ X : Fr → Hp → Prop, (∀ g2' si9p' si9n' si9c' n11' v12' H', I g2' si9p' si9n' si9c' n11' v12' H' → μ g2' si9p' si9n' si9c' n11' v12' H' < μ g2 si9p si9n si9c n11 v12 H → X (compassref12_Odd.f3 g2' si9p' si9n' si9c' n11' v12') H') → compassref12_Odd.b3 g2 si9p si9n si9c n11 v12  X E H K)
    {g2 : Nat} {si9p : Option Addr} {si9n : Nat} {si9c : Nat} {n11 : Int} {v12 : Int} {H : Hp} (hI : I g2 si9p si9n si9c n11 v12 H) : compassref12_Odd.l3 g2 si9p si9n si9c n11 v12  E H K :=
  loop_rule (S := Nat × (Option Addr) × Nat × Nat × Int × Int) (fun s => compassref12_Odd.f3 (s.1) (s.2.1) (s.2.2.1) (s.2.2.2.1) (s.2.2.2.2.1) (s.2.2.2.2.2)) (fun s H => I (s.1) (s.2.1) (s.2.2.1) (s.2.2.2.1) (s.2.2.2.2.1) (s.2.2.2.2.2) H) (fun s H => μ (s.1) (s.2.1) (s.2.2.1) (s.2.2.2.1) (s.2.2.2.2.1) (s.2.2.2.2.2) H) (fun s H hI X hX => h (s.1) (s.2.1) (s.2.2.1) (s.2.2.2.1) (s.2.2.2.2.1) (s.2.2.2.2.2) H hI X fun g2' si9p' si9n' si9c' n11' v12' H' hI' hlt => hX (g2', si9p', si9n', si9c', n11', v12') H' hI' hlt) (s := (g2, si9p, si9n, si9c, n11, v12)) rfl hI
theorem compassref12_Odd.nok : nodesOk compassref12_Odd.code [[0, 1, 0, 1, 1], [1, 1, 0, 0, 1, 0, 1, 1], [1, 1, 1], [0, 1, 0, 1, 1, 1, 1, 1], [1, 1, 0, 0, 1, 0, 1, 1, 1, 1, 1], [1, 1, 1, 1, 1, 1], [0, 1, 0, 1, 1, 1, 1, 1, 1, 1]] = true := by kernel_rfl
def compassref12_Odd.run_t (l1 : (Option Addr) → Nat → Nat → Nat → Nat → Int → Hp → Prop) (g0_Nodes : Int) (g0_Edgesp : Option Addr) (g0_Edgesn : Nat) (g0_Edgesc : Nat) (se1p : Option Addr) (se1n : Nat) (se1c : Nat)  (E : Value → Hp → Prop) (H : Hp) (K : Int → Hp → Prop) : Prop :=
  nw H ⟨[.int .i64 g0_Nodes, .slice g0_Edgesp g0_Edgesn g0_Edgesc], 24⟩ fun b_1 H_1 =>
  ldI .i64 (H_1.get b_1 0) fun x_1 =>
  nw H_1 ⟨[.int .i64 0, .slice none 0 0], 24⟩ fun b_2 H_2 =>
  stC H_2 b_2 0 [.int .i64 x_1, .slice none 0 0] fun H_3 =>
  l1 se1p se1n se1c b_1 b_2 0 H_3
theorem compassref12_Odd.run_eq {g0_Nodes : Int} {g0_Edgesp : Option Addr} {g0_Edgesn : Nat} {g0_Edgesc : Nat} {se1p : Option Addr} {se1n : Nat} {se1c : Nat} { E : Value → Hp → Prop} {H : Hp} {K : Int → Hp → Prop} (h : compassref12_Odd.run_t (fun se1p se1n se1c g2 le5 i6 H => compassref12_Odd.l1 se1p se1n se1c g2 le5 i6  E H K) g0_Nodes g0_Edgesp g0_Edgesn g0_Edgesc se1p se1n se1c  E H K) : compassref12_Odd.run g0_Nodes g0_Edgesp g0_Edgesn g0_Edgesc se1p se1n se1c  E H K := by
  exact nodeR_imp2 (fun G => compassref12_Odd.run_t (fun se1p se1n se1c g2 le5 i6 H => G [0, 1, 0, 1, 1] [(1, .slice se1p se1n se1c), (2, .pointer (some ⟨g2, 0, none⟩)), (5, .pointer (some ⟨le5, 0, none⟩)), (6, .int .i64 i6)] H) g0_Nodes g0_Edgesp g0_Edgesn g0_Edgesc se1p se1n se1c  E H K) compassref12_Odd.nok rfl (fun G => by kernel_rfl) (Eq.mp (by kernel_rfl) h)
def compassref12_Odd.j1_t  (se1p : Option Addr) (se1n : Nat) (se1c : Nat) (g2 : Nat) (le5 : Nat) (i6 : Int) (X1 : Fr → Hp → Prop) (E : Value → Hp → Prop) (H : Hp) (K : Int → Hp → Prop) : Prop :=
  X1 (compassref12_Odd.f1 se1p se1n se1c g2 le5 (IntKind.wrap .i64 (i6 + 1))) H
theorem compassref12_Odd.j1_eq {se1p : Option Addr} {se1n : Nat} {se1c : Nat} {g2 : Nat} {le5 : Nat} {i6 : Int} {X1 : Fr → Hp → Prop} { E : Value → Hp → Prop} {H : Hp} {K : Int → Hp → Prop} (h : compassref12_Odd.j1_t  se1p se1n se1c g2 le5 i6 X1 E H K) : compassref12_Odd.j1 se1p se1n se1c g2 le5 i6 X1 E H K := by
  exact nodeR_imp2 (fun _ => compassref12_Odd.j1_t  se1p se1n se1c g2 le5 i6 X1 E H K) compassref12_Odd.nok rfl (fun G => by kernel_rfl) h
def compassref12_Odd.j2_t (l2 : (Option Addr) → Nat → Nat → Nat → (Option Addr) → Nat → Nat → (Option Addr) → Nat → Nat → Int → Hp → Prop) (se1p : Option Addr) (se1n : Nat) (se1c : Nat) (g2 : Nat) (le5 : Nat)  (E : Value → Hp → Prop) (H : Hp) (K : Int → Hp → Prop) : Prop :=
  ldI .i64 (H.get le5 0) fun x_1 =>
  ldS (H.get le5 1) fun x_2p x_2n x_2c =>
  compassref04_Parts.call x_1 x_2p x_2n x_2c E H fun r_1p r_1n r_1c r_2 H_1 =>
  ldI .i64 (H_1.get g2 0) fun x_3 =>
  mkS x_3 x_3 3 [.i .i64] 8 H_1 fun b_1 H_2 =>
  l2 se1p se1n se1c g2 r_1p r_1n r_1c (some ⟨b_1, 0, none⟩) x_3.toNat x_3.toNat 0 H_2
theorem compassref12_Odd.j2_eq {se1p : Option Addr} {se1n : Nat} {se1c : Nat} {g2 : Nat} {le5 : Nat} { E : Value → Hp → Prop} {H : Hp} {K : Int → Hp → Prop} (h : compassref12_Odd.j2_t (fun se1p se1n se1c g2 pa7p pa7n pa7c si9p si9n si9c v10 H => compassref12_Odd.l2 se1p se1n se1c g2 pa7p pa7n pa7c si9p si9n si9c v10  E H K) se1p se1n se1c g2 le5  E H K) : compassref12_Odd.j2 se1p se1n se1c g2 le5  E H K := by
  exact nodeR_imp2 (fun G => compassref12_Odd.j2_t (fun se1p se1n se1c g2 pa7p pa7n pa7c si9p si9n si9c v10 H => G [0, 1, 0, 1, 1, 1, 1, 1] [(1, .slice se1p se1n se1c), (2, .pointer (some ⟨g2, 0, none⟩)), (7, .slice pa7p pa7n pa7c), (9, .slice si9p si9n si9c), (10, .int .i64 v10)] H) se1p se1n se1c g2 le5  E H K) compassref12_Odd.nok rfl (fun G => by kernel_rfl) (Eq.mp (by kernel_rfl) h)
def compassref12_Odd.j3_t  (se1p : Option Addr) (se1n : Nat) (se1c : Nat) (g2 : Nat) (pa7p : Option Addr) (pa7n : Nat) (pa7c : Nat) (si9p : Option Addr) (si9n : Nat) (si9c : Nat) (v10 : Int) (X1 : Fr → Hp → Prop) (E : Value → Hp → Prop) (H : Hp) (K : Int → Hp → Prop) : Prop :=
  X1 (compassref12_Odd.f2 se1p se1n se1c g2 pa7p pa7n pa7c si9p si9n si9c (IntKind.wrap .i64 (v10 + 1))) H
theorem compassref12_Odd.j3_eq {se1p : Option Addr} {se1n : Nat} {se1c : Nat} {g2 : Nat} {pa7p : Option Addr} {pa7n : Nat} {pa7c : Nat} {si9p : Option Addr} {si9n : Nat} {si9c : Nat} {v10 : Int} {X1 : Fr → Hp → Prop} { E : Value → Hp → Prop} {H : Hp} {K : Int → Hp → Prop} (h : compassref12_Odd.j3_t  se1p se1n se1c g2 pa7p pa7n pa7c si9p si9n si9c v10 X1 E H K) : compassref12_Odd.j3 se1p se1n se1c g2 pa7p pa7n pa7c si9p si9n si9c v10 X1 E H K := by
  exact nodeR_imp2 (fun _ => compassref12_Odd.j3_t  se1p se1n se1c g2 pa7p pa7n pa7c si9p si9n si9c v10 X1 E H K) compassref12_Odd.nok rfl (fun G => by kernel_rfl) h
def compassref12_Odd.j4_t (l3 : Nat → (Option Addr) → Nat → Nat → Int → Int → Hp → Prop) (g2 : Nat) (si9p : Option Addr) (si9n : Nat) (si9c : Nat)  (E : Value → Hp → Prop) (H : Hp) (K : Int → Hp → Prop) : Prop :=
  l3 g2 si9p si9n si9c 0 0 H
theorem compassref12_Odd.j4_eq {g2 : Nat} {si9p : Option Addr} {si9n : Nat} {si9c : Nat} { E : Value → Hp → Prop} {H : Hp} {K : Int → Hp → Prop} (h : compassref12_Odd.j4_t (fun g2 si9p si9n si9c n11 v12 H => compassref12_Odd.l3 g2 si9p si9n si9c n11 v12  E H K) g2 si9p si9n si9c  E H K) : compassref12_Odd.j4 g2 si9p si9n si9c  E H K := by
  exact nodeR_imp2 (fun G => compassref12_Odd.j4_t (fun g2 si9p si9n si9c n11 v12 H => G [0, 1, 0, 1, 1, 1, 1, 1, 1, 1] [(2, .pointer (some ⟨g2, 0, none⟩)), (9, .slice si9p si9n si9c), (11, .int .i64 n11), (12, .int .i64 v12)] H) g2 si9p si9n si9c  E H K) compassref12_Odd.nok rfl (fun G => by kernel_rfl) (Eq.mp (by kernel_rfl) h)
def compassref12_Odd.b1_t (j1 : (Option Addr) → Nat → Nat → Nat → Nat → Int → Hp → Prop) (j2 : (Option Addr) → Nat → Nat → Nat → Nat → Hp → Prop) (se1p : Option Addr) (se1n : Nat) (se1c : Nat) (g2 : Nat) (le5 : Nat) (i6 : Int) (X1 : Fr → Hp → Prop) (E : Value → Hp → Prop) (H : Hp) (K : Int → Hp → Prop) : Prop :=
  ldS (H.get g2 1) fun x_1p x_1n x_1c =>
  bcase (decide ((i6 : Int) < (x_1n : Int))) (
  ldS (H.get g2 1) fun x_2p x_2n x_2c =>
  ix x_2p x_2n i6 4 fun b_1 o_1 =>
  ldI .i64 (H.get b_1 o_1) fun x_3 =>
  compassref12_Has.call se1p se1n se1c x_3 E H fun r_1 H_1 =>
  bcase ((!r_1)) (
  ldS (H_1.get g2 1) fun x_4p x_4n x_4c =>
  ix x_4p x_4n i6 4 fun b_2 o_2 =>
  ldI .i64 (H_1.get b_2 (o_2 + 1)) fun x_5 =>
  compassref12_Has.call se1p se1n se1c x_5 E H_1 fun r_2 H_2 =>
  bcase ((!r_2)) (
  ldS (H_2.get le5 1) fun x_6p x_6n x_6c =>
  ldS (H_2.get g2 1) fun x_7p x_7n x_7c =>
  ix x_7p x_7n i6 4 fun b_3 o_3 =>
  ldI .i64 (H_2.get b_3 o_3) fun x_8 =>
  ldI .i64 (H_2.get b_3 (o_3 + 1)) fun x_9 =>
  ldI .i64 (H_2.get b_3 (o_3 + 2)) fun x_10 =>
  ldI .i64 (H_2.get b_3 (o_3 + 3)) fun x_11 =>
  nw H_2 ⟨[.int .i64 x_8, .int .i64 x_9, .int .i64 x_10, .int .i64 x_11], 44⟩ fun b_4 H_3 =>
  appM 44 [.i .i64, .i .i64, .i .i64, .i .i64] 32 x_6p x_6n x_6c (some ⟨b_4, 0, none⟩) 1 H_3 fun a_1p a_1n a_1c H_4 =>
  stC H_4 le5 1 [.slice a_1p a_1n a_1c] fun H_5 =>
  j1 se1p se1n se1c g2 le5 i6 H_5)
  (j1 se1p se1n se1c g2 le5 i6 H_2))
  (j1 se1p se1n se1c g2 le5 i6 H_1))
  (j2 se1p se1n se1c g2 le5 H)
theorem compassref12_Odd.b1_eq {se1p : Option Addr} {se1n : Nat} {se1c : Nat} {g2 : Nat} {le5 : Nat} {i6 : Int} {X1 : Fr → Hp → Prop} { E : Value → Hp → Prop} {H : Hp} {K : Int → Hp → Prop} (h : compassref12_Odd.b1_t (fun se1p se1n se1c g2 le5 i6 H => compassref12_Odd.j1 se1p se1n se1c g2 le5 i6 X1 E H K) (fun se1p se1n se1c g2 le5 H => compassref12_Odd.j2 se1p se1n se1c g2 le5  E H K) se1p se1n se1c g2 le5 i6 X1 E H K) : compassref12_Odd.b1 se1p se1n se1c g2 le5 i6 X1 E H K := by
  exact nodeR_imp2 (fun G => compassref12_Odd.b1_t (fun se1p se1n se1c g2 le5 i6 H => G [1, 1, 0, 0, 1, 0, 1, 1] [(1, .slice se1p se1n se1c), (2, .pointer (some ⟨g2, 0, none⟩)), (5, .pointer (some ⟨le5, 0, none⟩)), (6, .int .i64 i6)] H) (fun se1p se1n se1c g2 le5 H => G [1, 1, 1] [(1, .slice se1p se1n se1c), (2, .pointer (some ⟨g2, 0, none⟩)), (5, .pointer (some ⟨le5, 0, none⟩))] H) se1p se1n se1c g2 le5 i6 X1 E H K) compassref12_Odd.nok rfl (fun G => by kernel_rfl) (Eq.mp (by kernel_rfl) h)
def compassref12_Odd.b2_t (j3 : (Option Addr) → Nat → Nat → Nat → (Option Addr) → Nat → Nat → (Option Addr) → Nat → Nat → Int → Hp → Prop) (j4 : Nat → (Option Addr) → Nat → Nat → Hp → Prop) (se1p : Option Addr) (se1n : Nat) (se1c : Nat) (g2 : Nat) (pa7p : Option Addr) (pa7n : Nat) (pa7c : Nat) (si9p : Option Addr) (si9n : Nat) (si9c : Nat) (v10 : Int) (X1 : Fr → Hp → Prop) (E : Value → Hp → Prop) (H : Hp) (K : Int → Hp → Prop) : Prop :=
  ldI .i64 (H.get g2 0) fun x_1 =>
  bcase (decide ((v10 : Int) < x_1)) (
  compassref12_Has.call se1p se1n se1c v10 E H fun r_1 H_1 =>
  bcase ((!r_1)) (
  ix pa7p pa7n v10 1 fun b_1 o_1 =>
  ldI .i64 (H_1.get b_1 o_1) fun x_2 =>
  ix si9p si9n x_2 1 fun b_2 o_2 =>
  ldI .i64 (H_1.get b_2 o_2) fun x_3 =>
  ix si9p si9n x_2 1 fun b_3 o_3 =>
  stC H_1 b_3 o_3 [.int .i64 (IntKind.wrap .i64 (x_3 + 1))] fun H_2 =>
  j3 se1p se1n se1c g2 pa7p pa7n pa7c si9p si9n si9c v10 H_2)
  (j3 se1p se1n se1c g2 pa7p pa7n pa7c si9p si9n si9c v10 H_1))
  (j4 g2 si9p si9n si9c H)
theorem compassref12_Odd.b2_eq {se1p : Option Addr} {se1n : Nat} {se1c : Nat} {g2 : Nat} {pa7p : Option Addr} {pa7n : Nat} {pa7c : Nat} {si9p : Option Addr} {si9n : Nat} {si9c : Nat} {v10 : Int} {X1 : Fr → Hp → Prop} { E : Value → Hp → Prop} {H : Hp} {K : Int → Hp → Prop} (h : compassref12_Odd.b2_t (fun se1p se1n se1c g2 pa7p pa7n pa7c si9p si9n si9c v10 H => compassref12_Odd.j3 se1p se1n se1c g2 pa7p pa7n pa7c si9p si9n si9c v10 X1 E H K) (fun g2 si9p si9n si9c H => compassref12_Odd.j4 g2 si9p si9n si9c  E H K) se1p se1n se1c g2 pa7p pa7n pa7c si9p si9n si9c v10 X1 E H K) : compassref12_Odd.b2 se1p se1n se1c g2 pa7p pa7n pa7c si9p si9n si9c v10 X1 E H K := by
  exact nodeR_imp2 (fun G => compassref12_Odd.b2_t (fun se1p se1n se1c g2 pa7p pa7n pa7c si9p si9n si9c v10 H => G [1, 1, 0, 0, 1, 0, 1, 1, 1, 1, 1] [(1, .slice se1p se1n se1c), (2, .pointer (some ⟨g2, 0, none⟩)), (7, .slice pa7p pa7n pa7c), (9, .slice si9p si9n si9c), (10, .int .i64 v10)] H) (fun g2 si9p si9n si9c H => G [1, 1, 1, 1, 1, 1] [(2, .pointer (some ⟨g2, 0, none⟩)), (9, .slice si9p si9n si9c)] H) se1p se1n se1c g2 pa7p pa7n pa7c si9p si9n si9c v10 X1 E H K) compassref12_Odd.nok rfl (fun G => by kernel_rfl) (Eq.mp (by kernel_rfl) h)
def compassref12_Odd.b3_t  (g2 : Nat) (si9p : Option Addr) (si9n : Nat) (si9c : Nat) (n11 : Int) (v12 : Int) (X1 : Fr → Hp → Prop) (E : Value → Hp → Prop) (H : Hp) (K : Int → Hp → Prop) : Prop :=
  ldI .i64 (H.get g2 0) fun x_1 =>
  bcase (decide ((v12 : Int) < x_1)) (
  ix si9p si9n v12 1 fun b_1 o_1 =>
  ldI .i64 (H.get b_1 o_1) fun x_2 =>
  2 ≠ (0 : Int) ∧
  X1 (compassref12_Odd.f3 g2 si9p si9n si9c (IntKind.wrap .i64 (n11 + (Int.tmod x_2 2))) (IntKind.wrap .i64 (v12 + 1))) H)
  (K n11 H)
theorem compassref12_Odd.b3_eq {g2 : Nat} {si9p : Option Addr} {si9n : Nat} {si9c : Nat} {n11 : Int} {v12 : Int} {X1 : Fr → Hp → Prop} { E : Value → Hp → Prop} {H : Hp} {K : Int → Hp → Prop} (h : compassref12_Odd.b3_t  g2 si9p si9n si9c n11 v12 X1 E H K) : compassref12_Odd.b3 g2 si9p si9n si9c n11 v12 X1 E H K := by
  exact nodeR_imp2 (fun _ => compassref12_Odd.b3_t  g2 si9p si9n si9c n11 v12 X1 E H K) compassref12_Odd.nok rfl (fun G => by kernel_rfl) h
/-! ### compass/compassref04.Parts (48) -/
noncomputable def compassref04_Parts.A : An := { live := [(0, [0]), (1, [1]), (2, [1, 4]), (3, [4]), (4, [1]), (5, [1, 6]), (6, [1, 6, 7]), (7, [1, 6, 7]), (8, [1, 6, 7]), (9, [1, 6]), (10, [1, 6, 8]), (11, [1, 6, 8]), (12, [1, 6, 8]), (13, [1, 6, 8, 9]), (14, [1, 6, 8, 9]), (15, [1, 6, 8, 9]), (16, [1, 6, 8, 9, 10]), (17, [1, 6, 8, 9, 10, 11]), (18, [1, 6, 8, 9, 10, 11]), (19, [1, 6, 8, 9, 10, 11]), (20, [6])], ord := [(17, [0, 1, 2, 3, 4, 5, 6, 7, 8])], stb := [], pre := [(17, [[], [], [0, 1], [0, 1, 2], [], [], [4, 5], [4, 5, 6], [0, 1, 2, 3, 4, 5, 6, 7]])] }
noncomputable def compassref04_Parts.code : Code := bodyOf Go.Proofs.Try.f48
theorem compassref04_Parts.ok : okCode compassref04_Parts.A 83 compassref04_Parts.code = true := by kernel_rfl
def compassref04_Parts.rq (E : Value → Hp → Prop) (K : (Option Addr) → Nat → Nat → Int → Hp → Prop) : Ex → Fr → Hp → Prop := retQ T0 [.tmp 2, .tmp 3] [25, 3] (fun r H => ldR (.tup [(false, [.sl]), (false, [.i .i64])]) r fun u => K (asS1 (tupV u 0)) (asS2 (tupV u 0)) (asS3 (tupV u 0)) (asI (tupV u 1)) H) E
def compassref04_Parts.run (g0_Nodes : Int) (g0_Edgesp : Option Addr) (g0_Edgesn : Nat) (g0_Edgesc : Nat) (E : Value → Hp → Prop) (H : Hp) (K : (Option Addr) → Nat → Nat → Int → Hp → Prop) : Prop := nodeM P0 T0 compassref04_Parts.A compassref04_Parts.code [] [] (compassref04_Parts.rq E K) (argF 0 [.agg ⟨[.int .i64 g0_Nodes, .slice g0_Edgesp g0_Edgesn g0_Edgesc]⟩]) H
theorem compassref04_Parts.of {g0_Nodes : Int} {g0_Edgesp : Option Addr} {g0_Edgesn : Nat} {g0_Edgesc : Nat} {E : Value → Hp → Prop} {H : Hp} {K : (Option Addr) → Nat → Nat → Int → Hp → Prop} (h : compassref04_Parts.run g0_Nodes g0_Edgesp g0_Edgesn g0_Edgesc E H K) : compassref04_Parts.call g0_Nodes g0_Edgesp g0_Edgesn g0_Edgesc E H K :=
  callW_of T0_ok P0_mixed (A := compassref04_Parts.A) (fn := Go.Proofs.Try.f48) Go.Proofs.Try.func48 rfl compassref04_Parts.ok rfl h
noncomputable def compassref04_Parts.f1 (g1 : Nat) (le6p : Option Addr) (le6n : Nat) (le6c : Nat) (v7 : Int) : Fr := [(1, .pointer (some ⟨g1, 0, none⟩)), (6, .slice le6p le6n le6c), (7, .int .i64 v7)]
noncomputable def compassref04_Parts.f2 (g1 : Nat) (le6p : Option Addr) (le6n : Nat) (le6c : Nat) (ro8 : Int) : Fr := [(1, .pointer (some ⟨g1, 0, none⟩)), (6, .slice le6p le6n le6c), (8, .int .i64 ro8)]
noncomputable def compassref04_Parts.f3 (g1 : Nat) (le6p : Option Addr) (le6n : Nat) (le6c : Nat) (ro8 : Int) (i9 : Int) : Fr := [(1, .pointer (some ⟨g1, 0, none⟩)), (6, .slice le6p le6n le6c), (8, .int .i64 ro8), (9, .int .i64 i9)]
def compassref04_Parts.j1 (g1 : Nat) (le6p : Option Addr) (le6n : Nat) (le6c : Nat)  (E : Value → Hp → Prop) (H : Hp) (K : (Option Addr) → Nat → Nat → Int → Hp → Prop) : Prop := nodeM P0 T0 compassref04_Parts.A compassref04_Parts.code [1, 1, 1, 1, 1] [] (compassref04_Parts.rq E K) [(1, .pointer (some ⟨g1, 0, none⟩)), (6, .slice le6p le6n le6c)] H
def compassref04_Parts.j2 (g1 : Nat) (le6p : Option Addr) (le6n : Nat) (le6c : Nat) (ro8 : Int) (i9 : Int) (X1 : Fr → Hp → Prop) (X2 : Fr → Hp → Prop) (E : Value → Hp → Prop) (H : Hp) (K : (Option Addr) → Nat → Nat → Int → Hp → Prop) : Prop := nodeM P0 T0 compassref04_Parts.A compassref04_Parts.code [1, 1, 1, 1, 1, 0, 1, 0, 0, 1, 0, 0, 1, 0, 0, 1, 1] [X1, X2] (compassref04_Parts.rq E K) [(1, .pointer (some ⟨g1, 0, none⟩)), (6, .slice le6p le6n le6c), (8, .int .i64 ro8), (9, .int .i64 i9)] H
def compassref04_Parts.j3 (g1 : Nat) (le6p : Option Addr) (le6n : Nat) (le6c : Nat) (ro8 : Int) (X1 : Fr → Hp → Prop) (E : Value → Hp → Prop) (H : Hp) (K : (Option Addr) → Nat → Nat → Int → Hp → Prop) : Prop := nodeM P0 T0 compassref04_Parts.A compassref04_Parts.code [1, 1, 1, 1, 1, 0, 1, 0, 0, 1, 1] [X1] (compassref04_Parts.rq E K) [(1, .pointer (some ⟨g1, 0, none⟩)), (6, .slice le6p le6n le6c), (8, .int .i64 ro8)] H
def compassref04_Parts.j4 (le6p : Option Addr) (le6n : Nat) (le6c : Nat)  (E : Value → Hp → Prop) (H : Hp) (K : (Option Addr) → Nat → Nat → Int → Hp → Prop) : Prop := nodeM P0 T0 compassref04_Parts.A compassref04_Parts.code [1, 1, 1, 1, 1, 1] [] (compassref04_Parts.rq E K) [(6, .slice le6p le6n le6c)] H
def compassref04_Parts.l1 (g1 : Nat) (le6p : Option Addr) (le6n : Nat) (le6c : Nat) (v7 : Int)  (E : Value → Hp → Prop) (H : Hp) (K : (Option Addr) → Nat → Nat → Int → Hp → Prop) : Prop := nodeM P0 T0 compassref04_Parts.A compassref04_Parts.code [1, 1, 1, 1, 0, 1, 0] [] (compassref04_Parts.rq E K) (compassref04_Parts.f1 g1 le6p le6n le6c v7) H
def compassref04_Parts.b1 (g1 : Nat) (le6p : Option Addr) (le6n : Nat) (le6c : Nat) (v7 : Int)  (X1 : Fr → Hp → Prop) (E : Value → Hp → Prop) (H : Hp) (K : (Option Addr) → Nat → Nat → Int → Hp → Prop) : Prop := nodeM P0 T0 compassref04_Parts.A compassref04_Parts.code [1, 1, 1, 1, 0, 1, 0, 0] [X1] (compassref04_Parts.rq E K) (compassref04_Parts.f1 g1 le6p le6n le6c v7) H
theorem compassref04_Parts.l1_rule { E : Value → Hp → Prop} {K : (Option Addr) → Nat → Nat → Int → Hp → Prop} (I : Nat → (Option Addr) → Nat → Nat → Int → Hp → Prop) (μ : Nat → (Option Addr) → Nat → Nat → Int → Hp → Nat)
    (h : ∀ g1 le6p le6n le6c v7 H, I g1 le6p le6n le6c v7 H → ∀ X : Fr → Hp → Prop, (∀ g1' le6p' le6n' le6c' v7' H', I g1' le6p' le6n' le6c' v7' H' → μ g1' le6p' le6n' le6c' v7' H' < μ g1 le6p le6n le6c v7 H → X (compassref04_Parts.f1 g1' le6p' le6n' le6c' v7') H') → compassref04_Parts.b1 g1 le6p le6n le6c v7  X E H K)
    {g1 : Nat} {le6p : Option Addr} {le6n : Nat} {le6c : Nat} {v7 : Int} {H : Hp} (hI : I g1 le6p le6n le6c v7 H) : compassref04_Parts.l1 g1 le6p le6n le6c v7  E H K :=
  loop_rule (S := Nat × (Option Addr) × Nat × Nat × Int) (fun s => compassref04_Parts.f1 (s.1) (s.2.1) (s.2.2.1) (s.2.2.2.1) (s.2.2.2.2)) (fun s H => I (s.1) (s.2.1) (s.2.2.1) (s.2.2.2.1) (s.2.2.2.2) H) (fun s H => μ (s.1) (s.2.1) (s.2.2.1) (s.2.2.2.1) (s.2.2.2.2) H) (fun s H hI X hX => h (s.1) (s.2.1) (s.2.2.1) (s.2.2.2.1) (s.2.2.2.2) H hI X fun g1' le6p' le6n' le6c' v7' H' hI' hlt => hX (g1', le6p', le6n', le6c', v7') H' hI' hlt) (s := (g1, le6p, le6n, le6c, v7)) rfl hI
def compassref04_Parts.l2 (g1 : Nat) (le6p : Option Addr) (le6n : Nat) (le6c : Nat) (ro8 : Int)  (E : Value → Hp → Prop) (H : Hp) (K : (Option Addr) → Nat → Nat → Int → Hp → Prop) : Prop := nodeM P0 T0 compassref04_Parts.A compassref04_Parts.code [1, 1, 1, 1, 1, 0, 1, 0] [] (compassref04_Parts.rq E K) (compassref04_Parts.f2 g1 le6p le6n le6c ro8) H
def compassref04_Parts.b2 (g1 : Nat) (le6p : Option Addr) (le6n : Nat) (le6c : Nat) (ro8 : Int)  (X1 : Fr → Hp → Prop) (E : Value → Hp → Prop) (H : Hp) (K : (Option Addr) → Nat → Nat → Int → Hp → Prop) : Prop := nodeM P0 T0 compassref04_Parts.A compassref04_Parts.code [1, 1, 1, 1, 1, 0, 1, 0, 0] [X1] (compassref04_Parts.rq E K) (compassref04_Parts.f2 g1 le6p le6n le6c ro8) H
theorem compassref04_Parts.l2_rule { E : Value → Hp → Prop} {K : (Option Addr) → Nat → Nat → Int → Hp → Prop} (I : Nat → (Option Addr) → Nat → Nat → Int → Hp → Prop) (μ : Nat → (Option Addr) → Nat → Nat → Int → Hp → Nat)
    (h : ∀ g1 le6p le6n le6c ro8 H, I g1 le6p le6n le6c ro8 H → ∀ X : Fr → Hp → Prop, (∀ g1' le6p' le6n' le6c' ro8' H', I g1' le6p' le6n' le6c' ro8' H' → μ g1' le6p' le6n' le6c' ro8' H' < μ g1 le6p le6n le6c ro8 H → X (compassref04_Parts.f2 g1' le6p' le6n' le6c' ro8') H') → compassref04_Parts.b2 g1 le6p le6n le6c ro8  X E H K)
    {g1 : Nat} {le6p : Option Addr} {le6n : Nat} {le6c : Nat} {ro8 : Int} {H : Hp} (hI : I g1 le6p le6n le6c ro8 H) : compassref04_Parts.l2 g1 le6p le6n le6c ro8  E H K :=
  loop_rule (S := Nat × (Option Addr) × Nat × Nat × Int) (fun s => compassref04_Parts.f2 (s.1) (s.2.1) (s.2.2.1) (s.2.2.2.1) (s.2.2.2.2)) (fun s H => I (s.1) (s.2.1) (s.2.2.1) (s.2.2.2.1) (s.2.2.2.2) H) (fun s H => μ (s.1) (s.2.1) (s.2.2.1) (s.2.2.2.1) (s.2.2.2.2) H) (fun s H hI X hX => h (s.1) (s.2.1) (s.2.2.1) (s.2.2.2.1) (s.2.2.2.2) H hI X fun g1' le6p' le6n' le6c' ro8' H' hI' hlt => hX (g1', le6p', le6n', le6c', ro8') H' hI' hlt) (s := (g1, le6p, le6n, le6c, ro8)) rfl hI
def compassref04_Parts.l3 (g1 : Nat) (le6p : Option Addr) (le6n : Nat) (le6c : Nat) (ro8 : Int) (i9 : Int) (X1 : Fr → Hp → Prop) (E : Value → Hp → Prop) (H : Hp) (K : (Option Addr) → Nat → Nat → Int → Hp → Prop) : Prop := nodeM P0 T0 compassref04_Parts.A compassref04_Parts.code [1, 1, 1, 1, 1, 0, 1, 0, 0, 1, 0, 0, 1, 0] [X1] (compassref04_Parts.rq E K) (compassref04_Parts.f3 g1 le6p le6n le6c ro8 i9) H
def compassref04_Parts.b3 (g1 : Nat) (le6p : Option Addr) (le6n : Nat) (le6c : Nat) (ro8 : Int) (i9 : Int) (X1 : Fr → Hp → Prop) (X2 : Fr → Hp → Prop) (E : Value → Hp → Prop) (H : Hp) (K : (Option Addr) → Nat → Nat → Int → Hp → Prop) : Prop := nodeM P0 T0 compassref04_Parts.A compassref04_Parts.code [1, 1, 1, 1, 1, 0, 1, 0, 0, 1, 0, 0, 1, 0, 0] [X1, X2] (compassref04_Parts.rq E K) (compassref04_Parts.f3 g1 le6p le6n le6c ro8 i9) H
theorem compassref04_Parts.l3_rule {X1 : Fr → Hp → Prop} { E : Value → Hp → Prop} {K : (Option Addr) → Nat → Nat → Int → Hp → Prop} (I : Nat → (Option Addr) → Nat → Nat → Int → Int → Hp → Prop) (μ : Nat → (Option Addr) → Nat → Nat → Int → Int → Hp → Nat)
    (h : ∀ g1 le6p le6n le6c ro8 i9 H, I g1 le6p le6n le6c ro8 i9 H → ∀ X : Fr → Hp → Prop, (∀ g1' le6p' le6n' le6c' ro8' i9' H', I g1' le6p' le6n' le6c' ro8' i9' H' → μ g1' le6p' le6n' le6c' ro8' i9' H' < μ g1 le6p le6n le6c ro8 i9 H → X (compassref04_Parts.f3 g1' le6p' le6n' le6c' ro8' i9') H') → compassref04_Parts.b3 g1 le6p le6n le6c ro8 i9 X1 X E H K)
    {g1 : Nat} {le6p : Option Addr} {le6n : Nat} {le6c : Nat} {ro8 : Int} {i9 : Int} {H : Hp} (hI : I g1 le6p le6n le6c ro8 i9 H) : compassref04_Parts.l3 g1 le6p le6n le6c ro8 i9 X1 E H K :=
  loop_rule (S := Nat × (Option Addr) × Nat × Nat × Int × Int) (fun s => compassref04_Parts.f3 (s.1) (s.2.1) (s.2.2.1) (s.2.2.2.1) (s.2.2.2.2.1) (s.2.2.2.2.2)) (fun s H => I (s.1) (s.2.1) (s.2.2.1) (s.2.2.2.1) (s.2.2.2.2.1) (s.2.2.2.2.2) H) (fun s H => μ (s.1) (s.2.1) (s.2.2.1) (s.2.2.2.1) (s.2.2.2.2.1) (s.2.2.2.2.2) H) (fun s H hI X hX => h (s.1) (s.2.1) (s.2.2.1) (s.2.2.2.1) (s.2.2.2.2.1) (s.2.2.2.2.2) H hI X fun g1' le6p' le6n' le6c' ro8' i9' H' hI' hlt => hX (g1', le6p', le6n', le6c', ro8', i9') H' hI' hlt) (s := (g1, le6p, le6n, le6c, ro8, i9)) rfl hI
theorem compassref04_Parts.nok : nodesOk compassref04_Parts.code [[0, 1, 0, 1, 1, 1, 1], [1, 1, 1, 1, 1], [0, 1, 0, 1, 1, 1, 1, 1], [0, 1, 0, 0, 1, 0, 0, 1, 0, 1, 1, 1, 1, 1], [1, 1, 0, 0, 1, 0, 0, 1, 0, 0, 1, 0, 1, 1, 1, 1, 1], [1, 1, 0, 0, 1, 0, 1, 1, 1, 1, 1], [1, 1, 1, 1, 1, 1]] = true := by kernel_rfl
def compassref04_Parts.run_t (l1 : Nat → (Option Addr) → Nat → Nat → Int → Hp → Prop) (g0_Nodes : Int) (g0_Edgesp : Option Addr) (g0_Edgesn : Nat) (g0_Edgesc : Nat)  (E : Value → Hp → Prop) (H : Hp) (K : (Option Addr) → Nat → Nat → Int → Hp → Prop) : Prop :=
  nw H ⟨[.int .i64 g0_Nodes, .slice g0_Edgesp g0_Edgesn g0_Edgesc], 24⟩ fun b_1 H_1 =>
  ldI .i64 (H_1.get b_1 0) fun x_1 =>
  ldS (H_1.get b_1 1) fun x_2p x_2n x_2c =>
  compassref03_Check.call x_1 x_2p x_2n x_2c E H_1 fun r_1 r_2 H_2 =>
  bcase (!decide ((r_1 : Int) = 0)) (
  K none 0 0 r_1 H_2)
  (ldI .i64 (H_2.get b_1 0) fun x_3 =>
  mkS x_3 x_3 3 [.i .i64] 8 H_2 fun b_2 H_3 =>
  l1 b_1 (some ⟨b_2, 0, none⟩) x_3.toNat x_3.toNat 0 H_3)
theorem compassref04_Parts.run_eq {g0_Nodes : Int} {g0_Edgesp : Option Addr} {g0_Edgesn : Nat} {g0_Edgesc : Nat} { E : Value → Hp → Prop} {H : Hp} {K : (Option Addr) → Nat → Nat → Int → Hp → Prop} (h : compassref04_Parts.run_t (fun g1 le6p le6n le6c v7 H => compassref04_Parts.l1 g1 le6p le6n le6c v7  E H K) g0_Nodes g0_Edgesp g0_Edgesn g0_Edgesc  E H K) : compassref04_Parts.run g0_Nodes g0_Edgesp g0_Edgesn g0_Edgesc  E H K := by
  exact nodeR_imp2 (fun G => compassref04_Parts.run_t (fun g1 le6p le6n le6c v7 H => G [0, 1, 0, 1, 1, 1, 1] [(1, .pointer (some ⟨g1, 0, none⟩)), (6, .slice le6p le6n le6c), (7, .int .i64 v7)] H) g0_Nodes g0_Edgesp g0_Edgesn g0_Edgesc  E H K) compassref04_Parts.nok rfl (fun G => by kernel_rfl) (Eq.mp (by kernel_rfl) h)
def compassref04_Parts.j1_t (l2 : Nat → (Option Addr) → Nat → Nat → Int → Hp → Prop) (g1 : Nat) (le6p : Option Addr) (le6n : Nat) (le6c : Nat)  (E : Value → Hp → Prop) (H : Hp) (K : (Option Addr) → Nat → Nat → Int → Hp → Prop) : Prop :=
  l2 g1 le6p le6n le6c 0 H
theorem compassref04_Parts.j1_eq {g1 : Nat} {le6p : Option Addr} {le6n : Nat} {le6c : Nat} { E : Value → Hp → Prop} {H : Hp} {K : (Option Addr) → Nat → Nat → Int → Hp → Prop} (h : compassref04_Parts.j1_t (fun g1 le6p le6n le6c ro8 H => compassref04_Parts.l2 g1 le6p le6n le6c ro8  E H K) g1 le6p le6n le6c  E H K) : compassref04_Parts.j1 g1 le6p le6n le6c  E H K := by
  exact nodeR_imp2 (fun G => compassref04_Parts.j1_t (fun g1 le6p le6n le6c ro8 H => G [0, 1, 0, 1, 1, 1, 1, 1] [(1, .pointer (some ⟨g1, 0, none⟩)), (6, .slice le6p le6n le6c), (8, .int .i64 ro8)] H) g1 le6p le6n le6c  E H K) compassref04_Parts.nok rfl (fun G => by kernel_rfl) (Eq.mp (by kernel_rfl) h)
def compassref04_Parts.j2_t  (g1 : Nat) (le6p : Option Addr) (le6n : Nat) (le6c : Nat) (ro8 : Int) (i9 : Int) (X1 : Fr → Hp → Prop) (X2 : Fr → Hp → Prop) (E : Value → Hp → Prop) (H : Hp) (K : (Option Addr) → Nat → Nat → Int → Hp → Prop) : Prop :=
  X2 (compassref04_Parts.f3 g1 le6p le6n le6c ro8 (IntKind.wrap .i64 (i9 + 1))) H
theorem compassref04_Parts.j2_eq {g1 : Nat} {le6p : Option Addr} {le6n : Nat} {le6c : Nat} {ro8 : Int} {i9 : Int} {X1 X2 : Fr → Hp → Prop} { E : Value → Hp → Prop} {H : Hp} {K : (Option Addr) → Nat → Nat → Int → Hp → Prop} (h : compassref04_Parts.j2_t  g1 le6p le6n le6c ro8 i9 X1 X2 E H K) : compassref04_Parts.j2 g1 le6p le6n le6c ro8 i9 X1 X2 E H K := by
  exact nodeR_imp2 (fun _ => compassref04_Parts.j2_t  g1 le6p le6n le6c ro8 i9 X1 X2 E H K) compassref04_Parts.nok rfl (fun G => by kernel_rfl) h
def compassref04_Parts.j3_t  (g1 : Nat) (le6p : Option Addr) (le6n : Nat) (le6c : Nat) (ro8 : Int) (X1 : Fr → Hp → Prop) (E : Value → Hp → Prop) (H : Hp) (K : (Option Addr) → Nat → Nat → Int → Hp → Prop) : Prop :=
  X1 (compassref04_Parts.f2 g1 le6p le6n le6c (IntKind.wrap .i64 (ro8 + 1))) H
theorem compassref04_Parts.j3_eq {g1 : Nat} {le6p : Option Addr} {le6n : Nat} {le6c : Nat} {ro8 : Int} {X1 : Fr → Hp → Prop} { E : Value → Hp → Prop} {H : Hp} {K : (Option Addr) → Nat → Nat → Int → Hp → Prop} (h : compassref04_Parts.j3_t  g1 le6p le6n le6c ro8 X1 E H K) : compassref04_Parts.j3 g1 le6p le6n le6c ro8 X1 E H K := by
  exact nodeR_imp2 (fun _ => compassref04_Parts.j3_t  g1 le6p le6n le6c ro8 X1 E H K) compassref04_Parts.nok rfl (fun G => by kernel_rfl) h
def compassref04_Parts.j4_t  (le6p : Option Addr) (le6n : Nat) (le6c : Nat)  (E : Value → Hp → Prop) (H : Hp) (K : (Option Addr) → Nat → Nat → Int → Hp → Prop) : Prop :=
  compassref04_Numbered.call le6p le6n le6c E H fun r_1p r_1n r_1c H_1 =>
  K r_1p r_1n r_1c 0 H_1
theorem compassref04_Parts.j4_eq {le6p : Option Addr} {le6n : Nat} {le6c : Nat} { E : Value → Hp → Prop} {H : Hp} {K : (Option Addr) → Nat → Nat → Int → Hp → Prop} (h : compassref04_Parts.j4_t  le6p le6n le6c  E H K) : compassref04_Parts.j4 le6p le6n le6c  E H K := by
  exact nodeR_imp2 (fun _ => compassref04_Parts.j4_t  le6p le6n le6c  E H K) compassref04_Parts.nok rfl (fun G => by kernel_rfl) h
def compassref04_Parts.b1_t (j1 : Nat → (Option Addr) → Nat → Nat → Hp → Prop) (g1 : Nat) (le6p : Option Addr) (le6n : Nat) (le6c : Nat) (v7 : Int) (X1 : Fr → Hp → Prop) (E : Value → Hp → Prop) (H : Hp) (K : (Option Addr) → Nat → Nat → Int → Hp → Prop) : Prop :=
  ldI .i64 (H.get g1 0) fun x_1 =>
  bcase (decide ((v7 : Int) < x_1)) (
  ix le6p le6n v7 1 fun b_1 o_1 =>
  stC H b_1 o_1 [.int .i64 v7] fun H_1 =>
  X1 (compassref04_Parts.f1 g1 le6p le6n le6c (IntKind.wrap .i64 (v7 + 1))) H_1)
  (j1 g1 le6p le6n le6c H)
theorem compassref04_Parts.b1_eq {g1 : Nat} {le6p : Option Addr} {le6n : Nat} {le6c : Nat} {v7 : Int} {X1 : Fr → Hp → Prop} { E : Value → Hp → Prop} {H : Hp} {K : (Option Addr) → Nat → Nat → Int → Hp → Prop} (h : compassref04_Parts.b1_t (fun g1 le6p le6n le6c H => compassref04_Parts.j1 g1 le6p le6n le6c  E H K) g1 le6p le6n le6c v7 X1 E H K) : compassref04_Parts.b1 g1 le6p le6n le6c v7 X1 E H K := by
  exact nodeR_imp2 (fun G => compassref04_Parts.b1_t (fun g1 le6p le6n le6c H => G [1, 1, 1, 1, 1] [(1, .pointer (some ⟨g1, 0, none⟩)), (6, .slice le6p le6n le6c)] H) g1 le6p le6n le6c v7 X1 E H K) compassref04_Parts.nok rfl (fun G => by kernel_rfl) (Eq.mp (by kernel_rfl) h)
def compassref04_Parts.b2_t (l3 : Nat → (Option Addr) → Nat → Nat → Int → Int → Hp → Prop) (j4 : (Option Addr) → Nat → Nat → Hp → Prop) (g1 : Nat) (le6p : Option Addr) (le6n : Nat) (le6c : Nat) (ro8 : Int) (X1 : Fr → Hp → Prop) (E : Value → Hp → Prop) (H : Hp) (K : (Option Addr) → Nat → Nat → Int → Hp → Prop) : Prop :=
  ldI .i64 (H.get g1 0) fun x_1 =>
  bcase (decide ((ro8 : Int) < x_1)) (
  l3 g1 le6p le6n le6c ro8 0 H)
  (j4 le6p le6n le6c H)
theorem compassref04_Parts.b2_eq {g1 : Nat} {le6p : Option Addr} {le6n : Nat} {le6c : Nat} {ro8 : Int} {X1 : Fr → Hp → Prop} { E : Value → Hp → Prop} {H : Hp} {K : (Option Addr) → Nat → Nat → Int → Hp → Prop} (h : compassref04_Parts.b2_t (fun g1 le6p le6n le6c ro8 i9 H => compassref04_Parts.l3 g1 le6p le6n le6c ro8 i9 X1 E H K) (fun le6p le6n le6c H => compassref04_Parts.j4 le6p le6n le6c  E H K) g1 le6p le6n le6c ro8 X1 E H K) : compassref04_Parts.b2 g1 le6p le6n le6c ro8 X1 E H K := by
  exact nodeR_imp2 (fun G => compassref04_Parts.b2_t (fun g1 le6p le6n le6c ro8 i9 H => G [0, 1, 0, 0, 1, 0, 0, 1, 0, 1, 1, 1, 1, 1] [(1, .pointer (some ⟨g1, 0, none⟩)), (6, .slice le6p le6n le6c), (8, .int .i64 ro8), (9, .int .i64 i9)] H) (fun le6p le6n le6c H => G [1, 1, 1, 1, 1, 1] [(6, .slice le6p le6n le6c)] H) g1 le6p le6n le6c ro8 X1 E H K) compassref04_Parts.nok rfl (fun G => by kernel_rfl) (Eq.mp (by kernel_rfl) h)
def compassref04_Parts.b3_t (j2 : Nat → (Option Addr) → Nat → Nat → Int → Int → Hp → Prop) (j3 : Nat → (Option Addr) → Nat → Nat → Int → Hp → Prop) (g1 : Nat) (le6p : Option Addr) (le6n : Nat) (le6c : Nat) (ro8 : Int) (i9 : Int) (X1 : Fr → Hp → Prop) (X2 : Fr → Hp → Prop) (E : Value → Hp → Prop) (H : Hp) (K : (Option Addr) → Nat → Nat → Int → Hp → Prop) : Prop :=
  ldS (H.get g1 1) fun x_1p x_1n x_1c =>
  bcase (decide ((i9 : Int) < (x_1n : Int))) (
  ldS (H.get g1 1) fun x_2p x_2n x_2c =>
  ix x_2p x_2n i9 4 fun b_1 o_1 =>
  ldI .i64 (H.get b_1 o_1) fun x_3 =>
  ldS (H.get g1 1) fun x_4p x_4n x_4c =>
  ix x_4p x_4n i9 4 fun b_2 o_2 =>
  ldI .i64 (H.get b_2 (o_2 + 1)) fun x_5 =>
  ix le6p le6n x_3 1 fun b_3 o_3 =>
  ldI .i64 (H.get b_3 o_3) fun x_6 =>
  ix le6p le6n x_5 1 fun b_4 o_4 =>
  ldI .i64 (H.get b_4 o_4) fun x_7 =>
  bcase (decide ((x_6 : Int) < x_7)) (
  ix le6p le6n x_3 1 fun b_5 o_5 =>
  ldI .i64 (H.get b_5 o_5) fun x_8 =>
  ix le6p le6n x_5 1 fun b_6 o_6 =>
  stC H b_6 o_6 [.int .i64 x_8] fun H_1 =>
  j2 g1 le6p le6n le6c ro8 i9 H_1)
  (ix le6p le6n x_5 1 fun b_7 o_7 =>
  ldI .i64 (H.get b_7 o_7) fun x_9 =>
  ix le6p le6n x_3 1 fun b_8 o_8 =>
  stC H b_8 o_8 [.int .i64 x_9] fun H_2 =>
  j2 g1 le6p le6n le6c ro8 i9 H_2))
  (j3 g1 le6p le6n le6c ro8 H)
theorem compassref04_Parts.b3_eq {g1 : Nat} {le6p : Option Addr} {le6n : Nat} {le6c : Nat} {ro8 : Int} {i9 : Int} {X1 X2 : Fr → Hp → Prop} { E : Value → Hp → Prop} {H : Hp} {K : (Option Addr) → Nat → Nat → Int → Hp → Prop} (h : compassref04_Parts.b3_t (fun g1 le6p le6n le6c ro8 i9 H => compassref04_Parts.j2 g1 le6p le6n le6c ro8 i9 X1 X2 E H K) (fun g1 le6p le6n le6c ro8 H => compassref04_Parts.j3 g1 le6p le6n le6c ro8 X1 E H K) g1 le6p le6n le6c ro8 i9 X1 X2 E H K) : compassref04_Parts.b3 g1 le6p le6n le6c ro8 i9 X1 X2 E H K := by
  exact nodeR_imp2 (fun G => compassref04_Parts.b3_t (fun g1 le6p le6n le6c ro8 i9 H => G [1, 1, 0, 0, 1, 0, 0, 1, 0, 0, 1, 0, 1, 1, 1, 1, 1] [(1, .pointer (some ⟨g1, 0, none⟩)), (6, .slice le6p le6n le6c), (8, .int .i64 ro8), (9, .int .i64 i9)] H) (fun g1 le6p le6n le6c ro8 H => G [1, 1, 0, 0, 1, 0, 1, 1, 1, 1, 1] [(1, .pointer (some ⟨g1, 0, none⟩)), (6, .slice le6p le6n le6c), (8, .int .i64 ro8)] H) g1 le6p le6n le6c ro8 i9 X1 X2 E H K) compassref04_Parts.nok rfl (fun G => by kernel_rfl) (Eq.mp (by kernel_rfl) h)
/-! ### compass/compassref04.Numbered (60) -/
noncomputable def compassref04_Numbered.A : An := { live := [(0, [0]), (1, [0]), (2, [0, 3]), (3, [0, 3, 4]), (4, [0, 3, 4, 5]), (5, [0, 3, 4, 5]), (6, [0, 3, 4, 5]), (7, [0, 3, 4, 5]), (8, [0, 3, 4, 5]), (9, [0, 3, 4, 5]), (10, [3])], ord := [], stb := [], pre := [] }
noncomputable def compassref04_Numbered.code : Code := bodyOf Go.Proofs.Try.f60
theorem compassref04_Numbered.ok : okCode compassref04_Numbered.A 38 compassref04_Numbered.code = true := by kernel_rfl
def compassref04_Numbered.rq (E : Value → Hp → Prop) (K : (Option Addr) → Nat → Nat → Hp → Prop) : Ex → Fr → Hp → Prop := retQ T0 [.tmp 2] [25] (fun r H => ldR (.one false [.sl]) r fun u => K (asS1 u) (asS2 u) (asS3 u) H) E
def compassref04_Numbered.run (le0p : Option Addr) (le0n : Nat) (le0c : Nat) (E : Value → Hp → Prop) (H : Hp) (K : (Option Addr) → Nat → Nat → Hp → Prop) : Prop := nodeM P0 T0 compassref04_Numbered.A compassref04_Numbered.code [] [] (compassref04_Numbered.rq E K) (argF 0 [.slice le0p le0n le0c]) H
theorem compassref04_Numbered.of {le0p : Option Addr} {le0n : Nat} {le0c : Nat} {E : Value → Hp → Prop} {H : Hp} {K : (Option Addr) → Nat → Nat → Hp → Prop} (h : compassref04_Numbered.run le0p le0n le0c E H K) : compassref04_Numbered.call le0p le0n le0c E H K :=
  callW_of T0_ok P0_mixed (A := compassref04_Numbered.A) (fn := Go.Proofs.Try.f60) Go.Proofs.Try.func60 rfl compassref04_Numbered.ok rfl h
noncomputable def compassref04_Numbered.f1 (le0p : Option Addr) (le0n : Nat) (le0c : Nat) (ou3p : Option Addr) (ou3n : Nat) (ou3c : Nat) (co4 : Int) (v5 : Int) : Fr := [(0, .slice le0p le0n le0c), (3, .slice ou3p ou3n ou3c), (4, .int .i64 co4), (5, .int .i64 v5)]
def compassref04_Numbered.j1 (le0p : Option Addr) (le0n : Nat) (le0c : Nat) (ou3p : Option Addr) (ou3n : Nat) (ou3c : Nat) (co4 : Int) (v5 : Int) (X1 : Fr → Hp → Prop) (E : Value → Hp → Prop) (H : Hp) (K : (Option Addr) → Nat → Nat → Hp → Prop) : Prop := nodeM P0 T0 compassref04_Numbered.A compassref04_Numbered.code [1, 1, 1, 0, 1, 0, 0, 1, 1] [X1] (compassref04_Numbered.rq E K) [(0, .slice le0p le0n le0c), (3, .slice ou3p ou3n ou3c), (4, .int .i64 co4), (5, .int .i64 v5)] H
def compassref04_Numbered.l1 (le0p : Option Addr) (le0n : Nat) (le0c : Nat) (ou3p : Option Addr) (ou3n : Nat) (ou3c : Nat) (co4 : Int) (v5 : Int)  (E : Value → Hp → Prop) (H : Hp) (K : (Option Addr) → Nat → Nat → Hp → Prop) : Prop := nodeM P0 T0 compassref04_Numbered.A compassref04_Numbered.code [1, 1, 1, 0, 1, 0] [] (compassref04_Numbered.rq E K) (compassref04_Numbered.f1 le0p le0n le0c ou3p ou3n ou3c co4 v5) H
def compassref04_Numbered.b1 (le0p : Option Addr) (le0n : Nat) (le0c : Nat) (ou3p : Option Addr) (ou3n : Nat) (ou3c : Nat) (co4 : Int) (v5 : Int)  (X1 : Fr → Hp → Prop) (E : Value → Hp → Prop) (H : Hp) (K : (Option Addr) → Nat → Nat → Hp → Prop) : Prop := nodeM P0 T0 compassref04_Numbered.A compassref04_Numbered.code [1, 1, 1, 0, 1, 0, 0] [X1] (compassref04_Numbered.rq E K) (compassref04_Numbered.f1 le0p le0n le0c ou3p ou3n ou3c co4 v5) H
theorem compassref04_Numbered.l1_rule { E : Value → Hp → Prop} {K : (Option Addr) → Nat → Nat → Hp → Prop} (I : (Option Addr) → Nat → Nat → (Option Addr) → Nat → Nat → Int → Int → Hp → Prop) (μ : (Option Addr) → Nat → Nat → (Option Addr) → Nat → Nat → Int → Int → Hp → Nat)
    (h : ∀ le0p le0n le0c ou3p ou3n ou3c co4 v5 H, I le0p le0n le0c ou3p ou3n ou3c co4 v5 H → ∀ X : Fr → Hp → Prop, (∀ le0p' le0n' le0c' ou3p' ou3n' ou3c' co4' v5' H', I le0p' le0n' le0c' ou3p' ou3n' ou3c' co4' v5' H' → μ le0p' le0n' le0c' ou3p' ou3n' ou3c' co4' v5' H' < μ le0p le0n le0c ou3p ou3n ou3c co4 v5 H → X (compassref04_Numbered.f1 le0p' le0n' le0c' ou3p' ou3n' ou3c' co4' v5') H') → compassref04_Numbered.b1 le0p le0n le0c ou3p ou3n ou3c co4 v5  X E H K)
    {le0p : Option Addr} {le0n : Nat} {le0c : Nat} {ou3p : Option Addr} {ou3n : Nat} {ou3c : Nat} {co4 : Int} {v5 : Int} {H : Hp} (hI : I le0p le0n le0c ou3p ou3n ou3c co4 v5 H) : compassref04_Numbered.l1 le0p le0n le0c ou3p ou3n ou3c co4 v5  E H K :=
  loop_rule (S := (Option Addr) × Nat × Nat × (Option Addr) × Nat × Nat × Int × Int) (fun s => compassref04_Numbered.f1 (s.1) (s.2.1) (s.2.2.1) (s.2.2.2.1) (s.2.2.2.2.1) (s.2.2.2.2.2.1) (s.2.2.2.2.2.2.1) (s.2.2.2.2.2.2.2)) (fun s H => I (s.1) (s.2.1) (s.2.2.1) (s.2.2.2.1) (s.2.2.2.2.1) (s.2.2.2.2.2.1) (s.2.2.2.2.2.2.1) (s.2.2.2.2.2.2.2) H) (fun s H => μ (s.1) (s.2.1) (s.2.2.1) (s.2.2.2.1) (s.2.2.2.2.1) (s.2.2.2.2.2.1) (s.2.2.2.2.2.2.1) (s.2.2.2.2.2.2.2) H) (fun s H hI X hX => h (s.1) (s.2.1) (s.2.2.1) (s.2.2.2.1) (s.2.2.2.2.1) (s.2.2.2.2.2.1) (s.2.2.2.2.2.2.1) (s.2.2.2.2.2.2.2) H hI X fun le0p' le0n' le0c' ou3p' ou3n' ou3c' co4' v5' H' hI' hlt => hX (le0p', le0n', le0c', ou3p', ou3n', ou3c', co4', v5') H' hI' hlt) (s := (le0p, le0n, le0c, ou3p, ou3n, ou3c, co4, v5)) rfl hI
theorem compassref04_Numbered.nok : nodesOk compassref04_Numbered.code [[0, 1, 0, 1, 1, 1], [1, 1, 0, 0, 1, 0, 1, 1, 1]] = true := by kernel_rfl
def compassref04_Numbered.run_t (l1 : (Option Addr) → Nat → Nat → (Option Addr) → Nat → Nat → Int → Int → Hp → Prop) (le0p : Option Addr) (le0n : Nat) (le0c : Nat)  (E : Value → Hp → Prop) (H : Hp) (K : (Option Addr) → Nat → Nat → Hp → Prop) : Prop :=
  mkS (le0n : Int) (le0n : Int) 3 [.i .i64] 8 H fun b_1 H_1 =>
  l1 le0p le0n le0c (some ⟨b_1, 0, none⟩) ((le0n : Int).toNat) ((le0n : Int).toNat) 0 0 H_1
theorem compassref04_Numbered.run_eq {le0p : Option Addr} {le0n : Nat} {le0c : Nat} { E : Value → Hp → Prop} {H : Hp} {K : (Option Addr) → Nat → Nat → Hp → Prop} (h : compassref04_Numbered.run_t (fun le0p le0n le0c ou3p ou3n ou3c co4 v5 H => compassref04_Numbered.l1 le0p le0n le0c ou3p ou3n ou3c co4 v5  E H K) le0p le0n le0c  E H K) : compassref04_Numbered.run le0p le0n le0c  E H K := by
  exact nodeR_imp2 (fun G => compassref04_Numbered.run_t (fun le0p le0n le0c ou3p ou3n ou3c co4 v5 H => G [0, 1, 0, 1, 1, 1] [(0, .slice le0p le0n le0c), (3, .slice ou3p ou3n ou3c), (4, .int .i64 co4), (5, .int .i64 v5)] H) le0p le0n le0c  E H K) compassref04_Numbered.nok rfl (fun G => by kernel_rfl) (Eq.mp (by kernel_rfl) h)
def compassref04_Numbered.j1_t  (le0p : Option Addr) (le0n : Nat) (le0c : Nat) (ou3p : Option Addr) (ou3n : Nat) (ou3c : Nat) (co4 : Int) (v5 : Int) (X1 : Fr → Hp → Prop) (E : Value → Hp → Prop) (H : Hp) (K : (Option Addr) → Nat → Nat → Hp → Prop) : Prop :=
  X1 (compassref04_Numbered.f1 le0p le0n le0c ou3p ou3n ou3c co4 (IntKind.wrap .i64 (v5 + 1))) H
theorem compassref04_Numbered.j1_eq {le0p : Option Addr} {le0n : Nat} {le0c : Nat} {ou3p : Option Addr} {ou3n : Nat} {ou3c : Nat} {co4 : Int} {v5 : Int} {X1 : Fr → Hp → Prop} { E : Value → Hp → Prop} {H : Hp} {K : (Option Addr) → Nat → Nat → Hp → Prop} (h : compassref04_Numbered.j1_t  le0p le0n le0c ou3p ou3n ou3c co4 v5 X1 E H K) : compassref04_Numbered.j1 le0p le0n le0c ou3p ou3n ou3c co4 v5 X1 E H K := by
  exact nodeR_imp2 (fun _ => compassref04_Numbered.j1_t  le0p le0n le0c ou3p ou3n ou3c co4 v5 X1 E H K) compassref04_Numbered.nok rfl (fun G => by kernel_rfl) h
def compassref04_Numbered.b1_t (j1 : (Option Addr) → Nat → Nat → (Option Addr) → Nat → Nat → Int → Int → Hp → Prop) (le0p : Option Addr) (le0n : Nat) (le0c : Nat) (ou3p : Option Addr) (ou3n : Nat) (ou3c : Nat) (co4 : Int) (v5 : Int) (X1 : Fr → Hp → Prop) (E : Value → Hp → Prop) (H : Hp) (K : (Option Addr) → Nat → Nat → Hp → Prop) : Prop :=
  bcase (decide ((v5 : Int) < (le0n : Int))) (
  ix le0p le0n v5 1 fun b_1 o_1 =>
  ldI .i64 (H.get b_1 o_1) fun x_1 =>
  bcase (decide ((x_1 : Int) = v5)) (
  ix ou3p ou3n v5 1 fun b_2 o_2 =>
  stC H b_2 o_2 [.int .i64 co4] fun H_1 =>
  j1 le0p le0n le0c ou3p ou3n ou3c (IntKind.wrap .i64 (co4 + 1)) v5 H_1)
  (ix le0p le0n v5 1 fun b_3 o_3 =>
  ldI .i64 (H.get b_3 o_3) fun x_2 =>
  ix ou3p ou3n x_2 1 fun b_4 o_4 =>
  ldI .i64 (H.get b_4 o_4) fun x_3 =>
  ix ou3p ou3n v5 1 fun b_5 o_5 =>
  stC H b_5 o_5 [.int .i64 x_3] fun H_2 =>
  j1 le0p le0n le0c ou3p ou3n ou3c co4 v5 H_2))
  (K ou3p ou3n ou3c H)
theorem compassref04_Numbered.b1_eq {le0p : Option Addr} {le0n : Nat} {le0c : Nat} {ou3p : Option Addr} {ou3n : Nat} {ou3c : Nat} {co4 : Int} {v5 : Int} {X1 : Fr → Hp → Prop} { E : Value → Hp → Prop} {H : Hp} {K : (Option Addr) → Nat → Nat → Hp → Prop} (h : compassref04_Numbered.b1_t (fun le0p le0n le0c ou3p ou3n ou3c co4 v5 H => compassref04_Numbered.j1 le0p le0n le0c ou3p ou3n ou3c co4 v5 X1 E H K) le0p le0n le0c ou3p ou3n ou3c co4 v5 X1 E H K) : compassref04_Numbered.b1 le0p le0n le0c ou3p ou3n ou3c co4 v5 X1 E H K := by
  exact nodeR_imp2 (fun G => compassref04_Numbered.b1_t (fun le0p le0n le0c ou3p ou3n ou3c co4 v5 H => G [1, 1, 0, 0, 1, 0, 1, 1, 1] [(0, .slice le0p le0n le0c), (3, .slice ou3p ou3n ou3c), (4, .int .i64 co4), (5, .int .i64 v5)] H) le0p le0n le0c ou3p ou3n ou3c co4 v5 X1 E H K) compassref04_Numbered.nok rfl (fun G => by kernel_rfl) (Eq.mp (by kernel_rfl) h)
end Go.Mz
