/-
  The shallow texts of functions (ShL), each with a kernel-checked equation to the translated code. It proves nothing of the program by itself.
-/
import Derived.Test.YtajgpmohnbjpcaaTab
set_option linter.unusedVariables false
set_option maxRecDepth 100000
namespace Go.Mz
/-! ### compass/compasslaw08.ShortAlike (10) -/
noncomputable def compasslaw08_ShortAlike.A : An := { live := [(0, [0, 1, 2]), (1, [1, 2, 3]), (2, []), (3, [1, 2, 3]), (4, [1, 2, 3, 7, 8]), (5, [1, 2, 3, 7, 8, 9]), (6, [1, 2, 3, 7, 8, 9]), (7, [1, 2, 3, 7, 8, 9]), (8, [1, 2, 3, 7, 8, 9, 10, 11]), (9, []), (10, [1, 2, 3, 7, 8]), (11, []), (12, [1, 2, 3, 7]), (13, [2, 3, 7, 12, 14]), (14, [2, 7, 12, 14, 15, 16]), (15, []), (16, [2, 7, 15, 16]), (17, [16]), (18, [2, 7, 15]), (19, [2, 7, 15, 79, 80]), (20, [2, 7, 15, 79, 80]), (21, [2, 7, 15, 17, 79, 80]), (22, []), (23, [2, 7, 15, 79, 80]), (24, [])], ord := [(21, [0, 1, 2, 3, 4, 5, 6, 7, 8, 9, 10, 11, 12, 13, 14, 15, 16, 17, 18, 19, 20, 21, 22, 23, 24, 25, 26, 27, 28, 29, 30, 31, 32])], stb := [], pre := [(21, [[], [0], [], [0, 1, 2], [0, 1, 2, 3], [0, 1, 2, 3, 4], [0, 1, 2, 3, 4, 5], [0, 1, 2, 3, 4, 5, 6], [0, 1, 2, 3, 4, 5, 6, 7], [0, 1, 2, 3, 4, 5, 6], [0, 1, 2, 3, 4, 5, 6, 7, 8, 9], [0, 1, 2, 3, 4, 5, 6, 7, 8, 9, 10], [0, 1, 2, 3, 4, 5, 6, 7, 8, 9, 10, 11], [0, 1, 2, 3, 4, 5, 6, 7, 8, 9, 10, 11, 12], [0, 1, 2, 3, 4, 5, 6, 7, 8, 9, 10, 11, 12, 13], [0, 1, 2, 3, 4, 5, 6, 7, 8, 9, 10, 11, 12, 13, 14], [0, 1, 2, 3, 4, 5, 6, 7, 8, 9, 10, 11, 12, 13, 14, 15], [0, 1, 2, 3, 4, 5, 6, 7, 8, 9, 10, 11, 12, 13, 14], [0, 1, 2, 3, 4, 5, 6, 7, 8, 9, 10, 11, 12, 13, 14, 15, 16, 17], [0, 1, 2, 3, 4, 5, 6, 7, 8, 9, 10, 11, 12, 13, 14, 15, 16, 17, 18], [0, 1, 2, 3, 4, 5, 6, 7, 8, 9, 10, 11, 12, 13, 14], [0, 1, 2, 3, 4, 5, 6, 7, 8, 9, 10, 11, 12, 13, 14, 20], [0, 1, 2, 3, 4, 5, 6, 7, 8, 9, 10, 11, 12, 13, 14], [0, 1, 2, 3, 4, 5, 6, 7, 8, 9, 10, 11, 12, 13, 14, 20, 21, 22], [0, 1, 2, 3, 4, 5, 6, 7, 8, 9, 10, 11, 12, 13, 14, 20, 21, 22, 23], [0, 1, 2, 3, 4, 5, 6, 7, 8, 9, 10, 11, 12, 13, 14], [0, 1, 2, 3, 4, 5, 6, 7, 8, 9, 10, 11, 12, 13, 14, 25], [0, 1, 2, 3, 4, 5, 6, 7, 8, 9, 10, 11, 12, 13, 14], [0, 1, 2, 3, 4, 5, 6, 7, 8, 9, 10, 11, 12, 13, 14, 25, 26, 27], [0, 1, 2, 3, 4, 5, 6, 7, 8, 9, 10, 11, 12, 13, 14, 25, 26, 27, 28], [0, 1, 2, 3, 4, 5, 6, 7, 8, 9, 10, 11, 12, 13, 14, 20, 21, 22, 23, 24, 25, 26, 27, 28, 29], [0, 1, 2, 3, 4, 5, 6, 7, 8, 9, 10, 11, 12, 13, 14, 15, 16, 17, 18, 19, 20, 21, 22, 23, 24, 25, 26, 27, 28, 29, 30], [0, 1, 2, 3, 4, 5, 6, 7, 8, 9, 10, 11, 12, 13, 14, 15, 16, 17, 18, 19, 20, 21, 22, 23, 24, 25, 26, 27, 28, 29, 30, 31]])] }
noncomputable def compasslaw08_ShortAlike.code : Code := bodyOf Go.Proofs.Try.f10
theorem compasslaw08_ShortAlike.ok : okCode compasslaw08_ShortAlike.A 117 compasslaw08_ShortAlike.code = true := by kernel_rfl
def compasslaw08_ShortAlike.rq (E : Value → Hp → Prop) (K : Bool → Hp → Prop) : Ex → Fr → Hp → Prop := retQ T0 [.tmp 6] [4] (fun r H => ldR (.one false [.bool]) r fun u => K (asB u) H) E
def compasslaw08_ShortAlike.run (g0_Nodes : Int) (g0_Edgesp : Option Addr) (g0_Edgesn : Nat) (g0_Edgesc : Nat) (s1 : Int) (u2 : Int) (E : Value → Hp → Prop) (H : Hp) (K : Bool → Hp → Prop) : Prop := nodeM P0 T0 compasslaw08_ShortAlike.A compasslaw08_ShortAlike.code [] [] (compasslaw08_ShortAlike.rq E K) (argF 0 [.agg ⟨[.int .i64 g0_Nodes, .slice g0_Edgesp g0_Edgesn g0_Edgesc]⟩, .int .i64 s1, .int .i64 u2]) H
theorem compasslaw08_ShortAlike.of {g0_Nodes : Int} {g0_Edgesp : Option Addr} {g0_Edgesn : Nat} {g0_Edgesc : Nat} {s1 : Int} {u2 : Int} {E : Value → Hp → Prop} {H : Hp} {K : Bool → Hp → Prop} (h : compasslaw08_ShortAlike.run g0_Nodes g0_Edgesp g0_Edgesn g0_Edgesc s1 u2 E H K) : compasslaw08_ShortAlike.call g0_Nodes g0_Edgesp g0_Edgesn g0_Edgesc s1 u2 E H K :=
  callW_of T0_ok P0_mixed (A := compasslaw08_ShortAlike.A) (fn := Go.Proofs.Try.f10) Go.Proofs.Try.func10 rfl compasslaw08_ShortAlike.ok rfl h
noncomputable def compasslaw08_ShortAlike.f1 (s1 : Int) (u2 : Int) (g3 : Nat) (t7 : Nat) (e8 : Int) (kind9 : Int) : Fr := [(1, .int .i64 s1), (2, .int .i64 u2), (3, .pointer (some ⟨g3, 0, none⟩)), (7, .pointer (some ⟨t7, 0, none⟩)), (8, .int .i64 e8), (9, .int .i64 kind9)]
noncomputable def compasslaw08_ShortAlike.f2 (u2 : Int) (t7 : Nat) (z15 : Nat) (t79 : Int) (t80 : Int) : Fr := [(2, .int .i64 u2), (7, .pointer (some ⟨t7, 0, none⟩)), (15, .pointer (some ⟨z15, 0, none⟩)), (79, .int .i64 t79), (80, .int .i64 t80)]
def compasslaw08_ShortAlike.j1 (s1 : Int) (u2 : Int) (g3 : Nat) (t7 : Nat) (e8 : Int)  (E : Value → Hp → Prop) (H : Hp) (K : Bool → Hp → Prop) : Prop := nodeM P0 T0 compasslaw08_ShortAlike.A compasslaw08_ShortAlike.code [1, 1, 1, 1] [] (compasslaw08_ShortAlike.rq E K) [(1, .int .i64 s1), (2, .int .i64 u2), (3, .pointer (some ⟨g3, 0, none⟩)), (7, .pointer (some ⟨t7, 0, none⟩)), (8, .int .i64 e8)] H
def compasslaw08_ShortAlike.j2 (u2 : Int) (t7 : Nat) (z15 : Nat) (t79 : Int) (t80 : Int) (X1 : Fr → Hp → Prop) (E : Value → Hp → Prop) (H : Hp) (K : Bool → Hp → Prop) : Prop := nodeM P0 T0 compasslaw08_ShortAlike.A compasslaw08_ShortAlike.code [1, 1, 1, 1, 1, 1, 1, 1, 1, 0, 1, 0, 0, 1, 1, 1] [X1] (compasslaw08_ShortAlike.rq E K) [(2, .int .i64 u2), (7, .pointer (some ⟨t7, 0, none⟩)), (15, .pointer (some ⟨z15, 0, none⟩)), (79, .int .i64 t79), (80, .int .i64 t80)] H
def compasslaw08_ShortAlike.l1 (s1 : Int) (u2 : Int) (g3 : Nat) (t7 : Nat) (e8 : Int) (kind9 : Int)  (E : Value → Hp → Prop) (H : Hp) (K : Bool → Hp → Prop) : Prop := nodeM P0 T0 compasslaw08_ShortAlike.A compasslaw08_ShortAlike.code [1, 1, 1, 0, 1, 0] [] (compasslaw08_ShortAlike.rq E K) (compasslaw08_ShortAlike.f1 s1 u2 g3 t7 e8 kind9) H
def compasslaw08_ShortAlike.b1 (s1 : Int) (u2 : Int) (g3 : Nat) (t7 : Nat) (e8 : Int) (kind9 : Int)  (X1 : Fr → Hp → Prop) (E : Value → Hp → Prop) (H : Hp) (K : Bool → Hp → Prop) : Prop := nodeM P0 T0 compasslaw08_ShortAlike.A compasslaw08_ShortAlike.code [1, 1, 1, 0, 1, 0, 0] [X1] (compasslaw08_ShortAlike.rq E K) (compasslaw08_ShortAlike.f1 s1 u2 g3 t7 e8 kind9) H
theorem compasslaw08_ShortAlike.l1_rule { E : Value → Hp → Prop} {K : Bool → Hp → Prop} (I : Int → Int → Nat → Nat → Int → Int → Hp → Prop) (μ : Int → Int → Nat → Nat → Int → Int → Hp → Nat)
    (h : ∀ s1 u2 g3 t7 e8 kind9 H, I s1 u2 g3 t7 e8 kind9 H → ∀ X : Fr → Hp → Prop, (∀ s1' u2' g3' t7' e8' kind9' H', I s1' u2' g3' t7' e8' kind9' H' → μ s1' u2' g3' t7' e8' kind9' H' < μ s1 u2 g3 t7 e8 kind9 H → X (compasslaw08_ShortAlike.f1 s1' u2' g3' t7' e8' kind9') H') → compasslaw08_ShortAlike.b1 s1 u2 g3 t7 e8 kind9  X E H K)
    {s1 : Int} {u2 : Int} {g3 : Nat} {t7 : Nat} {e8 : Int} {kind9 : Int} {H : Hp} (hI : I s1 u2 g3 t7 e8 kind9 H) : compasslaw08_ShortAlike.l1 s1 u2 g3 t7 e8 kind9  E H K :=
  loop_rule (S := Int × Int × Nat × Nat × Int × Int) (fun s => compasslaw08_ShortAlike.f1 (s.1) (s.2.1) (s.2.2.1) (s.2.2.2.1) (s.2.2.2.2.1) (s.2.2.2.2.2)) (fun s H => I (s.1) (s.2.1) (s.2.2.1) (s.2.2.2.1) (s.2.2.2.2.1) (s.2.2.2.2.2) H) (fun s H => μ (s.1) (s.2.1) (s.2.2.1) (s.2.2.2.1) (s.2.2.2.2.1) (s.2.2.2.2.2) H) (fun s H hI X hX => h (s.1) (s.2.1) (s.2.2.1) (s.2.2.2.1) (s.2.2.2.2.1) (s.2.2.2.2.2) H hI X fun s1' u2' g3' t7' e8' kind9' H' hI' hlt => hX (s1', u2', g3', t7', e8', kind9') H' hI' hlt) (s := (s1, u2, g3, t7, e8, kind9)) rfl hI
def compasslaw08_ShortAlike.l2 (u2 : Int) (t7 : Nat) (z15 : Nat) (t79 : Int) (t80 : Int)  (E : Value → Hp → Prop) (H : Hp) (K : Bool → Hp → Prop) : Prop := nodeM P0 T0 compasslaw08_ShortAlike.A compasslaw08_ShortAlike.code [1, 1, 1, 1, 1, 1, 1, 1, 1, 0, 1, 0] [] (compasslaw08_ShortAlike.rq E K) (compasslaw08_ShortAlike.f2 u2 t7 z15 t79 t80) H
def compasslaw08_ShortAlike.b2 (u2 : Int) (t7 : Nat) (z15 : Nat) (t79 : Int) (t80 : Int)  (X1 : Fr → Hp → Prop) (E : Value → Hp → Prop) (H : Hp) (K : Bool → Hp → Prop) : Prop := nodeM P0 T0 compasslaw08_ShortAlike.A compasslaw08_ShortAlike.code [1, 1, 1, 1, 1, 1, 1, 1, 1, 0, 1, 0, 0] [X1] (compasslaw08_ShortAlike.rq E K) (compasslaw08_ShortAlike.f2 u2 t7 z15 t79 t80) H
theorem compasslaw08_ShortAlike.l2_rule { E : Value → Hp → Prop} {K : Bool → Hp → Prop} (I : Int → Nat → Nat → Int → Int → Hp → Prop) (μ : Int → Nat → Nat → Int → Int → Hp → Nat)
    (h : ∀ u2 t7 z15 t79 t80 H, I u2 t7 z15 t79 t80 H → ∀ X : Fr → Hp → Prop, (∀ u2' t7' z15' t79' t80' H', I u2' t7' z15' t79' t80' H' → μ u2' t7' z15' t79' t80' H' < μ u2 t7 z15 t79 t80 H → X (compasslaw08_ShortAlike.f2 u2' t7' z15' t79' t80') H') → compasslaw08_ShortAlike.b2 u2 t7 z15 t79 t80  X E H K)
    {u2 : Int} {t7 : Nat} {z15 : Nat} {t79 : Int} {t80 : Int} {H : Hp} (hI : I u2 t7 z15 t79 t80 H) : compasslaw08_ShortAlike.l2 u2 t7 z15 t79 t80  E H K :=
  loop_rule (S := Int × Nat × Nat × Int × Int) (fun s => compasslaw08_ShortAlike.f2 (s.1) (s.2.1) (s.2.2.1) (s.2.2.2.1) (s.2.2.2.2)) (fun s H => I (s.1) (s.2.1) (s.2.2.1) (s.2.2.2.1) (s.2.2.2.2) H) (fun s H => μ (s.1) (s.2.1) (s.2.2.1) (s.2.2.2.1) (s.2.2.2.2) H) (fun s H hI X hX => h (s.1) (s.2.1) (s.2.2.1) (s.2.2.2.1) (s.2.2.2.2) H hI X fun u2' t7' z15' t79' t80' H' hI' hlt => hX (u2', t7', z15', t79', t80') H' hI' hlt) (s := (u2, t7, z15, t79, t80)) rfl hI
theorem compasslaw08_ShortAlike.nok : nodesOk compasslaw08_ShortAlike.code [[0, 1, 0, 1, 1, 1], [1, 1, 1, 1], [0, 1, 0, 1, 1, 1, 1, 1, 1, 1, 1, 1], [1, 1, 1, 0, 0, 1, 0, 1, 1, 1, 1, 1, 1, 1, 1, 1]] = true := by kernel_rfl
def compasslaw08_ShortAlike.run_t (l1 : Int → Int → Nat → Nat → Int → Int → Hp → Prop) (g0_Nodes : Int) (g0_Edgesp : Option Addr) (g0_Edgesn : Nat) (g0_Edgesc : Nat) (s1 : Int) (u2 : Int)  (E : Value → Hp → Prop) (H : Hp) (K : Bool → Hp → Prop) : Prop :=
  nw H ⟨[.int .i64 g0_Nodes, .slice g0_Edgesp g0_Edgesn g0_Edgesc], 51⟩ fun b_1 H_1 =>
  compasslaw08_awake.call  E H_1 fun r_1 H_2 =>
  bcase ((!r_1)) (
  K false H_2)
  (ldI .i64 (H_2.get b_1 0) fun x_1 =>
  ldS (H_2.get b_1 1) fun x_2p x_2n x_2c =>
  short_Dijkstra.call x_1 x_2p x_2n x_2c s1 1 E H_2 fun r_2_Distp r_2_Distn r_2_Distc r_2_Viap r_2_Vian r_2_Viac r_3 H_3 =>
  nw H_3 ⟨[.slice none 0 0, .slice none 0 0], 54⟩ fun b_2 H_4 =>
  stC H_4 b_2 0 [.slice r_2_Distp r_2_Distn r_2_Distc, .slice r_2_Viap r_2_Vian r_2_Viac] fun H_5 =>
  l1 s1 u2 b_1 b_2 r_3 2 H_5)
theorem compasslaw08_ShortAlike.run_eq {g0_Nodes : Int} {g0_Edgesp : Option Addr} {g0_Edgesn : Nat} {g0_Edgesc : Nat} {s1 : Int} {u2 : Int} { E : Value → Hp → Prop} {H : Hp} {K : Bool → Hp → Prop} (h : compasslaw08_ShortAlike.run_t (fun s1 u2 g3 t7 e8 kind9 H => compasslaw08_ShortAlike.l1 s1 u2 g3 t7 e8 kind9  E H K) g0_Nodes g0_Edgesp g0_Edgesn g0_Edgesc s1 u2  E H K) : compasslaw08_ShortAlike.run g0_Nodes g0_Edgesp g0_Edgesn g0_Edgesc s1 u2  E H K := by
  have k1 : ∀ G : List Nat → Fr → Hp → Prop, nodeR P0 T0 compasslaw08_ShortAlike.A [[0, 1, 0, 1, 1, 1], [1, 1, 1, 1], [0, 1, 0, 1, 1, 1, 1, 1, 1, 1, 1, 1], [1, 1, 1, 0, 0, 1, 0, 1, 1, 1, 1, 1, 1, 1, 1, 1]] G compasslaw08_ShortAlike.code [] [] (compasslaw08_ShortAlike.rq E K) (argF 0 [.agg ⟨[.int .i64 g0_Nodes, .slice g0_Edgesp g0_Edgesn g0_Edgesc]⟩, .int .i64 s1, .int .i64 u2]) H = compasslaw08_ShortAlike.run_t (fun s1 u2 g3 t7 e8 kind9 H => G [0, 1, 0, 1, 1, 1] [(1, .int .i64 s1), (2, .int .i64 u2), (3, .pointer (some ⟨g3, 0, none⟩)), (7, .pointer (some ⟨t7, 0, none⟩)), (8, .int .i64 e8), (9, .int .i64 kind9)] H) g0_Nodes g0_Edgesp g0_Edgesn g0_Edgesc s1 u2  E H K := fun G => by kernel_rfl
  have k2 : compasslaw08_ShortAlike.run_t (fun s1 u2 g3 t7 e8 kind9 H => compasslaw08_ShortAlike.l1 s1 u2 g3 t7 e8 kind9  E H K) g0_Nodes g0_Edgesp g0_Edgesn g0_Edgesc s1 u2  E H K = compasslaw08_ShortAlike.run_t (fun s1 u2 g3 t7 e8 kind9 H => (fun q F H => nodeM P0 T0 compasslaw08_ShortAlike.A compasslaw08_ShortAlike.code q.reverse [] (compasslaw08_ShortAlike.rq E K) F H) [0, 1, 0, 1, 1, 1] [(1, .int .i64 s1), (2, .int .i64 u2), (3, .pointer (some ⟨g3, 0, none⟩)), (7, .pointer (some ⟨t7, 0, none⟩)), (8, .int .i64 e8), (9, .int .i64 kind9)] H) g0_Nodes g0_Edgesp g0_Edgesn g0_Edgesc s1 u2  E H K := by kernel_rfl
  exact nodeR_imp compasslaw08_ShortAlike.nok rfl ((k1 _).mpr (k2.mp h))
def compasslaw08_ShortAlike.j1_t (l2 : Int → Nat → Nat → Int → Int → Hp → Prop) (s1 : Int) (u2 : Int) (g3 : Nat) (t7 : Nat) (e8 : Int)  (E : Value → Hp → Prop) (H : Hp) (K : Bool → Hp → Prop) : Prop :=
  bcase (!decide ((e8 : Int) = 0)) (
  K true H)
  (ldI .i64 (H.get g3 0) fun x_1 =>
  ldS (H.get g3 1) fun x_2p x_2n x_2c =>
  short_Bellman.call x_1 x_2p x_2n x_2c s1 E H fun r_1_Distp r_1_Distn r_1_Distc r_1_Viap r_1_Vian r_1_Viac r_2p r_2n r_2c r_3 H_1 =>
  nw H_1 ⟨[.slice none 0 0, .slice none 0 0], 54⟩ fun b_1 H_2 =>
  stC H_2 b_1 0 [.slice r_1_Distp r_1_Distn r_1_Distc, .slice r_1_Viap r_1_Vian r_1_Viac] fun H_3 =>
  ldI .i64 (H_3.get g3 0) fun x_3 =>
  ldS (H_3.get g3 1) fun x_4p x_4n x_4c =>
  short_Dijkstra.call x_3 x_4p x_4n x_4c u2 3 E H_3 fun r_4_Distp r_4_Distn r_4_Distc r_4_Viap r_4_Vian r_4_Viac r_5 H_4 =>
  nw H_4 ⟨[.slice none 0 0, .slice none 0 0], 54⟩ fun b_2 H_5 =>
  stC H_5 b_2 0 [.slice r_4_Distp r_4_Distn r_4_Distc, .slice r_4_Viap r_4_Vian r_4_Viac] fun H_6 =>
  bcase (!decide ((r_3 : Int) = 0)) (
  K false H_6)
  (ldS (H_6.get t7 0) fun x_5p x_5n x_5c =>
  ldS (H_6.get b_1 0) fun x_6p x_6n x_6c =>
  compasslaw08_longs.call x_5p x_5n x_5c x_6p x_6n x_6c E H_6 fun r_6 H_7 =>
  bcase ((!r_6)) (
  K false H_7)
  (bcase (!decide ((r_5 : Int) = 0)) (
  K (decide ((r_5 : Int) = 30)) H_7)
  (ldS (H_7.get t7 0) fun x_7p x_7n x_7c =>
  l2 u2 t7 b_2 (x_7n : Int) 0 H_7))))
theorem compasslaw08_ShortAlike.j1_eq {s1 : Int} {u2 : Int} {g3 : Nat} {t7 : Nat} {e8 : Int} { E : Value → Hp → Prop} {H : Hp} {K : Bool → Hp → Prop} (h : compasslaw08_ShortAlike.j1_t (fun u2 t7 z15 t79 t80 H => compasslaw08_ShortAlike.l2 u2 t7 z15 t79 t80  E H K) s1 u2 g3 t7 e8  E H K) : compasslaw08_ShortAlike.j1 s1 u2 g3 t7 e8  E H K := by
  have k1 : ∀ G : List Nat → Fr → Hp → Prop, nodeR P0 T0 compasslaw08_ShortAlike.A [[0, 1, 0, 1, 1, 1], [1, 1, 1, 1], [0, 1, 0, 1, 1, 1, 1, 1, 1, 1, 1, 1], [1, 1, 1, 0, 0, 1, 0, 1, 1, 1, 1, 1, 1, 1, 1, 1]] G compasslaw08_ShortAlike.code [1, 1, 1, 1] [] (compasslaw08_ShortAlike.rq E K) [(1, .int .i64 s1), (2, .int .i64 u2), (3, .pointer (some ⟨g3, 0, none⟩)), (7, .pointer (some ⟨t7, 0, none⟩)), (8, .int .i64 e8)] H = compasslaw08_ShortAlike.j1_t (fun u2 t7 z15 t79 t80 H => G [0, 1, 0, 1, 1, 1, 1, 1, 1, 1, 1, 1] [(2, .int .i64 u2), (7, .pointer (some ⟨t7, 0, none⟩)), (15, .pointer (some ⟨z15, 0, none⟩)), (79, .int .i64 t79), (80, .int .i64 t80)] H) s1 u2 g3 t7 e8  E H K := fun G => by kernel_rfl
  have k2 : compasslaw08_ShortAlike.j1_t (fun u2 t7 z15 t79 t80 H => compasslaw08_ShortAlike.l2 u2 t7 z15 t79 t80  E H K) s1 u2 g3 t7 e8  E H K = compasslaw08_ShortAlike.j1_t (fun u2 t7 z15 t79 t80 H => (fun q F H => nodeM P0 T0 compasslaw08_ShortAlike.A compasslaw08_ShortAlike.code q.reverse [] (compasslaw08_ShortAlike.rq E K) F H) [0, 1, 0, 1, 1, 1, 1, 1, 1, 1, 1, 1] [(2, .int .i64 u2), (7, .pointer (some ⟨t7, 0, none⟩)), (15, .pointer (some ⟨z15, 0, none⟩)), (79, .int .i64 t79), (80, .int .i64 t80)] H) s1 u2 g3 t7 e8  E H K := by kernel_rfl
  exact nodeR_imp compasslaw08_ShortAlike.nok rfl ((k1 _).mpr (k2.mp h))
def compasslaw08_ShortAlike.j2_t  (u2 : Int) (t7 : Nat) (z15 : Nat) (t79 : Int) (t80 : Int) (X1 : Fr → Hp → Prop) (E : Value → Hp → Prop) (H : Hp) (K : Bool → Hp → Prop) : Prop :=
  X1 (compasslaw08_ShortAlike.f2 u2 t7 z15 t79 (IntKind.wrap .i64 (t80 + 1))) H
theorem compasslaw08_ShortAlike.j2_eq {u2 : Int} {t7 : Nat} {z15 : Nat} {t79 : Int} {t80 : Int} {X1 : Fr → Hp → Prop} { E : Value → Hp → Prop} {H : Hp} {K : Bool → Hp → Prop} (h : compasslaw08_ShortAlike.j2_t  u2 t7 z15 t79 t80 X1 E H K) : compasslaw08_ShortAlike.j2 u2 t7 z15 t79 t80 X1 E H K := by
  have k1 : ∀ G : List Nat → Fr → Hp → Prop, nodeR P0 T0 compasslaw08_ShortAlike.A [[0, 1, 0, 1, 1, 1], [1, 1, 1, 1], [0, 1, 0, 1, 1, 1, 1, 1, 1, 1, 1, 1], [1, 1, 1, 0, 0, 1, 0, 1, 1, 1, 1, 1, 1, 1, 1, 1]] G compasslaw08_ShortAlike.code [1, 1, 1, 1, 1, 1, 1, 1, 1, 0, 1, 0, 0, 1, 1, 1] [X1] (compasslaw08_ShortAlike.rq E K) [(2, .int .i64 u2), (7, .pointer (some ⟨t7, 0, none⟩)), (15, .pointer (some ⟨z15, 0, none⟩)), (79, .int .i64 t79), (80, .int .i64 t80)] H = compasslaw08_ShortAlike.j2_t  u2 t7 z15 t79 t80 X1 E H K := fun G => by kernel_rfl
  exact nodeR_imp compasslaw08_ShortAlike.nok rfl ((k1 _).mpr h)
def compasslaw08_ShortAlike.b1_t (j1 : Int → Int → Nat → Nat → Int → Hp → Prop) (s1 : Int) (u2 : Int) (g3 : Nat) (t7 : Nat) (e8 : Int) (kind9 : Int) (X1 : Fr → Hp → Prop) (E : Value → Hp → Prop) (H : Hp) (K : Bool → Hp → Prop) : Prop :=
  bcase (decide ((kind9 : Int) ≤ 4)) (
  ldI .i64 (H.get g3 0) fun x_1 =>
  ldS (H.get g3 1) fun x_2p x_2n x_2c =>
  short_Dijkstra.call x_1 x_2p x_2n x_2c s1 kind9 E H fun r_1_Distp r_1_Distn r_1_Distc r_1_Viap r_1_Vian r_1_Viac r_2 H_1 =>
  nw H_1 ⟨[.slice none 0 0, .slice none 0 0], 54⟩ fun b_1 H_2 =>
  stC H_2 b_1 0 [.slice r_1_Distp r_1_Distn r_1_Distc, .slice r_1_Viap r_1_Vian r_1_Viac] fun H_3 =>
  bcase (!decide ((e8 : Int) = r_2)) (
  K false H_3)
  (ldS (H_3.get t7 0) fun x_3p x_3n x_3c =>
  ldS (H_3.get b_1 0) fun x_4p x_4n x_4c =>
  compasslaw08_longs.call x_3p x_3n x_3c x_4p x_4n x_4c E H_3 fun r_3 H_4 =>
  bcase ((!r_3)) (
  K false H_4)
  (X1 (compasslaw08_ShortAlike.f1 s1 u2 g3 t7 e8 (IntKind.wrap .i64 (kind9 + 1))) H_4)))
  (j1 s1 u2 g3 t7 e8 H)
theorem compasslaw08_ShortAlike.b1_eq {s1 : Int} {u2 : Int} {g3 : Nat} {t7 : Nat} {e8 : Int} {kind9 : Int} {X1 : Fr → Hp → Prop} { E : Value → Hp → Prop} {H : Hp} {K : Bool → Hp → Prop} (h : compasslaw08_ShortAlike.b1_t (fun s1 u2 g3 t7 e8 H => compasslaw08_ShortAlike.j1 s1 u2 g3 t7 e8  E H K) s1 u2 g3 t7 e8 kind9 X1 E H K) : compasslaw08_ShortAlike.b1 s1 u2 g3 t7 e8 kind9 X1 E H K := by
  have k1 : ∀ G : List Nat → Fr → Hp → Prop, nodeR P0 T0 compasslaw08_ShortAlike.A [[0, 1, 0, 1, 1, 1], [1, 1, 1, 1], [0, 1, 0, 1, 1, 1, 1, 1, 1, 1, 1, 1], [1, 1, 1, 0, 0, 1, 0, 1, 1, 1, 1, 1, 1, 1, 1, 1]] G compasslaw08_ShortAlike.code [1, 1, 1, 0, 1, 0, 0] [X1] (compasslaw08_ShortAlike.rq E K) (compasslaw08_ShortAlike.f1 s1 u2 g3 t7 e8 kind9) H = compasslaw08_ShortAlike.b1_t (fun s1 u2 g3 t7 e8 H => G [1, 1, 1, 1] [(1, .int .i64 s1), (2, .int .i64 u2), (3, .pointer (some ⟨g3, 0, none⟩)), (7, .pointer (some ⟨t7, 0, none⟩)), (8, .int .i64 e8)] H) s1 u2 g3 t7 e8 kind9 X1 E H K := fun G => by kernel_rfl
  have k2 : compasslaw08_ShortAlike.b1_t (fun s1 u2 g3 t7 e8 H => compasslaw08_ShortAlike.j1 s1 u2 g3 t7 e8  E H K) s1 u2 g3 t7 e8 kind9 X1 E H K = compasslaw08_ShortAlike.b1_t (fun s1 u2 g3 t7 e8 H => (fun q F H => nodeM P0 T0 compasslaw08_ShortAlike.A compasslaw08_ShortAlike.code q.reverse [X1] (compasslaw08_ShortAlike.rq E K) F H) [1, 1, 1, 1] [(1, .int .i64 s1), (2, .int .i64 u2), (3, .pointer (some ⟨g3, 0, none⟩)), (7, .pointer (some ⟨t7, 0, none⟩)), (8, .int .i64 e8)] H) s1 u2 g3 t7 e8 kind9 X1 E H K := by kernel_rfl
  exact nodeR_imp compasslaw08_ShortAlike.nok rfl ((k1 _).mpr (k2.mp h))
def compasslaw08_ShortAlike.b2_t (j2 : Int → Nat → Nat → Int → Int → Hp → Prop) (u2 : Int) (t7 : Nat) (z15 : Nat) (t79 : Int) (t80 : Int) (X1 : Fr → Hp → Prop) (E : Value → Hp → Prop) (H : Hp) (K : Bool → Hp → Prop) : Prop :=
  bcase (decide ((t80 : Int) < t79)) (
  ldS (H.get t7 0) fun x_1p x_1n x_1c =>
  ix x_1p x_1n u2 1 fun b_1 o_1 =>
  ldI .i64 (H.get b_1 o_1) fun x_2 =>
  bcase (decide ((x_2 : Int) < 4611686018427387904)) (
  ldS (H.get z15 0) fun x_3p x_3n x_3c =>
  ix x_3p x_3n t80 1 fun b_2 o_2 =>
  ldI .i64 (H.get b_2 o_2) fun x_4 =>
  bcase (decide ((x_4 : Int) < 4611686018427387904)) (
  ldS (H.get t7 0) fun x_5p x_5n x_5c =>
  ix x_5p x_5n t80 1 fun b_3 o_3 =>
  ldI .i64 (H.get b_3 o_3) fun x_6 =>
  ldS (H.get t7 0) fun x_7p x_7n x_7c =>
  ix x_7p x_7n u2 1 fun b_4 o_4 =>
  ldI .i64 (H.get b_4 o_4) fun x_8 =>
  ldS (H.get z15 0) fun x_9p x_9n x_9c =>
  ix x_9p x_9n t80 1 fun b_5 o_5 =>
  ldI .i64 (H.get b_5 o_5) fun x_10 =>
  bcase (decide (((IntKind.wrap .i64 (x_8 + x_10)) : Int) < x_6)) (
  K false H)
  (j2 u2 t7 z15 t79 t80 H))
  (j2 u2 t7 z15 t79 t80 H))
  (j2 u2 t7 z15 t79 t80 H))
  (K true H)
theorem compasslaw08_ShortAlike.b2_eq {u2 : Int} {t7 : Nat} {z15 : Nat} {t79 : Int} {t80 : Int} {X1 : Fr → Hp → Prop} { E : Value → Hp → Prop} {H : Hp} {K : Bool → Hp → Prop} (h : compasslaw08_ShortAlike.b2_t (fun u2 t7 z15 t79 t80 H => compasslaw08_ShortAlike.j2 u2 t7 z15 t79 t80 X1 E H K) u2 t7 z15 t79 t80 X1 E H K) : compasslaw08_ShortAlike.b2 u2 t7 z15 t79 t80 X1 E H K := by
  have k1 : ∀ G : List Nat → Fr → Hp → Prop, nodeR P0 T0 compasslaw08_ShortAlike.A [[0, 1, 0, 1, 1, 1], [1, 1, 1, 1], [0, 1, 0, 1, 1, 1, 1, 1, 1, 1, 1, 1], [1, 1, 1, 0, 0, 1, 0, 1, 1, 1, 1, 1, 1, 1, 1, 1]] G compasslaw08_ShortAlike.code [1, 1, 1, 1, 1, 1, 1, 1, 1, 0, 1, 0, 0] [X1] (compasslaw08_ShortAlike.rq E K) (compasslaw08_ShortAlike.f2 u2 t7 z15 t79 t80) H = compasslaw08_ShortAlike.b2_t (fun u2 t7 z15 t79 t80 H => G [1, 1, 1, 0, 0, 1, 0, 1, 1, 1, 1, 1, 1, 1, 1, 1] [(2, .int .i64 u2), (7, .pointer (some ⟨t7, 0, none⟩)), (15, .pointer (some ⟨z15, 0, none⟩)), (79, .int .i64 t79), (80, .int .i64 t80)] H) u2 t7 z15 t79 t80 X1 E H K := fun G => by kernel_rfl
  have k2 : compasslaw08_ShortAlike.b2_t (fun u2 t7 z15 t79 t80 H => compasslaw08_ShortAlike.j2 u2 t7 z15 t79 t80 X1 E H K) u2 t7 z15 t79 t80 X1 E H K = compasslaw08_ShortAlike.b2_t (fun u2 t7 z15 t79 t80 H => (fun q F H => nodeM P0 T0 compasslaw08_ShortAlike.A compasslaw08_ShortAlike.code q.reverse [X1] (compasslaw08_ShortAlike.rq E K) F H) [1, 1, 1, 0, 0, 1, 0, 1, 1, 1, 1, 1, 1, 1, 1, 1] [(2, .int .i64 u2), (7, .pointer (some ⟨t7, 0, none⟩)), (15, .pointer (some ⟨z15, 0, none⟩)), (79, .int .i64 t79), (80, .int .i64 t80)] H) u2 t7 z15 t79 t80 X1 E H K := by kernel_rfl
  exact nodeR_imp compasslaw08_ShortAlike.nok rfl ((k1 _).mpr (k2.mp h))
end Go.Mz
