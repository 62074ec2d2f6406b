/-
  The shallow texts of functions (ShK), each with a kernel-checked equation to the translated code. It proves nothing of the program by itself.
-/
import Derived.Test.YtajgpmohnbjpcaaTab
set_option linter.unusedVariables false
set_option maxRecDepth 100000
namespace Go.Mz
/-! ### compass/compasslaw08.ShortKeeps (13) -/
noncomputable def compasslaw08_ShortKeeps.A : An := { live := [(0, [0, 1, 2]), (1, [1, 2, 3]), (2, []), (3, [1, 2, 3]), (4, [1, 2, 3, 7]), (5, [1, 2, 3, 7]), (6, [1, 2, 3, 7, 8]), (7, [1, 2, 3, 7, 8, 10]), (8, [1, 2, 3, 7, 8, 10, 12]), (9, [1, 2, 3, 7, 8, 10, 12]), (10, [1, 2, 3, 7, 8, 10, 12]), (11, []), (12, [1, 2, 3, 8, 10, 12]), (13, [1, 2, 3, 8, 10, 12, 80, 81]), (14, [1, 2, 3, 8, 10, 12, 80, 81]), (15, [1, 2, 3, 8, 10, 12, 15, 80, 81]), (16, [1, 2, 3, 8, 10, 12, 80, 81]), (17, [1, 2, 3, 10, 12]), (18, [1, 2, 3, 10, 12, 16, 17]), (19, []), (20, [12, 16, 17])], ord := [(4, [0, 1, 2, 3, 5, 6, 7, 4, 8, 9, 10]), (10, [0, 1, 2, 3, 4, 5, 6, 7, 8, 9, 10, 11, 12, 13, 14, 15, 16, 17, 18, 19]), (15, [0, 1, 2, 3, 4, 5, 6, 7, 8, 9])], stb := [(4, [(4, [6])]), (15, [(7, [4])])], pre := [(4, [[], [0], [], [2], [0, 1, 2, 3], [], [5], [5, 6], [0, 1, 2, 3, 4, 5, 6, 7], [0, 1, 2, 3, 4, 5, 6, 7, 8], [0, 1, 2, 3, 4, 5, 6, 7, 8, 9]]), (10, [[], [], [0, 1], [0, 1, 2], [0, 1, 2, 3], [0, 1, 2, 3, 4], [0, 1, 2, 3, 4, 5], [0, 1, 2, 3, 4], [0, 1, 2, 3, 4, 7], [0, 1, 2, 3, 4, 7, 8], [0, 1, 2, 3, 4, 7, 8, 9], [0, 1, 2, 3, 4, 5, 6, 7, 8, 9, 10], [0, 1, 2, 3, 4], [0, 1, 2, 3, 4, 12], [0, 1, 2, 3, 4, 12, 13], [0, 1, 2, 3, 4, 5, 6, 7, 8, 9, 10, 11, 12, 13, 14], [0, 1, 2, 3, 4, 5, 6, 7, 8, 9, 10, 11, 12, 13, 14, 15], [0, 1, 2, 3, 4, 5, 6, 7, 8, 9, 10, 11, 12, 13, 14, 15, 16], [0, 1, 2, 3, 4, 5, 6, 7, 8, 9, 10, 11, 12, 13, 14, 15, 16, 17], [0, 1, 2, 3, 4, 5, 6, 7, 8, 9, 10, 11, 12, 13, 14, 15, 16, 17, 18]]), (15, [[], [0], [], [], [3], [], [0, 1, 2], [0, 1, 2, 6], [0, 1, 2, 3, 4, 5, 6, 7], [0, 1, 2, 3, 4, 5, 6, 7, 8]])] }
noncomputable def compasslaw08_ShortKeeps.code : Code := bodyOf Go.Proofs.Try.f13
theorem compasslaw08_ShortKeeps.ok : okCode compasslaw08_ShortKeeps.A 119 compasslaw08_ShortKeeps.code = true := by kernel_rfl
def compasslaw08_ShortKeeps.rq (E : Value → Hp → Prop) (K : Bool → Hp → Prop) : Ex → Fr → Hp → Prop := retQ T0 [.tmp 6] [4] (fun r H => ldR (.one false [.bool]) r fun u => K (asB u) H) E
def compasslaw08_ShortKeeps.run (g0_Nodes : Int) (g0_Edgesp : Option Addr) (g0_Edgesn : Nat) (g0_Edgesc : Nat) (s1 : Int) (kind2 : Int) (E : Value → Hp → Prop) (H : Hp) (K : Bool → Hp → Prop) : Prop := nodeM P0 T0 compasslaw08_ShortKeeps.A compasslaw08_ShortKeeps.code [] [] (compasslaw08_ShortKeeps.rq E K) (argF 0 [.agg ⟨[.int .i64 g0_Nodes, .slice g0_Edgesp g0_Edgesn g0_Edgesc]⟩, .int .i64 s1, .int .i64 kind2]) H
theorem compasslaw08_ShortKeeps.of {g0_Nodes : Int} {g0_Edgesp : Option Addr} {g0_Edgesn : Nat} {g0_Edgesc : Nat} {s1 : Int} {kind2 : Int} {E : Value → Hp → Prop} {H : Hp} {K : Bool → Hp → Prop} (h : compasslaw08_ShortKeeps.run g0_Nodes g0_Edgesp g0_Edgesn g0_Edgesc s1 kind2 E H K) : compasslaw08_ShortKeeps.call g0_Nodes g0_Edgesp g0_Edgesn g0_Edgesc s1 kind2 E H K :=
  callW_of T0_ok P0_mixed (A := compasslaw08_ShortKeeps.A) (fn := Go.Proofs.Try.f13) Go.Proofs.Try.func13 rfl compasslaw08_ShortKeeps.ok rfl h
noncomputable def compasslaw08_ShortKeeps.f1 (s1 : Int) (kind2 : Int) (g3 : Nat) (a8 : Nat) (b10 : Nat) (c12 : Nat) (t80 : Int) (t81 : Int) : Fr := [(1, .int .i64 s1), (2, .int .i64 kind2), (3, .pointer (some ⟨g3, 0, none⟩)), (8, .pointer (some ⟨a8, 0, none⟩)), (10, .pointer (some ⟨b10, 0, none⟩)), (12, .pointer (some ⟨c12, 0, none⟩)), (80, .int .i64 t80), (81, .int .i64 t81)]
def compasslaw08_ShortKeeps.j1 (s1 : Int) (kind2 : Int) (g3 : Nat) (b10 : Nat) (c12 : Nat)  (E : Value → Hp → Prop) (H : Hp) (K : Bool → Hp → Prop) : Prop := nodeM P0 T0 compasslaw08_ShortKeeps.A compasslaw08_ShortKeeps.code [1, 1, 1, 1, 1, 1, 1, 1, 1, 1, 1] [] (compasslaw08_ShortKeeps.rq E K) [(1, .int .i64 s1), (2, .int .i64 kind2), (3, .pointer (some ⟨g3, 0, none⟩)), (10, .pointer (some ⟨b10, 0, none⟩)), (12, .pointer (some ⟨c12, 0, none⟩))] H
def compasslaw08_ShortKeeps.j2 (c12 : Nat) (dist16p : Option Addr) (dist16n : Nat) (dist16c : Nat) (code17 : Int)  (E : Value → Hp → Prop) (H : Hp) (K : Bool → Hp → Prop) : Prop := nodeM P0 T0 compasslaw08_ShortKeeps.A compasslaw08_ShortKeeps.code [1, 1, 1, 1, 1, 1, 1, 1, 1, 1, 1, 1, 1] [] (compasslaw08_ShortKeeps.rq E K) [(12, .pointer (some ⟨c12, 0, none⟩)), (16, .slice dist16p dist16n dist16c), (17, .int .i64 code17)] H
def compasslaw08_ShortKeeps.l1 (s1 : Int) (kind2 : Int) (g3 : Nat) (a8 : Nat) (b10 : Nat) (c12 : Nat) (t80 : Int) (t81 : Int)  (E : Value → Hp → Prop) (H : Hp) (K : Bool → Hp → Prop) : Prop := nodeM P0 T0 compasslaw08_ShortKeeps.A compasslaw08_ShortKeeps.code [1, 1, 1, 1, 1, 1, 1, 1, 1, 1, 0, 1, 0] [] (compasslaw08_ShortKeeps.rq E K) (compasslaw08_ShortKeeps.f1 s1 kind2 g3 a8 b10 c12 t80 t81) H
def compasslaw08_ShortKeeps.b1 (s1 : Int) (kind2 : Int) (g3 : Nat) (a8 : Nat) (b10 : Nat) (c12 : Nat) (t80 : Int) (t81 : Int)  (X1 : Fr → Hp → Prop) (E : Value → Hp → Prop) (H : Hp) (K : Bool → Hp → Prop) : Prop := nodeM P0 T0 compasslaw08_ShortKeeps.A compasslaw08_ShortKeeps.code [1, 1, 1, 1, 1, 1, 1, 1, 1, 1, 0, 1, 0, 0] [X1] (compasslaw08_ShortKeeps.rq E K) (compasslaw08_ShortKeeps.f1 s1 kind2 g3 a8 b10 c12 t80 t81) H
theorem compasslaw08_ShortKeeps.l1_rule { E : Value → Hp → Prop} {K : Bool → Hp → Prop} (I : Int → Int → Nat → Nat → Nat → Nat → Int → Int → Hp → Prop) (μ : Int → Int → Nat → Nat → Nat → Nat → Int → Int → Hp → Nat)
    (h : ∀ s1 kind2 g3 a8 b10 c12 t80 t81 H, I s1 kind2 g3 a8 b10 c12 t80 t81 H → ∀ X : Fr → Hp → Prop, (∀ s1' kind2' g3' a8' b10' c12' t80' t81' H', I s1' kind2' g3' a8' b10' c12' t80' t81' H' → μ s1' kind2' g3' a8' b10' c12' t80' t81' H' < μ s1 kind2 g3 a8 b10 c12 t80 t81 H → X (compasslaw08_ShortKeeps.f1 s1' kind2' g3' a8' b10' c12' t80' t81') H') → compasslaw08_ShortKeeps.b1 s1 kind2 g3 a8 b10 c12 t80 t81  X E H K)
    {s1 : Int} {kind2 : Int} {g3 : Nat} {a8 : Nat} {b10 : Nat} {c12 : Nat} {t80 : Int} {t81 : Int} {H : Hp} (hI : I s1 kind2 g3 a8 b10 c12 t80 t81 H) : compasslaw08_ShortKeeps.l1 s1 kind2 g3 a8 b10 c12 t80 t81  E H K :=
  loop_rule (S := Int × Int × Nat × Nat × Nat × Nat × Int × Int) (fun s => compasslaw08_ShortKeeps.f1 (s.1) (s.2.1) (s.2.2.1) (s.2.2.2.1) (s.2.2.2.2.1) (s.2.2.2.2.2.1) (s.2.2.2.2.2.2.1) (s.2.2.2.2.2.2.2)) (fun s H => I (s.1) (s.2.1) (s.2.2.1) (s.2.2.2.1) (s.2.2.2.2.1) (s.2.2.2.2.2.1) (s.2.2.2.2.2.2.1) (s.2.2.2.2.2.2.2) H) (fun s H => μ (s.1) (s.2.1) (s.2.2.1) (s.2.2.2.1) (s.2.2.2.2.1) (s.2.2.2.2.2.1) (s.2.2.2.2.2.2.1) (s.2.2.2.2.2.2.2) H) (fun s H hI X hX => h (s.1) (s.2.1) (s.2.2.1) (s.2.2.2.1) (s.2.2.2.2.1) (s.2.2.2.2.2.1) (s.2.2.2.2.2.2.1) (s.2.2.2.2.2.2.2) H hI X fun s1' kind2' g3' a8' b10' c12' t80' t81' H' hI' hlt => hX (s1', kind2', g3', a8', b10', c12', t80', t81') H' hI' hlt) (s := (s1, kind2, g3, a8, b10, c12, t80, t81)) rfl hI
theorem compasslaw08_ShortKeeps.nok : nodesOk compasslaw08_ShortKeeps.code [[0, 1, 0, 1, 1, 1, 1, 1, 1, 1, 1, 1, 1], [1, 1, 1, 1, 1, 1, 1, 1, 1, 1, 1], [1, 1, 1, 1, 1, 1, 1, 1, 1, 1, 1, 1, 1]] = true := by kernel_rfl
def compasslaw08_ShortKeeps.run_t (l1 : Int → Int → Nat → Nat → Nat → Nat → Int → Int → Hp → Prop) (g0_Nodes : Int) (g0_Edgesp : Option Addr) (g0_Edgesn : Nat) (g0_Edgesc : Nat) (s1 : Int) (kind2 : Int)  (E : Value → Hp → Prop) (H : Hp) (K : Bool → Hp → Prop) : Prop :=
  nw H ⟨[.int .i64 g0_Nodes, .slice g0_Edgesp g0_Edgesn g0_Edgesc], 51⟩ fun b_1 H_1 =>
  compasslaw08_awake.call  E H_1 fun r_1 H_2 =>
  bcase ((!r_1)) (
  K false H_2)
  (ldI .i64 (H_2.get b_1 0) fun x_1 =>
  ldS (H_2.get b_1 1) fun x_2p x_2n x_2c =>
  compassref03_Copy.call x_1 x_2p x_2n x_2c E H_2 fun r_2_Nodes r_2_Edgesp r_2_Edgesn r_2_Edgesc H_3 =>
  nw H_3 ⟨[.int .i64 0, .slice none 0 0], 51⟩ fun b_2 H_4 =>
  stC H_4 b_2 0 [.int .i64 r_2_Nodes, .slice r_2_Edgesp r_2_Edgesn r_2_Edgesc] fun H_5 =>
  ldS (H_5.get b_2 1) fun x_3p x_3n x_3c =>
  nw H_5 ⟨[.int .i64 0, .int .i64 0, .int .i64 (-7), .int .i64 0], 69⟩ fun b_3 H_6 =>
  ldS (H_6.get b_1 1) fun x_4p x_4n x_4c =>
  appM 69 [.i .i64, .i .i64, .i .i64, .i .i64] 32 x_3p x_3n x_3c (some ⟨b_3, 0, none⟩) 1 H_6 fun a_1p a_1n a_1c H_7 =>
  (ldS (H_7.get b_1 1) fun x_24p x_24n x_24c =>
  Value.slice x_24p x_24n x_24c = Value.slice x_4p x_4n x_4c) ∧
  ((0 : Int) ≤ (x_4n : Int) ∧ (x_4n : Int) ≤ (a_1c : Int)) ∧
  stC H_7 b_2 1 [.slice (slp a_1p 0 a_1c 4) ((x_4n : Int).toNat) a_1c] fun H_8 =>
  ldI .i64 (H_8.get b_2 0) fun x_5 =>
  ldS (H_8.get b_2 1) fun x_6p x_6n x_6c =>
  short_Dijkstra.call x_5 x_6p x_6n x_6c s1 kind2 E H_8 fun r_3_Distp r_3_Distn r_3_Distc r_3_Viap r_3_Vian r_3_Viac r_4 H_9 =>
  nw H_9 ⟨[.slice none 0 0, .slice none 0 0], 54⟩ fun b_4 H_10 =>
  stC H_10 b_4 0 [.slice r_3_Distp r_3_Distn r_3_Distc, .slice r_3_Viap r_3_Vian r_3_Viac] fun H_11 =>
  ldI .i64 (H_11.get b_2 0) fun x_7 =>
  ldS (H_11.get b_2 1) fun x_8p x_8n x_8c =>
  short_Dijkstra.call x_7 x_8p x_8n x_8c s1 kind2 E H_11 fun r_5_Distp r_5_Distn r_5_Distc r_5_Viap r_5_Vian r_5_Viac r_6 H_12 =>
  nw H_12 ⟨[.slice none 0 0, .slice none 0 0], 54⟩ fun b_5 H_13 =>
  stC H_13 b_5 0 [.slice r_5_Distp r_5_Distn r_5_Distc, .slice r_5_Viap r_5_Vian r_5_Viac] fun H_14 =>
  ldI .i64 (H_14.get b_2 0) fun x_9 =>
  ldS (H_14.get b_2 1) fun x_10p x_10n x_10c =>
  short_Bellman.call x_9 x_10p x_10n x_10c s1 E H_14 fun r_7_Distp r_7_Distn r_7_Distc r_7_Viap r_7_Vian r_7_Viac r_8p r_8n r_8c r_9 H_15 =>
  nw H_15 ⟨[.slice none 0 0, .slice none 0 0], 54⟩ fun b_6 H_16 =>
  stC H_16 b_6 0 [.slice r_7_Distp r_7_Distn r_7_Distc, .slice r_7_Viap r_7_Vian r_7_Viac] fun H_17 =>
  ldI .i64 (H_17.get b_2 0) fun x_11 =>
  ldS (H_17.get b_2 1) fun x_12p x_12n x_12c =>
  short_Potentials.call x_11 x_12p x_12n x_12c E H_17 fun r_10p r_10n r_10c r_11p r_11n r_11c r_12 H_18 =>
  ldI .i64 (H_18.get b_2 0) fun x_13 =>
  ldS (H_18.get b_2 1) fun x_14p x_14n x_14c =>
  short_Way.call x_13 x_14p x_14n x_14c s1 0 E H_18 fun r_13p r_13n r_13c r_14 r_15 H_19 =>
  ldI .i64 (H_19.get b_2 0) fun x_15 =>
  ldS (H_19.get b_2 1) fun x_16p x_16n x_16c =>
  ldI .i64 (H_19.get b_1 0) fun x_17 =>
  ldS (H_19.get b_1 1) fun x_18p x_18n x_18c =>
  compassref03_Same.call x_15 x_16p x_16n x_16c x_17 x_18p x_18n x_18c E H_19 fun r_16 H_20 =>
  bcase ((!r_16)) (
  K false H_20)
  (ldS (H_20.get b_2 1) fun x_19p x_19n x_19c =>
  ldS (H_20.get b_1 1) fun x_20p x_20n x_20c =>
  ((0 : Int) ≤ (IntKind.wrap .i64 ((x_20n : Int) + 1)) ∧ (IntKind.wrap .i64 ((x_20n : Int) + 1)) ≤ (x_19c : Int)) ∧
  ldS (H_20.get b_1 1) fun x_21p x_21n x_21c =>
  ix (slp x_19p 0 x_19c 4) ((IntKind.wrap .i64 ((x_20n : Int) + 1)).toNat) (x_21n : Int) 4 fun b_7 o_1 =>
  ldI .i64 (H_20.get b_7 (o_1 + 2)) fun x_22 =>
  bcase (!decide ((x_22 : Int) = (-7))) (
  K false H_20)
  (ldS (H_20.get b_4 0) fun x_23p x_23n x_23c =>
  l1 s1 kind2 b_1 b_4 b_5 b_6 (x_23n : Int) 0 H_20)))
theorem compasslaw08_ShortKeeps.run_eq {g0_Nodes : Int} {g0_Edgesp : Option Addr} {g0_Edgesn : Nat} {g0_Edgesc : Nat} {s1 : Int} {kind2 : Int} { E : Value → Hp → Prop} {H : Hp} {K : Bool → Hp → Prop} (h : compasslaw08_ShortKeeps.run_t (fun s1 kind2 g3 a8 b10 c12 t80 t81 H => compasslaw08_ShortKeeps.l1 s1 kind2 g3 a8 b10 c12 t80 t81  E H K) g0_Nodes g0_Edgesp g0_Edgesn g0_Edgesc s1 kind2  E H K) : compasslaw08_ShortKeeps.run g0_Nodes g0_Edgesp g0_Edgesn g0_Edgesc s1 kind2  E H K := by
  have k1 : ∀ G : List Nat → Fr → Hp → Prop, nodeR P0 T0 compasslaw08_ShortKeeps.A [[0, 1, 0, 1, 1, 1, 1, 1, 1, 1, 1, 1, 1], [1, 1, 1, 1, 1, 1, 1, 1, 1, 1, 1], [1, 1, 1, 1, 1, 1, 1, 1, 1, 1, 1, 1, 1]] G compasslaw08_ShortKeeps.code [] [] (compasslaw08_ShortKeeps.rq E K) (argF 0 [.agg ⟨[.int .i64 g0_Nodes, .slice g0_Edgesp g0_Edgesn g0_Edgesc]⟩, .int .i64 s1, .int .i64 kind2]) H = compasslaw08_ShortKeeps.run_t (fun s1 kind2 g3 a8 b10 c12 t80 t81 H => G [0, 1, 0, 1, 1, 1, 1, 1, 1, 1, 1, 1, 1] [(1, .int .i64 s1), (2, .int .i64 kind2), (3, .pointer (some ⟨g3, 0, none⟩)), (8, .pointer (some ⟨a8, 0, none⟩)), (10, .pointer (some ⟨b10, 0, none⟩)), (12, .pointer (some ⟨c12, 0, none⟩)), (80, .int .i64 t80), (81, .int .i64 t81)] H) g0_Nodes g0_Edgesp g0_Edgesn g0_Edgesc s1 kind2  E H K := fun G => by kernel_rfl
  have k2 : compasslaw08_ShortKeeps.run_t (fun s1 kind2 g3 a8 b10 c12 t80 t81 H => compasslaw08_ShortKeeps.l1 s1 kind2 g3 a8 b10 c12 t80 t81  E H K) g0_Nodes g0_Edgesp g0_Edgesn g0_Edgesc s1 kind2  E H K = compasslaw08_ShortKeeps.run_t (fun s1 kind2 g3 a8 b10 c12 t80 t81 H => (fun q F H => nodeM P0 T0 compasslaw08_ShortKeeps.A compasslaw08_ShortKeeps.code q.reverse [] (compasslaw08_ShortKeeps.rq E K) F H) [0, 1, 0, 1, 1, 1, 1, 1, 1, 1, 1, 1, 1] [(1, .int .i64 s1), (2, .int .i64 kind2), (3, .pointer (some ⟨g3, 0, none⟩)), (8, .pointer (some ⟨a8, 0, none⟩)), (10, .pointer (some ⟨b10, 0, none⟩)), (12, .pointer (some ⟨c12, 0, none⟩)), (80, .int .i64 t80), (81, .int .i64 t81)] H) g0_Nodes g0_Edgesp g0_Edgesn g0_Edgesc s1 kind2  E H K := by kernel_rfl
  exact nodeR_imp compasslaw08_ShortKeeps.nok rfl ((k1 _).mpr (k2.mp h))
def compasslaw08_ShortKeeps.j1_t (j2 : Nat → (Option Addr) → Nat → Nat → Int → Hp → Prop) (s1 : Int) (kind2 : Int) (g3 : Nat) (b10 : Nat) (c12 : Nat)  (E : Value → Hp → Prop) (H : Hp) (K : Bool → Hp → Prop) : Prop :=
  ldI .i64 (H.get g3 0) fun x_1 =>
  ldS (H.get g3 1) fun x_2p x_2n x_2c =>
  compassref08_Dist.call x_1 x_2p x_2n x_2c s1 E H fun r_1p r_1n r_1c r_2 H_1 =>
  ldI .i64 (H_1.get g3 0) fun x_3 =>
  ldS (H_1.get g3 1) fun x_4p x_4n x_4c =>
  compassref08_Dijkstra.call x_3 x_4p x_4n x_4c s1 kind2 E H_1 fun r_3 H_2 =>
  bcase (decide ((r_3 : Int) = 0)) (
  ldS (H_2.get b10 0) fun x_5p x_5n x_5c =>
  compasslaw08_longs.call x_5p x_5n x_5c r_1p r_1n r_1c E H_2 fun r_4 H_3 =>
  bcase ((!r_4)) (
  K false H_3)
  (j2 c12 r_1p r_1n r_1c r_2 H_3))
  (j2 c12 r_1p r_1n r_1c r_2 H_2)
theorem compasslaw08_ShortKeeps.j1_eq {s1 : Int} {kind2 : Int} {g3 : Nat} {b10 : Nat} {c12 : Nat} { E : Value → Hp → Prop} {H : Hp} {K : Bool → Hp → Prop} (h : compasslaw08_ShortKeeps.j1_t (fun c12 dist16p dist16n dist16c code17 H => compasslaw08_ShortKeeps.j2 c12 dist16p dist16n dist16c code17  E H K) s1 kind2 g3 b10 c12  E H K) : compasslaw08_ShortKeeps.j1 s1 kind2 g3 b10 c12  E H K := by
  have k1 : ∀ G : List Nat → Fr → Hp → Prop, nodeR P0 T0 compasslaw08_ShortKeeps.A [[0, 1, 0, 1, 1, 1, 1, 1, 1, 1, 1, 1, 1], [1, 1, 1, 1, 1, 1, 1, 1, 1, 1, 1], [1, 1, 1, 1, 1, 1, 1, 1, 1, 1, 1, 1, 1]] G compasslaw08_ShortKeeps.code [1, 1, 1, 1, 1, 1, 1, 1, 1, 1, 1] [] (compasslaw08_ShortKeeps.rq E K) [(1, .int .i64 s1), (2, .int .i64 kind2), (3, .pointer (some ⟨g3, 0, none⟩)), (10, .pointer (some ⟨b10, 0, none⟩)), (12, .pointer (some ⟨c12, 0, none⟩))] H = compasslaw08_ShortKeeps.j1_t (fun c12 dist16p dist16n dist16c code17 H => G [1, 1, 1, 1, 1, 1, 1, 1, 1, 1, 1, 1, 1] [(12, .pointer (some ⟨c12, 0, none⟩)), (16, .slice dist16p dist16n dist16c), (17, .int .i64 code17)] H) s1 kind2 g3 b10 c12  E H K := fun G => by kernel_rfl
  have k2 : compasslaw08_ShortKeeps.j1_t (fun c12 dist16p dist16n dist16c code17 H => compasslaw08_ShortKeeps.j2 c12 dist16p dist16n dist16c code17  E H K) s1 kind2 g3 b10 c12  E H K = compasslaw08_ShortKeeps.j1_t (fun c12 dist16p dist16n dist16c code17 H => (fun q F H => nodeM P0 T0 compasslaw08_ShortKeeps.A compasslaw08_ShortKeeps.code q.reverse [] (compasslaw08_ShortKeeps.rq E K) F H) [1, 1, 1, 1, 1, 1, 1, 1, 1, 1, 1, 1, 1] [(12, .pointer (some ⟨c12, 0, none⟩)), (16, .slice dist16p dist16n dist16c), (17, .int .i64 code17)] H) s1 kind2 g3 b10 c12  E H K := by kernel_rfl
  exact nodeR_imp compasslaw08_ShortKeeps.nok rfl ((k1 _).mpr (k2.mp h))
def compasslaw08_ShortKeeps.j2_t  (c12 : Nat) (dist16p : Option Addr) (dist16n : Nat) (dist16c : Nat) (code17 : Int)  (E : Value → Hp → Prop) (H : Hp) (K : Bool → Hp → Prop) : Prop :=
  bcase (!decide ((code17 : Int) = 0)) (
  K true H)
  (ldS (H.get c12 0) fun x_1p x_1n x_1c =>
  compasslaw08_longs.call x_1p x_1n x_1c dist16p dist16n dist16c E H fun r_1 H_1 =>
  K r_1 H_1)
theorem compasslaw08_ShortKeeps.j2_eq {c12 : Nat} {dist16p : Option Addr} {dist16n : Nat} {dist16c : Nat} {code17 : Int} { E : Value → Hp → Prop} {H : Hp} {K : Bool → Hp → Prop} (h : compasslaw08_ShortKeeps.j2_t  c12 dist16p dist16n dist16c code17  E H K) : compasslaw08_ShortKeeps.j2 c12 dist16p dist16n dist16c code17  E H K := by
  have k1 : ∀ G : List Nat → Fr → Hp → Prop, nodeR P0 T0 compasslaw08_ShortKeeps.A [[0, 1, 0, 1, 1, 1, 1, 1, 1, 1, 1, 1, 1], [1, 1, 1, 1, 1, 1, 1, 1, 1, 1, 1], [1, 1, 1, 1, 1, 1, 1, 1, 1, 1, 1, 1, 1]] G compasslaw08_ShortKeeps.code [1, 1, 1, 1, 1, 1, 1, 1, 1, 1, 1, 1, 1] [] (compasslaw08_ShortKeeps.rq E K) [(12, .pointer (some ⟨c12, 0, none⟩)), (16, .slice dist16p dist16n dist16c), (17, .int .i64 code17)] H = compasslaw08_ShortKeeps.j2_t  c12 dist16p dist16n dist16c code17  E H K := fun G => by kernel_rfl
  exact nodeR_imp compasslaw08_ShortKeeps.nok rfl ((k1 _).mpr h)
def compasslaw08_ShortKeeps.b1_t (j1 : Int → Int → Nat → Nat → Nat → Hp → Prop) (s1 : Int) (kind2 : Int) (g3 : Nat) (a8 : Nat) (b10 : Nat) (c12 : Nat) (t80 : Int) (t81 : Int) (X1 : Fr → Hp → Prop) (E : Value → Hp → Prop) (H : Hp) (K : Bool → Hp → Prop) : Prop :=
  bcase (decide ((t81 : Int) < t80)) (
  ldS (H.get a8 0) fun x_1p x_1n x_1c =>
  ldS (H.get a8 1) fun x_2p x_2n x_2c =>
  ix x_1p x_1n t81 1 fun b_1 o_1 =>
  stC H b_1 o_1 [.int .i64 (-9)] fun H_1 =>
  (ldS (H_1.get a8 1) fun x_3p x_3n x_3c =>
  Value.slice x_3p x_3n x_3c = Value.slice x_2p x_2n x_2c) ∧
  ix x_2p x_2n t81 1 fun b_2 o_2 =>
  stC H_1 b_2 o_2 [.int .i64 (-9)] fun H_2 =>
  X1 (compasslaw08_ShortKeeps.f1 s1 kind2 g3 a8 b10 c12 t80 (IntKind.wrap .i64 (t81 + 1))) H_2)
  (j1 s1 kind2 g3 b10 c12 H)
theorem compasslaw08_ShortKeeps.b1_eq {s1 : Int} {kind2 : Int} {g3 : Nat} {a8 : Nat} {b10 : Nat} {c12 : Nat} {t80 : Int} {t81 : Int} {X1 : Fr → Hp → Prop} { E : Value → Hp → Prop} {H : Hp} {K : Bool → Hp → Prop} (h : compasslaw08_ShortKeeps.b1_t (fun s1 kind2 g3 b10 c12 H => compasslaw08_ShortKeeps.j1 s1 kind2 g3 b10 c12  E H K) s1 kind2 g3 a8 b10 c12 t80 t81 X1 E H K) : compasslaw08_ShortKeeps.b1 s1 kind2 g3 a8 b10 c12 t80 t81 X1 E H K := by
  have k1 : ∀ G : List Nat → Fr → Hp → Prop, nodeR P0 T0 compasslaw08_ShortKeeps.A [[0, 1, 0, 1, 1, 1, 1, 1, 1, 1, 1, 1, 1], [1, 1, 1, 1, 1, 1, 1, 1, 1, 1, 1], [1, 1, 1, 1, 1, 1, 1, 1, 1, 1, 1, 1, 1]] G compasslaw08_ShortKeeps.code [1, 1, 1, 1, 1, 1, 1, 1, 1, 1, 0, 1, 0, 0] [X1] (compasslaw08_ShortKeeps.rq E K) (compasslaw08_ShortKeeps.f1 s1 kind2 g3 a8 b10 c12 t80 t81) H = compasslaw08_ShortKeeps.b1_t (fun s1 kind2 g3 b10 c12 H => G [1, 1, 1, 1, 1, 1, 1, 1, 1, 1, 1] [(1, .int .i64 s1), (2, .int .i64 kind2), (3, .pointer (some ⟨g3, 0, none⟩)), (10, .pointer (some ⟨b10, 0, none⟩)), (12, .pointer (some ⟨c12, 0, none⟩))] H) s1 kind2 g3 a8 b10 c12 t80 t81 X1 E H K := fun G => by kernel_rfl
  have k2 : compasslaw08_ShortKeeps.b1_t (fun s1 kind2 g3 b10 c12 H => compasslaw08_ShortKeeps.j1 s1 kind2 g3 b10 c12  E H K) s1 kind2 g3 a8 b10 c12 t80 t81 X1 E H K = compasslaw08_ShortKeeps.b1_t (fun s1 kind2 g3 b10 c12 H => (fun q F H => nodeM P0 T0 compasslaw08_ShortKeeps.A compasslaw08_ShortKeeps.code q.reverse [X1] (compasslaw08_ShortKeeps.rq E K) F H) [1, 1, 1, 1, 1, 1, 1, 1, 1, 1, 1] [(1, .int .i64 s1), (2, .int .i64 kind2), (3, .pointer (some ⟨g3, 0, none⟩)), (10, .pointer (some ⟨b10, 0, none⟩)), (12, .pointer (some ⟨c12, 0, none⟩))] H) s1 kind2 g3 a8 b10 c12 t80 t81 X1 E H K := by kernel_rfl
  exact nodeR_imp compasslaw08_ShortKeeps.nok rfl ((k1 _).mpr (k2.mp h))
end Go.Mz
