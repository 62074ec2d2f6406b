/-
  The shallow texts of functions (ShW), each with a kernel-checked equation to the translated code. It proves nothing of the program by itself.
-/
import Derived.Test.YtajgpmohnbjpcaaTab
set_option linter.unusedVariables false
set_option maxRecDepth 100000
namespace Go.Mz
/-! ### compass/compasslaw08.ShortWays (9) -/
noncomputable def compasslaw08_ShortWays.A : An := { live := [(0, [0, 1, 2]), (1, [1, 2, 3]), (2, []), (3, [1, 2, 3]), (4, [1, 2, 3, 7, 8, 9]), (5, [1, 2, 3, 7, 8, 9, 10, 11]), (6, [1, 2, 3, 7, 8, 9, 10]), (7, [1, 2, 3, 7, 8, 9, 10, 11]), (8, [1, 2, 3, 7, 8, 9, 10]), (9, [1, 2, 3, 7, 8, 9, 10, 11]), (10, [7, 8, 9, 11]), (11, [1, 2, 3, 7, 8, 9, 10])], ord := [], stb := [], pre := [] }
noncomputable def compasslaw08_ShortWays.code : Code := bodyOf Go.Proofs.Try.f9
theorem compasslaw08_ShortWays.ok : okCode compasslaw08_ShortWays.A 87 compasslaw08_ShortWays.code = true := by kernel_rfl
def compasslaw08_ShortWays.rq (E : Value → Hp → Prop) (K : Bool → Hp → Prop) : Ex → Fr → Hp → Prop := retQ T0 [.tmp 6] [4] (fun r H => ldR (.one false [.bool]) r fun u => K (asB u) H) E
def compasslaw08_ShortWays.run (g0_Nodes : Int) (g0_Edgesp : Option Addr) (g0_Edgesn : Nat) (g0_Edgesc : Nat) (s1 : Int) (v2 : Int) (E : Value → Hp → Prop) (H : Hp) (K : Bool → Hp → Prop) : Prop := nodeM P0 T0 compasslaw08_ShortWays.A compasslaw08_ShortWays.code [] [] (compasslaw08_ShortWays.rq E K) (argF 0 [.agg ⟨[.int .i64 g0_Nodes, .slice g0_Edgesp g0_Edgesn g0_Edgesc]⟩, .int .i64 s1, .int .i64 v2]) H
theorem compasslaw08_ShortWays.of {g0_Nodes : Int} {g0_Edgesp : Option Addr} {g0_Edgesn : Nat} {g0_Edgesc : Nat} {s1 : Int} {v2 : Int} {E : Value → Hp → Prop} {H : Hp} {K : Bool → Hp → Prop} (h : compasslaw08_ShortWays.run g0_Nodes g0_Edgesp g0_Edgesn g0_Edgesc s1 v2 E H K) : compasslaw08_ShortWays.call g0_Nodes g0_Edgesp g0_Edgesn g0_Edgesc s1 v2 E H K :=
  callW_of T0_ok P0_mixed (A := compasslaw08_ShortWays.A) (fn := Go.Proofs.Try.f9) Go.Proofs.Try.func9 rfl compasslaw08_ShortWays.ok rfl h
def compasslaw08_ShortWays.j1 (s1 : Int) (v2 : Int) (g3 : Nat) (way7p : Option Addr) (way7n : Nat) (way7c : Nat) (cost8 : Int) (e9 : Int) (dist10p : Option Addr) (dist10n : Nat) (dist10c : Nat) (code11 : Int)  (E : Value → Hp → Prop) (H : Hp) (K : Bool → Hp → Prop) : Prop := nodeM P0 T0 compasslaw08_ShortWays.A compasslaw08_ShortWays.code [1, 1, 1, 1, 1] [] (compasslaw08_ShortWays.rq E K) [(1, .int .i64 s1), (2, .int .i64 v2), (3, .pointer (some ⟨g3, 0, none⟩)), (7, .slice way7p way7n way7c), (8, .int .i64 cost8), (9, .int .i64 e9), (10, .slice dist10p dist10n dist10c), (11, .int .i64 code11)] H
def compasslaw08_ShortWays.j2 (s1 : Int) (v2 : Int) (g3 : Nat) (way7p : Option Addr) (way7n : Nat) (way7c : Nat) (cost8 : Int) (e9 : Int) (dist10p : Option Addr) (dist10n : Nat) (dist10c : Nat) (code11 : Int)  (E : Value → Hp → Prop) (H : Hp) (K : Bool → Hp → Prop) : Prop := nodeM P0 T0 compasslaw08_ShortWays.A compasslaw08_ShortWays.code [1, 1, 1, 1, 1, 1] [] (compasslaw08_ShortWays.rq E K) [(1, .int .i64 s1), (2, .int .i64 v2), (3, .pointer (some ⟨g3, 0, none⟩)), (7, .slice way7p way7n way7c), (8, .int .i64 cost8), (9, .int .i64 e9), (10, .slice dist10p dist10n dist10c), (11, .int .i64 code11)] H
theorem compasslaw08_ShortWays.nok : nodesOk compasslaw08_ShortWays.code [[1, 1, 1, 1, 1], [1, 1, 1, 1, 1, 1]] = true := by kernel_rfl
def compasslaw08_ShortWays.run_t (j1 : Int → Int → Nat → (Option Addr) → Nat → Nat → Int → Int → (Option Addr) → Nat → Nat → Int → Hp → Prop) (g0_Nodes : Int) (g0_Edgesp : Option Addr) (g0_Edgesn : Nat) (g0_Edgesc : Nat) (s1 : Int) (v2 : Int)  (E : Value → Hp → Prop) (H : Hp) (K : Bool → Hp → Prop) : Prop :=
  nw H ⟨[.int .i64 g0_Nodes, .slice g0_Edgesp g0_Edgesn g0_Edgesc], 51⟩ fun b_1 H_1 =>
  compasslaw08_awake.call  E H_1 fun r_1 H_2 =>
  bcase ((!r_1)) (
  K false H_2)
  (ldI .i64 (H_2.get b_1 0) fun x_1 =>
  ldS (H_2.get b_1 1) fun x_2p x_2n x_2c =>
  short_Way.call x_1 x_2p x_2n x_2c s1 v2 E H_2 fun r_2p r_2n r_2c r_3 r_4 H_3 =>
  ldI .i64 (H_3.get b_1 0) fun x_3 =>
  ldS (H_3.get b_1 1) fun x_4p x_4n x_4c =>
  compassref08_Dist.call x_3 x_4p x_4n x_4c s1 E H_3 fun r_5p r_5n r_5c r_6 H_4 =>
  bcase (decide ((r_6 : Int) = 0)) (
  bcase (decide ((v2 : Int) < 0)) (
  j1 s1 v2 b_1 r_2p r_2n r_2c r_3 r_4 r_5p r_5n r_5c 30 H_4)
  (ldI .i64 (H_4.get b_1 0) fun x_5 =>
  bcase (decide ((x_5 : Int) ≤ v2)) (
  j1 s1 v2 b_1 r_2p r_2n r_2c r_3 r_4 r_5p r_5n r_5c 30 H_4)
  (j1 s1 v2 b_1 r_2p r_2n r_2c r_3 r_4 r_5p r_5n r_5c r_6 H_4)))
  (j1 s1 v2 b_1 r_2p r_2n r_2c r_3 r_4 r_5p r_5n r_5c r_6 H_4))
theorem compasslaw08_ShortWays.run_eq {g0_Nodes : Int} {g0_Edgesp : Option Addr} {g0_Edgesn : Nat} {g0_Edgesc : Nat} {s1 : Int} {v2 : Int} { E : Value → Hp → Prop} {H : Hp} {K : Bool → Hp → Prop} (h : compasslaw08_ShortWays.run_t (fun s1 v2 g3 way7p way7n way7c cost8 e9 dist10p dist10n dist10c code11 H => compasslaw08_ShortWays.j1 s1 v2 g3 way7p way7n way7c cost8 e9 dist10p dist10n dist10c code11  E H K) g0_Nodes g0_Edgesp g0_Edgesn g0_Edgesc s1 v2  E H K) : compasslaw08_ShortWays.run g0_Nodes g0_Edgesp g0_Edgesn g0_Edgesc s1 v2  E H K := by
  have k1 : ∀ G : List Nat → Fr → Hp → Prop, nodeR P0 T0 compasslaw08_ShortWays.A [[1, 1, 1, 1, 1], [1, 1, 1, 1, 1, 1]] G compasslaw08_ShortWays.code [] [] (compasslaw08_ShortWays.rq E K) (argF 0 [.agg ⟨[.int .i64 g0_Nodes, .slice g0_Edgesp g0_Edgesn g0_Edgesc]⟩, .int .i64 s1, .int .i64 v2]) H = compasslaw08_ShortWays.run_t (fun s1 v2 g3 way7p way7n way7c cost8 e9 dist10p dist10n dist10c code11 H => G [1, 1, 1, 1, 1] [(1, .int .i64 s1), (2, .int .i64 v2), (3, .pointer (some ⟨g3, 0, none⟩)), (7, .slice way7p way7n way7c), (8, .int .i64 cost8), (9, .int .i64 e9), (10, .slice dist10p dist10n dist10c), (11, .int .i64 code11)] H) g0_Nodes g0_Edgesp g0_Edgesn g0_Edgesc s1 v2  E H K := fun G => by kernel_rfl
  have k2 : compasslaw08_ShortWays.run_t (fun s1 v2 g3 way7p way7n way7c cost8 e9 dist10p dist10n dist10c code11 H => compasslaw08_ShortWays.j1 s1 v2 g3 way7p way7n way7c cost8 e9 dist10p dist10n dist10c code11  E H K) g0_Nodes g0_Edgesp g0_Edgesn g0_Edgesc s1 v2  E H K = compasslaw08_ShortWays.run_t (fun s1 v2 g3 way7p way7n way7c cost8 e9 dist10p dist10n dist10c code11 H => (fun q F H => nodeM P0 T0 compasslaw08_ShortWays.A compasslaw08_ShortWays.code q.reverse [] (compasslaw08_ShortWays.rq E K) F H) [1, 1, 1, 1, 1] [(1, .int .i64 s1), (2, .int .i64 v2), (3, .pointer (some ⟨g3, 0, none⟩)), (7, .slice way7p way7n way7c), (8, .int .i64 cost8), (9, .int .i64 e9), (10, .slice dist10p dist10n dist10c), (11, .int .i64 code11)] H) g0_Nodes g0_Edgesp g0_Edgesn g0_Edgesc s1 v2  E H K := by kernel_rfl
  exact nodeR_imp compasslaw08_ShortWays.nok rfl ((k1 _).mpr (k2.mp h))
def compasslaw08_ShortWays.j1_t (j2 : Int → Int → Nat → (Option Addr) → Nat → Nat → Int → Int → (Option Addr) → Nat → Nat → Int → Hp → Prop) (s1 : Int) (v2 : Int) (g3 : Nat) (way7p : Option Addr) (way7n : Nat) (way7c : Nat) (cost8 : Int) (e9 : Int) (dist10p : Option Addr) (dist10n : Nat) (dist10c : Nat) (code11 : Int)  (E : Value → Hp → Prop) (H : Hp) (K : Bool → Hp → Prop) : Prop :=
  bcase (decide ((code11 : Int) = 0)) (
  ix dist10p dist10n v2 1 fun b_1 o_1 =>
  ldI .i64 (H.get b_1 o_1) fun x_1 =>
  bcase (decide ((x_1 : Int) = 4611686018427387904)) (
  j2 s1 v2 g3 way7p way7n way7c cost8 e9 dist10p dist10n dist10c 5 H)
  (j2 s1 v2 g3 way7p way7n way7c cost8 e9 dist10p dist10n dist10c code11 H))
  (j2 s1 v2 g3 way7p way7n way7c cost8 e9 dist10p dist10n dist10c code11 H)
theorem compasslaw08_ShortWays.j1_eq {s1 : Int} {v2 : Int} {g3 : Nat} {way7p : Option Addr} {way7n : Nat} {way7c : Nat} {cost8 : Int} {e9 : Int} {dist10p : Option Addr} {dist10n : Nat} {dist10c : Nat} {code11 : Int} { E : Value → Hp → Prop} {H : Hp} {K : Bool → Hp → Prop} (h : compasslaw08_ShortWays.j1_t (fun s1 v2 g3 way7p way7n way7c cost8 e9 dist10p dist10n dist10c code11 H => compasslaw08_ShortWays.j2 s1 v2 g3 way7p way7n way7c cost8 e9 dist10p dist10n dist10c code11  E H K) s1 v2 g3 way7p way7n way7c cost8 e9 dist10p dist10n dist10c code11  E H K) : compasslaw08_ShortWays.j1 s1 v2 g3 way7p way7n way7c cost8 e9 dist10p dist10n dist10c code11  E H K := by
  have k1 : ∀ G : List Nat → Fr → Hp → Prop, nodeR P0 T0 compasslaw08_ShortWays.A [[1, 1, 1, 1, 1], [1, 1, 1, 1, 1, 1]] G compasslaw08_ShortWays.code [1, 1, 1, 1, 1] [] (compasslaw08_ShortWays.rq E K) [(1, .int .i64 s1), (2, .int .i64 v2), (3, .pointer (some ⟨g3, 0, none⟩)), (7, .slice way7p way7n way7c), (8, .int .i64 cost8), (9, .int .i64 e9), (10, .slice dist10p dist10n dist10c), (11, .int .i64 code11)] H = compasslaw08_ShortWays.j1_t (fun s1 v2 g3 way7p way7n way7c cost8 e9 dist10p dist10n dist10c code11 H => G [1, 1, 1, 1, 1, 1] [(1, .int .i64 s1), (2, .int .i64 v2), (3, .pointer (some ⟨g3, 0, none⟩)), (7, .slice way7p way7n way7c), (8, .int .i64 cost8), (9, .int .i64 e9), (10, .slice dist10p dist10n dist10c), (11, .int .i64 code11)] H) s1 v2 g3 way7p way7n way7c cost8 e9 dist10p dist10n dist10c code11  E H K := fun G => by kernel_rfl
  have k2 : compasslaw08_ShortWays.j1_t (fun s1 v2 g3 way7p way7n way7c cost8 e9 dist10p dist10n dist10c code11 H => compasslaw08_ShortWays.j2 s1 v2 g3 way7p way7n way7c cost8 e9 dist10p dist10n dist10c code11  E H K) s1 v2 g3 way7p way7n way7c cost8 e9 dist10p dist10n dist10c code11  E H K = compasslaw08_ShortWays.j1_t (fun s1 v2 g3 way7p way7n way7c cost8 e9 dist10p dist10n dist10c code11 H => (fun q F H => nodeM P0 T0 compasslaw08_ShortWays.A compasslaw08_ShortWays.code q.reverse [] (compasslaw08_ShortWays.rq E K) F H) [1, 1, 1, 1, 1, 1] [(1, .int .i64 s1), (2, .int .i64 v2), (3, .pointer (some ⟨g3, 0, none⟩)), (7, .slice way7p way7n way7c), (8, .int .i64 cost8), (9, .int .i64 e9), (10, .slice dist10p dist10n dist10c), (11, .int .i64 code11)] H) s1 v2 g3 way7p way7n way7c cost8 e9 dist10p dist10n dist10c code11  E H K := by kernel_rfl
  exact nodeR_imp compasslaw08_ShortWays.nok rfl ((k1 _).mpr (k2.mp h))
def compasslaw08_ShortWays.j2_t  (s1 : Int) (v2 : Int) (g3 : Nat) (way7p : Option Addr) (way7n : Nat) (way7c : Nat) (cost8 : Int) (e9 : Int) (dist10p : Option Addr) (dist10n : Nat) (dist10c : Nat) (code11 : Int)  (E : Value → Hp → Prop) (H : Hp) (K : Bool → Hp → Prop) : Prop :=
  bcase (!decide ((code11 : Int) = 0)) (
  bcase (decide ((e9 : Int) = code11)) (
  bcase (decide (((way7n : Int) : Int) = 0)) (
  K (decide ((cost8 : Int) = 0)) H)
  (K false H))
  (K false H))
  (bcase (decide ((e9 : Int) = 0)) (
  ix dist10p dist10n v2 1 fun b_1 o_1 =>
  ldI .i64 (H.get b_1 o_1) fun x_1 =>
  bcase (decide ((cost8 : Int) = x_1)) (
  ldI .i64 (H.get g3 0) fun x_2 =>
  ldS (H.get g3 1) fun x_3p x_3n x_3c =>
  compassref08_Way.call x_2 x_3p x_3n x_3c s1 v2 way7p way7n way7c E H fun r_1 H_1 =>
  bcase (r_1) (
  ldI .i64 (H_1.get g3 0) fun x_4 =>
  ldS (H_1.get g3 1) fun x_5p x_5n x_5c =>
  compassref08_Cost.call x_4 x_5p x_5n x_5c way7p way7n way7c E H_1 fun r_2 H_2 =>
  K (decide ((r_2 : Int) = cost8)) H_2)
  (K false H_1))
  (K false H))
  (K false H))
theorem compasslaw08_ShortWays.j2_eq {s1 : Int} {v2 : Int} {g3 : Nat} {way7p : Option Addr} {way7n : Nat} {way7c : Nat} {cost8 : Int} {e9 : Int} {dist10p : Option Addr} {dist10n : Nat} {dist10c : Nat} {code11 : Int} { E : Value → Hp → Prop} {H : Hp} {K : Bool → Hp → Prop} (h : compasslaw08_ShortWays.j2_t  s1 v2 g3 way7p way7n way7c cost8 e9 dist10p dist10n dist10c code11  E H K) : compasslaw08_ShortWays.j2 s1 v2 g3 way7p way7n way7c cost8 e9 dist10p dist10n dist10c code11  E H K := by
  have k1 : ∀ G : List Nat → Fr → Hp → Prop, nodeR P0 T0 compasslaw08_ShortWays.A [[1, 1, 1, 1, 1], [1, 1, 1, 1, 1, 1]] G compasslaw08_ShortWays.code [1, 1, 1, 1, 1, 1] [] (compasslaw08_ShortWays.rq E K) [(1, .int .i64 s1), (2, .int .i64 v2), (3, .pointer (some ⟨g3, 0, none⟩)), (7, .slice way7p way7n way7c), (8, .int .i64 cost8), (9, .int .i64 e9), (10, .slice dist10p dist10n dist10c), (11, .int .i64 code11)] H = compasslaw08_ShortWays.j2_t  s1 v2 g3 way7p way7n way7c cost8 e9 dist10p dist10n dist10c code11  E H K := fun G => by kernel_rfl
  exact nodeR_imp compasslaw08_ShortWays.nok rfl ((k1 _).mpr h)
end Go.Mz
