/-
  The shallow texts of functions (Sho), each with a kernel-checked equation to the translated code. It proves nothing of the program by itself.
-/
import Derived.Test.YtajgpmohnbjpcaaTab
set_option linter.unusedVariables false
set_option maxRecDepth 100000
namespace Go.Mz
/-! ### compass/short.Dijkstra (26) -/
noncomputable def short_Dijkstra.A : An := { live := [(0, [0, 1, 2]), (1, [1, 2, 3, 6]), (2, [1, 2, 3, 6, 8]), (3, [6, 8]), (4, [1, 2, 3, 6]), (5, [1, 3, 6, 9, 10]), (6, [6, 10]), (7, [1, 3, 6, 9]), (8, [1, 3, 6, 9, 11]), (9, [1, 3, 6, 9, 11, 45, 46, 47]), (10, [1, 3, 6, 9, 11, 45, 46, 47]), (11, [1, 3, 6, 9, 11, 12, 13, 45, 46, 47]), (12, [6]), (13, [1, 3, 6, 9, 11, 12, 13, 45, 46, 47]), (14, [1, 3, 6, 9, 11, 45, 46, 47]), (15, [1, 3, 6, 9, 11]), (16, [1, 3, 6, 9, 11, 14]), (17, [1, 3, 6, 9, 11, 14]), (18, [3, 6, 9, 11, 14]), (19, [3, 6, 9, 11, 14]), (20, [3, 6, 9, 11, 14, 15, 16]), (21, [3, 6, 9, 11, 14, 16, 91, 92, 93]), (22, [3, 6, 9, 11, 14, 16, 91, 92, 93]), (23, [3, 6, 9, 11, 14, 16, 19, 91, 92, 93]), (24, [3, 6, 9, 11, 14, 16, 19, 20, 91, 92, 93]), (25, [3, 6, 9, 11, 14, 16, 19, 20, 21, 22, 91, 92, 93]), (26, [3, 6, 9, 11, 14, 16, 19, 20, 21, 22, 91, 92, 93]), (27, [3, 6, 9, 11, 14, 16, 20, 21, 22, 91, 92, 93]), (28, [3, 6, 9, 11, 14, 16, 20, 22, 91, 92, 93]), (29, [3, 6, 9, 11, 14, 16, 20, 22, 91, 92, 93]), (30, [3, 6, 9, 11, 14, 16, 91, 92, 93]), (31, [6, 14])], ord := [(13, [0, 1, 2, 3, 4, 5, 6, 7, 8, 9, 10, 11, 12]), (24, [0, 1, 2, 3, 4, 5, 6, 7, 8, 9, 10, 11]), (26, [0, 1, 2, 3, 4, 5, 6, 7, 8, 9, 10, 11, 12, 13])], stb := [(13, [(10, [2])]), (26, [(11, [5, 7])])], pre := [(13, [[], [], [1], [], [], [4], [3, 4, 5], [3, 4, 5, 6], [], [8], [3, 4, 5, 6, 7, 8, 9], [0, 1, 2, 3, 4, 5, 6, 7, 8, 9, 10], [0, 1, 2, 3, 4, 5, 6, 7, 8, 9, 10, 11]]), (24, [[], [0], [], [2], [0, 1, 2, 3], [0, 1, 2, 3, 4], [], [], [7], [6, 7, 8], [0, 1, 2, 3, 4, 5], [0, 1, 2, 3, 4, 5, 6, 7, 8, 9, 10]]), (26, [[], [0], [], [2], [], [4], [], [6], [], [], [0, 1, 2, 3, 8], [0, 1, 2, 3, 8, 10], [0, 1, 2, 3, 4, 5, 6, 7, 8, 9, 10, 11], [0, 1, 2, 3, 4, 5, 6, 7, 8, 9, 10, 11, 12]])] }
noncomputable def short_Dijkstra.code : Code := bodyOf Go.Proofs.Try.f26
theorem short_Dijkstra.ok : okCode short_Dijkstra.A 141 short_Dijkstra.code = true := by kernel_rfl
def short_Dijkstra.rq (E : Value → Hp → Prop) (K : (Option Addr) → Nat → Nat → (Option Addr) → Nat → Nat → Int → Hp → Prop) : Ex → Fr → Hp → Prop := retQ T0 [.cell 6 54, .tmp 7] [54, 25] (fun r H => ldR (.tup [(true, [.sl, .sl]), (false, [.i .i64])]) r fun u => K (asS1 (cellV (tupV u 0) 0)) (asS2 (cellV (tupV u 0) 0)) (asS3 (cellV (tupV u 0) 0)) (asS1 (cellV (tupV u 0) 1)) (asS2 (cellV (tupV u 0) 1)) (asS3 (cellV (tupV u 0) 1)) (asI (tupV u 1)) H) E
def short_Dijkstra.run (g0_Nodes : Int) (g0_Edgesp : Option Addr) (g0_Edgesn : Nat) (g0_Edgesc : Nat) (s1 : Int) (kind2 : Int) (E : Value → Hp → Prop) (H : Hp) (K : (Option Addr) → Nat → Nat → (Option Addr) → Nat → Nat → Int → Hp → Prop) : Prop := nodeM P0 T0 short_Dijkstra.A short_Dijkstra.code [] [] (short_Dijkstra.rq E K) (argF 0 [.agg ⟨[.int .i64 g0_Nodes, .slice g0_Edgesp g0_Edgesn g0_Edgesc]⟩, .int .i64 s1, .int .i64 kind2]) H
theorem short_Dijkstra.of {g0_Nodes : Int} {g0_Edgesp : Option Addr} {g0_Edgesn : Nat} {g0_Edgesc : Nat} {s1 : Int} {kind2 : Int} {E : Value → Hp → Prop} {H : Hp} {K : (Option Addr) → Nat → Nat → (Option Addr) → Nat → Nat → Int → Hp → Prop} (h : short_Dijkstra.run g0_Nodes g0_Edgesp g0_Edgesn g0_Edgesc s1 kind2 E H K) : short_Dijkstra.call g0_Nodes g0_Edgesp g0_Edgesn g0_Edgesc s1 kind2 E H K :=
  callW_of T0_ok P0_mixed (A := short_Dijkstra.A) (fn := Go.Proofs.Try.f26) Go.Proofs.Try.func26 rfl short_Dijkstra.ok rfl h
noncomputable def short_Dijkstra.f1 (s1 : Int) (g3 : Nat) (t6 : Nat) (q9 : Option Addr) (out11p : Option Addr) (out11n : Nat) (out11c : Nat) (t45p : Option Addr) (t45n : Nat) (t45c : Nat) (t46 : Int) (t47 : Int) : Fr := [(1, .int .i64 s1), (3, .pointer (some ⟨g3, 0, none⟩)), (6, .pointer (some ⟨t6, 0, none⟩)), (9, .pointer q9), (11, .slice out11p out11n out11c), (45, .slice t45p t45n t45c), (46, .int .i64 t46), (47, .int .i64 t47)]
noncomputable def short_Dijkstra.f2 (g3 : Nat) (t6 : Nat) (q9 : Option Addr) (out11p : Option Addr) (out11n : Nat) (out11c : Nat) (t14 : Nat) : Fr := [(3, .pointer (some ⟨g3, 0, none⟩)), (6, .pointer (some ⟨t6, 0, none⟩)), (9, .pointer q9), (11, .slice out11p out11n out11c), (14, .pointer (some ⟨t14, 0, none⟩))]
noncomputable def short_Dijkstra.f3 (g3 : Nat) (t6 : Nat) (q9 : Option Addr) (out11p : Option Addr) (out11n : Nat) (out11c : Nat) (t14 : Nat) (d16 : Int) (t91p : Option Addr) (t91n : Nat) (t91c : Nat) (t92 : Int) (t93 : Int) : Fr := [(3, .pointer (some ⟨g3, 0, none⟩)), (6, .pointer (some ⟨t6, 0, none⟩)), (9, .pointer q9), (11, .slice out11p out11n out11c), (14, .pointer (some ⟨t14, 0, none⟩)), (16, .int .i64 d16), (91, .slice t91p t91n t91c), (92, .int .i64 t92), (93, .int .i64 t93)]
def short_Dijkstra.j1 (s1 : Int) (g3 : Nat) (t6 : Nat) (q9 : Option Addr) (out11p : Option Addr) (out11n : Nat) (out11c : Nat)  (E : Value → Hp → Prop) (H : Hp) (K : (Option Addr) → Nat → Nat → (Option Addr) → Nat → Nat → Int → Hp → Prop) : Prop := nodeM P0 T0 short_Dijkstra.A short_Dijkstra.code [1, 1, 1, 1, 1, 1] [] (short_Dijkstra.rq E K) [(1, .int .i64 s1), (3, .pointer (some ⟨g3, 0, none⟩)), (6, .pointer (some ⟨t6, 0, none⟩)), (9, .pointer q9), (11, .slice out11p out11n out11c)] H
def short_Dijkstra.j2 (g3 : Nat) (t6 : Nat) (q9 : Option Addr) (out11p : Option Addr) (out11n : Nat) (out11c : Nat) (t14 : Nat) (d16 : Int) (t91p : Option Addr) (t91n : Nat) (t91c : Nat) (t92 : Int) (t93 : Int) (X1 : Fr → Hp → Prop) (X2 : Fr → Hp → Prop) (E : Value → Hp → Prop) (H : Hp) (K : (Option Addr) → Nat → Nat → (Option Addr) → Nat → Nat → Int → Hp → Prop) : Prop := nodeM P0 T0 short_Dijkstra.A short_Dijkstra.code [1, 1, 1, 1, 1, 1, 1, 1, 1, 0, 0, 0, 1, 0, 1, 1, 0, 0, 1, 1, 1] [X1, X2] (short_Dijkstra.rq E K) [(3, .pointer (some ⟨g3, 0, none⟩)), (6, .pointer (some ⟨t6, 0, none⟩)), (9, .pointer q9), (11, .slice out11p out11n out11c), (14, .pointer (some ⟨t14, 0, none⟩)), (16, .int .i64 d16), (91, .slice t91p t91n t91c), (92, .int .i64 t92), (93, .int .i64 t93)] H
def short_Dijkstra.j3 (t6 : Nat) (t14 : Nat)  (E : Value → Hp → Prop) (H : Hp) (K : (Option Addr) → Nat → Nat → (Option Addr) → Nat → Nat → Int → Hp → Prop) : Prop := nodeM P0 T0 short_Dijkstra.A short_Dijkstra.code [1, 1, 1, 1, 1, 1, 1, 1, 1, 1] [] (short_Dijkstra.rq E K) [(6, .pointer (some ⟨t6, 0, none⟩)), (14, .pointer (some ⟨t14, 0, none⟩))] H
def short_Dijkstra.l1 (s1 : Int) (g3 : Nat) (t6 : Nat) (q9 : Option Addr) (out11p : Option Addr) (out11n : Nat) (out11c : Nat) (t45p : Option Addr) (t45n : Nat) (t45c : Nat) (t46 : Int) (t47 : Int)  (E : Value → Hp → Prop) (H : Hp) (K : (Option Addr) → Nat → Nat → (Option Addr) → Nat → Nat → Int → Hp → Prop) : Prop := nodeM P0 T0 short_Dijkstra.A short_Dijkstra.code [1, 1, 1, 1, 1, 0, 1, 0] [] (short_Dijkstra.rq E K) (short_Dijkstra.f1 s1 g3 t6 q9 out11p out11n out11c t45p t45n t45c t46 t47) H
def short_Dijkstra.b1 (s1 : Int) (g3 : Nat) (t6 : Nat) (q9 : Option Addr) (out11p : Option Addr) (out11n : Nat) (out11c : Nat) (t45p : Option Addr) (t45n : Nat) (t45c : Nat) (t46 : Int) (t47 : Int)  (X1 : Fr → Hp → Prop) (E : Value → Hp → Prop) (H : Hp) (K : (Option Addr) → Nat → Nat → (Option Addr) → Nat → Nat → Int → Hp → Prop) : Prop := nodeM P0 T0 short_Dijkstra.A short_Dijkstra.code [1, 1, 1, 1, 1, 0, 1, 0, 0] [X1] (short_Dijkstra.rq E K) (short_Dijkstra.f1 s1 g3 t6 q9 out11p out11n out11c t45p t45n t45c t46 t47) H
theorem short_Dijkstra.l1_rule { E : Value → Hp → Prop} {K : (Option Addr) → Nat → Nat → (Option Addr) → Nat → Nat → Int → Hp → Prop} (I : Int → Nat → Nat → (Option Addr) → (Option Addr) → Nat → Nat → (Option Addr) → Nat → Nat → Int → Int → Hp → Prop) (μ : Int → Nat → Nat → (Option Addr) → (Option Addr) → Nat → Nat → (Option Addr) → Nat → Nat → Int → Int → Hp → Nat)
    (h : ∀ s1 g3 t6 q9 out11p out11n out11c t45p t45n t45c t46 t47 H, I s1 g3 t6 q9 out11p out11n out11c t45p t45n t45c t46 t47 H → ∀ X : Fr → Hp → Prop, (∀ s1' g3' t6' q9' out11p' out11n' out11c' t45p' t45n' t45c' t46' t47' H', I s1' g3' t6' q9' out11p' out11n' out11c' t45p' t45n' t45c' t46' t47' H' → μ s1' g3' t6' q9' out11p' out11n' out11c' t45p' t45n' t45c' t46' t47' H' < μ s1 g3 t6 q9 out11p out11n out11c t45p t45n t45c t46 t47 H → X (short_Dijkstra.f1 s1' g3' t6' q9' out11p' out11n' out11c' t45p' t45n' t45c' t46' t47') H') → short_Dijkstra.b1 s1 g3 t6 q9 out11p out11n out11c t45p t45n t45c t46 t47  X E H K)
    {s1 : Int} {g3 : Nat} {t6 : Nat} {q9 : Option Addr} {out11p : Option Addr} {out11n : Nat} {out11c : Nat} {t45p : Option Addr} {t45n : Nat} {t45c : Nat} {t46 : Int} {t47 : Int} {H : Hp} (hI : I s1 g3 t6 q9 out11p out11n out11c t45p t45n t45c t46 t47 H) : short_Dijkstra.l1 s1 g3 t6 q9 out11p out11n out11c t45p t45n t45c t46 t47  E H K :=
  loop_rule (S := Int × Nat × Nat × (Option Addr) × (Option Addr) × Nat × Nat × (Option Addr) × Nat × Nat × Int × Int) (fun s => short_Dijkstra.f1 (s.1) (s.2.1) (s.2.2.1) (s.2.2.2.1) (s.2.2.2.2.1) (s.2.2.2.2.2.1) (s.2.2.2.2.2.2.1) (s.2.2.2.2.2.2.2.1) (s.2.2.2.2.2.2.2.2.1) (s.2.2.2.2.2.2.2.2.2.1) (s.2.2.2.2.2.2.2.2.2.2.1) (s.2.2.2.2.2.2.2.2.2.2.2)) (fun s H => I (s.1) (s.2.1) (s.2.2.1) (s.2.2.2.1) (s.2.2.2.2.1) (s.2.2.2.2.2.1) (s.2.2.2.2.2.2.1) (s.2.2.2.2.2.2.2.1) (s.2.2.2.2.2.2.2.2.1) (s.2.2.2.2.2.2.2.2.2.1) (s.2.2.2.2.2.2.2.2.2.2.1) (s.2.2.2.2.2.2.2.2.2.2.2) H) (fun s H => μ (s.1) (s.2.1) (s.2.2.1) (s.2.2.2.1) (s.2.2.2.2.1) (s.2.2.2.2.2.1) (s.2.2.2.2.2.2.1) (s.2.2.2.2.2.2.2.1) (s.2.2.2.2.2.2.2.2.1) (s.2.2.2.2.2.2.2.2.2.1) (s.2.2.2.2.2.2.2.2.2.2.1) (s.2.2.2.2.2.2.2.2.2.2.2) H) (fun s H hI X hX => h (s.1) (s.2.1) (s.2.2.1) (s.2.2.2.1) (s.2.2.2.2.1) (s.2.2.2.2.2.1) (s.2.2.2.2.2.2.1) (s.2.2.2.2.2.2.2.1) (s.2.2.2.2.2.2.2.2.1) (s.2.2.2.2.2.2.2.2.2.1) (s.2.2.2.2.2.2.2.2.2.2.1) (s.2.2.2.2.2.2.2.2.2.2.2) H hI X fun s1' g3' t6' q9' out11p' out11n' out11c' t45p' t45n' t45c' t46' t47' H' hI' hlt => hX (s1', g3', t6', q9', out11p', out11n', out11c', t45p', t45n', t45c', t46', t47') H' hI' hlt) (s := (s1, g3, t6, q9, out11p, out11n, out11c, t45p, t45n, t45c, t46, t47)) rfl hI
def short_Dijkstra.l2 (g3 : Nat) (t6 : Nat) (q9 : Option Addr) (out11p : Option Addr) (out11n : Nat) (out11c : Nat) (t14 : Nat)  (E : Value → Hp → Prop) (H : Hp) (K : (Option Addr) → Nat → Nat → (Option Addr) → Nat → Nat → Int → Hp → Prop) : Prop := nodeM P0 T0 short_Dijkstra.A short_Dijkstra.code [1, 1, 1, 1, 1, 1, 1, 1, 1, 0, 0] [] (short_Dijkstra.rq E K) (short_Dijkstra.f2 g3 t6 q9 out11p out11n out11c t14) H
def short_Dijkstra.b2 (g3 : Nat) (t6 : Nat) (q9 : Option Addr) (out11p : Option Addr) (out11n : Nat) (out11c : Nat) (t14 : Nat)  (X1 : Fr → Hp → Prop) (E : Value → Hp → Prop) (H : Hp) (K : (Option Addr) → Nat → Nat → (Option Addr) → Nat → Nat → Int → Hp → Prop) : Prop := nodeM P0 T0 short_Dijkstra.A short_Dijkstra.code [1, 1, 1, 1, 1, 1, 1, 1, 1, 0, 0, 0] [X1] (short_Dijkstra.rq E K) (short_Dijkstra.f2 g3 t6 q9 out11p out11n out11c t14) H
theorem short_Dijkstra.l2_rule { E : Value → Hp → Prop} {K : (Option Addr) → Nat → Nat → (Option Addr) → Nat → Nat → Int → Hp → Prop} (I : Nat → Nat → (Option Addr) → (Option Addr) → Nat → Nat → Nat → Hp → Prop) (μ : Nat → Nat → (Option Addr) → (Option Addr) → Nat → Nat → Nat → Hp → Nat)
    (h : ∀ g3 t6 q9 out11p out11n out11c t14 H, I g3 t6 q9 out11p out11n out11c t14 H → ∀ X : Fr → Hp → Prop, (∀ g3' t6' q9' out11p' out11n' out11c' t14' H', I g3' t6' q9' out11p' out11n' out11c' t14' H' → μ g3' t6' q9' out11p' out11n' out11c' t14' H' < μ g3 t6 q9 out11p out11n out11c t14 H → X (short_Dijkstra.f2 g3' t6' q9' out11p' out11n' out11c' t14') H') → short_Dijkstra.b2 g3 t6 q9 out11p out11n out11c t14  X E H K)
    {g3 : Nat} {t6 : Nat} {q9 : Option Addr} {out11p : Option Addr} {out11n : Nat} {out11c : Nat} {t14 : Nat} {H : Hp} (hI : I g3 t6 q9 out11p out11n out11c t14 H) : short_Dijkstra.l2 g3 t6 q9 out11p out11n out11c t14  E H K :=
  loop_rule (S := Nat × Nat × (Option Addr) × (Option Addr) × Nat × Nat × Nat) (fun s => short_Dijkstra.f2 (s.1) (s.2.1) (s.2.2.1) (s.2.2.2.1) (s.2.2.2.2.1) (s.2.2.2.2.2.1) (s.2.2.2.2.2.2)) (fun s H => I (s.1) (s.2.1) (s.2.2.1) (s.2.2.2.1) (s.2.2.2.2.1) (s.2.2.2.2.2.1) (s.2.2.2.2.2.2) H) (fun s H => μ (s.1) (s.2.1) (s.2.2.1) (s.2.2.2.1) (s.2.2.2.2.1) (s.2.2.2.2.2.1) (s.2.2.2.2.2.2) H) (fun s H hI X hX => h (s.1) (s.2.1) (s.2.2.1) (s.2.2.2.1) (s.2.2.2.2.1) (s.2.2.2.2.2.1) (s.2.2.2.2.2.2) H hI X fun g3' t6' q9' out11p' out11n' out11c' t14' H' hI' hlt => hX (g3', t6', q9', out11p', out11n', out11c', t14') H' hI' hlt) (s := (g3, t6, q9, out11p, out11n, out11c, t14)) rfl hI
def short_Dijkstra.l3 (g3 : Nat) (t6 : Nat) (q9 : Option Addr) (out11p : Option Addr) (out11n : Nat) (out11c : Nat) (t14 : Nat) (d16 : Int) (t91p : Option Addr) (t91n : Nat) (t91c : Nat) (t92 : Int) (t93 : Int) (X1 : Fr → Hp → Prop) (E : Value → Hp → Prop) (H : Hp) (K : (Option Addr) → Nat → Nat → (Option Addr) → Nat → Nat → Int → Hp → Prop) : Prop := nodeM P0 T0 short_Dijkstra.A short_Dijkstra.code [1, 1, 1, 1, 1, 1, 1, 1, 1, 0, 0, 0, 1, 0, 1, 1, 0] [X1] (short_Dijkstra.rq E K) (short_Dijkstra.f3 g3 t6 q9 out11p out11n out11c t14 d16 t91p t91n t91c t92 t93) H
def short_Dijkstra.b3 (g3 : Nat) (t6 : Nat) (q9 : Option Addr) (out11p : Option Addr) (out11n : Nat) (out11c : Nat) (t14 : Nat) (d16 : Int) (t91p : Option Addr) (t91n : Nat) (t91c : Nat) (t92 : Int) (t93 : Int) (X1 : Fr → Hp → Prop) (X2 : Fr → Hp → Prop) (E : Value → Hp → Prop) (H : Hp) (K : (Option Addr) → Nat → Nat → (Option Addr) → Nat → Nat → Int → Hp → Prop) : Prop := nodeM P0 T0 short_Dijkstra.A short_Dijkstra.code [1, 1, 1, 1, 1, 1, 1, 1, 1, 0, 0, 0, 1, 0, 1, 1, 0, 0] [X1, X2] (short_Dijkstra.rq E K) (short_Dijkstra.f3 g3 t6 q9 out11p out11n out11c t14 d16 t91p t91n t91c t92 t93) H
theorem short_Dijkstra.l3_rule {X1 : Fr → Hp → Prop} { E : Value → Hp → Prop} {K : (Option Addr) → Nat → Nat → (Option Addr) → Nat → Nat → Int → Hp → Prop} (I : Nat → Nat → (Option Addr) → (Option Addr) → Nat → Nat → Nat → Int → (Option Addr) → Nat → Nat → Int → Int → Hp → Prop) (μ : Nat → Nat → (Option Addr) → (Option Addr) → Nat → Nat → Nat → Int → (Option Addr) → Nat → Nat → Int → Int → Hp → Nat)
    (h : ∀ g3 t6 q9 out11p out11n out11c t14 d16 t91p t91n t91c t92 t93 H, I g3 t6 q9 out11p out11n out11c t14 d16 t91p t91n t91c t92 t93 H → ∀ X : Fr → Hp → Prop, (∀ g3' t6' q9' out11p' out11n' out11c' t14' d16' t91p' t91n' t91c' t92' t93' H', I g3' t6' q9' out11p' out11n' out11c' t14' d16' t91p' t91n' t91c' t92' t93' H' → μ g3' t6' q9' out11p' out11n' out11c' t14' d16' t91p' t91n' t91c' t92' t93' H' < μ g3 t6 q9 out11p out11n out11c t14 d16 t91p t91n t91c t92 t93 H → X (short_Dijkstra.f3 g3' t6' q9' out11p' out11n' out11c' t14' d16' t91p' t91n' t91c' t92' t93') H') → short_Dijkstra.b3 g3 t6 q9 out11p out11n out11c t14 d16 t91p t91n t91c t92 t93 X1 X E H K)
    {g3 : Nat} {t6 : Nat} {q9 : Option Addr} {out11p : Option Addr} {out11n : Nat} {out11c : Nat} {t14 : Nat} {d16 : Int} {t91p : Option Addr} {t91n : Nat} {t91c : Nat} {t92 : Int} {t93 : Int} {H : Hp} (hI : I g3 t6 q9 out11p out11n out11c t14 d16 t91p t91n t91c t92 t93 H) : short_Dijkstra.l3 g3 t6 q9 out11p out11n out11c t14 d16 t91p t91n t91c t92 t93 X1 E H K :=
  loop_rule (S := Nat × Nat × (Option Addr) × (Option Addr) × Nat × Nat × Nat × Int × (Option Addr) × Nat × Nat × Int × Int) (fun s => short_Dijkstra.f3 (s.1) (s.2.1) (s.2.2.1) (s.2.2.2.1) (s.2.2.2.2.1) (s.2.2.2.2.2.1) (s.2.2.2.2.2.2.1) (s.2.2.2.2.2.2.2.1) (s.2.2.2.2.2.2.2.2.1) (s.2.2.2.2.2.2.2.2.2.1) (s.2.2.2.2.2.2.2.2.2.2.1) (s.2.2.2.2.2.2.2.2.2.2.2.1) (s.2.2.2.2.2.2.2.2.2.2.2.2)) (fun s H => I (s.1) (s.2.1) (s.2.2.1) (s.2.2.2.1) (s.2.2.2.2.1) (s.2.2.2.2.2.1) (s.2.2.2.2.2.2.1) (s.2.2.2.2.2.2.2.1) (s.2.2.2.2.2.2.2.2.1) (s.2.2.2.2.2.2.2.2.2.1) (s.2.2.2.2.2.2.2.2.2.2.1) (s.2.2.2.2.2.2.2.2.2.2.2.1) (s.2.2.2.2.2.2.2.2.2.2.2.2) H) (fun s H => μ (s.1) (s.2.1) (s.2.2.1) (s.2.2.2.1) (s.2.2.2.2.1) (s.2.2.2.2.2.1) (s.2.2.2.2.2.2.1) (s.2.2.2.2.2.2.2.1) (s.2.2.2.2.2.2.2.2.1) (s.2.2.2.2.2.2.2.2.2.1) (s.2.2.2.2.2.2.2.2.2.2.1) (s.2.2.2.2.2.2.2.2.2.2.2.1) (s.2.2.2.2.2.2.2.2.2.2.2.2) H) (fun s H hI X hX => h (s.1) (s.2.1) (s.2.2.1) (s.2.2.2.1) (s.2.2.2.2.1) (s.2.2.2.2.2.1) (s.2.2.2.2.2.2.1) (s.2.2.2.2.2.2.2.1) (s.2.2.2.2.2.2.2.2.1) (s.2.2.2.2.2.2.2.2.2.1) (s.2.2.2.2.2.2.2.2.2.2.1) (s.2.2.2.2.2.2.2.2.2.2.2.1) (s.2.2.2.2.2.2.2.2.2.2.2.2) H hI X fun g3' t6' q9' out11p' out11n' out11c' t14' d16' t91p' t91n' t91c' t92' t93' H' hI' hlt => hX (g3', t6', q9', out11p', out11n', out11c', t14', d16', t91p', t91n', t91c', t92', t93') H' hI' hlt) (s := (g3, t6, q9, out11p, out11n, out11c, t14, d16, t91p, t91n, t91c, t92, t93)) rfl hI
theorem short_Dijkstra.nok : nodesOk short_Dijkstra.code [[0, 1, 0, 1, 1, 1, 1, 1], [1, 1, 1, 1, 1, 1], [0, 0, 1, 1, 1, 1, 1, 1, 1, 1, 1], [0, 1, 1, 0, 1, 0, 0, 0, 1, 1, 1, 1, 1, 1, 1, 1, 1], [1, 1, 1, 0, 0, 1, 1, 0, 1, 0, 0, 0, 1, 1, 1, 1, 1, 1, 1, 1, 1], [1, 1, 1, 1, 1, 1, 1, 1, 1, 1]] = true := by kernel_rfl
def short_Dijkstra.run_t (l1 : Int → Nat → Nat → (Option Addr) → (Option Addr) → Nat → Nat → (Option Addr) → Nat → Nat → Int → Int → Hp → Prop) (g0_Nodes : Int) (g0_Edgesp : Option Addr) (g0_Edgesn : Nat) (g0_Edgesc : Nat) (s1 : Int) (kind2 : Int)  (E : Value → Hp → Prop) (H : Hp) (K : (Option Addr) → Nat → Nat → (Option Addr) → Nat → Nat → Int → Hp → Prop) : Prop :=
  nw H ⟨[.int .i64 g0_Nodes, .slice g0_Edgesp g0_Edgesn g0_Edgesc], 51⟩ fun b_1 H_1 =>
  nw H_1 ⟨[.slice none 0 0, .slice none 0 0], 54⟩ fun b_2 H_2 =>
  ldI .i64 (H_2.get b_1 0) fun x_1 =>
  ldS (H_2.get b_1 1) fun x_2p x_2n x_2c =>
  short_wrong.call x_1 x_2p x_2n x_2c s1 E H_2 fun r_1 H_3 =>
  bcase (!decide ((r_1 : Int) = 0)) (
  stC H_3 b_2 0 [.slice none 0 0, .slice none 0 0] fun H_4 =>
  ldS (H_4.get b_2 0) fun x_3p x_3n x_3c =>
  ldS (H_4.get b_2 1) fun x_4p x_4n x_4c =>
  K x_3p x_3n x_3c x_4p x_4n x_4c r_1 H_4)
  (ldI .i64 (H_3.get b_1 0) fun x_5 =>
  heaps_New.call kind2 x_5 E H_3 fun r_2 r_3 H_5 =>
  bcase (!decide ((r_3 : Int) = 0)) (
  stC H_5 b_2 0 [.slice none 0 0, .slice none 0 0] fun H_6 =>
  ldS (H_6.get b_2 0) fun x_6p x_6n x_6c =>
  ldS (H_6.get b_2 1) fun x_7p x_7n x_7c =>
  K x_6p x_6n x_6c x_7p x_7n x_7c r_3 H_6)
  (ldI .i64 (H_5.get b_1 0) fun x_8 =>
  mkS x_8 x_8 52 [.sl] 24 H_5 fun b_3 H_7 =>
  ldS (H_7.get b_1 1) fun x_9p x_9n x_9c =>
  l1 s1 b_1 b_2 r_2 (some ⟨b_3, 0, none⟩) x_8.toNat x_8.toNat x_9p x_9n x_9c (x_9n : Int) 0 H_7))
theorem short_Dijkstra.run_eq {g0_Nodes : Int} {g0_Edgesp : Option Addr} {g0_Edgesn : Nat} {g0_Edgesc : Nat} {s1 : Int} {kind2 : Int} { E : Value → Hp → Prop} {H : Hp} {K : (Option Addr) → Nat → Nat → (Option Addr) → Nat → Nat → Int → Hp → Prop} (h : short_Dijkstra.run_t (fun s1 g3 t6 q9 out11p out11n out11c t45p t45n t45c t46 t47 H => short_Dijkstra.l1 s1 g3 t6 q9 out11p out11n out11c t45p t45n t45c t46 t47  E H K) g0_Nodes g0_Edgesp g0_Edgesn g0_Edgesc s1 kind2  E H K) : short_Dijkstra.run g0_Nodes g0_Edgesp g0_Edgesn g0_Edgesc s1 kind2  E H K := by
  have k1 : ∀ G : List Nat → Fr → Hp → Prop, nodeR P0 T0 short_Dijkstra.A [[0, 1, 0, 1, 1, 1, 1, 1], [1, 1, 1, 1, 1, 1], [0, 0, 1, 1, 1, 1, 1, 1, 1, 1, 1], [0, 1, 1, 0, 1, 0, 0, 0, 1, 1, 1, 1, 1, 1, 1, 1, 1], [1, 1, 1, 0, 0, 1, 1, 0, 1, 0, 0, 0, 1, 1, 1, 1, 1, 1, 1, 1, 1], [1, 1, 1, 1, 1, 1, 1, 1, 1, 1]] G short_Dijkstra.code [] [] (short_Dijkstra.rq E K) (argF 0 [.agg ⟨[.int .i64 g0_Nodes, .slice g0_Edgesp g0_Edgesn g0_Edgesc]⟩, .int .i64 s1, .int .i64 kind2]) H = short_Dijkstra.run_t (fun s1 g3 t6 q9 out11p out11n out11c t45p t45n t45c t46 t47 H => G [0, 1, 0, 1, 1, 1, 1, 1] [(1, .int .i64 s1), (3, .pointer (some ⟨g3, 0, none⟩)), (6, .pointer (some ⟨t6, 0, none⟩)), (9, .pointer q9), (11, .slice out11p out11n out11c), (45, .slice t45p t45n t45c), (46, .int .i64 t46), (47, .int .i64 t47)] H) g0_Nodes g0_Edgesp g0_Edgesn g0_Edgesc s1 kind2  E H K := fun G => by kernel_rfl
  have k2 : short_Dijkstra.run_t (fun s1 g3 t6 q9 out11p out11n out11c t45p t45n t45c t46 t47 H => short_Dijkstra.l1 s1 g3 t6 q9 out11p out11n out11c t45p t45n t45c t46 t47  E H K) g0_Nodes g0_Edgesp g0_Edgesn g0_Edgesc s1 kind2  E H K = short_Dijkstra.run_t (fun s1 g3 t6 q9 out11p out11n out11c t45p t45n t45c t46 t47 H => (fun q F H => nodeM P0 T0 short_Dijkstra.A short_Dijkstra.code q.reverse [] (short_Dijkstra.rq E K) F H) [0, 1, 0, 1, 1, 1, 1, 1] [(1, .int .i64 s1), (3, .pointer (some ⟨g3, 0, none⟩)), (6, .pointer (some ⟨t6, 0, none⟩)), (9, .pointer q9), (11, .slice out11p out11n out11c), (45, .slice t45p t45n t45c), (46, .int .i64 t46), (47, .int .i64 t47)] H) g0_Nodes g0_Edgesp g0_Edgesn g0_Edgesc s1 kind2  E H K := by kernel_rfl
  exact nodeR_imp short_Dijkstra.nok rfl ((k1 _).mpr (k2.mp h))
def short_Dijkstra.j1_t (l2 : Nat → Nat → (Option Addr) → (Option Addr) → Nat → Nat → Nat → Hp → Prop) (s1 : Int) (g3 : Nat) (t6 : Nat) (q9 : Option Addr) (out11p : Option Addr) (out11n : Nat) (out11c : Nat)  (E : Value → Hp → Prop) (H : Hp) (K : (Option Addr) → Nat → Nat → (Option Addr) → Nat → Nat → Int → Hp → Prop) : Prop :=
  ldI .i64 (H.get g3 0) fun x_1 =>
  short_empty.call x_1 E H fun r_1_Distp r_1_Distn r_1_Distc r_1_Viap r_1_Vian r_1_Viac H_1 =>
  nw H_1 ⟨[.slice none 0 0, .slice none 0 0], 54⟩ fun b_1 H_2 =>
  stC H_2 b_1 0 [.slice r_1_Distp r_1_Distn r_1_Distc, .slice r_1_Viap r_1_Vian r_1_Viac] fun H_3 =>
  ldS (H_3.get b_1 0) fun x_2p x_2n x_2c =>
  ix x_2p x_2n s1 1 fun b_2 o_1 =>
  stC H_3 b_2 o_1 [.int .i64 0] fun H_4 =>
  heaps_Queue_Push.call q9 s1 0 E H_4 fun r_2 H_5 =>
  l2 g3 t6 q9 out11p out11n out11c b_1 H_5
theorem short_Dijkstra.j1_eq {s1 : Int} {g3 : Nat} {t6 : Nat} {q9 : Option Addr} {out11p : Option Addr} {out11n : Nat} {out11c : Nat} { E : Value → Hp → Prop} {H : Hp} {K : (Option Addr) → Nat → Nat → (Option Addr) → Nat → Nat → Int → Hp → Prop} (h : short_Dijkstra.j1_t (fun g3 t6 q9 out11p out11n out11c t14 H => short_Dijkstra.l2 g3 t6 q9 out11p out11n out11c t14  E H K) s1 g3 t6 q9 out11p out11n out11c  E H K) : short_Dijkstra.j1 s1 g3 t6 q9 out11p out11n out11c  E H K := by
  have k1 : ∀ G : List Nat → Fr → Hp → Prop, nodeR P0 T0 short_Dijkstra.A [[0, 1, 0, 1, 1, 1, 1, 1], [1, 1, 1, 1, 1, 1], [0, 0, 1, 1, 1, 1, 1, 1, 1, 1, 1], [0, 1, 1, 0, 1, 0, 0, 0, 1, 1, 1, 1, 1, 1, 1, 1, 1], [1, 1, 1, 0, 0, 1, 1, 0, 1, 0, 0, 0, 1, 1, 1, 1, 1, 1, 1, 1, 1], [1, 1, 1, 1, 1, 1, 1, 1, 1, 1]] G short_Dijkstra.code [1, 1, 1, 1, 1, 1] [] (short_Dijkstra.rq E K) [(1, .int .i64 s1), (3, .pointer (some ⟨g3, 0, none⟩)), (6, .pointer (some ⟨t6, 0, none⟩)), (9, .pointer q9), (11, .slice out11p out11n out11c)] H = short_Dijkstra.j1_t (fun g3 t6 q9 out11p out11n out11c t14 H => G [0, 0, 1, 1, 1, 1, 1, 1, 1, 1, 1] [(3, .pointer (some ⟨g3, 0, none⟩)), (6, .pointer (some ⟨t6, 0, none⟩)), (9, .pointer q9), (11, .slice out11p out11n out11c), (14, .pointer (some ⟨t14, 0, none⟩))] H) s1 g3 t6 q9 out11p out11n out11c  E H K := fun G => by kernel_rfl
  have k2 : short_Dijkstra.j1_t (fun g3 t6 q9 out11p out11n out11c t14 H => short_Dijkstra.l2 g3 t6 q9 out11p out11n out11c t14  E H K) s1 g3 t6 q9 out11p out11n out11c  E H K = short_Dijkstra.j1_t (fun g3 t6 q9 out11p out11n out11c t14 H => (fun q F H => nodeM P0 T0 short_Dijkstra.A short_Dijkstra.code q.reverse [] (short_Dijkstra.rq E K) F H) [0, 0, 1, 1, 1, 1, 1, 1, 1, 1, 1] [(3, .pointer (some ⟨g3, 0, none⟩)), (6, .pointer (some ⟨t6, 0, none⟩)), (9, .pointer q9), (11, .slice out11p out11n out11c), (14, .pointer (some ⟨t14, 0, none⟩))] H) s1 g3 t6 q9 out11p out11n out11c  E H K := by kernel_rfl
  exact nodeR_imp short_Dijkstra.nok rfl ((k1 _).mpr (k2.mp h))
def short_Dijkstra.j2_t  (g3 : Nat) (t6 : Nat) (q9 : Option Addr) (out11p : Option Addr) (out11n : Nat) (out11c : Nat) (t14 : Nat) (d16 : Int) (t91p : Option Addr) (t91n : Nat) (t91c : Nat) (t92 : Int) (t93 : Int) (X1 : Fr → Hp → Prop) (X2 : Fr → Hp → Prop) (E : Value → Hp → Prop) (H : Hp) (K : (Option Addr) → Nat → Nat → (Option Addr) → Nat → Nat → Int → Hp → Prop) : Prop :=
  X2 (short_Dijkstra.f3 g3 t6 q9 out11p out11n out11c t14 d16 t91p t91n t91c t92 (IntKind.wrap .i64 (t93 + 1))) H
theorem short_Dijkstra.j2_eq {g3 : Nat} {t6 : Nat} {q9 : Option Addr} {out11p : Option Addr} {out11n : Nat} {out11c : Nat} {t14 : Nat} {d16 : Int} {t91p : Option Addr} {t91n : Nat} {t91c : Nat} {t92 : Int} {t93 : Int} {X1 X2 : Fr → Hp → Prop} { E : Value → Hp → Prop} {H : Hp} {K : (Option Addr) → Nat → Nat → (Option Addr) → Nat → Nat → Int → Hp → Prop} (h : short_Dijkstra.j2_t  g3 t6 q9 out11p out11n out11c t14 d16 t91p t91n t91c t92 t93 X1 X2 E H K) : short_Dijkstra.j2 g3 t6 q9 out11p out11n out11c t14 d16 t91p t91n t91c t92 t93 X1 X2 E H K := by
  have k1 : ∀ G : List Nat → Fr → Hp → Prop, nodeR P0 T0 short_Dijkstra.A [[0, 1, 0, 1, 1, 1, 1, 1], [1, 1, 1, 1, 1, 1], [0, 0, 1, 1, 1, 1, 1, 1, 1, 1, 1], [0, 1, 1, 0, 1, 0, 0, 0, 1, 1, 1, 1, 1, 1, 1, 1, 1], [1, 1, 1, 0, 0, 1, 1, 0, 1, 0, 0, 0, 1, 1, 1, 1, 1, 1, 1, 1, 1], [1, 1, 1, 1, 1, 1, 1, 1, 1, 1]] G short_Dijkstra.code [1, 1, 1, 1, 1, 1, 1, 1, 1, 0, 0, 0, 1, 0, 1, 1, 0, 0, 1, 1, 1] [X1, X2] (short_Dijkstra.rq E K) [(3, .pointer (some ⟨g3, 0, none⟩)), (6, .pointer (some ⟨t6, 0, none⟩)), (9, .pointer q9), (11, .slice out11p out11n out11c), (14, .pointer (some ⟨t14, 0, none⟩)), (16, .int .i64 d16), (91, .slice t91p t91n t91c), (92, .int .i64 t92), (93, .int .i64 t93)] H = short_Dijkstra.j2_t  g3 t6 q9 out11p out11n out11c t14 d16 t91p t91n t91c t92 t93 X1 X2 E H K := fun G => by kernel_rfl
  exact nodeR_imp short_Dijkstra.nok rfl ((k1 _).mpr h)
def short_Dijkstra.j3_t  (t6 : Nat) (t14 : Nat)  (E : Value → Hp → Prop) (H : Hp) (K : (Option Addr) → Nat → Nat → (Option Addr) → Nat → Nat → Int → Hp → Prop) : Prop :=
  ldS (H.get t14 0) fun x_1p x_1n x_1c =>
  ldS (H.get t14 1) fun x_2p x_2n x_2c =>
  stC H t6 0 [.slice x_1p x_1n x_1c, .slice x_2p x_2n x_2c] fun H_1 =>
  ldS (H_1.get t6 0) fun x_3p x_3n x_3c =>
  ldS (H_1.get t6 1) fun x_4p x_4n x_4c =>
  K x_3p x_3n x_3c x_4p x_4n x_4c 0 H_1
theorem short_Dijkstra.j3_eq {t6 : Nat} {t14 : Nat} { E : Value → Hp → Prop} {H : Hp} {K : (Option Addr) → Nat → Nat → (Option Addr) → Nat → Nat → Int → Hp → Prop} (h : short_Dijkstra.j3_t  t6 t14  E H K) : short_Dijkstra.j3 t6 t14  E H K := by
  have k1 : ∀ G : List Nat → Fr → Hp → Prop, nodeR P0 T0 short_Dijkstra.A [[0, 1, 0, 1, 1, 1, 1, 1], [1, 1, 1, 1, 1, 1], [0, 0, 1, 1, 1, 1, 1, 1, 1, 1, 1], [0, 1, 1, 0, 1, 0, 0, 0, 1, 1, 1, 1, 1, 1, 1, 1, 1], [1, 1, 1, 0, 0, 1, 1, 0, 1, 0, 0, 0, 1, 1, 1, 1, 1, 1, 1, 1, 1], [1, 1, 1, 1, 1, 1, 1, 1, 1, 1]] G short_Dijkstra.code [1, 1, 1, 1, 1, 1, 1, 1, 1, 1] [] (short_Dijkstra.rq E K) [(6, .pointer (some ⟨t6, 0, none⟩)), (14, .pointer (some ⟨t14, 0, none⟩))] H = short_Dijkstra.j3_t  t6 t14  E H K := fun G => by kernel_rfl
  exact nodeR_imp short_Dijkstra.nok rfl ((k1 _).mpr h)
def short_Dijkstra.b1_t (j1 : Int → Nat → Nat → (Option Addr) → (Option Addr) → Nat → Nat → Hp → Prop) (s1 : Int) (g3 : Nat) (t6 : Nat) (q9 : Option Addr) (out11p : Option Addr) (out11n : Nat) (out11c : Nat) (t45p : Option Addr) (t45n : Nat) (t45c : Nat) (t46 : Int) (t47 : Int) (X1 : Fr → Hp → Prop) (E : Value → Hp → Prop) (H : Hp) (K : (Option Addr) → Nat → Nat → (Option Addr) → Nat → Nat → Int → Hp → Prop) : Prop :=
  bcase (decide ((t47 : Int) < t46)) (
  ix t45p t45n t47 4 fun b_1 o_1 =>
  ldI .i64 (H.get b_1 o_1) fun x_1 =>
  ldI .i64 (H.get b_1 (o_1 + 1)) fun x_2 =>
  ldI .i64 (H.get b_1 (o_1 + 2)) fun x_3 =>
  ldI .i64 (H.get b_1 (o_1 + 3)) fun x_4 =>
  nw H ⟨[.int .i64 0, .int .i64 0, .int .i64 0, .int .i64 0], 69⟩ fun b_2 H_1 =>
  stC H_1 b_2 0 [.int .i64 x_1, .int .i64 x_2, .int .i64 x_3, .int .i64 x_4] fun H_2 =>
  ldI .i64 (H_2.get b_2 3) fun x_5 =>
  bcase (decide ((x_5 : Int) < 0)) (
  stC H_2 t6 0 [.slice none 0 0, .slice none 0 0] fun H_3 =>
  ldS (H_3.get t6 0) fun x_6p x_6n x_6c =>
  ldS (H_3.get t6 1) fun x_7p x_7n x_7c =>
  K x_6p x_6n x_6c x_7p x_7n x_7c 80 H_3)
  (ldI .i64 (H_2.get b_2 0) fun x_8 =>
  ldI .i64 (H_2.get b_2 0) fun x_9 =>
  ix out11p out11n x_9 1 fun b_3 o_2 =>
  ldS (H_2.get b_3 o_2) fun x_10p x_10n x_10c =>
  nw H_2 ⟨[.int .i64 t47], 3⟩ fun b_4 H_4 =>
  appM 3 [.i .i64] 8 x_10p x_10n x_10c (some ⟨b_4, 0, none⟩) 1 H_4 fun a_1p a_1n a_1c H_5 =>
  (ldI .i64 (H_5.get b_2 0) fun x_11 =>
  Value.int .i64 x_11 = Value.int .i64 x_8) ∧
  ix out11p out11n x_8 1 fun b_5 o_3 =>
  stC H_5 b_5 o_3 [.slice a_1p a_1n a_1c] fun H_6 =>
  X1 (short_Dijkstra.f1 s1 g3 t6 q9 out11p out11n out11c t45p t45n t45c t46 (IntKind.wrap .i64 (t47 + 1))) H_6))
  (j1 s1 g3 t6 q9 out11p out11n out11c H)
theorem short_Dijkstra.b1_eq {s1 : Int} {g3 : Nat} {t6 : Nat} {q9 : Option Addr} {out11p : Option Addr} {out11n : Nat} {out11c : Nat} {t45p : Option Addr} {t45n : Nat} {t45c : Nat} {t46 : Int} {t47 : Int} {X1 : Fr → Hp → Prop} { E : Value → Hp → Prop} {H : Hp} {K : (Option Addr) → Nat → Nat → (Option Addr) → Nat → Nat → Int → Hp → Prop} (h : short_Dijkstra.b1_t (fun s1 g3 t6 q9 out11p out11n out11c H => short_Dijkstra.j1 s1 g3 t6 q9 out11p out11n out11c  E H K) s1 g3 t6 q9 out11p out11n out11c t45p t45n t45c t46 t47 X1 E H K) : short_Dijkstra.b1 s1 g3 t6 q9 out11p out11n out11c t45p t45n t45c t46 t47 X1 E H K := by
  have k1 : ∀ G : List Nat → Fr → Hp → Prop, nodeR P0 T0 short_Dijkstra.A [[0, 1, 0, 1, 1, 1, 1, 1], [1, 1, 1, 1, 1, 1], [0, 0, 1, 1, 1, 1, 1, 1, 1, 1, 1], [0, 1, 1, 0, 1, 0, 0, 0, 1, 1, 1, 1, 1, 1, 1, 1, 1], [1, 1, 1, 0, 0, 1, 1, 0, 1, 0, 0, 0, 1, 1, 1, 1, 1, 1, 1, 1, 1], [1, 1, 1, 1, 1, 1, 1, 1, 1, 1]] G short_Dijkstra.code [1, 1, 1, 1, 1, 0, 1, 0, 0] [X1] (short_Dijkstra.rq E K) (short_Dijkstra.f1 s1 g3 t6 q9 out11p out11n out11c t45p t45n t45c t46 t47) H = short_Dijkstra.b1_t (fun s1 g3 t6 q9 out11p out11n out11c H => G [1, 1, 1, 1, 1, 1] [(1, .int .i64 s1), (3, .pointer (some ⟨g3, 0, none⟩)), (6, .pointer (some ⟨t6, 0, none⟩)), (9, .pointer q9), (11, .slice out11p out11n out11c)] H) s1 g3 t6 q9 out11p out11n out11c t45p t45n t45c t46 t47 X1 E H K := fun G => by kernel_rfl
  have k2 : short_Dijkstra.b1_t (fun s1 g3 t6 q9 out11p out11n out11c H => short_Dijkstra.j1 s1 g3 t6 q9 out11p out11n out11c  E H K) s1 g3 t6 q9 out11p out11n out11c t45p t45n t45c t46 t47 X1 E H K = short_Dijkstra.b1_t (fun s1 g3 t6 q9 out11p out11n out11c H => (fun q F H => nodeM P0 T0 short_Dijkstra.A short_Dijkstra.code q.reverse [X1] (short_Dijkstra.rq E K) F H) [1, 1, 1, 1, 1, 1] [(1, .int .i64 s1), (3, .pointer (some ⟨g3, 0, none⟩)), (6, .pointer (some ⟨t6, 0, none⟩)), (9, .pointer q9), (11, .slice out11p out11n out11c)] H) s1 g3 t6 q9 out11p out11n out11c t45p t45n t45c t46 t47 X1 E H K := by kernel_rfl
  exact nodeR_imp short_Dijkstra.nok rfl ((k1 _).mpr (k2.mp h))
def short_Dijkstra.b2_t (l3 : Nat → Nat → (Option Addr) → (Option Addr) → Nat → Nat → Nat → Int → (Option Addr) → Nat → Nat → Int → Int → Hp → Prop) (j3 : Nat → Nat → Hp → Prop) (g3 : Nat) (t6 : Nat) (q9 : Option Addr) (out11p : Option Addr) (out11n : Nat) (out11c : Nat) (t14 : Nat) (X1 : Fr → Hp → Prop) (E : Value → Hp → Prop) (H : Hp) (K : (Option Addr) → Nat → Nat → (Option Addr) → Nat → Nat → Int → Hp → Prop) : Prop :=
  heaps_Queue_Len.call q9 E H fun r_1 H_1 =>
  bcase (decide ((0 : Int) < r_1)) (
  heaps_Queue_Pop.call q9 E H_1 fun r_2 r_3 r_4 H_2 =>
  ix out11p out11n r_2 1 fun b_1 o_1 =>
  ldS (H_2.get b_1 o_1) fun x_1p x_1n x_1c =>
  l3 g3 t6 q9 out11p out11n out11c t14 r_3 x_1p x_1n x_1c (x_1n : Int) 0 H_2)
  (j3 t6 t14 H_1)
theorem short_Dijkstra.b2_eq {g3 : Nat} {t6 : Nat} {q9 : Option Addr} {out11p : Option Addr} {out11n : Nat} {out11c : Nat} {t14 : Nat} {X1 : Fr → Hp → Prop} { E : Value → Hp → Prop} {H : Hp} {K : (Option Addr) → Nat → Nat → (Option Addr) → Nat → Nat → Int → Hp → Prop} (h : short_Dijkstra.b2_t (fun g3 t6 q9 out11p out11n out11c t14 d16 t91p t91n t91c t92 t93 H => short_Dijkstra.l3 g3 t6 q9 out11p out11n out11c t14 d16 t91p t91n t91c t92 t93 X1 E H K) (fun t6 t14 H => short_Dijkstra.j3 t6 t14  E H K) g3 t6 q9 out11p out11n out11c t14 X1 E H K) : short_Dijkstra.b2 g3 t6 q9 out11p out11n out11c t14 X1 E H K := by
  have k1 : ∀ G : List Nat → Fr → Hp → Prop, nodeR P0 T0 short_Dijkstra.A [[0, 1, 0, 1, 1, 1, 1, 1], [1, 1, 1, 1, 1, 1], [0, 0, 1, 1, 1, 1, 1, 1, 1, 1, 1], [0, 1, 1, 0, 1, 0, 0, 0, 1, 1, 1, 1, 1, 1, 1, 1, 1], [1, 1, 1, 0, 0, 1, 1, 0, 1, 0, 0, 0, 1, 1, 1, 1, 1, 1, 1, 1, 1], [1, 1, 1, 1, 1, 1, 1, 1, 1, 1]] G short_Dijkstra.code [1, 1, 1, 1, 1, 1, 1, 1, 1, 0, 0, 0] [X1] (short_Dijkstra.rq E K) (short_Dijkstra.f2 g3 t6 q9 out11p out11n out11c t14) H = short_Dijkstra.b2_t (fun g3 t6 q9 out11p out11n out11c t14 d16 t91p t91n t91c t92 t93 H => G [0, 1, 1, 0, 1, 0, 0, 0, 1, 1, 1, 1, 1, 1, 1, 1, 1] [(3, .pointer (some ⟨g3, 0, none⟩)), (6, .pointer (some ⟨t6, 0, none⟩)), (9, .pointer q9), (11, .slice out11p out11n out11c), (14, .pointer (some ⟨t14, 0, none⟩)), (16, .int .i64 d16), (91, .slice t91p t91n t91c), (92, .int .i64 t92), (93, .int .i64 t93)] H) (fun t6 t14 H => G [1, 1, 1, 1, 1, 1, 1, 1, 1, 1] [(6, .pointer (some ⟨t6, 0, none⟩)), (14, .pointer (some ⟨t14, 0, none⟩))] H) g3 t6 q9 out11p out11n out11c t14 X1 E H K := fun G => by kernel_rfl
  have k2 : short_Dijkstra.b2_t (fun g3 t6 q9 out11p out11n out11c t14 d16 t91p t91n t91c t92 t93 H => short_Dijkstra.l3 g3 t6 q9 out11p out11n out11c t14 d16 t91p t91n t91c t92 t93 X1 E H K) (fun t6 t14 H => short_Dijkstra.j3 t6 t14  E H K) g3 t6 q9 out11p out11n out11c t14 X1 E H K = short_Dijkstra.b2_t (fun g3 t6 q9 out11p out11n out11c t14 d16 t91p t91n t91c t92 t93 H => (fun q F H => nodeM P0 T0 short_Dijkstra.A short_Dijkstra.code q.reverse [X1] (short_Dijkstra.rq E K) F H) [0, 1, 1, 0, 1, 0, 0, 0, 1, 1, 1, 1, 1, 1, 1, 1, 1] [(3, .pointer (some ⟨g3, 0, none⟩)), (6, .pointer (some ⟨t6, 0, none⟩)), (9, .pointer q9), (11, .slice out11p out11n out11c), (14, .pointer (some ⟨t14, 0, none⟩)), (16, .int .i64 d16), (91, .slice t91p t91n t91c), (92, .int .i64 t92), (93, .int .i64 t93)] H) (fun t6 t14 H => (fun q F H => nodeM P0 T0 short_Dijkstra.A short_Dijkstra.code q.reverse [X1] (short_Dijkstra.rq E K) F H) [1, 1, 1, 1, 1, 1, 1, 1, 1, 1] [(6, .pointer (some ⟨t6, 0, none⟩)), (14, .pointer (some ⟨t14, 0, none⟩))] H) g3 t6 q9 out11p out11n out11c t14 X1 E H K := by kernel_rfl
  exact nodeR_imp short_Dijkstra.nok rfl ((k1 _).mpr (k2.mp h))
def short_Dijkstra.b3_t (j2 : Nat → Nat → (Option Addr) → (Option Addr) → Nat → Nat → Nat → Int → (Option Addr) → Nat → Nat → Int → Int → Hp → Prop) (g3 : Nat) (t6 : Nat) (q9 : Option Addr) (out11p : Option Addr) (out11n : Nat) (out11c : Nat) (t14 : Nat) (d16 : Int) (t91p : Option Addr) (t91n : Nat) (t91c : Nat) (t92 : Int) (t93 : Int) (X1 : Fr → Hp → Prop) (X2 : Fr → Hp → Prop) (E : Value → Hp → Prop) (H : Hp) (K : (Option Addr) → Nat → Nat → (Option Addr) → Nat → Nat → Int → Hp → Prop) : Prop :=
  bcase (decide ((t93 : Int) < t92)) (
  ix t91p t91n t93 1 fun b_1 o_1 =>
  ldI .i64 (H.get b_1 o_1) fun x_1 =>
  ldS (H.get g3 1) fun x_2p x_2n x_2c =>
  ix x_2p x_2n x_1 4 fun b_2 o_2 =>
  ldI .i64 (H.get b_2 o_2) fun x_3 =>
  ldI .i64 (H.get b_2 (o_2 + 1)) fun x_4 =>
  ldI .i64 (H.get b_2 (o_2 + 2)) fun x_5 =>
  ldI .i64 (H.get b_2 (o_2 + 3)) fun x_6 =>
  nw H ⟨[.int .i64 0, .int .i64 0, .int .i64 0, .int .i64 0], 69⟩ fun b_3 H_1 =>
  stC H_1 b_3 0 [.int .i64 x_3, .int .i64 x_4, .int .i64 x_5, .int .i64 x_6] fun H_2 =>
  ldS (H_2.get t14 0) fun x_7p x_7n x_7c =>
  ldI .i64 (H_2.get b_3 1) fun x_8 =>
  ix x_7p x_7n x_8 1 fun b_4 o_3 =>
  ldI .i64 (H_2.get b_4 o_3) fun x_9 =>
  ldI .i64 (H_2.get b_3 3) fun x_10 =>
  bcase (decide ((x_9 : Int) ≤ (IntKind.wrap .i64 (d16 + x_10)))) (
  j2 g3 t6 q9 out11p out11n out11c t14 d16 t91p t91n t91c t92 t93 H_2)
  (ldS (H_2.get t14 0) fun x_11p x_11n x_11c =>
  ldI .i64 (H_2.get b_3 1) fun x_12 =>
  ldS (H_2.get t14 1) fun x_13p x_13n x_13c =>
  ldI .i64 (H_2.get b_3 1) fun x_14 =>
  ix x_11p x_11n x_12 1 fun b_5 o_4 =>
  stC H_2 b_5 o_4 [.int .i64 (IntKind.wrap .i64 (d16 + x_10))] fun H_3 =>
  (ldS (H_3.get t14 1) fun x_18p x_18n x_18c =>
  Value.slice x_18p x_18n x_18c = Value.slice x_13p x_13n x_13c) ∧
  (ldI .i64 (H_3.get b_3 1) fun x_17 =>
  Value.int .i64 x_17 = Value.int .i64 x_14) ∧
  ix x_13p x_13n x_14 1 fun b_6 o_5 =>
  stC H_3 b_6 o_5 [.int .i64 x_1] fun H_4 =>
  bcase (decide ((x_9 : Int) = 4611686018427387904)) (
  ldI .i64 (H_4.get b_3 1) fun x_15 =>
  heaps_Queue_Push.call q9 x_15 (IntKind.wrap .i64 (d16 + x_10)) E H_4 fun r_1 H_5 =>
  j2 g3 t6 q9 out11p out11n out11c t14 d16 t91p t91n t91c t92 t93 H_5)
  (ldI .i64 (H_4.get b_3 1) fun x_16 =>
  heaps_Queue_Lower.call q9 x_16 (IntKind.wrap .i64 (d16 + x_10)) E H_4 fun r_2 H_6 =>
  j2 g3 t6 q9 out11p out11n out11c t14 d16 t91p t91n t91c t92 t93 H_6)))
  (X1 (short_Dijkstra.f2 g3 t6 q9 out11p out11n out11c t14) H)
theorem short_Dijkstra.b3_eq {g3 : Nat} {t6 : Nat} {q9 : Option Addr} {out11p : Option Addr} {out11n : Nat} {out11c : Nat} {t14 : Nat} {d16 : Int} {t91p : Option Addr} {t91n : Nat} {t91c : Nat} {t92 : Int} {t93 : Int} {X1 X2 : Fr → Hp → Prop} { E : Value → Hp → Prop} {H : Hp} {K : (Option Addr) → Nat → Nat → (Option Addr) → Nat → Nat → Int → Hp → Prop} (h : short_Dijkstra.b3_t (fun g3 t6 q9 out11p out11n out11c t14 d16 t91p t91n t91c t92 t93 H => short_Dijkstra.j2 g3 t6 q9 out11p out11n out11c t14 d16 t91p t91n t91c t92 t93 X1 X2 E H K) g3 t6 q9 out11p out11n out11c t14 d16 t91p t91n t91c t92 t93 X1 X2 E H K) : short_Dijkstra.b3 g3 t6 q9 out11p out11n out11c t14 d16 t91p t91n t91c t92 t93 X1 X2 E H K := by
  have k1 : ∀ G : List Nat → Fr → Hp → Prop, nodeR P0 T0 short_Dijkstra.A [[0, 1, 0, 1, 1, 1, 1, 1], [1, 1, 1, 1, 1, 1], [0, 0, 1, 1, 1, 1, 1, 1, 1, 1, 1], [0, 1, 1, 0, 1, 0, 0, 0, 1, 1, 1, 1, 1, 1, 1, 1, 1], [1, 1, 1, 0, 0, 1, 1, 0, 1, 0, 0, 0, 1, 1, 1, 1, 1, 1, 1, 1, 1], [1, 1, 1, 1, 1, 1, 1, 1, 1, 1]] G short_Dijkstra.code [1, 1, 1, 1, 1, 1, 1, 1, 1, 0, 0, 0, 1, 0, 1, 1, 0, 0] [X1, X2] (short_Dijkstra.rq E K) (short_Dijkstra.f3 g3 t6 q9 out11p out11n out11c t14 d16 t91p t91n t91c t92 t93) H = short_Dijkstra.b3_t (fun g3 t6 q9 out11p out11n out11c t14 d16 t91p t91n t91c t92 t93 H => G [1, 1, 1, 0, 0, 1, 1, 0, 1, 0, 0, 0, 1, 1, 1, 1, 1, 1, 1, 1, 1] [(3, .pointer (some ⟨g3, 0, none⟩)), (6, .pointer (some ⟨t6, 0, none⟩)), (9, .pointer q9), (11, .slice out11p out11n out11c), (14, .pointer (some ⟨t14, 0, none⟩)), (16, .int .i64 d16), (91, .slice t91p t91n t91c), (92, .int .i64 t92), (93, .int .i64 t93)] H) g3 t6 q9 out11p out11n out11c t14 d16 t91p t91n t91c t92 t93 X1 X2 E H K := fun G => by kernel_rfl
  have k2 : short_Dijkstra.b3_t (fun g3 t6 q9 out11p out11n out11c t14 d16 t91p t91n t91c t92 t93 H => short_Dijkstra.j2 g3 t6 q9 out11p out11n out11c t14 d16 t91p t91n t91c t92 t93 X1 X2 E H K) g3 t6 q9 out11p out11n out11c t14 d16 t91p t91n t91c t92 t93 X1 X2 E H K = short_Dijkstra.b3_t (fun g3 t6 q9 out11p out11n out11c t14 d16 t91p t91n t91c t92 t93 H => (fun q F H => nodeM P0 T0 short_Dijkstra.A short_Dijkstra.code q.reverse [X1, X2] (short_Dijkstra.rq E K) F H) [1, 1, 1, 0, 0, 1, 1, 0, 1, 0, 0, 0, 1, 1, 1, 1, 1, 1, 1, 1, 1] [(3, .pointer (some ⟨g3, 0, none⟩)), (6, .pointer (some ⟨t6, 0, none⟩)), (9, .pointer q9), (11, .slice out11p out11n out11c), (14, .pointer (some ⟨t14, 0, none⟩)), (16, .int .i64 d16), (91, .slice t91p t91n t91c), (92, .int .i64 t92), (93, .int .i64 t93)] H) g3 t6 q9 out11p out11n out11c t14 d16 t91p t91n t91c t92 t93 X1 X2 E H K := by kernel_rfl
  exact nodeR_imp short_Dijkstra.nok rfl ((k1 _).mpr (k2.mp h))
/-! ### compass/short.Bellman (31) -/
noncomputable def short_Bellman.A : An := { live := [(0, [0, 1]), (1, [1, 2, 4]), (2, [1, 2, 4, 7]), (3, [4, 7]), (4, [1, 2, 4]), (5, [1, 2, 4, 8]), (6, [2, 4, 8]), (7, [2, 4, 8, 9]), (8, [2, 4, 8, 9]), (9, [4, 8])], ord := [], stb := [], pre := [] }
noncomputable def short_Bellman.code : Code := bodyOf Go.Proofs.Try.f31
theorem short_Bellman.ok : okCode short_Bellman.A 35 short_Bellman.code = true := by kernel_rfl
def short_Bellman.rq (E : Value → Hp → Prop) (K : (Option Addr) → Nat → Nat → (Option Addr) → Nat → Nat → (Option Addr) → Nat → Nat → Int → Hp → Prop) : Ex → Fr → Hp → Prop := retQ T0 [.cell 4 54, .tmp 5, .tmp 6] [54, 52, 25] (fun r H => ldR (.tup [(true, [.sl, .sl]), (false, [.sl]), (false, [.i .i64])]) r fun u => K (asS1 (cellV (tupV u 0) 0)) (asS2 (cellV (tupV u 0) 0)) (asS3 (cellV (tupV u 0) 0)) (asS1 (cellV (tupV u 0) 1)) (asS2 (cellV (tupV u 0) 1)) (asS3 (cellV (tupV u 0) 1)) (asS1 (tupV u 1)) (asS2 (tupV u 1)) (asS3 (tupV u 1)) (asI (tupV u 2)) H) E
def short_Bellman.run (g0_Nodes : Int) (g0_Edgesp : Option Addr) (g0_Edgesn : Nat) (g0_Edgesc : Nat) (s1 : Int) (E : Value → Hp → Prop) (H : Hp) (K : (Option Addr) → Nat → Nat → (Option Addr) → Nat → Nat → (Option Addr) → Nat → Nat → Int → Hp → Prop) : Prop := nodeM P0 T0 short_Bellman.A short_Bellman.code [] [] (short_Bellman.rq E K) (argF 0 [.agg ⟨[.int .i64 g0_Nodes, .slice g0_Edgesp g0_Edgesn g0_Edgesc]⟩, .int .i64 s1]) H
theorem short_Bellman.of {g0_Nodes : Int} {g0_Edgesp : Option Addr} {g0_Edgesn : Nat} {g0_Edgesc : Nat} {s1 : Int} {E : Value → Hp → Prop} {H : Hp} {K : (Option Addr) → Nat → Nat → (Option Addr) → Nat → Nat → (Option Addr) → Nat → Nat → Int → Hp → Prop} (h : short_Bellman.run g0_Nodes g0_Edgesp g0_Edgesn g0_Edgesc s1 E H K) : short_Bellman.call g0_Nodes g0_Edgesp g0_Edgesn g0_Edgesc s1 E H K :=
  callW_of T0_ok P0_mixed (A := short_Bellman.A) (fn := Go.Proofs.Try.f31) Go.Proofs.Try.func31 rfl short_Bellman.ok rfl h
theorem short_Bellman.nok : nodesOk short_Bellman.code [] = true := by kernel_rfl
def short_Bellman.run_t  (g0_Nodes : Int) (g0_Edgesp : Option Addr) (g0_Edgesn : Nat) (g0_Edgesc : Nat) (s1 : Int)  (E : Value → Hp → Prop) (H : Hp) (K : (Option Addr) → Nat → Nat → (Option Addr) → Nat → Nat → (Option Addr) → Nat → Nat → Int → Hp → Prop) : Prop :=
  nw H ⟨[.int .i64 g0_Nodes, .slice g0_Edgesp g0_Edgesn g0_Edgesc], 51⟩ fun b_1 H_1 =>
  nw H_1 ⟨[.slice none 0 0, .slice none 0 0], 54⟩ fun b_2 H_2 =>
  ldI .i64 (H_2.get b_1 0) fun x_1 =>
  ldS (H_2.get b_1 1) fun x_2p x_2n x_2c =>
  short_wrong.call x_1 x_2p x_2n x_2c s1 E H_2 fun r_1 H_3 =>
  bcase (!decide ((r_1 : Int) = 0)) (
  stC H_3 b_2 0 [.slice none 0 0, .slice none 0 0] fun H_4 =>
  ldS (H_4.get b_2 0) fun x_3p x_3n x_3c =>
  ldS (H_4.get b_2 1) fun x_4p x_4n x_4c =>
  K x_3p x_3n x_3c x_4p x_4n x_4c none 0 0 r_1 H_4)
  (ldI .i64 (H_3.get b_1 0) fun x_5 =>
  short_empty.call x_5 E H_3 fun r_2_Distp r_2_Distn r_2_Distc r_2_Viap r_2_Vian r_2_Viac H_5 =>
  nw H_5 ⟨[.slice none 0 0, .slice none 0 0], 54⟩ fun b_3 H_6 =>
  stC H_6 b_3 0 [.slice r_2_Distp r_2_Distn r_2_Distc, .slice r_2_Viap r_2_Vian r_2_Viac] fun H_7 =>
  ldS (H_7.get b_3 0) fun x_6p x_6n x_6c =>
  ix x_6p x_6n s1 1 fun b_4 o_1 =>
  stC H_7 b_4 o_1 [.int .i64 0] fun H_8 =>
  ldI .i64 (H_8.get b_1 0) fun x_7 =>
  ldS (H_8.get b_1 1) fun x_8p x_8n x_8c =>
  ldS (H_8.get b_3 0) fun x_9p x_9n x_9c =>
  ldS (H_8.get b_3 1) fun x_10p x_10n x_10c =>
  short_relax.call x_7 x_8p x_8n x_8c x_9p x_9n x_9c x_10p x_10n x_10c E H_8 fun r_3 H_9 =>
  bcase (decide ((0 : Int) ≤ r_3)) (
  ldI .i64 (H_9.get b_1 0) fun x_11 =>
  ldS (H_9.get b_1 1) fun x_12p x_12n x_12c =>
  ldS (H_9.get b_3 0) fun x_13p x_13n x_13c =>
  ldS (H_9.get b_3 1) fun x_14p x_14n x_14c =>
  short_round.call x_11 x_12p x_12n x_12c x_13p x_13n x_13c x_14p x_14n x_14c r_3 E H_9 fun r_4p r_4n r_4c H_10 =>
  stC H_10 b_2 0 [.slice none 0 0, .slice none 0 0] fun H_11 =>
  ldS (H_11.get b_2 0) fun x_15p x_15n x_15c =>
  ldS (H_11.get b_2 1) fun x_16p x_16n x_16c =>
  K x_15p x_15n x_15c x_16p x_16n x_16c r_4p r_4n r_4c 80 H_11)
  (ldS (H_9.get b_3 0) fun x_17p x_17n x_17c =>
  ldS (H_9.get b_3 1) fun x_18p x_18n x_18c =>
  stC H_9 b_2 0 [.slice x_17p x_17n x_17c, .slice x_18p x_18n x_18c] fun H_12 =>
  ldS (H_12.get b_2 0) fun x_19p x_19n x_19c =>
  ldS (H_12.get b_2 1) fun x_20p x_20n x_20c =>
  K x_19p x_19n x_19c x_20p x_20n x_20c none 0 0 0 H_12))
theorem short_Bellman.run_eq {g0_Nodes : Int} {g0_Edgesp : Option Addr} {g0_Edgesn : Nat} {g0_Edgesc : Nat} {s1 : Int} { E : Value → Hp → Prop} {H : Hp} {K : (Option Addr) → Nat → Nat → (Option Addr) → Nat → Nat → (Option Addr) → Nat → Nat → Int → Hp → Prop} (h : short_Bellman.run_t  g0_Nodes g0_Edgesp g0_Edgesn g0_Edgesc s1  E H K) : short_Bellman.run g0_Nodes g0_Edgesp g0_Edgesn g0_Edgesc s1  E H K := by
  have k1 : ∀ G : List Nat → Fr → Hp → Prop, nodeR P0 T0 short_Bellman.A [] G short_Bellman.code [] [] (short_Bellman.rq E K) (argF 0 [.agg ⟨[.int .i64 g0_Nodes, .slice g0_Edgesp g0_Edgesn g0_Edgesc]⟩, .int .i64 s1]) H = short_Bellman.run_t  g0_Nodes g0_Edgesp g0_Edgesn g0_Edgesc s1  E H K := fun G => by kernel_rfl
  exact nodeR_imp short_Bellman.nok rfl ((k1 _).mpr h)
/-! ### compass/short.Way (34) -/
noncomputable def short_Way.A : An := { live := [(0, [0, 1, 2]), (1, [1, 2, 3]), (2, [1, 2, 3, 9, 11]), (3, [11]), (4, [1, 2, 3, 9]), (5, []), (6, [1, 2, 3, 9]), (7, []), (8, [1, 2, 3, 9]), (9, [1, 2, 3, 9, 12]), (10, [1, 2, 3, 9, 12, 13]), (11, [1, 2, 3, 9, 12, 13]), (12, [1, 2, 3, 9, 12, 13]), (13, [12, 13]), (14, [12, 13])], ord := [(12, [0, 1, 2, 3, 4, 5, 6, 7, 8, 9, 10])], stb := [], pre := [(12, [[], [0], [], [2], [], [2, 3, 4], [2, 3, 4, 5], [0, 1, 2, 3, 4, 5, 6], [0, 1, 2, 3, 4, 5, 6, 7], [0, 1, 2, 3, 4, 5, 6, 7, 8], [0, 1, 2, 3, 4, 5, 6, 7, 8, 9]])] }
noncomputable def short_Way.code : Code := bodyOf Go.Proofs.Try.f34
theorem short_Way.ok : okCode short_Way.A 71 short_Way.code = true := by kernel_rfl
def short_Way.rq (E : Value → Hp → Prop) (K : (Option Addr) → Nat → Nat → Int → Int → Hp → Prop) : Ex → Fr → Hp → Prop := retQ T0 [.tmp 6, .tmp 7, .tmp 8] [52, 2, 25] (fun r H => ldR (.tup [(false, [.sl]), (false, [.i .i64]), (false, [.i .i64])]) r fun u => K (asS1 (tupV u 0)) (asS2 (tupV u 0)) (asS3 (tupV u 0)) (asI (tupV u 1)) (asI (tupV u 2)) H) E
def short_Way.run (g0_Nodes : Int) (g0_Edgesp : Option Addr) (g0_Edgesn : Nat) (g0_Edgesc : Nat) (s1 : Int) (v2 : Int) (E : Value → Hp → Prop) (H : Hp) (K : (Option Addr) → Nat → Nat → Int → Int → Hp → Prop) : Prop := nodeM P0 T0 short_Way.A short_Way.code [] [] (short_Way.rq E K) (argF 0 [.agg ⟨[.int .i64 g0_Nodes, .slice g0_Edgesp g0_Edgesn g0_Edgesc]⟩, .int .i64 s1, .int .i64 v2]) H
theorem short_Way.of {g0_Nodes : Int} {g0_Edgesp : Option Addr} {g0_Edgesn : Nat} {g0_Edgesc : Nat} {s1 : Int} {v2 : Int} {E : Value → Hp → Prop} {H : Hp} {K : (Option Addr) → Nat → Nat → Int → Int → Hp → Prop} (h : short_Way.run g0_Nodes g0_Edgesp g0_Edgesn g0_Edgesc s1 v2 E H K) : short_Way.call g0_Nodes g0_Edgesp g0_Edgesn g0_Edgesc s1 v2 E H K :=
  callW_of T0_ok P0_mixed (A := short_Way.A) (fn := Go.Proofs.Try.f34) Go.Proofs.Try.func34 rfl short_Way.ok rfl h
noncomputable def short_Way.f1 (s1 : Int) (v2 : Int) (g3 : Nat) (t9 : Nat) (cost12 : Int) (way13p : Option Addr) (way13n : Nat) (way13c : Nat) : Fr := [(1, .int .i64 s1), (2, .int .i64 v2), (3, .pointer (some ⟨g3, 0, none⟩)), (9, .pointer (some ⟨t9, 0, none⟩)), (12, .int .i64 cost12), (13, .slice way13p way13n way13c)]
def short_Way.j1 (cost12 : Int) (way13p : Option Addr) (way13n : Nat) (way13c : Nat)  (E : Value → Hp → Prop) (H : Hp) (K : (Option Addr) → Nat → Nat → Int → Int → Hp → Prop) : Prop := nodeM P0 T0 short_Way.A short_Way.code [1, 1, 1, 1, 1, 1] [] (short_Way.rq E K) [(12, .int .i64 cost12), (13, .slice way13p way13n way13c)] H
def short_Way.l1 (s1 : Int) (v2 : Int) (g3 : Nat) (t9 : Nat) (cost12 : Int) (way13p : Option Addr) (way13n : Nat) (way13c : Nat)  (E : Value → Hp → Prop) (H : Hp) (K : (Option Addr) → Nat → Nat → Int → Int → Hp → Prop) : Prop := nodeM P0 T0 short_Way.A short_Way.code [1, 1, 1, 1, 1, 0, 0] [] (short_Way.rq E K) (short_Way.f1 s1 v2 g3 t9 cost12 way13p way13n way13c) H
def short_Way.b1 (s1 : Int) (v2 : Int) (g3 : Nat) (t9 : Nat) (cost12 : Int) (way13p : Option Addr) (way13n : Nat) (way13c : Nat)  (X1 : Fr → Hp → Prop) (E : Value → Hp → Prop) (H : Hp) (K : (Option Addr) → Nat → Nat → Int → Int → Hp → Prop) : Prop := nodeM P0 T0 short_Way.A short_Way.code [1, 1, 1, 1, 1, 0, 0, 0] [X1] (short_Way.rq E K) (short_Way.f1 s1 v2 g3 t9 cost12 way13p way13n way13c) H
theorem short_Way.l1_rule { E : Value → Hp → Prop} {K : (Option Addr) → Nat → Nat → Int → Int → Hp → Prop} (I : Int → Int → Nat → Nat → Int → (Option Addr) → Nat → Nat → Hp → Prop) (μ : Int → Int → Nat → Nat → Int → (Option Addr) → Nat → Nat → Hp → Nat)
    (h : ∀ s1 v2 g3 t9 cost12 way13p way13n way13c H, I s1 v2 g3 t9 cost12 way13p way13n way13c H → ∀ X : Fr → Hp → Prop, (∀ s1' v2' g3' t9' cost12' way13p' way13n' way13c' H', I s1' v2' g3' t9' cost12' way13p' way13n' way13c' H' → μ s1' v2' g3' t9' cost12' way13p' way13n' way13c' H' < μ s1 v2 g3 t9 cost12 way13p way13n way13c H → X (short_Way.f1 s1' v2' g3' t9' cost12' way13p' way13n' way13c') H') → short_Way.b1 s1 v2 g3 t9 cost12 way13p way13n way13c  X E H K)
    {s1 : Int} {v2 : Int} {g3 : Nat} {t9 : Nat} {cost12 : Int} {way13p : Option Addr} {way13n : Nat} {way13c : Nat} {H : Hp} (hI : I s1 v2 g3 t9 cost12 way13p way13n way13c H) : short_Way.l1 s1 v2 g3 t9 cost12 way13p way13n way13c  E H K :=
  loop_rule (S := Int × Int × Nat × Nat × Int × (Option Addr) × Nat × Nat) (fun s => short_Way.f1 (s.1) (s.2.1) (s.2.2.1) (s.2.2.2.1) (s.2.2.2.2.1) (s.2.2.2.2.2.1) (s.2.2.2.2.2.2.1) (s.2.2.2.2.2.2.2)) (fun s H => I (s.1) (s.2.1) (s.2.2.1) (s.2.2.2.1) (s.2.2.2.2.1) (s.2.2.2.2.2.1) (s.2.2.2.2.2.2.1) (s.2.2.2.2.2.2.2) H) (fun s H => μ (s.1) (s.2.1) (s.2.2.1) (s.2.2.2.1) (s.2.2.2.2.1) (s.2.2.2.2.2.1) (s.2.2.2.2.2.2.1) (s.2.2.2.2.2.2.2) H) (fun s H hI X hX => h (s.1) (s.2.1) (s.2.2.1) (s.2.2.2.1) (s.2.2.2.2.1) (s.2.2.2.2.2.1) (s.2.2.2.2.2.2.1) (s.2.2.2.2.2.2.2) H hI X fun s1' v2' g3' t9' cost12' way13p' way13n' way13c' H' hI' hlt => hX (s1', v2', g3', t9', cost12', way13p', way13n', way13c') H' hI' hlt) (s := (s1, v2, g3, t9, cost12, way13p, way13n, way13c)) rfl hI
theorem short_Way.nok : nodesOk short_Way.code [[0, 0, 1, 1, 1, 1, 1], [1, 1, 1, 1, 1, 1]] = true := by kernel_rfl
def short_Way.run_t (l1 : Int → Int → Nat → Nat → Int → (Option Addr) → Nat → Nat → Hp → Prop) (g0_Nodes : Int) (g0_Edgesp : Option Addr) (g0_Edgesn : Nat) (g0_Edgesc : Nat) (s1 : Int) (v2 : Int)  (E : Value → Hp → Prop) (H : Hp) (K : (Option Addr) → Nat → Nat → Int → Int → Hp → Prop) : Prop :=
  nw H ⟨[.int .i64 g0_Nodes, .slice g0_Edgesp g0_Edgesn g0_Edgesc], 51⟩ fun b_1 H_1 =>
  ldI .i64 (H_1.get b_1 0) fun x_1 =>
  ldS (H_1.get b_1 1) fun x_2p x_2n x_2c =>
  short_Bellman.call x_1 x_2p x_2n x_2c s1 E H_1 fun r_1_Distp r_1_Distn r_1_Distc r_1_Viap r_1_Vian r_1_Viac r_2p r_2n r_2c r_3 H_2 =>
  nw H_2 ⟨[.slice none 0 0, .slice none 0 0], 54⟩ fun b_2 H_3 =>
  stC H_3 b_2 0 [.slice r_1_Distp r_1_Distn r_1_Distc, .slice r_1_Viap r_1_Vian r_1_Viac] fun H_4 =>
  bcase (!decide ((r_3 : Int) = 0)) (
  K none 0 0 0 r_3 H_4)
  (bcase (decide ((v2 : Int) < 0)) (
  K none 0 0 0 30 H_4)
  (ldI .i64 (H_4.get b_1 0) fun x_3 =>
  bcase (decide ((x_3 : Int) ≤ v2)) (
  K none 0 0 0 30 H_4)
  (ldS (H_4.get b_2 0) fun x_4p x_4n x_4c =>
  ix x_4p x_4n v2 1 fun b_3 o_1 =>
  ldI .i64 (H_4.get b_3 o_1) fun x_5 =>
  bcase (decide ((x_5 : Int) = 4611686018427387904)) (
  K none 0 0 0 5 H_4)
  (ldS (H_4.get b_2 0) fun x_6p x_6n x_6c =>
  ix x_6p x_6n v2 1 fun b_4 o_2 =>
  ldI .i64 (H_4.get b_4 o_2) fun x_7 =>
  l1 s1 v2 b_1 b_2 x_7 none 0 0 H_4))))
theorem short_Way.run_eq {g0_Nodes : Int} {g0_Edgesp : Option Addr} {g0_Edgesn : Nat} {g0_Edgesc : Nat} {s1 : Int} {v2 : Int} { E : Value → Hp → Prop} {H : Hp} {K : (Option Addr) → Nat → Nat → Int → Int → Hp → Prop} (h : short_Way.run_t (fun s1 v2 g3 t9 cost12 way13p way13n way13c H => short_Way.l1 s1 v2 g3 t9 cost12 way13p way13n way13c  E H K) g0_Nodes g0_Edgesp g0_Edgesn g0_Edgesc s1 v2  E H K) : short_Way.run g0_Nodes g0_Edgesp g0_Edgesn g0_Edgesc s1 v2  E H K := by
  have k1 : ∀ G : List Nat → Fr → Hp → Prop, nodeR P0 T0 short_Way.A [[0, 0, 1, 1, 1, 1, 1], [1, 1, 1, 1, 1, 1]] G short_Way.code [] [] (short_Way.rq E K) (argF 0 [.agg ⟨[.int .i64 g0_Nodes, .slice g0_Edgesp g0_Edgesn g0_Edgesc]⟩, .int .i64 s1, .int .i64 v2]) H = short_Way.run_t (fun s1 v2 g3 t9 cost12 way13p way13n way13c H => G [0, 0, 1, 1, 1, 1, 1] [(1, .int .i64 s1), (2, .int .i64 v2), (3, .pointer (some ⟨g3, 0, none⟩)), (9, .pointer (some ⟨t9, 0, none⟩)), (12, .int .i64 cost12), (13, .slice way13p way13n way13c)] H) g0_Nodes g0_Edgesp g0_Edgesn g0_Edgesc s1 v2  E H K := fun G => by kernel_rfl
  have k2 : short_Way.run_t (fun s1 v2 g3 t9 cost12 way13p way13n way13c H => short_Way.l1 s1 v2 g3 t9 cost12 way13p way13n way13c  E H K) g0_Nodes g0_Edgesp g0_Edgesn g0_Edgesc s1 v2  E H K = short_Way.run_t (fun s1 v2 g3 t9 cost12 way13p way13n way13c H => (fun q F H => nodeM P0 T0 short_Way.A short_Way.code q.reverse [] (short_Way.rq E K) F H) [0, 0, 1, 1, 1, 1, 1] [(1, .int .i64 s1), (2, .int .i64 v2), (3, .pointer (some ⟨g3, 0, none⟩)), (9, .pointer (some ⟨t9, 0, none⟩)), (12, .int .i64 cost12), (13, .slice way13p way13n way13c)] H) g0_Nodes g0_Edgesp g0_Edgesn g0_Edgesc s1 v2  E H K := by kernel_rfl
  exact nodeR_imp short_Way.nok rfl ((k1 _).mpr (k2.mp h))
def short_Way.j1_t  (cost12 : Int) (way13p : Option Addr) (way13n : Nat) (way13c : Nat)  (E : Value → Hp → Prop) (H : Hp) (K : (Option Addr) → Nat → Nat → Int → Int → Hp → Prop) : Prop :=
  slices_Reverse.call way13p way13n way13c E H fun H_1 =>
  K way13p way13n way13c cost12 0 H_1
theorem short_Way.j1_eq {cost12 : Int} {way13p : Option Addr} {way13n : Nat} {way13c : Nat} { E : Value → Hp → Prop} {H : Hp} {K : (Option Addr) → Nat → Nat → Int → Int → Hp → Prop} (h : short_Way.j1_t  cost12 way13p way13n way13c  E H K) : short_Way.j1 cost12 way13p way13n way13c  E H K := by
  have k1 : ∀ G : List Nat → Fr → Hp → Prop, nodeR P0 T0 short_Way.A [[0, 0, 1, 1, 1, 1, 1], [1, 1, 1, 1, 1, 1]] G short_Way.code [1, 1, 1, 1, 1, 1] [] (short_Way.rq E K) [(12, .int .i64 cost12), (13, .slice way13p way13n way13c)] H = short_Way.j1_t  cost12 way13p way13n way13c  E H K := fun G => by kernel_rfl
  exact nodeR_imp short_Way.nok rfl ((k1 _).mpr h)
def short_Way.b1_t (j1 : Int → (Option Addr) → Nat → Nat → Hp → Prop) (s1 : Int) (v2 : Int) (g3 : Nat) (t9 : Nat) (cost12 : Int) (way13p : Option Addr) (way13n : Nat) (way13c : Nat) (X1 : Fr → Hp → Prop) (E : Value → Hp → Prop) (H : Hp) (K : (Option Addr) → Nat → Nat → Int → Int → Hp → Prop) : Prop :=
  bcase (!decide ((v2 : Int) = s1)) (
  ldS (H.get t9 1) fun x_1p x_1n x_1c =>
  ix x_1p x_1n v2 1 fun b_1 o_1 =>
  ldI .i64 (H.get b_1 o_1) fun x_2 =>
  nw H ⟨[.int .i64 x_2], 3⟩ fun b_2 H_1 =>
  appM 3 [.i .i64] 8 way13p way13n way13c (some ⟨b_2, 0, none⟩) 1 H_1 fun a_1p a_1n a_1c H_2 =>
  ldS (H_2.get g3 1) fun x_3p x_3n x_3c =>
  ldS (H_2.get t9 1) fun x_4p x_4n x_4c =>
  ix x_4p x_4n v2 1 fun b_3 o_2 =>
  ldI .i64 (H_2.get b_3 o_2) fun x_5 =>
  ix x_3p x_3n x_5 4 fun b_4 o_3 =>
  ldI .i64 (H_2.get b_4 o_3) fun x_6 =>
  X1 (short_Way.f1 s1 x_6 g3 t9 cost12 a_1p a_1n a_1c) H_2)
  (j1 cost12 way13p way13n way13c H)
theorem short_Way.b1_eq {s1 : Int} {v2 : Int} {g3 : Nat} {t9 : Nat} {cost12 : Int} {way13p : Option Addr} {way13n : Nat} {way13c : Nat} {X1 : Fr → Hp → Prop} { E : Value → Hp → Prop} {H : Hp} {K : (Option Addr) → Nat → Nat → Int → Int → Hp → Prop} (h : short_Way.b1_t (fun cost12 way13p way13n way13c H => short_Way.j1 cost12 way13p way13n way13c  E H K) s1 v2 g3 t9 cost12 way13p way13n way13c X1 E H K) : short_Way.b1 s1 v2 g3 t9 cost12 way13p way13n way13c X1 E H K := by
  have k1 : ∀ G : List Nat → Fr → Hp → Prop, nodeR P0 T0 short_Way.A [[0, 0, 1, 1, 1, 1, 1], [1, 1, 1, 1, 1, 1]] G short_Way.code [1, 1, 1, 1, 1, 0, 0, 0] [X1] (short_Way.rq E K) (short_Way.f1 s1 v2 g3 t9 cost12 way13p way13n way13c) H = short_Way.b1_t (fun cost12 way13p way13n way13c H => G [1, 1, 1, 1, 1, 1] [(12, .int .i64 cost12), (13, .slice way13p way13n way13c)] H) s1 v2 g3 t9 cost12 way13p way13n way13c X1 E H K := fun G => by kernel_rfl
  have k2 : short_Way.b1_t (fun cost12 way13p way13n way13c H => short_Way.j1 cost12 way13p way13n way13c  E H K) s1 v2 g3 t9 cost12 way13p way13n way13c X1 E H K = short_Way.b1_t (fun cost12 way13p way13n way13c H => (fun q F H => nodeM P0 T0 short_Way.A short_Way.code q.reverse [X1] (short_Way.rq E K) F H) [1, 1, 1, 1, 1, 1] [(12, .int .i64 cost12), (13, .slice way13p way13n way13c)] H) s1 v2 g3 t9 cost12 way13p way13n way13c X1 E H K := by kernel_rfl
  exact nodeR_imp short_Way.nok rfl ((k1 _).mpr (k2.mp h))
/-! ### compass/short.Potentials (37) -/
/-! ### compass/short.wrong (47) -/
noncomputable def short_wrong.A : An := { live := [(0, [0, 1]), (1, [1, 2]), (2, [1, 2, 5]), (3, []), (4, [5])], ord := [], stb := [], pre := [] }
noncomputable def short_wrong.code : Code := bodyOf Go.Proofs.Try.f47
theorem short_wrong.ok : okCode short_wrong.A 23 short_wrong.code = true := by kernel_rfl
def short_wrong.rq (E : Value → Hp → Prop) (K : Int → Hp → Prop) : Ex → Fr → Hp → Prop := retQ T0 [.tmp 4] [25] (fun r H => ldR (.one false [.i .i64]) r fun u => K (asI u) H) E
def short_wrong.run (g0_Nodes : Int) (g0_Edgesp : Option Addr) (g0_Edgesn : Nat) (g0_Edgesc : Nat) (s1 : Int) (E : Value → Hp → Prop) (H : Hp) (K : Int → Hp → Prop) : Prop := nodeM P0 T0 short_wrong.A short_wrong.code [] [] (short_wrong.rq E K) (argF 0 [.agg ⟨[.int .i64 g0_Nodes, .slice g0_Edgesp g0_Edgesn g0_Edgesc]⟩, .int .i64 s1]) H
theorem short_wrong.of {g0_Nodes : Int} {g0_Edgesp : Option Addr} {g0_Edgesn : Nat} {g0_Edgesc : Nat} {s1 : Int} {E : Value → Hp → Prop} {H : Hp} {K : Int → Hp → Prop} (h : short_wrong.run g0_Nodes g0_Edgesp g0_Edgesn g0_Edgesc s1 E H K) : short_wrong.call g0_Nodes g0_Edgesp g0_Edgesn g0_Edgesc s1 E H K :=
  callW_of T0_ok P0_mixed (A := short_wrong.A) (fn := Go.Proofs.Try.f47) Go.Proofs.Try.func47 rfl short_wrong.ok rfl h
def short_wrong.j1 (f5 : Nat)  (E : Value → Hp → Prop) (H : Hp) (K : Int → Hp → Prop) : Prop := nodeM P0 T0 short_wrong.A short_wrong.code [1, 1, 1] [] (short_wrong.rq E K) [(5, .pointer (some ⟨f5, 0, none⟩))] H
theorem short_wrong.nok : nodesOk short_wrong.code [[1, 1, 1]] = true := by kernel_rfl
def short_wrong.run_t (j1 : Nat → Hp → Prop) (g0_Nodes : Int) (g0_Edgesp : Option Addr) (g0_Edgesn : Nat) (g0_Edgesc : Nat) (s1 : Int)  (E : Value → Hp → Prop) (H : Hp) (K : Int → Hp → Prop) : Prop :=
  nw H ⟨[.int .i64 g0_Nodes, .slice g0_Edgesp g0_Edgesn g0_Edgesc], 51⟩ fun b_1 H_1 =>
  ldI .i64 (H_1.get b_1 0) fun x_1 =>
  ldS (H_1.get b_1 1) fun x_2p x_2n x_2c =>
  graph_Check.call x_1 x_2p x_2n x_2c E H_1 fun r_1_Code r_1_At H_2 =>
  nw H_2 ⟨[.int .i64 0, .int .i64 0], 124⟩ fun b_2 H_3 =>
  stC H_3 b_2 0 [.int .i64 r_1_Code, .int .i64 r_1_At] fun H_4 =>
  ldI .i64 (H_4.get b_2 0) fun x_3 =>
  bcase (decide ((x_3 : Int) = 0)) (
  bcase (decide ((s1 : Int) < 0)) (
  K 30 H_4)
  (ldI .i64 (H_4.get b_1 0) fun x_4 =>
  bcase (decide ((x_4 : Int) ≤ s1)) (
  K 30 H_4)
  (j1 b_2 H_4)))
  (j1 b_2 H_4)
theorem short_wrong.run_eq {g0_Nodes : Int} {g0_Edgesp : Option Addr} {g0_Edgesn : Nat} {g0_Edgesc : Nat} {s1 : Int} { E : Value → Hp → Prop} {H : Hp} {K : Int → Hp → Prop} (h : short_wrong.run_t (fun f5 H => short_wrong.j1 f5  E H K) g0_Nodes g0_Edgesp g0_Edgesn g0_Edgesc s1  E H K) : short_wrong.run g0_Nodes g0_Edgesp g0_Edgesn g0_Edgesc s1  E H K := by
  have k1 : ∀ G : List Nat → Fr → Hp → Prop, nodeR P0 T0 short_wrong.A [[1, 1, 1]] G short_wrong.code [] [] (short_wrong.rq E K) (argF 0 [.agg ⟨[.int .i64 g0_Nodes, .slice g0_Edgesp g0_Edgesn g0_Edgesc]⟩, .int .i64 s1]) H = short_wrong.run_t (fun f5 H => G [1, 1, 1] [(5, .pointer (some ⟨f5, 0, none⟩))] H) g0_Nodes g0_Edgesp g0_Edgesn g0_Edgesc s1  E H K := fun G => by kernel_rfl
  have k2 : short_wrong.run_t (fun f5 H => short_wrong.j1 f5  E H K) g0_Nodes g0_Edgesp g0_Edgesn g0_Edgesc s1  E H K = short_wrong.run_t (fun f5 H => (fun q F H => nodeM P0 T0 short_wrong.A short_wrong.code q.reverse [] (short_wrong.rq E K) F H) [1, 1, 1] [(5, .pointer (some ⟨f5, 0, none⟩))] H) g0_Nodes g0_Edgesp g0_Edgesn g0_Edgesc s1  E H K := by kernel_rfl
  exact nodeR_imp short_wrong.nok rfl ((k1 _).mpr (k2.mp h))
def short_wrong.j1_t  (f5 : Nat)  (E : Value → Hp → Prop) (H : Hp) (K : Int → Hp → Prop) : Prop :=
  ldI .i64 (H.get f5 0) fun x_1 =>
  K x_1 H
theorem short_wrong.j1_eq {f5 : Nat} { E : Value → Hp → Prop} {H : Hp} {K : Int → Hp → Prop} (h : short_wrong.j1_t  f5  E H K) : short_wrong.j1 f5  E H K := by
  have k1 : ∀ G : List Nat → Fr → Hp → Prop, nodeR P0 T0 short_wrong.A [[1, 1, 1]] G short_wrong.code [1, 1, 1] [] (short_wrong.rq E K) [(5, .pointer (some ⟨f5, 0, none⟩))] H = short_wrong.j1_t  f5  E H K := fun G => by kernel_rfl
  exact nodeR_imp short_wrong.nok rfl ((k1 _).mpr h)
/-! ### compass/short.empty (48) -/
noncomputable def short_empty.A : An := { live := [(0, [0]), (1, [0, 2]), (2, [0, 2, 3]), (3, [2, 3, 10, 11]), (4, [2, 3, 10, 11]), (5, [2, 3, 4, 10, 11]), (6, [2, 3, 10, 11]), (7, [2, 3])], ord := [(1, [0, 1, 2, 3, 4, 5, 6]), (5, [0, 1, 2, 3, 4, 5, 6, 7, 8, 9])], stb := [(5, [(7, [4])])], pre := [(1, [[], [0], [], [2], [0, 1, 2, 3], [], [0, 1, 2, 3, 4, 5]]), (5, [[], [0], [], [], [3], [], [0, 1, 2], [0, 1, 2, 6], [0, 1, 2, 3, 4, 5, 6, 7], [0, 1, 2, 3, 4, 5, 6, 7, 8]])] }
noncomputable def short_empty.code : Code := bodyOf Go.Proofs.Try.f48
theorem short_empty.ok : okCode short_empty.A 24 short_empty.code = true := by kernel_rfl
def short_empty.rq (E : Value → Hp → Prop) (K : (Option Addr) → Nat → Nat → (Option Addr) → Nat → Nat → Hp → Prop) : Ex → Fr → Hp → Prop := retQ T0 [.cell 2 54] [54] (fun r H => ldR (.one true [.sl, .sl]) r fun u => K (asS1 (cellV u 0)) (asS2 (cellV u 0)) (asS3 (cellV u 0)) (asS1 (cellV u 1)) (asS2 (cellV u 1)) (asS3 (cellV u 1)) H) E
def short_empty.run (n0 : Int) (E : Value → Hp → Prop) (H : Hp) (K : (Option Addr) → Nat → Nat → (Option Addr) → Nat → Nat → Hp → Prop) : Prop := nodeM P0 T0 short_empty.A short_empty.code [] [] (short_empty.rq E K) (argF 0 [.int .i64 n0]) H
theorem short_empty.of {n0 : Int} {E : Value → Hp → Prop} {H : Hp} {K : (Option Addr) → Nat → Nat → (Option Addr) → Nat → Nat → Hp → Prop} (h : short_empty.run n0 E H K) : short_empty.call n0 E H K :=
  callW_of T0_ok P0_mixed (A := short_empty.A) (fn := Go.Proofs.Try.f48) Go.Proofs.Try.func48 rfl short_empty.ok rfl h
noncomputable def short_empty.f1 (t2 : Nat) (t3 : Nat) (t10 : Int) (t11 : Int) : Fr := [(2, .pointer (some ⟨t2, 0, none⟩)), (3, .pointer (some ⟨t3, 0, none⟩)), (10, .int .i64 t10), (11, .int .i64 t11)]
def short_empty.j1 (t2 : Nat) (t3 : Nat)  (E : Value → Hp → Prop) (H : Hp) (K : (Option Addr) → Nat → Nat → (Option Addr) → Nat → Nat → Hp → Prop) : Prop := nodeM P0 T0 short_empty.A short_empty.code [1, 1, 1] [] (short_empty.rq E K) [(2, .pointer (some ⟨t2, 0, none⟩)), (3, .pointer (some ⟨t3, 0, none⟩))] H
def short_empty.l1 (t2 : Nat) (t3 : Nat) (t10 : Int) (t11 : Int)  (E : Value → Hp → Prop) (H : Hp) (K : (Option Addr) → Nat → Nat → (Option Addr) → Nat → Nat → Hp → Prop) : Prop := nodeM P0 T0 short_empty.A short_empty.code [1, 1, 0, 1, 0] [] (short_empty.rq E K) (short_empty.f1 t2 t3 t10 t11) H
def short_empty.b1 (t2 : Nat) (t3 : Nat) (t10 : Int) (t11 : Int)  (X1 : Fr → Hp → Prop) (E : Value → Hp → Prop) (H : Hp) (K : (Option Addr) → Nat → Nat → (Option Addr) → Nat → Nat → Hp → Prop) : Prop := nodeM P0 T0 short_empty.A short_empty.code [1, 1, 0, 1, 0, 0] [X1] (short_empty.rq E K) (short_empty.f1 t2 t3 t10 t11) H
theorem short_empty.l1_rule { E : Value → Hp → Prop} {K : (Option Addr) → Nat → Nat → (Option Addr) → Nat → Nat → Hp → Prop} (I : Nat → Nat → Int → Int → Hp → Prop) (μ : Nat → Nat → Int → Int → Hp → Nat)
    (h : ∀ t2 t3 t10 t11 H, I t2 t3 t10 t11 H → ∀ X : Fr → Hp → Prop, (∀ t2' t3' t10' t11' H', I t2' t3' t10' t11' H' → μ t2' t3' t10' t11' H' < μ t2 t3 t10 t11 H → X (short_empty.f1 t2' t3' t10' t11') H') → short_empty.b1 t2 t3 t10 t11  X E H K)
    {t2 : Nat} {t3 : Nat} {t10 : Int} {t11 : Int} {H : Hp} (hI : I t2 t3 t10 t11 H) : short_empty.l1 t2 t3 t10 t11  E H K :=
  loop_rule (S := Nat × Nat × Int × Int) (fun s => short_empty.f1 (s.1) (s.2.1) (s.2.2.1) (s.2.2.2)) (fun s H => I (s.1) (s.2.1) (s.2.2.1) (s.2.2.2) H) (fun s H => μ (s.1) (s.2.1) (s.2.2.1) (s.2.2.2) H) (fun s H hI X hX => h (s.1) (s.2.1) (s.2.2.1) (s.2.2.2) H hI X fun t2' t3' t10' t11' H' hI' hlt => hX (t2', t3', t10', t11') H' hI' hlt) (s := (t2, t3, t10, t11)) rfl hI
theorem short_empty.nok : nodesOk short_empty.code [[0, 1, 0, 1, 1], [1, 1, 1]] = true := by kernel_rfl
def short_empty.run_t (l1 : Nat → Nat → Int → Int → Hp → Prop) (n0 : Int)  (E : Value → Hp → Prop) (H : Hp) (K : (Option Addr) → Nat → Nat → (Option Addr) → Nat → Nat → Hp → Prop) : Prop :=
  nw H ⟨[.slice none 0 0, .slice none 0 0], 54⟩ fun b_1 H_1 =>
  mkS n0 n0 2 [.i .i64] 8 H_1 fun b_2 H_2 =>
  mkS n0 n0 3 [.i .i64] 8 H_2 fun b_3 H_3 =>
  nw H_3 ⟨[.slice none 0 0, .slice none 0 0], 54⟩ fun b_4 H_4 =>
  stC H_4 b_4 0 [.slice (some ⟨b_2, 0, none⟩) n0.toNat n0.toNat, .slice (some ⟨b_3, 0, none⟩) n0.toNat n0.toNat] fun H_5 =>
  l1 b_1 b_4 n0 0 H_5
theorem short_empty.run_eq {n0 : Int} { E : Value → Hp → Prop} {H : Hp} {K : (Option Addr) → Nat → Nat → (Option Addr) → Nat → Nat → Hp → Prop} (h : short_empty.run_t (fun t2 t3 t10 t11 H => short_empty.l1 t2 t3 t10 t11  E H K) n0  E H K) : short_empty.run n0  E H K := by
  have k1 : ∀ G : List Nat → Fr → Hp → Prop, nodeR P0 T0 short_empty.A [[0, 1, 0, 1, 1], [1, 1, 1]] G short_empty.code [] [] (short_empty.rq E K) (argF 0 [.int .i64 n0]) H = short_empty.run_t (fun t2 t3 t10 t11 H => G [0, 1, 0, 1, 1] [(2, .pointer (some ⟨t2, 0, none⟩)), (3, .pointer (some ⟨t3, 0, none⟩)), (10, .int .i64 t10), (11, .int .i64 t11)] H) n0  E H K := fun G => by kernel_rfl
  have k2 : short_empty.run_t (fun t2 t3 t10 t11 H => short_empty.l1 t2 t3 t10 t11  E H K) n0  E H K = short_empty.run_t (fun t2 t3 t10 t11 H => (fun q F H => nodeM P0 T0 short_empty.A short_empty.code q.reverse [] (short_empty.rq E K) F H) [0, 1, 0, 1, 1] [(2, .pointer (some ⟨t2, 0, none⟩)), (3, .pointer (some ⟨t3, 0, none⟩)), (10, .int .i64 t10), (11, .int .i64 t11)] H) n0  E H K := by kernel_rfl
  exact nodeR_imp short_empty.nok rfl ((k1 _).mpr (k2.mp h))
def short_empty.j1_t  (t2 : Nat) (t3 : Nat)  (E : Value → Hp → Prop) (H : Hp) (K : (Option Addr) → Nat → Nat → (Option Addr) → Nat → Nat → Hp → Prop) : Prop :=
  ldS (H.get t3 0) fun x_1p x_1n x_1c =>
  ldS (H.get t3 1) fun x_2p x_2n x_2c =>
  stC H t2 0 [.slice x_1p x_1n x_1c, .slice x_2p x_2n x_2c] fun H_1 =>
  ldS (H_1.get t2 0) fun x_3p x_3n x_3c =>
  ldS (H_1.get t2 1) fun x_4p x_4n x_4c =>
  K x_3p x_3n x_3c x_4p x_4n x_4c H_1
theorem short_empty.j1_eq {t2 : Nat} {t3 : Nat} { E : Value → Hp → Prop} {H : Hp} {K : (Option Addr) → Nat → Nat → (Option Addr) → Nat → Nat → Hp → Prop} (h : short_empty.j1_t  t2 t3  E H K) : short_empty.j1 t2 t3  E H K := by
  have k1 : ∀ G : List Nat → Fr → Hp → Prop, nodeR P0 T0 short_empty.A [[0, 1, 0, 1, 1], [1, 1, 1]] G short_empty.code [1, 1, 1] [] (short_empty.rq E K) [(2, .pointer (some ⟨t2, 0, none⟩)), (3, .pointer (some ⟨t3, 0, none⟩))] H = short_empty.j1_t  t2 t3  E H K := fun G => by kernel_rfl
  exact nodeR_imp short_empty.nok rfl ((k1 _).mpr h)
def short_empty.b1_t (j1 : Nat → Nat → Hp → Prop) (t2 : Nat) (t3 : Nat) (t10 : Int) (t11 : Int) (X1 : Fr → Hp → Prop) (E : Value → Hp → Prop) (H : Hp) (K : (Option Addr) → Nat → Nat → (Option Addr) → Nat → Nat → Hp → Prop) : Prop :=
  bcase (decide ((t11 : Int) < t10)) (
  ldS (H.get t3 0) fun x_1p x_1n x_1c =>
  ldS (H.get t3 1) fun x_2p x_2n x_2c =>
  ix x_1p x_1n t11 1 fun b_1 o_1 =>
  stC H b_1 o_1 [.int .i64 4611686018427387904] fun H_1 =>
  (ldS (H_1.get t3 1) fun x_3p x_3n x_3c =>
  Value.slice x_3p x_3n x_3c = Value.slice x_2p x_2n x_2c) ∧
  ix x_2p x_2n t11 1 fun b_2 o_2 =>
  stC H_1 b_2 o_2 [.int .i64 (-1)] fun H_2 =>
  X1 (short_empty.f1 t2 t3 t10 (IntKind.wrap .i64 (t11 + 1))) H_2)
  (j1 t2 t3 H)
theorem short_empty.b1_eq {t2 : Nat} {t3 : Nat} {t10 : Int} {t11 : Int} {X1 : Fr → Hp → Prop} { E : Value → Hp → Prop} {H : Hp} {K : (Option Addr) → Nat → Nat → (Option Addr) → Nat → Nat → Hp → Prop} (h : short_empty.b1_t (fun t2 t3 H => short_empty.j1 t2 t3  E H K) t2 t3 t10 t11 X1 E H K) : short_empty.b1 t2 t3 t10 t11 X1 E H K := by
  have k1 : ∀ G : List Nat → Fr → Hp → Prop, nodeR P0 T0 short_empty.A [[0, 1, 0, 1, 1], [1, 1, 1]] G short_empty.code [1, 1, 0, 1, 0, 0] [X1] (short_empty.rq E K) (short_empty.f1 t2 t3 t10 t11) H = short_empty.b1_t (fun t2 t3 H => G [1, 1, 1] [(2, .pointer (some ⟨t2, 0, none⟩)), (3, .pointer (some ⟨t3, 0, none⟩))] H) t2 t3 t10 t11 X1 E H K := fun G => by kernel_rfl
  have k2 : short_empty.b1_t (fun t2 t3 H => short_empty.j1 t2 t3  E H K) t2 t3 t10 t11 X1 E H K = short_empty.b1_t (fun t2 t3 H => (fun q F H => nodeM P0 T0 short_empty.A short_empty.code q.reverse [X1] (short_empty.rq E K) F H) [1, 1, 1] [(2, .pointer (some ⟨t2, 0, none⟩)), (3, .pointer (some ⟨t3, 0, none⟩))] H) t2 t3 t10 t11 X1 E H K := by kernel_rfl
  exact nodeR_imp short_empty.nok rfl ((k1 _).mpr (k2.mp h))
/-! ### compass/short.relax (52) -/
noncomputable def short_relax.A : An := { live := [(0, [0, 1]), (1, [2, 3]), (2, [2, 3, 5]), (3, [2, 3, 5, 10, 11]), (4, [2, 3, 10, 11]), (5, [2, 3, 5, 10, 11]), (6, [2, 3, 5, 10, 11, 14, 15, 16]), (7, [2, 3, 5, 10, 11, 14, 15, 16]), (8, [2, 3, 5, 6, 7, 10, 11, 14, 15, 16]), (9, [2, 3, 6, 7, 10, 11, 14, 15, 16]), (10, [2, 3, 7, 10, 11, 14, 15, 16]), (11, [2, 3, 5, 10, 11, 14, 15, 16]), (12, [2, 3, 5, 10, 11]), (13, [2, 3, 5, 10, 11]), (14, [5])], ord := [(8, [0, 1, 2, 3, 4, 5, 6, 7, 8, 9, 10, 11, 12, 13, 14, 15, 16, 17, 18, 19, 20, 21, 22, 23, 24]), (9, [0, 1, 2, 3, 4, 5, 6, 7, 8, 9, 10, 11, 12, 13, 14, 15, 16, 17, 18, 19, 20, 21])], stb := [(9, [(19, [5, 7])])], pre := [(8, [[], [0], [], [2], [0, 1, 2, 3], [0, 1, 2, 3, 4], [0, 1, 2, 3, 4, 5], [0, 1, 2, 3, 4, 5, 6], [0, 1, 2, 3, 4, 5, 6, 7], [0, 1, 2, 3, 4, 5, 6, 7, 8], [0, 1, 2, 3, 4, 5, 6, 7], [0, 1, 2, 3, 4, 5, 6, 7, 10], [0, 1, 2, 3, 4, 5, 6, 7, 8, 9, 10, 11], [0, 1, 2, 3, 4, 5, 6, 7, 8, 9, 10, 11, 12], [0, 1, 2, 3, 4, 5, 6, 7], [0, 1, 2, 3, 4, 5, 6, 7, 14], [0, 1, 2, 3, 4, 5, 6, 7, 8, 9, 10, 11, 12, 13, 14, 15], [0, 1, 2, 3, 4, 5, 6, 7], [0, 1, 2, 3, 4, 5, 6, 7, 17], [0, 1, 2, 3, 4, 5, 6, 7], [0, 1, 2, 3, 4, 5, 6, 7, 19], [0, 1, 2, 3, 4, 5, 6, 7, 17, 18, 19, 20], [0, 1, 2, 3, 4, 5, 6, 7, 17, 18, 19, 20, 21], [0, 1, 2, 3, 4, 5, 6, 7, 8, 9, 10, 11, 12, 13, 14, 15, 16, 17, 18, 19, 20, 21, 22], [0, 1, 2, 3, 4, 5, 6, 7, 8, 9, 10, 11, 12, 13, 14, 15, 16, 17, 18, 19, 20, 21, 22, 23]]), (9, [[], [0], [], [2], [], [4], [], [6], [], [8], [], [10], [8, 9, 10, 11], [8, 9, 10, 11, 12], [], [14], [8, 9, 10, 11, 12, 13, 14, 15], [], [0, 1, 2, 3, 8, 9, 10, 11, 12, 13, 14, 15, 16], [0, 1, 2, 3, 8, 9, 10, 11, 12, 13, 14, 15, 16, 18], [0, 1, 2, 3, 4, 5, 6, 7, 8, 9, 10, 11, 12, 13, 14, 15, 16, 17, 18, 19], [0, 1, 2, 3, 4, 5, 6, 7, 8, 9, 10, 11, 12, 13, 14, 15, 16, 17, 18, 19, 20]])] }
noncomputable def short_relax.code : Code := bodyOf Go.Proofs.Try.f52
theorem short_relax.ok : okCode short_relax.A 73 short_relax.code = true := by kernel_rfl
def short_relax.rq (E : Value → Hp → Prop) (K : Int → Hp → Prop) : Ex → Fr → Hp → Prop := retQ T0 [.tmp 4] [3] (fun r H => ldR (.one false [.i .i64]) r fun u => K (asI u) H) E
def short_relax.run (g0_Nodes : Int) (g0_Edgesp : Option Addr) (g0_Edgesn : Nat) (g0_Edgesc : Nat) (t1_Distp : Option Addr) (t1_Distn : Nat) (t1_Distc : Nat) (t1_Viap : Option Addr) (t1_Vian : Nat) (t1_Viac : Nat) (E : Value → Hp → Prop) (H : Hp) (K : Int → Hp → Prop) : Prop := nodeM P0 T0 short_relax.A short_relax.code [] [] (short_relax.rq E K) (argF 0 [.agg ⟨[.int .i64 g0_Nodes, .slice g0_Edgesp g0_Edgesn g0_Edgesc]⟩, .agg ⟨[.slice t1_Distp t1_Distn t1_Distc, .slice t1_Viap t1_Vian t1_Viac]⟩]) H
theorem short_relax.of {g0_Nodes : Int} {g0_Edgesp : Option Addr} {g0_Edgesn : Nat} {g0_Edgesc : Nat} {t1_Distp : Option Addr} {t1_Distn : Nat} {t1_Distc : Nat} {t1_Viap : Option Addr} {t1_Vian : Nat} {t1_Viac : Nat} {E : Value → Hp → Prop} {H : Hp} {K : Int → Hp → Prop} (h : short_relax.run g0_Nodes g0_Edgesp g0_Edgesn g0_Edgesc t1_Distp t1_Distn t1_Distc t1_Viap t1_Vian t1_Viac E H K) : short_relax.call g0_Nodes g0_Edgesp g0_Edgesn g0_Edgesc t1_Distp t1_Distn t1_Distc t1_Viap t1_Vian t1_Viac E H K :=
  callW_of T0_ok P0_mixed (A := short_relax.A) (fn := Go.Proofs.Try.f52) Go.Proofs.Try.func52 rfl short_relax.ok rfl h
noncomputable def short_relax.f1 (g2 : Nat) (t3 : Nat) (last5 : Int) (t10 : Int) (t11 : Int) : Fr := [(2, .pointer (some ⟨g2, 0, none⟩)), (3, .pointer (some ⟨t3, 0, none⟩)), (5, .int .i64 last5), (10, .int .i64 t10), (11, .int .i64 t11)]
noncomputable def short_relax.f2 (g2 : Nat) (t3 : Nat) (last5 : Int) (t10 : Int) (t11 : Int) (t14p : Option Addr) (t14n : Nat) (t14c : Nat) (t15 : Int) (t16 : Int) : Fr := [(2, .pointer (some ⟨g2, 0, none⟩)), (3, .pointer (some ⟨t3, 0, none⟩)), (5, .int .i64 last5), (10, .int .i64 t10), (11, .int .i64 t11), (14, .slice t14p t14n t14c), (15, .int .i64 t15), (16, .int .i64 t16)]
def short_relax.j1 (g2 : Nat) (t3 : Nat) (last5 : Int) (t10 : Int) (t11 : Int) (t14p : Option Addr) (t14n : Nat) (t14c : Nat) (t15 : Int) (t16 : Int) (X1 : Fr → Hp → Prop) (X2 : Fr → Hp → Prop) (E : Value → Hp → Prop) (H : Hp) (K : Int → Hp → Prop) : Prop := nodeM P0 T0 short_relax.A short_relax.code [1, 1, 0, 1, 0, 0, 1, 1, 0, 0, 1, 0, 1, 0, 0, 1, 1, 1] [X1, X2] (short_relax.rq E K) [(2, .pointer (some ⟨g2, 0, none⟩)), (3, .pointer (some ⟨t3, 0, none⟩)), (5, .int .i64 last5), (10, .int .i64 t10), (11, .int .i64 t11), (14, .slice t14p t14n t14c), (15, .int .i64 t15), (16, .int .i64 t16)] H
def short_relax.j2 (g2 : Nat) (t3 : Nat) (last5 : Int) (t10 : Int) (t11 : Int) (X1 : Fr → Hp → Prop) (E : Value → Hp → Prop) (H : Hp) (K : Int → Hp → Prop) : Prop := nodeM P0 T0 short_relax.A short_relax.code [1, 1, 0, 1, 0, 0, 1, 1, 0, 0, 1, 1] [X1] (short_relax.rq E K) [(2, .pointer (some ⟨g2, 0, none⟩)), (3, .pointer (some ⟨t3, 0, none⟩)), (5, .int .i64 last5), (10, .int .i64 t10), (11, .int .i64 t11)] H
def short_relax.l1 (g2 : Nat) (t3 : Nat) (last5 : Int) (t10 : Int) (t11 : Int)  (E : Value → Hp → Prop) (H : Hp) (K : Int → Hp → Prop) : Prop := nodeM P0 T0 short_relax.A short_relax.code [1, 1, 0, 1, 0] [] (short_relax.rq E K) (short_relax.f1 g2 t3 last5 t10 t11) H
def short_relax.b1 (g2 : Nat) (t3 : Nat) (last5 : Int) (t10 : Int) (t11 : Int)  (X1 : Fr → Hp → Prop) (E : Value → Hp → Prop) (H : Hp) (K : Int → Hp → Prop) : Prop := nodeM P0 T0 short_relax.A short_relax.code [1, 1, 0, 1, 0, 0] [X1] (short_relax.rq E K) (short_relax.f1 g2 t3 last5 t10 t11) H
theorem short_relax.l1_rule { E : Value → Hp → Prop} {K : Int → Hp → Prop} (I : Nat → Nat → Int → Int → Int → Hp → Prop) (μ : Nat → Nat → Int → Int → Int → Hp → Nat)
    (h : ∀ g2 t3 last5 t10 t11 H, I g2 t3 last5 t10 t11 H → ∀ X : Fr → Hp → Prop, (∀ g2' t3' last5' t10' t11' H', I g2' t3' last5' t10' t11' H' → μ g2' t3' last5' t10' t11' H' < μ g2 t3 last5 t10 t11 H → X (short_relax.f1 g2' t3' last5' t10' t11') H') → short_relax.b1 g2 t3 last5 t10 t11  X E H K)
    {g2 : Nat} {t3 : Nat} {last5 : Int} {t10 : Int} {t11 : Int} {H : Hp} (hI : I g2 t3 last5 t10 t11 H) : short_relax.l1 g2 t3 last5 t10 t11  E H K :=
  loop_rule (S := Nat × Nat × Int × Int × Int) (fun s => short_relax.f1 (s.1) (s.2.1) (s.2.2.1) (s.2.2.2.1) (s.2.2.2.2)) (fun s H => I (s.1) (s.2.1) (s.2.2.1) (s.2.2.2.1) (s.2.2.2.2) H) (fun s H => μ (s.1) (s.2.1) (s.2.2.1) (s.2.2.2.1) (s.2.2.2.2) H) (fun s H hI X hX => h (s.1) (s.2.1) (s.2.2.1) (s.2.2.2.1) (s.2.2.2.2) H hI X fun g2' t3' last5' t10' t11' H' hI' hlt => hX (g2', t3', last5', t10', t11') H' hI' hlt) (s := (g2, t3, last5, t10, t11)) rfl hI
def short_relax.l2 (g2 : Nat) (t3 : Nat) (last5 : Int) (t10 : Int) (t11 : Int) (t14p : Option Addr) (t14n : Nat) (t14c : Nat) (t15 : Int) (t16 : Int) (X1 : Fr → Hp → Prop) (E : Value → Hp → Prop) (H : Hp) (K : Int → Hp → Prop) : Prop := nodeM P0 T0 short_relax.A short_relax.code [1, 1, 0, 1, 0, 0, 1, 1, 0, 0, 1, 0, 1, 0] [X1] (short_relax.rq E K) (short_relax.f2 g2 t3 last5 t10 t11 t14p t14n t14c t15 t16) H
def short_relax.b2 (g2 : Nat) (t3 : Nat) (last5 : Int) (t10 : Int) (t11 : Int) (t14p : Option Addr) (t14n : Nat) (t14c : Nat) (t15 : Int) (t16 : Int) (X1 : Fr → Hp → Prop) (X2 : Fr → Hp → Prop) (E : Value → Hp → Prop) (H : Hp) (K : Int → Hp → Prop) : Prop := nodeM P0 T0 short_relax.A short_relax.code [1, 1, 0, 1, 0, 0, 1, 1, 0, 0, 1, 0, 1, 0, 0] [X1, X2] (short_relax.rq E K) (short_relax.f2 g2 t3 last5 t10 t11 t14p t14n t14c t15 t16) H
theorem short_relax.l2_rule {X1 : Fr → Hp → Prop} { E : Value → Hp → Prop} {K : Int → Hp → Prop} (I : Nat → Nat → Int → Int → Int → (Option Addr) → Nat → Nat → Int → Int → Hp → Prop) (μ : Nat → Nat → Int → Int → Int → (Option Addr) → Nat → Nat → Int → Int → Hp → Nat)
    (h : ∀ g2 t3 last5 t10 t11 t14p t14n t14c t15 t16 H, I g2 t3 last5 t10 t11 t14p t14n t14c t15 t16 H → ∀ X : Fr → Hp → Prop, (∀ g2' t3' last5' t10' t11' t14p' t14n' t14c' t15' t16' H', I g2' t3' last5' t10' t11' t14p' t14n' t14c' t15' t16' H' → μ g2' t3' last5' t10' t11' t14p' t14n' t14c' t15' t16' H' < μ g2 t3 last5 t10 t11 t14p t14n t14c t15 t16 H → X (short_relax.f2 g2' t3' last5' t10' t11' t14p' t14n' t14c' t15' t16') H') → short_relax.b2 g2 t3 last5 t10 t11 t14p t14n t14c t15 t16 X1 X E H K)
    {g2 : Nat} {t3 : Nat} {last5 : Int} {t10 : Int} {t11 : Int} {t14p : Option Addr} {t14n : Nat} {t14c : Nat} {t15 : Int} {t16 : Int} {H : Hp} (hI : I g2 t3 last5 t10 t11 t14p t14n t14c t15 t16 H) : short_relax.l2 g2 t3 last5 t10 t11 t14p t14n t14c t15 t16 X1 E H K :=
  loop_rule (S := Nat × Nat × Int × Int × Int × (Option Addr) × Nat × Nat × Int × Int) (fun s => short_relax.f2 (s.1) (s.2.1) (s.2.2.1) (s.2.2.2.1) (s.2.2.2.2.1) (s.2.2.2.2.2.1) (s.2.2.2.2.2.2.1) (s.2.2.2.2.2.2.2.1) (s.2.2.2.2.2.2.2.2.1) (s.2.2.2.2.2.2.2.2.2)) (fun s H => I (s.1) (s.2.1) (s.2.2.1) (s.2.2.2.1) (s.2.2.2.2.1) (s.2.2.2.2.2.1) (s.2.2.2.2.2.2.1) (s.2.2.2.2.2.2.2.1) (s.2.2.2.2.2.2.2.2.1) (s.2.2.2.2.2.2.2.2.2) H) (fun s H => μ (s.1) (s.2.1) (s.2.2.1) (s.2.2.2.1) (s.2.2.2.2.1) (s.2.2.2.2.2.1) (s.2.2.2.2.2.2.1) (s.2.2.2.2.2.2.2.1) (s.2.2.2.2.2.2.2.2.1) (s.2.2.2.2.2.2.2.2.2) H) (fun s H hI X hX => h (s.1) (s.2.1) (s.2.2.1) (s.2.2.2.1) (s.2.2.2.2.1) (s.2.2.2.2.2.1) (s.2.2.2.2.2.2.1) (s.2.2.2.2.2.2.2.1) (s.2.2.2.2.2.2.2.2.1) (s.2.2.2.2.2.2.2.2.2) H hI X fun g2' t3' last5' t10' t11' t14p' t14n' t14c' t15' t16' H' hI' hlt => hX (g2', t3', last5', t10', t11', t14p', t14n', t14c', t15', t16') H' hI' hlt) (s := (g2, t3, last5, t10, t11, t14p, t14n, t14c, t15, t16)) rfl hI
theorem short_relax.nok : nodesOk short_relax.code [[0, 1, 0, 1, 1], [0, 1, 0, 1, 0, 0, 1, 1, 0, 0, 1, 0, 1, 1], [1, 1, 1, 0, 0, 1, 0, 1, 0, 0, 1, 1, 0, 0, 1, 0, 1, 1], [1, 1, 0, 0, 1, 1, 0, 0, 1, 0, 1, 1]] = true := by kernel_rfl
def short_relax.run_t (l1 : Nat → Nat → Int → Int → Int → Hp → Prop) (g0_Nodes : Int) (g0_Edgesp : Option Addr) (g0_Edgesn : Nat) (g0_Edgesc : Nat) (t1_Distp : Option Addr) (t1_Distn : Nat) (t1_Distc : Nat) (t1_Viap : Option Addr) (t1_Vian : Nat) (t1_Viac : Nat)  (E : Value → Hp → Prop) (H : Hp) (K : Int → Hp → Prop) : Prop :=
  nw H ⟨[.int .i64 g0_Nodes, .slice g0_Edgesp g0_Edgesn g0_Edgesc], 51⟩ fun b_1 H_1 =>
  nw H_1 ⟨[.slice t1_Distp t1_Distn t1_Distc, .slice t1_Viap t1_Vian t1_Viac], 54⟩ fun b_2 H_2 =>
  ldI .i64 (H_2.get b_1 0) fun x_1 =>
  l1 b_1 b_2 (-1) (IntKind.wrap .i64 (x_1 + 1)) 0 H_2
theorem short_relax.run_eq {g0_Nodes : Int} {g0_Edgesp : Option Addr} {g0_Edgesn : Nat} {g0_Edgesc : Nat} {t1_Distp : Option Addr} {t1_Distn : Nat} {t1_Distc : Nat} {t1_Viap : Option Addr} {t1_Vian : Nat} {t1_Viac : Nat} { E : Value → Hp → Prop} {H : Hp} {K : Int → Hp → Prop} (h : short_relax.run_t (fun g2 t3 last5 t10 t11 H => short_relax.l1 g2 t3 last5 t10 t11  E H K) g0_Nodes g0_Edgesp g0_Edgesn g0_Edgesc t1_Distp t1_Distn t1_Distc t1_Viap t1_Vian t1_Viac  E H K) : short_relax.run g0_Nodes g0_Edgesp g0_Edgesn g0_Edgesc t1_Distp t1_Distn t1_Distc t1_Viap t1_Vian t1_Viac  E H K := by
  have k1 : ∀ G : List Nat → Fr → Hp → Prop, nodeR P0 T0 short_relax.A [[0, 1, 0, 1, 1], [0, 1, 0, 1, 0, 0, 1, 1, 0, 0, 1, 0, 1, 1], [1, 1, 1, 0, 0, 1, 0, 1, 0, 0, 1, 1, 0, 0, 1, 0, 1, 1], [1, 1, 0, 0, 1, 1, 0, 0, 1, 0, 1, 1]] G short_relax.code [] [] (short_relax.rq E K) (argF 0 [.agg ⟨[.int .i64 g0_Nodes, .slice g0_Edgesp g0_Edgesn g0_Edgesc]⟩, .agg ⟨[.slice t1_Distp t1_Distn t1_Distc, .slice t1_Viap t1_Vian t1_Viac]⟩]) H = short_relax.run_t (fun g2 t3 last5 t10 t11 H => G [0, 1, 0, 1, 1] [(2, .pointer (some ⟨g2, 0, none⟩)), (3, .pointer (some ⟨t3, 0, none⟩)), (5, .int .i64 last5), (10, .int .i64 t10), (11, .int .i64 t11)] H) g0_Nodes g0_Edgesp g0_Edgesn g0_Edgesc t1_Distp t1_Distn t1_Distc t1_Viap t1_Vian t1_Viac  E H K := fun G => by kernel_rfl
  have k2 : short_relax.run_t (fun g2 t3 last5 t10 t11 H => short_relax.l1 g2 t3 last5 t10 t11  E H K) g0_Nodes g0_Edgesp g0_Edgesn g0_Edgesc t1_Distp t1_Distn t1_Distc t1_Viap t1_Vian t1_Viac  E H K = short_relax.run_t (fun g2 t3 last5 t10 t11 H => (fun q F H => nodeM P0 T0 short_relax.A short_relax.code q.reverse [] (short_relax.rq E K) F H) [0, 1, 0, 1, 1] [(2, .pointer (some ⟨g2, 0, none⟩)), (3, .pointer (some ⟨t3, 0, none⟩)), (5, .int .i64 last5), (10, .int .i64 t10), (11, .int .i64 t11)] H) g0_Nodes g0_Edgesp g0_Edgesn g0_Edgesc t1_Distp t1_Distn t1_Distc t1_Viap t1_Vian t1_Viac  E H K := by kernel_rfl
  exact nodeR_imp short_relax.nok rfl ((k1 _).mpr (k2.mp h))
def short_relax.j1_t  (g2 : Nat) (t3 : Nat) (last5 : Int) (t10 : Int) (t11 : Int) (t14p : Option Addr) (t14n : Nat) (t14c : Nat) (t15 : Int) (t16 : Int) (X1 : Fr → Hp → Prop) (X2 : Fr → Hp → Prop) (E : Value → Hp → Prop) (H : Hp) (K : Int → Hp → Prop) : Prop :=
  X2 (short_relax.f2 g2 t3 last5 t10 t11 t14p t14n t14c t15 (IntKind.wrap .i64 (t16 + 1))) H
theorem short_relax.j1_eq {g2 : Nat} {t3 : Nat} {last5 : Int} {t10 : Int} {t11 : Int} {t14p : Option Addr} {t14n : Nat} {t14c : Nat} {t15 : Int} {t16 : Int} {X1 X2 : Fr → Hp → Prop} { E : Value → Hp → Prop} {H : Hp} {K : Int → Hp → Prop} (h : short_relax.j1_t  g2 t3 last5 t10 t11 t14p t14n t14c t15 t16 X1 X2 E H K) : short_relax.j1 g2 t3 last5 t10 t11 t14p t14n t14c t15 t16 X1 X2 E H K := by
  have k1 : ∀ G : List Nat → Fr → Hp → Prop, nodeR P0 T0 short_relax.A [[0, 1, 0, 1, 1], [0, 1, 0, 1, 0, 0, 1, 1, 0, 0, 1, 0, 1, 1], [1, 1, 1, 0, 0, 1, 0, 1, 0, 0, 1, 1, 0, 0, 1, 0, 1, 1], [1, 1, 0, 0, 1, 1, 0, 0, 1, 0, 1, 1]] G short_relax.code [1, 1, 0, 1, 0, 0, 1, 1, 0, 0, 1, 0, 1, 0, 0, 1, 1, 1] [X1, X2] (short_relax.rq E K) [(2, .pointer (some ⟨g2, 0, none⟩)), (3, .pointer (some ⟨t3, 0, none⟩)), (5, .int .i64 last5), (10, .int .i64 t10), (11, .int .i64 t11), (14, .slice t14p t14n t14c), (15, .int .i64 t15), (16, .int .i64 t16)] H = short_relax.j1_t  g2 t3 last5 t10 t11 t14p t14n t14c t15 t16 X1 X2 E H K := fun G => by kernel_rfl
  exact nodeR_imp short_relax.nok rfl ((k1 _).mpr h)
def short_relax.j2_t  (g2 : Nat) (t3 : Nat) (last5 : Int) (t10 : Int) (t11 : Int) (X1 : Fr → Hp → Prop) (E : Value → Hp → Prop) (H : Hp) (K : Int → Hp → Prop) : Prop :=
  bcase (decide ((last5 : Int) < 0)) (
  K last5 H)
  (X1 (short_relax.f1 g2 t3 last5 t10 (IntKind.wrap .i64 (t11 + 1))) H)
theorem short_relax.j2_eq {g2 : Nat} {t3 : Nat} {last5 : Int} {t10 : Int} {t11 : Int} {X1 : Fr → Hp → Prop} { E : Value → Hp → Prop} {H : Hp} {K : Int → Hp → Prop} (h : short_relax.j2_t  g2 t3 last5 t10 t11 X1 E H K) : short_relax.j2 g2 t3 last5 t10 t11 X1 E H K := by
  have k1 : ∀ G : List Nat → Fr → Hp → Prop, nodeR P0 T0 short_relax.A [[0, 1, 0, 1, 1], [0, 1, 0, 1, 0, 0, 1, 1, 0, 0, 1, 0, 1, 1], [1, 1, 1, 0, 0, 1, 0, 1, 0, 0, 1, 1, 0, 0, 1, 0, 1, 1], [1, 1, 0, 0, 1, 1, 0, 0, 1, 0, 1, 1]] G short_relax.code [1, 1, 0, 1, 0, 0, 1, 1, 0, 0, 1, 1] [X1] (short_relax.rq E K) [(2, .pointer (some ⟨g2, 0, none⟩)), (3, .pointer (some ⟨t3, 0, none⟩)), (5, .int .i64 last5), (10, .int .i64 t10), (11, .int .i64 t11)] H = short_relax.j2_t  g2 t3 last5 t10 t11 X1 E H K := fun G => by kernel_rfl
  exact nodeR_imp short_relax.nok rfl ((k1 _).mpr h)
def short_relax.b1_t (l2 : Nat → Nat → Int → Int → Int → (Option Addr) → Nat → Nat → Int → Int → Hp → Prop) (g2 : Nat) (t3 : Nat) (last5 : Int) (t10 : Int) (t11 : Int) (X1 : Fr → Hp → Prop) (E : Value → Hp → Prop) (H : Hp) (K : Int → Hp → Prop) : Prop :=
  bcase (decide ((t11 : Int) < t10)) (
  ldS (H.get g2 1) fun x_1p x_1n x_1c =>
  l2 g2 t3 (-1) t10 t11 x_1p x_1n x_1c (x_1n : Int) 0 H)
  (K last5 H)
theorem short_relax.b1_eq {g2 : Nat} {t3 : Nat} {last5 : Int} {t10 : Int} {t11 : Int} {X1 : Fr → Hp → Prop} { E : Value → Hp → Prop} {H : Hp} {K : Int → Hp → Prop} (h : short_relax.b1_t (fun g2 t3 last5 t10 t11 t14p t14n t14c t15 t16 H => short_relax.l2 g2 t3 last5 t10 t11 t14p t14n t14c t15 t16 X1 E H K) g2 t3 last5 t10 t11 X1 E H K) : short_relax.b1 g2 t3 last5 t10 t11 X1 E H K := by
  have k1 : ∀ G : List Nat → Fr → Hp → Prop, nodeR P0 T0 short_relax.A [[0, 1, 0, 1, 1], [0, 1, 0, 1, 0, 0, 1, 1, 0, 0, 1, 0, 1, 1], [1, 1, 1, 0, 0, 1, 0, 1, 0, 0, 1, 1, 0, 0, 1, 0, 1, 1], [1, 1, 0, 0, 1, 1, 0, 0, 1, 0, 1, 1]] G short_relax.code [1, 1, 0, 1, 0, 0] [X1] (short_relax.rq E K) (short_relax.f1 g2 t3 last5 t10 t11) H = short_relax.b1_t (fun g2 t3 last5 t10 t11 t14p t14n t14c t15 t16 H => G [0, 1, 0, 1, 0, 0, 1, 1, 0, 0, 1, 0, 1, 1] [(2, .pointer (some ⟨g2, 0, none⟩)), (3, .pointer (some ⟨t3, 0, none⟩)), (5, .int .i64 last5), (10, .int .i64 t10), (11, .int .i64 t11), (14, .slice t14p t14n t14c), (15, .int .i64 t15), (16, .int .i64 t16)] H) g2 t3 last5 t10 t11 X1 E H K := fun G => by kernel_rfl
  have k2 : short_relax.b1_t (fun g2 t3 last5 t10 t11 t14p t14n t14c t15 t16 H => short_relax.l2 g2 t3 last5 t10 t11 t14p t14n t14c t15 t16 X1 E H K) g2 t3 last5 t10 t11 X1 E H K = short_relax.b1_t (fun g2 t3 last5 t10 t11 t14p t14n t14c t15 t16 H => (fun q F H => nodeM P0 T0 short_relax.A short_relax.code q.reverse [X1] (short_relax.rq E K) F H) [0, 1, 0, 1, 0, 0, 1, 1, 0, 0, 1, 0, 1, 1] [(2, .pointer (some ⟨g2, 0, none⟩)), (3, .pointer (some ⟨t3, 0, none⟩)), (5, .int .i64 last5), (10, .int .i64 t10), (11, .int .i64 t11), (14, .slice t14p t14n t14c), (15, .int .i64 t15), (16, .int .i64 t16)] H) g2 t3 last5 t10 t11 X1 E H K := by kernel_rfl
  exact nodeR_imp short_relax.nok rfl ((k1 _).mpr (k2.mp h))
def short_relax.b2_t (j1 : Nat → Nat → Int → Int → Int → (Option Addr) → Nat → Nat → Int → Int → Hp → Prop) (j2 : Nat → Nat → Int → Int → Int → Hp → Prop) (g2 : Nat) (t3 : Nat) (last5 : Int) (t10 : Int) (t11 : Int) (t14p : Option Addr) (t14n : Nat) (t14c : Nat) (t15 : Int) (t16 : Int) (X1 : Fr → Hp → Prop) (X2 : Fr → Hp → Prop) (E : Value → Hp → Prop) (H : Hp) (K : Int → Hp → Prop) : Prop :=
  bcase (decide ((t16 : Int) < t15)) (
  ix t14p t14n t16 4 fun b_1 o_1 =>
  ldI .i64 (H.get b_1 o_1) fun x_1 =>
  ldI .i64 (H.get b_1 (o_1 + 1)) fun x_2 =>
  ldI .i64 (H.get b_1 (o_1 + 2)) fun x_3 =>
  ldI .i64 (H.get b_1 (o_1 + 3)) fun x_4 =>
  nw H ⟨[.int .i64 0, .int .i64 0, .int .i64 0, .int .i64 0], 69⟩ fun b_2 H_1 =>
  stC H_1 b_2 0 [.int .i64 x_1, .int .i64 x_2, .int .i64 x_3, .int .i64 x_4] fun H_2 =>
  ldS (H_2.get t3 0) fun x_5p x_5n x_5c =>
  ldI .i64 (H_2.get b_2 0) fun x_6 =>
  ix x_5p x_5n x_6 1 fun b_3 o_2 =>
  ldI .i64 (H_2.get b_3 o_2) fun x_7 =>
  bcase (decide ((x_7 : Int) < 4611686018427387904)) (
  ldS (H_2.get t3 0) fun x_8p x_8n x_8c =>
  ldI .i64 (H_2.get b_2 0) fun x_9 =>
  ix x_8p x_8n x_9 1 fun b_4 o_3 =>
  ldI .i64 (H_2.get b_4 o_3) fun x_10 =>
  ldI .i64 (H_2.get b_2 3) fun x_11 =>
  ldS (H_2.get t3 0) fun x_12p x_12n x_12c =>
  ldI .i64 (H_2.get b_2 1) fun x_13 =>
  ix x_12p x_12n x_13 1 fun b_5 o_4 =>
  ldI .i64 (H_2.get b_5 o_4) fun x_14 =>
  bcase (decide (((IntKind.wrap .i64 (x_10 + x_11)) : Int) < x_14)) (
  ldS (H_2.get t3 0) fun x_15p x_15n x_15c =>
  ldI .i64 (H_2.get b_2 1) fun x_16 =>
  ldS (H_2.get t3 1) fun x_17p x_17n x_17c =>
  ldI .i64 (H_2.get b_2 1) fun x_18 =>
  ldS (H_2.get t3 0) fun x_19p x_19n x_19c =>
  ldI .i64 (H_2.get b_2 0) fun x_20 =>
  ix x_19p x_19n x_20 1 fun b_6 o_5 =>
  ldI .i64 (H_2.get b_6 o_5) fun x_21 =>
  ldI .i64 (H_2.get b_2 3) fun x_22 =>
  ix x_15p x_15n x_16 1 fun b_7 o_6 =>
  stC H_2 b_7 o_6 [.int .i64 (IntKind.wrap .i64 (x_21 + x_22))] fun H_3 =>
  (ldS (H_3.get t3 1) fun x_25p x_25n x_25c =>
  Value.slice x_25p x_25n x_25c = Value.slice x_17p x_17n x_17c) ∧
  (ldI .i64 (H_3.get b_2 1) fun x_24 =>
  Value.int .i64 x_24 = Value.int .i64 x_18) ∧
  ix x_17p x_17n x_18 1 fun b_8 o_7 =>
  stC H_3 b_8 o_7 [.int .i64 t16] fun H_4 =>
  ldI .i64 (H_4.get b_2 1) fun x_23 =>
  j1 g2 t3 x_23 t10 t11 t14p t14n t14c t15 t16 H_4)
  (j1 g2 t3 last5 t10 t11 t14p t14n t14c t15 t16 H_2))
  (j1 g2 t3 last5 t10 t11 t14p t14n t14c t15 t16 H_2))
  (j2 g2 t3 last5 t10 t11 H)
theorem short_relax.b2_eq {g2 : Nat} {t3 : Nat} {last5 : Int} {t10 : Int} {t11 : Int} {t14p : Option Addr} {t14n : Nat} {t14c : Nat} {t15 : Int} {t16 : Int} {X1 X2 : Fr → Hp → Prop} { E : Value → Hp → Prop} {H : Hp} {K : Int → Hp → Prop} (h : short_relax.b2_t (fun g2 t3 last5 t10 t11 t14p t14n t14c t15 t16 H => short_relax.j1 g2 t3 last5 t10 t11 t14p t14n t14c t15 t16 X1 X2 E H K) (fun g2 t3 last5 t10 t11 H => short_relax.j2 g2 t3 last5 t10 t11 X1 E H K) g2 t3 last5 t10 t11 t14p t14n t14c t15 t16 X1 X2 E H K) : short_relax.b2 g2 t3 last5 t10 t11 t14p t14n t14c t15 t16 X1 X2 E H K := by
  have k1 : ∀ G : List Nat → Fr → Hp → Prop, nodeR P0 T0 short_relax.A [[0, 1, 0, 1, 1], [0, 1, 0, 1, 0, 0, 1, 1, 0, 0, 1, 0, 1, 1], [1, 1, 1, 0, 0, 1, 0, 1, 0, 0, 1, 1, 0, 0, 1, 0, 1, 1], [1, 1, 0, 0, 1, 1, 0, 0, 1, 0, 1, 1]] G short_relax.code [1, 1, 0, 1, 0, 0, 1, 1, 0, 0, 1, 0, 1, 0, 0] [X1, X2] (short_relax.rq E K) (short_relax.f2 g2 t3 last5 t10 t11 t14p t14n t14c t15 t16) H = short_relax.b2_t (fun g2 t3 last5 t10 t11 t14p t14n t14c t15 t16 H => G [1, 1, 1, 0, 0, 1, 0, 1, 0, 0, 1, 1, 0, 0, 1, 0, 1, 1] [(2, .pointer (some ⟨g2, 0, none⟩)), (3, .pointer (some ⟨t3, 0, none⟩)), (5, .int .i64 last5), (10, .int .i64 t10), (11, .int .i64 t11), (14, .slice t14p t14n t14c), (15, .int .i64 t15), (16, .int .i64 t16)] H) (fun g2 t3 last5 t10 t11 H => G [1, 1, 0, 0, 1, 1, 0, 0, 1, 0, 1, 1] [(2, .pointer (some ⟨g2, 0, none⟩)), (3, .pointer (some ⟨t3, 0, none⟩)), (5, .int .i64 last5), (10, .int .i64 t10), (11, .int .i64 t11)] H) g2 t3 last5 t10 t11 t14p t14n t14c t15 t16 X1 X2 E H K := fun G => by kernel_rfl
  have k2 : short_relax.b2_t (fun g2 t3 last5 t10 t11 t14p t14n t14c t15 t16 H => short_relax.j1 g2 t3 last5 t10 t11 t14p t14n t14c t15 t16 X1 X2 E H K) (fun g2 t3 last5 t10 t11 H => short_relax.j2 g2 t3 last5 t10 t11 X1 E H K) g2 t3 last5 t10 t11 t14p t14n t14c t15 t16 X1 X2 E H K = short_relax.b2_t (fun g2 t3 last5 t10 t11 t14p t14n t14c t15 t16 H => (fun q F H => nodeM P0 T0 short_relax.A short_relax.code q.reverse [X1, X2] (short_relax.rq E K) F H) [1, 1, 1, 0, 0, 1, 0, 1, 0, 0, 1, 1, 0, 0, 1, 0, 1, 1] [(2, .pointer (some ⟨g2, 0, none⟩)), (3, .pointer (some ⟨t3, 0, none⟩)), (5, .int .i64 last5), (10, .int .i64 t10), (11, .int .i64 t11), (14, .slice t14p t14n t14c), (15, .int .i64 t15), (16, .int .i64 t16)] H) (fun g2 t3 last5 t10 t11 H => (fun q F H => nodeM P0 T0 short_relax.A short_relax.code q.reverse [X1, X2] (short_relax.rq E K) F H) [1, 1, 0, 0, 1, 1, 0, 0, 1, 0, 1, 1] [(2, .pointer (some ⟨g2, 0, none⟩)), (3, .pointer (some ⟨t3, 0, none⟩)), (5, .int .i64 last5), (10, .int .i64 t10), (11, .int .i64 t11)] H) g2 t3 last5 t10 t11 t14p t14n t14c t15 t16 X1 X2 E H K := by kernel_rfl
  exact nodeR_imp short_relax.nok rfl ((k1 _).mpr (k2.mp h))
/-! ### compass/short.round (53) -/
noncomputable def short_round.A : An := { live := [(0, [0, 1, 2]), (1, [2, 3, 4]), (2, [2, 3, 4, 11, 12]), (3, [2, 3, 4, 11, 12]), (4, [2, 3, 4, 11, 12]), (5, [2, 3, 4]), (6, [2, 3, 4, 7]), (7, [2, 3, 4, 7, 8]), (8, [2, 3, 4, 7, 9]), (9, [2, 3, 4, 7, 9]), (10, [2, 3, 4, 7, 8]), (11, [7]), (12, [7])], ord := [(3, [0, 1, 2, 3, 4, 5, 6, 7, 8, 9, 10])], stb := [], pre := [(3, [[], [0], [], [2], [], [2, 3, 4], [2, 3, 4, 5], [0, 1, 2, 3, 4, 5, 6], [0, 1, 2, 3, 4, 5, 6, 7], [0, 1, 2, 3, 4, 5, 6, 7, 8], [0, 1, 2, 3, 4, 5, 6, 7, 8, 9]])] }
noncomputable def short_round.code : Code := bodyOf Go.Proofs.Try.f53
theorem short_round.ok : okCode short_round.A 47 short_round.code = true := by kernel_rfl
def short_round.rq (E : Value → Hp → Prop) (K : (Option Addr) → Nat → Nat → Hp → Prop) : Ex → Fr → Hp → Prop := retQ T0 [.tmp 6] [52] (fun r H => ldR (.one false [.sl]) r fun u => K (asS1 u) (asS2 u) (asS3 u) H) E
def short_round.run (g0_Nodes : Int) (g0_Edgesp : Option Addr) (g0_Edgesn : Nat) (g0_Edgesc : Nat) (t1_Distp : Option Addr) (t1_Distn : Nat) (t1_Distc : Nat) (t1_Viap : Option Addr) (t1_Vian : Nat) (t1_Viac : Nat) (v2 : Int) (E : Value → Hp → Prop) (H : Hp) (K : (Option Addr) → Nat → Nat → Hp → Prop) : Prop := nodeM P0 T0 short_round.A short_round.code [] [] (short_round.rq E K) (argF 0 [.agg ⟨[.int .i64 g0_Nodes, .slice g0_Edgesp g0_Edgesn g0_Edgesc]⟩, .agg ⟨[.slice t1_Distp t1_Distn t1_Distc, .slice t1_Viap t1_Vian t1_Viac]⟩, .int .i64 v2]) H
theorem short_round.of {g0_Nodes : Int} {g0_Edgesp : Option Addr} {g0_Edgesn : Nat} {g0_Edgesc : Nat} {t1_Distp : Option Addr} {t1_Distn : Nat} {t1_Distc : Nat} {t1_Viap : Option Addr} {t1_Vian : Nat} {t1_Viac : Nat} {v2 : Int} {E : Value → Hp → Prop} {H : Hp} {K : (Option Addr) → Nat → Nat → Hp → Prop} (h : short_round.run g0_Nodes g0_Edgesp g0_Edgesn g0_Edgesc t1_Distp t1_Distn t1_Distc t1_Viap t1_Vian t1_Viac v2 E H K) : short_round.call g0_Nodes g0_Edgesp g0_Edgesn g0_Edgesc t1_Distp t1_Distn t1_Distc t1_Viap t1_Vian t1_Viac v2 E H K :=
  callW_of T0_ok P0_mixed (A := short_round.A) (fn := Go.Proofs.Try.f53) Go.Proofs.Try.func53 rfl short_round.ok rfl h
noncomputable def short_round.f1 (v2 : Int) (g3 : Nat) (t4 : Nat) (t11 : Int) (t12 : Int) : Fr := [(2, .int .i64 v2), (3, .pointer (some ⟨g3, 0, none⟩)), (4, .pointer (some ⟨t4, 0, none⟩)), (11, .int .i64 t11), (12, .int .i64 t12)]
noncomputable def short_round.f2 (v2 : Int) (g3 : Nat) (t4 : Nat) (circle7p : Option Addr) (circle7n : Nat) (circle7c : Nat) (u8 : Int) : Fr := [(2, .int .i64 v2), (3, .pointer (some ⟨g3, 0, none⟩)), (4, .pointer (some ⟨t4, 0, none⟩)), (7, .slice circle7p circle7n circle7c), (8, .int .i64 u8)]
def short_round.j1 (v2 : Int) (g3 : Nat) (t4 : Nat)  (E : Value → Hp → Prop) (H : Hp) (K : (Option Addr) → Nat → Nat → Hp → Prop) : Prop := nodeM P0 T0 short_round.A short_round.code [1, 1] [] (short_round.rq E K) [(2, .int .i64 v2), (3, .pointer (some ⟨g3, 0, none⟩)), (4, .pointer (some ⟨t4, 0, none⟩))] H
def short_round.j2 (circle7p : Option Addr) (circle7n : Nat) (circle7c : Nat)  (E : Value → Hp → Prop) (H : Hp) (K : (Option Addr) → Nat → Nat → Hp → Prop) : Prop := nodeM P0 T0 short_round.A short_round.code [1, 1, 1, 1] [] (short_round.rq E K) [(7, .slice circle7p circle7n circle7c)] H
def short_round.l1 (v2 : Int) (g3 : Nat) (t4 : Nat) (t11 : Int) (t12 : Int)  (E : Value → Hp → Prop) (H : Hp) (K : (Option Addr) → Nat → Nat → Hp → Prop) : Prop := nodeM P0 T0 short_round.A short_round.code [1, 0, 1, 0] [] (short_round.rq E K) (short_round.f1 v2 g3 t4 t11 t12) H
def short_round.b1 (v2 : Int) (g3 : Nat) (t4 : Nat) (t11 : Int) (t12 : Int)  (X1 : Fr → Hp → Prop) (E : Value → Hp → Prop) (H : Hp) (K : (Option Addr) → Nat → Nat → Hp → Prop) : Prop := nodeM P0 T0 short_round.A short_round.code [1, 0, 1, 0, 0] [X1] (short_round.rq E K) (short_round.f1 v2 g3 t4 t11 t12) H
theorem short_round.l1_rule { E : Value → Hp → Prop} {K : (Option Addr) → Nat → Nat → Hp → Prop} (I : Int → Nat → Nat → Int → Int → Hp → Prop) (μ : Int → Nat → Nat → Int → Int → Hp → Nat)
    (h : ∀ v2 g3 t4 t11 t12 H, I v2 g3 t4 t11 t12 H → ∀ X : Fr → Hp → Prop, (∀ v2' g3' t4' t11' t12' H', I v2' g3' t4' t11' t12' H' → μ v2' g3' t4' t11' t12' H' < μ v2 g3 t4 t11 t12 H → X (short_round.f1 v2' g3' t4' t11' t12') H') → short_round.b1 v2 g3 t4 t11 t12  X E H K)
    {v2 : Int} {g3 : Nat} {t4 : Nat} {t11 : Int} {t12 : Int} {H : Hp} (hI : I v2 g3 t4 t11 t12 H) : short_round.l1 v2 g3 t4 t11 t12  E H K :=
  loop_rule (S := Int × Nat × Nat × Int × Int) (fun s => short_round.f1 (s.1) (s.2.1) (s.2.2.1) (s.2.2.2.1) (s.2.2.2.2)) (fun s H => I (s.1) (s.2.1) (s.2.2.1) (s.2.2.2.1) (s.2.2.2.2) H) (fun s H => μ (s.1) (s.2.1) (s.2.2.1) (s.2.2.2.1) (s.2.2.2.2) H) (fun s H hI X hX => h (s.1) (s.2.1) (s.2.2.1) (s.2.2.2.1) (s.2.2.2.2) H hI X fun v2' g3' t4' t11' t12' H' hI' hlt => hX (v2', g3', t4', t11', t12') H' hI' hlt) (s := (v2, g3, t4, t11, t12)) rfl hI
def short_round.l2 (v2 : Int) (g3 : Nat) (t4 : Nat) (circle7p : Option Addr) (circle7n : Nat) (circle7c : Nat) (u8 : Int)  (E : Value → Hp → Prop) (H : Hp) (K : (Option Addr) → Nat → Nat → Hp → Prop) : Prop := nodeM P0 T0 short_round.A short_round.code [1, 1, 1, 0, 1, 0] [] (short_round.rq E K) (short_round.f2 v2 g3 t4 circle7p circle7n circle7c u8) H
def short_round.b2 (v2 : Int) (g3 : Nat) (t4 : Nat) (circle7p : Option Addr) (circle7n : Nat) (circle7c : Nat) (u8 : Int)  (X1 : Fr → Hp → Prop) (E : Value → Hp → Prop) (H : Hp) (K : (Option Addr) → Nat → Nat → Hp → Prop) : Prop := nodeM P0 T0 short_round.A short_round.code [1, 1, 1, 0, 1, 0, 0] [X1] (short_round.rq E K) (short_round.f2 v2 g3 t4 circle7p circle7n circle7c u8) H
theorem short_round.l2_rule { E : Value → Hp → Prop} {K : (Option Addr) → Nat → Nat → Hp → Prop} (I : Int → Nat → Nat → (Option Addr) → Nat → Nat → Int → Hp → Prop) (μ : Int → Nat → Nat → (Option Addr) → Nat → Nat → Int → Hp → Nat)
    (h : ∀ v2 g3 t4 circle7p circle7n circle7c u8 H, I v2 g3 t4 circle7p circle7n circle7c u8 H → ∀ X : Fr → Hp → Prop, (∀ v2' g3' t4' circle7p' circle7n' circle7c' u8' H', I v2' g3' t4' circle7p' circle7n' circle7c' u8' H' → μ v2' g3' t4' circle7p' circle7n' circle7c' u8' H' < μ v2 g3 t4 circle7p circle7n circle7c u8 H → X (short_round.f2 v2' g3' t4' circle7p' circle7n' circle7c' u8') H') → short_round.b2 v2 g3 t4 circle7p circle7n circle7c u8  X E H K)
    {v2 : Int} {g3 : Nat} {t4 : Nat} {circle7p : Option Addr} {circle7n : Nat} {circle7c : Nat} {u8 : Int} {H : Hp} (hI : I v2 g3 t4 circle7p circle7n circle7c u8 H) : short_round.l2 v2 g3 t4 circle7p circle7n circle7c u8  E H K :=
  loop_rule (S := Int × Nat × Nat × (Option Addr) × Nat × Nat × Int) (fun s => short_round.f2 (s.1) (s.2.1) (s.2.2.1) (s.2.2.2.1) (s.2.2.2.2.1) (s.2.2.2.2.2.1) (s.2.2.2.2.2.2)) (fun s H => I (s.1) (s.2.1) (s.2.2.1) (s.2.2.2.1) (s.2.2.2.2.1) (s.2.2.2.2.2.1) (s.2.2.2.2.2.2) H) (fun s H => μ (s.1) (s.2.1) (s.2.2.1) (s.2.2.2.1) (s.2.2.2.2.1) (s.2.2.2.2.2.1) (s.2.2.2.2.2.2) H) (fun s H hI X hX => h (s.1) (s.2.1) (s.2.2.1) (s.2.2.2.1) (s.2.2.2.2.1) (s.2.2.2.2.2.1) (s.2.2.2.2.2.2) H hI X fun v2' g3' t4' circle7p' circle7n' circle7c' u8' H' hI' hlt => hX (v2', g3', t4', circle7p', circle7n', circle7c', u8') H' hI' hlt) (s := (v2, g3, t4, circle7p, circle7n, circle7c, u8)) rfl hI
theorem short_round.nok : nodesOk short_round.code [[0, 1, 0, 1], [1, 1], [0, 1, 0, 1, 1, 1], [1, 1, 1, 1]] = true := by kernel_rfl
def short_round.run_t (l1 : Int → Nat → Nat → Int → Int → Hp → Prop) (g0_Nodes : Int) (g0_Edgesp : Option Addr) (g0_Edgesn : Nat) (g0_Edgesc : Nat) (t1_Distp : Option Addr) (t1_Distn : Nat) (t1_Distc : Nat) (t1_Viap : Option Addr) (t1_Vian : Nat) (t1_Viac : Nat) (v2 : Int)  (E : Value → Hp → Prop) (H : Hp) (K : (Option Addr) → Nat → Nat → Hp → Prop) : Prop :=
  nw H ⟨[.int .i64 g0_Nodes, .slice g0_Edgesp g0_Edgesn g0_Edgesc], 51⟩ fun b_1 H_1 =>
  nw H_1 ⟨[.slice t1_Distp t1_Distn t1_Distc, .slice t1_Viap t1_Vian t1_Viac], 54⟩ fun b_2 H_2 =>
  ldI .i64 (H_2.get b_1 0) fun x_1 =>
  l1 v2 b_1 b_2 x_1 0 H_2
theorem short_round.run_eq {g0_Nodes : Int} {g0_Edgesp : Option Addr} {g0_Edgesn : Nat} {g0_Edgesc : Nat} {t1_Distp : Option Addr} {t1_Distn : Nat} {t1_Distc : Nat} {t1_Viap : Option Addr} {t1_Vian : Nat} {t1_Viac : Nat} {v2 : Int} { E : Value → Hp → Prop} {H : Hp} {K : (Option Addr) → Nat → Nat → Hp → Prop} (h : short_round.run_t (fun v2 g3 t4 t11 t12 H => short_round.l1 v2 g3 t4 t11 t12  E H K) g0_Nodes g0_Edgesp g0_Edgesn g0_Edgesc t1_Distp t1_Distn t1_Distc t1_Viap t1_Vian t1_Viac v2  E H K) : short_round.run g0_Nodes g0_Edgesp g0_Edgesn g0_Edgesc t1_Distp t1_Distn t1_Distc t1_Viap t1_Vian t1_Viac v2  E H K := by
  have k1 : ∀ G : List Nat → Fr → Hp → Prop, nodeR P0 T0 short_round.A [[0, 1, 0, 1], [1, 1], [0, 1, 0, 1, 1, 1], [1, 1, 1, 1]] G short_round.code [] [] (short_round.rq E K) (argF 0 [.agg ⟨[.int .i64 g0_Nodes, .slice g0_Edgesp g0_Edgesn g0_Edgesc]⟩, .agg ⟨[.slice t1_Distp t1_Distn t1_Distc, .slice t1_Viap t1_Vian t1_Viac]⟩, .int .i64 v2]) H = short_round.run_t (fun v2 g3 t4 t11 t12 H => G [0, 1, 0, 1] [(2, .int .i64 v2), (3, .pointer (some ⟨g3, 0, none⟩)), (4, .pointer (some ⟨t4, 0, none⟩)), (11, .int .i64 t11), (12, .int .i64 t12)] H) g0_Nodes g0_Edgesp g0_Edgesn g0_Edgesc t1_Distp t1_Distn t1_Distc t1_Viap t1_Vian t1_Viac v2  E H K := fun G => by kernel_rfl
  have k2 : short_round.run_t (fun v2 g3 t4 t11 t12 H => short_round.l1 v2 g3 t4 t11 t12  E H K) g0_Nodes g0_Edgesp g0_Edgesn g0_Edgesc t1_Distp t1_Distn t1_Distc t1_Viap t1_Vian t1_Viac v2  E H K = short_round.run_t (fun v2 g3 t4 t11 t12 H => (fun q F H => nodeM P0 T0 short_round.A short_round.code q.reverse [] (short_round.rq E K) F H) [0, 1, 0, 1] [(2, .int .i64 v2), (3, .pointer (some ⟨g3, 0, none⟩)), (4, .pointer (some ⟨t4, 0, none⟩)), (11, .int .i64 t11), (12, .int .i64 t12)] H) g0_Nodes g0_Edgesp g0_Edgesn g0_Edgesc t1_Distp t1_Distn t1_Distc t1_Viap t1_Vian t1_Viac v2  E H K := by kernel_rfl
  exact nodeR_imp short_round.nok rfl ((k1 _).mpr (k2.mp h))
def short_round.j1_t (l2 : Int → Nat → Nat → (Option Addr) → Nat → Nat → Int → Hp → Prop) (v2 : Int) (g3 : Nat) (t4 : Nat)  (E : Value → Hp → Prop) (H : Hp) (K : (Option Addr) → Nat → Nat → Hp → Prop) : Prop :=
  l2 v2 g3 t4 none 0 0 v2 H
theorem short_round.j1_eq {v2 : Int} {g3 : Nat} {t4 : Nat} { E : Value → Hp → Prop} {H : Hp} {K : (Option Addr) → Nat → Nat → Hp → Prop} (h : short_round.j1_t (fun v2 g3 t4 circle7p circle7n circle7c u8 H => short_round.l2 v2 g3 t4 circle7p circle7n circle7c u8  E H K) v2 g3 t4  E H K) : short_round.j1 v2 g3 t4  E H K := by
  have k1 : ∀ G : List Nat → Fr → Hp → Prop, nodeR P0 T0 short_round.A [[0, 1, 0, 1], [1, 1], [0, 1, 0, 1, 1, 1], [1, 1, 1, 1]] G short_round.code [1, 1] [] (short_round.rq E K) [(2, .int .i64 v2), (3, .pointer (some ⟨g3, 0, none⟩)), (4, .pointer (some ⟨t4, 0, none⟩))] H = short_round.j1_t (fun v2 g3 t4 circle7p circle7n circle7c u8 H => G [0, 1, 0, 1, 1, 1] [(2, .int .i64 v2), (3, .pointer (some ⟨g3, 0, none⟩)), (4, .pointer (some ⟨t4, 0, none⟩)), (7, .slice circle7p circle7n circle7c), (8, .int .i64 u8)] H) v2 g3 t4  E H K := fun G => by kernel_rfl
  have k2 : short_round.j1_t (fun v2 g3 t4 circle7p circle7n circle7c u8 H => short_round.l2 v2 g3 t4 circle7p circle7n circle7c u8  E H K) v2 g3 t4  E H K = short_round.j1_t (fun v2 g3 t4 circle7p circle7n circle7c u8 H => (fun q F H => nodeM P0 T0 short_round.A short_round.code q.reverse [] (short_round.rq E K) F H) [0, 1, 0, 1, 1, 1] [(2, .int .i64 v2), (3, .pointer (some ⟨g3, 0, none⟩)), (4, .pointer (some ⟨t4, 0, none⟩)), (7, .slice circle7p circle7n circle7c), (8, .int .i64 u8)] H) v2 g3 t4  E H K := by kernel_rfl
  exact nodeR_imp short_round.nok rfl ((k1 _).mpr (k2.mp h))
def short_round.j2_t  (circle7p : Option Addr) (circle7n : Nat) (circle7c : Nat)  (E : Value → Hp → Prop) (H : Hp) (K : (Option Addr) → Nat → Nat → Hp → Prop) : Prop :=
  slices_Reverse.call circle7p circle7n circle7c E H fun H_1 =>
  K circle7p circle7n circle7c H_1
theorem short_round.j2_eq {circle7p : Option Addr} {circle7n : Nat} {circle7c : Nat} { E : Value → Hp → Prop} {H : Hp} {K : (Option Addr) → Nat → Nat → Hp → Prop} (h : short_round.j2_t  circle7p circle7n circle7c  E H K) : short_round.j2 circle7p circle7n circle7c  E H K := by
  have k1 : ∀ G : List Nat → Fr → Hp → Prop, nodeR P0 T0 short_round.A [[0, 1, 0, 1], [1, 1], [0, 1, 0, 1, 1, 1], [1, 1, 1, 1]] G short_round.code [1, 1, 1, 1] [] (short_round.rq E K) [(7, .slice circle7p circle7n circle7c)] H = short_round.j2_t  circle7p circle7n circle7c  E H K := fun G => by kernel_rfl
  exact nodeR_imp short_round.nok rfl ((k1 _).mpr h)
def short_round.b1_t (j1 : Int → Nat → Nat → Hp → Prop) (v2 : Int) (g3 : Nat) (t4 : Nat) (t11 : Int) (t12 : Int) (X1 : Fr → Hp → Prop) (E : Value → Hp → Prop) (H : Hp) (K : (Option Addr) → Nat → Nat → Hp → Prop) : Prop :=
  bcase (decide ((t12 : Int) < t11)) (
  ldS (H.get g3 1) fun x_1p x_1n x_1c =>
  ldS (H.get t4 1) fun x_2p x_2n x_2c =>
  ix x_2p x_2n v2 1 fun b_1 o_1 =>
  ldI .i64 (H.get b_1 o_1) fun x_3 =>
  ix x_1p x_1n x_3 4 fun b_2 o_2 =>
  ldI .i64 (H.get b_2 o_2) fun x_4 =>
  X1 (short_round.f1 x_4 g3 t4 t11 (IntKind.wrap .i64 (t12 + 1))) H)
  (j1 v2 g3 t4 H)
theorem short_round.b1_eq {v2 : Int} {g3 : Nat} {t4 : Nat} {t11 : Int} {t12 : Int} {X1 : Fr → Hp → Prop} { E : Value → Hp → Prop} {H : Hp} {K : (Option Addr) → Nat → Nat → Hp → Prop} (h : short_round.b1_t (fun v2 g3 t4 H => short_round.j1 v2 g3 t4  E H K) v2 g3 t4 t11 t12 X1 E H K) : short_round.b1 v2 g3 t4 t11 t12 X1 E H K := by
  have k1 : ∀ G : List Nat → Fr → Hp → Prop, nodeR P0 T0 short_round.A [[0, 1, 0, 1], [1, 1], [0, 1, 0, 1, 1, 1], [1, 1, 1, 1]] G short_round.code [1, 0, 1, 0, 0] [X1] (short_round.rq E K) (short_round.f1 v2 g3 t4 t11 t12) H = short_round.b1_t (fun v2 g3 t4 H => G [1, 1] [(2, .int .i64 v2), (3, .pointer (some ⟨g3, 0, none⟩)), (4, .pointer (some ⟨t4, 0, none⟩))] H) v2 g3 t4 t11 t12 X1 E H K := fun G => by kernel_rfl
  have k2 : short_round.b1_t (fun v2 g3 t4 H => short_round.j1 v2 g3 t4  E H K) v2 g3 t4 t11 t12 X1 E H K = short_round.b1_t (fun v2 g3 t4 H => (fun q F H => nodeM P0 T0 short_round.A short_round.code q.reverse [X1] (short_round.rq E K) F H) [1, 1] [(2, .int .i64 v2), (3, .pointer (some ⟨g3, 0, none⟩)), (4, .pointer (some ⟨t4, 0, none⟩))] H) v2 g3 t4 t11 t12 X1 E H K := by kernel_rfl
  exact nodeR_imp short_round.nok rfl ((k1 _).mpr (k2.mp h))
def short_round.b2_t (j2 : (Option Addr) → Nat → Nat → Hp → Prop) (v2 : Int) (g3 : Nat) (t4 : Nat) (circle7p : Option Addr) (circle7n : Nat) (circle7c : Nat) (u8 : Int) (X1 : Fr → Hp → Prop) (E : Value → Hp → Prop) (H : Hp) (K : (Option Addr) → Nat → Nat → Hp → Prop) : Prop :=
  ldS (H.get t4 1) fun x_1p x_1n x_1c =>
  ix x_1p x_1n u8 1 fun b_1 o_1 =>
  ldI .i64 (H.get b_1 o_1) fun x_2 =>
  nw H ⟨[.int .i64 x_2], 3⟩ fun b_2 H_1 =>
  appM 3 [.i .i64] 8 circle7p circle7n circle7c (some ⟨b_2, 0, none⟩) 1 H_1 fun a_1p a_1n a_1c H_2 =>
  ldS (H_2.get g3 1) fun x_3p x_3n x_3c =>
  ix x_3p x_3n x_2 4 fun b_3 o_2 =>
  ldI .i64 (H_2.get b_3 o_2) fun x_4 =>
  bcase (decide ((x_4 : Int) = v2)) (
  j2 a_1p a_1n a_1c H_2)
  (X1 (short_round.f2 v2 g3 t4 a_1p a_1n a_1c x_4) H_2)
theorem short_round.b2_eq {v2 : Int} {g3 : Nat} {t4 : Nat} {circle7p : Option Addr} {circle7n : Nat} {circle7c : Nat} {u8 : Int} {X1 : Fr → Hp → Prop} { E : Value → Hp → Prop} {H : Hp} {K : (Option Addr) → Nat → Nat → Hp → Prop} (h : short_round.b2_t (fun circle7p circle7n circle7c H => short_round.j2 circle7p circle7n circle7c  E H K) v2 g3 t4 circle7p circle7n circle7c u8 X1 E H K) : short_round.b2 v2 g3 t4 circle7p circle7n circle7c u8 X1 E H K := by
  have k1 : ∀ G : List Nat → Fr → Hp → Prop, nodeR P0 T0 short_round.A [[0, 1, 0, 1], [1, 1], [0, 1, 0, 1, 1, 1], [1, 1, 1, 1]] G short_round.code [1, 1, 1, 0, 1, 0, 0] [X1] (short_round.rq E K) (short_round.f2 v2 g3 t4 circle7p circle7n circle7c u8) H = short_round.b2_t (fun circle7p circle7n circle7c H => G [1, 1, 1, 1] [(7, .slice circle7p circle7n circle7c)] H) v2 g3 t4 circle7p circle7n circle7c u8 X1 E H K := fun G => by kernel_rfl
  have k2 : short_round.b2_t (fun circle7p circle7n circle7c H => short_round.j2 circle7p circle7n circle7c  E H K) v2 g3 t4 circle7p circle7n circle7c u8 X1 E H K = short_round.b2_t (fun circle7p circle7n circle7c H => (fun q F H => nodeM P0 T0 short_round.A short_round.code q.reverse [X1] (short_round.rq E K) F H) [1, 1, 1, 1] [(7, .slice circle7p circle7n circle7c)] H) v2 g3 t4 circle7p circle7n circle7c u8 X1 E H K := by kernel_rfl
  exact nodeR_imp short_round.nok rfl ((k1 _).mpr (k2.mp h))
/-! ### slices.Reverse[[]int,int] (55) -/
noncomputable def slices_Reverse.A : An := { live := [(0, [0]), (1, [0, 2, 3]), (2, [0, 2, 3]), (3, [0, 2, 3])], ord := [(3, [0, 1, 2, 3, 4, 5, 6, 7, 8, 9, 10, 11, 12, 13, 14, 15])], stb := [], pre := [(3, [[], [], [], [], [], [], [4, 5], [4, 5, 6], [], [], [8, 9], [8, 9, 10], [0, 1, 4, 5, 6, 7, 8, 9, 10, 11], [0, 1, 4, 5, 6, 7, 8, 9, 10, 11, 12], [0, 1, 2, 3, 4, 5, 6, 7, 8, 9, 10, 11, 12, 13], [0, 1, 2, 3, 4, 5, 6, 7, 8, 9, 10, 11, 12, 13, 14]])] }
noncomputable def slices_Reverse.code : Code := bodyOf Go.Proofs.Try.f55
theorem slices_Reverse.ok : okCode slices_Reverse.A 28 slices_Reverse.code = true := by kernel_rfl
def slices_Reverse.rq (E : Value → Hp → Prop) (K : Hp → Prop) : Ex → Fr → Hp → Prop := retQ T0 [] [] (fun r H => ldR (.tup []) r fun u => K  H) E
def slices_Reverse.run (s0p : Option Addr) (s0n : Nat) (s0c : Nat) (E : Value → Hp → Prop) (H : Hp) (K : Hp → Prop) : Prop := nodeM P0 T0 slices_Reverse.A slices_Reverse.code [] [] (slices_Reverse.rq E K) (argF 0 [.slice s0p s0n s0c]) H
theorem slices_Reverse.of {s0p : Option Addr} {s0n : Nat} {s0c : Nat} {E : Value → Hp → Prop} {H : Hp} {K : Hp → Prop} (h : slices_Reverse.run s0p s0n s0c E H K) : slices_Reverse.call s0p s0n s0c E H K :=
  callW_of T0_ok P0_mixed (A := slices_Reverse.A) (fn := Go.Proofs.Try.f55) Go.Proofs.Try.func55 rfl slices_Reverse.ok rfl h
noncomputable def slices_Reverse.f1 (s0p : Option Addr) (s0n : Nat) (s0c : Nat) (i2 : Int) (j3 : Int) : Fr := [(0, .slice s0p s0n s0c), (2, .int .i64 i2), (3, .int .i64 j3)]
def slices_Reverse.l1 (s0p : Option Addr) (s0n : Nat) (s0c : Nat) (i2 : Int) (j3 : Int)  (E : Value → Hp → Prop) (H : Hp) (K : Hp → Prop) : Prop := nodeM P0 T0 slices_Reverse.A slices_Reverse.code [1, 0] [] (slices_Reverse.rq E K) (slices_Reverse.f1 s0p s0n s0c i2 j3) H
def slices_Reverse.b1 (s0p : Option Addr) (s0n : Nat) (s0c : Nat) (i2 : Int) (j3 : Int)  (X1 : Fr → Hp → Prop) (E : Value → Hp → Prop) (H : Hp) (K : Hp → Prop) : Prop := nodeM P0 T0 slices_Reverse.A slices_Reverse.code [1, 0, 0] [X1] (slices_Reverse.rq E K) (slices_Reverse.f1 s0p s0n s0c i2 j3) H
theorem slices_Reverse.l1_rule { E : Value → Hp → Prop} {K : Hp → Prop} (I : (Option Addr) → Nat → Nat → Int → Int → Hp → Prop) (μ : (Option Addr) → Nat → Nat → Int → Int → Hp → Nat)
    (h : ∀ s0p s0n s0c i2 j3 H, I s0p s0n s0c i2 j3 H → ∀ X : Fr → Hp → Prop, (∀ s0p' s0n' s0c' i2' j3' H', I s0p' s0n' s0c' i2' j3' H' → μ s0p' s0n' s0c' i2' j3' H' < μ s0p s0n s0c i2 j3 H → X (slices_Reverse.f1 s0p' s0n' s0c' i2' j3') H') → slices_Reverse.b1 s0p s0n s0c i2 j3  X E H K)
    {s0p : Option Addr} {s0n : Nat} {s0c : Nat} {i2 : Int} {j3 : Int} {H : Hp} (hI : I s0p s0n s0c i2 j3 H) : slices_Reverse.l1 s0p s0n s0c i2 j3  E H K :=
  loop_rule (S := (Option Addr) × Nat × Nat × Int × Int) (fun s => slices_Reverse.f1 (s.1) (s.2.1) (s.2.2.1) (s.2.2.2.1) (s.2.2.2.2)) (fun s H => I (s.1) (s.2.1) (s.2.2.1) (s.2.2.2.1) (s.2.2.2.2) H) (fun s H => μ (s.1) (s.2.1) (s.2.2.1) (s.2.2.2.1) (s.2.2.2.2) H) (fun s H hI X hX => h (s.1) (s.2.1) (s.2.2.1) (s.2.2.2.1) (s.2.2.2.2) H hI X fun s0p' s0n' s0c' i2' j3' H' hI' hlt => hX (s0p', s0n', s0c', i2', j3') H' hI' hlt) (s := (s0p, s0n, s0c, i2, j3)) rfl hI
theorem slices_Reverse.nok : nodesOk slices_Reverse.code [[0, 1]] = true := by kernel_rfl
def slices_Reverse.run_t (l1 : (Option Addr) → Nat → Nat → Int → Int → Hp → Prop) (s0p : Option Addr) (s0n : Nat) (s0c : Nat)  (E : Value → Hp → Prop) (H : Hp) (K : Hp → Prop) : Prop :=
  l1 s0p s0n s0c 0 (IntKind.wrap .i64 ((s0n : Int) - 1)) H
theorem slices_Reverse.run_eq {s0p : Option Addr} {s0n : Nat} {s0c : Nat} { E : Value → Hp → Prop} {H : Hp} {K : Hp → Prop} (h : slices_Reverse.run_t (fun s0p s0n s0c i2 j3 H => slices_Reverse.l1 s0p s0n s0c i2 j3  E H K) s0p s0n s0c  E H K) : slices_Reverse.run s0p s0n s0c  E H K := by
  have k1 : ∀ G : List Nat → Fr → Hp → Prop, nodeR P0 T0 slices_Reverse.A [[0, 1]] G slices_Reverse.code [] [] (slices_Reverse.rq E K) (argF 0 [.slice s0p s0n s0c]) H = slices_Reverse.run_t (fun s0p s0n s0c i2 j3 H => G [0, 1] [(0, .slice s0p s0n s0c), (2, .int .i64 i2), (3, .int .i64 j3)] H) s0p s0n s0c  E H K := fun G => by kernel_rfl
  have k2 : slices_Reverse.run_t (fun s0p s0n s0c i2 j3 H => slices_Reverse.l1 s0p s0n s0c i2 j3  E H K) s0p s0n s0c  E H K = slices_Reverse.run_t (fun s0p s0n s0c i2 j3 H => (fun q F H => nodeM P0 T0 slices_Reverse.A slices_Reverse.code q.reverse [] (slices_Reverse.rq E K) F H) [0, 1] [(0, .slice s0p s0n s0c), (2, .int .i64 i2), (3, .int .i64 j3)] H) s0p s0n s0c  E H K := by kernel_rfl
  exact nodeR_imp slices_Reverse.nok rfl ((k1 _).mpr (k2.mp h))
def slices_Reverse.b1_t  (s0p : Option Addr) (s0n : Nat) (s0c : Nat) (i2 : Int) (j3 : Int) (X1 : Fr → Hp → Prop) (E : Value → Hp → Prop) (H : Hp) (K : Hp → Prop) : Prop :=
  bcase (decide ((i2 : Int) < j3)) (
  ix s0p s0n j3 1 fun b_1 o_1 =>
  ldI .i64 (H.get b_1 o_1) fun x_1 =>
  ix s0p s0n i2 1 fun b_2 o_2 =>
  ldI .i64 (H.get b_2 o_2) fun x_2 =>
  ix s0p s0n i2 1 fun b_3 o_3 =>
  stC H b_3 o_3 [.int .i64 x_1] fun H_1 =>
  ix s0p s0n j3 1 fun b_4 o_4 =>
  stC H_1 b_4 o_4 [.int .i64 x_2] fun H_2 =>
  X1 (slices_Reverse.f1 s0p s0n s0c (IntKind.wrap .i64 (i2 + 1)) (IntKind.wrap .i64 (j3 - 1))) H_2)
  (K H)
theorem slices_Reverse.b1_eq {s0p : Option Addr} {s0n : Nat} {s0c : Nat} {i2 : Int} {j3 : Int} {X1 : Fr → Hp → Prop} { E : Value → Hp → Prop} {H : Hp} {K : Hp → Prop} (h : slices_Reverse.b1_t  s0p s0n s0c i2 j3 X1 E H K) : slices_Reverse.b1 s0p s0n s0c i2 j3 X1 E H K := by
  have k1 : ∀ G : List Nat → Fr → Hp → Prop, nodeR P0 T0 slices_Reverse.A [[0, 1]] G slices_Reverse.code [1, 0, 0] [X1] (slices_Reverse.rq E K) (slices_Reverse.f1 s0p s0n s0c i2 j3) H = slices_Reverse.b1_t  s0p s0n s0c i2 j3 X1 E H K := fun G => by kernel_rfl
  exact nodeR_imp slices_Reverse.nok rfl ((k1 _).mpr h)
end Go.Mz
