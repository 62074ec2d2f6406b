/-
  The shallow texts of functions (LMP), each with a kernel-checked equation to the translated code. It proves nothing of the program by itself.
-/
import Derived.Test.YtbocpfdlfnodfaaTab
set_option linter.unusedVariables false
set_option maxRecDepth 100000
namespace Go.Mz
/-! ### compass/compasslaw19.ManyProved (6) -/
noncomputable def compasslaw19_ManyProved.A : An := { live := [(0, [0, 1]), (1, [1, 2]), (2, []), (3, [1, 2]), (4, [1, 2, 5, 6, 7]), (5, [1, 2, 5, 6, 7]), (6, [2, 5, 7, 8, 9]), (7, []), (8, [2, 5, 7]), (9, [5, 7]), (10, [2]), (11, [2, 10, 11]), (12, [2, 10, 11, 74, 75]), (13, [2, 10, 11, 74, 75]), (14, [2, 10, 11, 12, 74, 75]), (15, [2, 10, 11, 74, 75]), (16, [2, 10, 11]), (17, [2, 11, 13, 15]), (18, [2, 11, 13, 15, 16, 18]), (19, [2, 13, 15, 16, 18, 19, 21]), (20, []), (21, [2, 19, 21]), (22, [19]), (23, [2, 19]), (24, [2, 19, 22]), (25, [19, 22, 127, 128, 129]), (26, [19, 22, 127, 128, 129]), (27, [19, 22, 23, 24, 127, 128, 129]), (28, [19, 22, 23, 127, 128, 129]), (29, [19, 22, 127, 128, 129]), (30, [19, 22])], ord := [(10, [0, 1, 2, 3, 4, 5, 6, 7]), (14, [0, 1, 2, 3, 4, 5, 6, 7, 8, 9, 10])], stb := [(14, [(8, [5])])], pre := [(10, [[], [0], [0, 1], [], [3], [3, 4], [0, 1, 2], [0, 1, 2, 3, 4, 5, 6]]), (14, [[], [], [], [], [], [4], [4, 5], [0, 1], [0, 1, 7], [0, 1, 2, 3, 4, 5, 6, 7, 8], [0, 1, 2, 3, 4, 5, 6, 7, 8, 9]])] }
noncomputable def compasslaw19_ManyProved.code : Code := bodyOf Go.Proofs.Try.f6
theorem compasslaw19_ManyProved.ok : okCode compasslaw19_ManyProved.A 147 compasslaw19_ManyProved.code = true := by kernel_rfl
def compasslaw19_ManyProved.rq (E : Value → Hp → Prop) (K : Bool → Hp → Prop) : Ex → Fr → Hp → Prop := retQ T0 [.tmp 4] [4] (fun r H => ldR (.one false [.bool]) r fun u => K (asB u) H) E
def compasslaw19_ManyProved.run (g0_Nodes : Int) (g0_Edgesp : Option Addr) (g0_Edgesn : Nat) (g0_Edgesc : Nat) (b1p : Option Addr) (b1n : Nat) (b1c : Nat) (E : Value → Hp → Prop) (H : Hp) (K : Bool → Hp → Prop) : Prop := nodeM P0 T0 compasslaw19_ManyProved.A compasslaw19_ManyProved.code [] [] (compasslaw19_ManyProved.rq E K) (argF 0 [.agg ⟨[.int .i64 g0_Nodes, .slice g0_Edgesp g0_Edgesn g0_Edgesc]⟩, .slice b1p b1n b1c]) H
theorem compasslaw19_ManyProved.of {g0_Nodes : Int} {g0_Edgesp : Option Addr} {g0_Edgesn : Nat} {g0_Edgesc : Nat} {b1p : Option Addr} {b1n : Nat} {b1c : Nat} {E : Value → Hp → Prop} {H : Hp} {K : Bool → Hp → Prop} (h : compasslaw19_ManyProved.run g0_Nodes g0_Edgesp g0_Edgesn g0_Edgesc b1p b1n b1c E H K) : compasslaw19_ManyProved.call g0_Nodes g0_Edgesp g0_Edgesn g0_Edgesc b1p b1n b1c E H K :=
  callW_of T0_ok P0_mixed (A := compasslaw19_ManyProved.A) (fn := Go.Proofs.Try.f6) Go.Proofs.Try.func6 rfl compasslaw19_ManyProved.ok rfl h
noncomputable def compasslaw19_ManyProved.f1 (g2 : Nat) (on10p : Option Addr) (on10n : Nat) (on10c : Nat) (al11p : Option Addr) (al11n : Nat) (al11c : Nat) (t74 : Int) (t75 : Int) : Fr := [(2, .pointer (some ⟨g2, 0, none⟩)), (10, .slice on10p on10n on10c), (11, .slice al11p al11n al11c), (74, .int .i64 t74), (75, .int .i64 t75)]
noncomputable def compasslaw19_ManyProved.f2 (q19p : Option Addr) (q19n : Nat) (q19c : Nat) (wa22p : Option Addr) (wa22n : Nat) (wa22c : Nat) (t127p : Option Addr) (t127n : Nat) (t127c : Nat) (t128 : Int) (t129 : Int) : Fr := [(19, .slice q19p q19n q19c), (22, .slice wa22p wa22n wa22c), (127, .slice t127p t127n t127c), (128, .int .i64 t128), (129, .int .i64 t129)]
def compasslaw19_ManyProved.j1 (g2 : Nat) (m5p : Option Addr) (m5n : Nat) (m5c : Nat) (e7 : Int)  (E : Value → Hp → Prop) (H : Hp) (K : Bool → Hp → Prop) : Prop := nodeM P0 T0 compasslaw19_ManyProved.A compasslaw19_ManyProved.code [1, 1, 1, 1] [] (compasslaw19_ManyProved.rq E K) [(2, .pointer (some ⟨g2, 0, none⟩)), (5, .slice m5p m5n m5c), (7, .int .i64 e7)] H
def compasslaw19_ManyProved.j2 (m5p : Option Addr) (m5n : Nat) (m5c : Nat) (e7 : Int)  (E : Value → Hp → Prop) (H : Hp) (K : Bool → Hp → Prop) : Prop := nodeM P0 T0 compasslaw19_ManyProved.A compasslaw19_ManyProved.code [1, 1, 1, 1, 0, 1, 0] [] (compasslaw19_ManyProved.rq E K) [(5, .slice m5p m5n m5c), (7, .int .i64 e7)] H
def compasslaw19_ManyProved.j3 (g2 : Nat) (on10p : Option Addr) (on10n : Nat) (on10c : Nat) (al11p : Option Addr) (al11n : Nat) (al11c : Nat)  (E : Value → Hp → Prop) (H : Hp) (K : Bool → Hp → Prop) : Prop := nodeM P0 T0 compasslaw19_ManyProved.A compasslaw19_ManyProved.code [1, 1, 1, 1, 1, 1, 1] [] (compasslaw19_ManyProved.rq E K) [(2, .pointer (some ⟨g2, 0, none⟩)), (10, .slice on10p on10n on10c), (11, .slice al11p al11n al11c)] H
def compasslaw19_ManyProved.j4 (g2 : Nat) (q19p : Option Addr) (q19n : Nat) (q19c : Nat) (j21 : Int)  (E : Value → Hp → Prop) (H : Hp) (K : Bool → Hp → Prop) : Prop := nodeM P0 T0 compasslaw19_ManyProved.A compasslaw19_ManyProved.code [1, 1, 1, 1, 1, 1, 1, 1, 1, 1, 1] [] (compasslaw19_ManyProved.rq E K) [(2, .pointer (some ⟨g2, 0, none⟩)), (19, .slice q19p q19n q19c), (21, .int .i64 j21)] H
def compasslaw19_ManyProved.j5 (q19p : Option Addr) (q19n : Nat) (q19c : Nat) (wa22p : Option Addr) (wa22n : Nat) (wa22c : Nat) (t127p : Option Addr) (t127n : Nat) (t127c : Nat) (t128 : Int) (t129 : Int) (X1 : Fr → Hp → Prop) (E : Value → Hp → Prop) (H : Hp) (K : Bool → Hp → Prop) : Prop := nodeM P0 T0 compasslaw19_ManyProved.A compasslaw19_ManyProved.code [1, 1, 1, 1, 1, 1, 1, 1, 1, 1, 1, 1, 1, 0, 1, 0, 0, 1, 1, 1] [X1] (compasslaw19_ManyProved.rq E K) [(19, .slice q19p q19n q19c), (22, .slice wa22p wa22n wa22c), (127, .slice t127p t127n t127c), (128, .int .i64 t128), (129, .int .i64 t129)] H
def compasslaw19_ManyProved.j6 (q19p : Option Addr) (q19n : Nat) (q19c : Nat) (wa22p : Option Addr) (wa22n : Nat) (wa22c : Nat)  (E : Value → Hp → Prop) (H : Hp) (K : Bool → Hp → Prop) : Prop := nodeM P0 T0 compasslaw19_ManyProved.A compasslaw19_ManyProved.code [1, 1, 1, 1, 1, 1, 1, 1, 1, 1, 1, 1, 1, 1] [] (compasslaw19_ManyProved.rq E K) [(19, .slice q19p q19n q19c), (22, .slice wa22p wa22n wa22c)] H
def compasslaw19_ManyProved.l1 (g2 : Nat) (on10p : Option Addr) (on10n : Nat) (on10c : Nat) (al11p : Option Addr) (al11n : Nat) (al11c : Nat) (t74 : Int) (t75 : Int)  (E : Value → Hp → Prop) (H : Hp) (K : Bool → Hp → Prop) : Prop := nodeM P0 T0 compasslaw19_ManyProved.A compasslaw19_ManyProved.code [1, 1, 1, 1, 1, 1, 0, 1, 0] [] (compasslaw19_ManyProved.rq E K) (compasslaw19_ManyProved.f1 g2 on10p on10n on10c al11p al11n al11c t74 t75) H
def compasslaw19_ManyProved.b1 (g2 : Nat) (on10p : Option Addr) (on10n : Nat) (on10c : Nat) (al11p : Option Addr) (al11n : Nat) (al11c : Nat) (t74 : Int) (t75 : Int)  (X1 : Fr → Hp → Prop) (E : Value → Hp → Prop) (H : Hp) (K : Bool → Hp → Prop) : Prop := nodeM P0 T0 compasslaw19_ManyProved.A compasslaw19_ManyProved.code [1, 1, 1, 1, 1, 1, 0, 1, 0, 0] [X1] (compasslaw19_ManyProved.rq E K) (compasslaw19_ManyProved.f1 g2 on10p on10n on10c al11p al11n al11c t74 t75) H
theorem compasslaw19_ManyProved.l1_rule { E : Value → Hp → Prop} {K : Bool → Hp → Prop} (I : Nat → (Option Addr) → Nat → Nat → (Option Addr) → Nat → Nat → Int → Int → Hp → Prop) (μ : Nat → (Option Addr) → Nat → Nat → (Option Addr) → Nat → Nat → Int → Int → Hp → Nat)
    (h : ∀ g2 on10p on10n on10c al11p al11n al11c t74 t75 H, I g2 on10p on10n on10c al11p al11n al11c t74 t75 H → ∀ X : Fr → Hp → Prop, (∀ g2' on10p' on10n' on10c' al11p' al11n' al11c' t74' t75' H', I g2' on10p' on10n' on10c' al11p' al11n' al11c' t74' t75' H' → μ g2' on10p' on10n' on10c' al11p' al11n' al11c' t74' t75' H' < μ g2 on10p on10n on10c al11p al11n al11c t74 t75 H → X (compasslaw19_ManyProved.f1 g2' on10p' on10n' on10c' al11p' al11n' al11c' t74' t75') H') → compasslaw19_ManyProved.b1 g2 on10p on10n on10c al11p al11n al11c t74 t75  X E H K)
    {g2 : Nat} {on10p : Option Addr} {on10n : Nat} {on10c : Nat} {al11p : Option Addr} {al11n : Nat} {al11c : Nat} {t74 : Int} {t75 : Int} {H : Hp} (hI : I g2 on10p on10n on10c al11p al11n al11c t74 t75 H) : compasslaw19_ManyProved.l1 g2 on10p on10n on10c al11p al11n al11c t74 t75  E H K :=
  loop_rule (S := Nat × (Option Addr) × Nat × Nat × (Option Addr) × Nat × Nat × Int × Int) (fun s => compasslaw19_ManyProved.f1 (s.1) (s.2.1) (s.2.2.1) (s.2.2.2.1) (s.2.2.2.2.1) (s.2.2.2.2.2.1) (s.2.2.2.2.2.2.1) (s.2.2.2.2.2.2.2.1) (s.2.2.2.2.2.2.2.2)) (fun s H => I (s.1) (s.2.1) (s.2.2.1) (s.2.2.2.1) (s.2.2.2.2.1) (s.2.2.2.2.2.1) (s.2.2.2.2.2.2.1) (s.2.2.2.2.2.2.2.1) (s.2.2.2.2.2.2.2.2) H) (fun s H => μ (s.1) (s.2.1) (s.2.2.1) (s.2.2.2.1) (s.2.2.2.2.1) (s.2.2.2.2.2.1) (s.2.2.2.2.2.2.1) (s.2.2.2.2.2.2.2.1) (s.2.2.2.2.2.2.2.2) H) (fun s H hI X hX => h (s.1) (s.2.1) (s.2.2.1) (s.2.2.2.1) (s.2.2.2.2.1) (s.2.2.2.2.2.1) (s.2.2.2.2.2.2.1) (s.2.2.2.2.2.2.2.1) (s.2.2.2.2.2.2.2.2) H hI X fun g2' on10p' on10n' on10c' al11p' al11n' al11c' t74' t75' H' hI' hlt => hX (g2', on10p', on10n', on10c', al11p', al11n', al11c', t74', t75') H' hI' hlt) (s := (g2, on10p, on10n, on10c, al11p, al11n, al11c, t74, t75)) rfl hI
def compasslaw19_ManyProved.l2 (q19p : Option Addr) (q19n : Nat) (q19c : Nat) (wa22p : Option Addr) (wa22n : Nat) (wa22c : Nat) (t127p : Option Addr) (t127n : Nat) (t127c : Nat) (t128 : Int) (t129 : Int)  (E : Value → Hp → Prop) (H : Hp) (K : Bool → Hp → Prop) : Prop := nodeM P0 T0 compasslaw19_ManyProved.A compasslaw19_ManyProved.code [1, 1, 1, 1, 1, 1, 1, 1, 1, 1, 1, 1, 1, 0, 1, 0] [] (compasslaw19_ManyProved.rq E K) (compasslaw19_ManyProved.f2 q19p q19n q19c wa22p wa22n wa22c t127p t127n t127c t128 t129) H
def compasslaw19_ManyProved.b2 (q19p : Option Addr) (q19n : Nat) (q19c : Nat) (wa22p : Option Addr) (wa22n : Nat) (wa22c : Nat) (t127p : Option Addr) (t127n : Nat) (t127c : Nat) (t128 : Int) (t129 : Int)  (X1 : Fr → Hp → Prop) (E : Value → Hp → Prop) (H : Hp) (K : Bool → Hp → Prop) : Prop := nodeM P0 T0 compasslaw19_ManyProved.A compasslaw19_ManyProved.code [1, 1, 1, 1, 1, 1, 1, 1, 1, 1, 1, 1, 1, 0, 1, 0, 0] [X1] (compasslaw19_ManyProved.rq E K) (compasslaw19_ManyProved.f2 q19p q19n q19c wa22p wa22n wa22c t127p t127n t127c t128 t129) H
theorem compasslaw19_ManyProved.l2_rule { E : Value → Hp → Prop} {K : Bool → Hp → Prop} (I : (Option Addr) → Nat → Nat → (Option Addr) → Nat → Nat → (Option Addr) → Nat → Nat → Int → Int → Hp → Prop) (μ : (Option Addr) → Nat → Nat → (Option Addr) → Nat → Nat → (Option Addr) → Nat → Nat → Int → Int → Hp → Nat)
    (h : ∀ q19p q19n q19c wa22p wa22n wa22c t127p t127n t127c t128 t129 H, I q19p q19n q19c wa22p wa22n wa22c t127p t127n t127c t128 t129 H → ∀ X : Fr → Hp → Prop, (∀ q19p' q19n' q19c' wa22p' wa22n' wa22c' t127p' t127n' t127c' t128' t129' H', I q19p' q19n' q19c' wa22p' wa22n' wa22c' t127p' t127n' t127c' t128' t129' H' → μ q19p' q19n' q19c' wa22p' wa22n' wa22c' t127p' t127n' t127c' t128' t129' H' < μ q19p q19n q19c wa22p wa22n wa22c t127p t127n t127c t128 t129 H → X (compasslaw19_ManyProved.f2 q19p' q19n' q19c' wa22p' wa22n' wa22c' t127p' t127n' t127c' t128' t129') H') → compasslaw19_ManyProved.b2 q19p q19n q19c wa22p wa22n wa22c t127p t127n t127c t128 t129  X E H K)
    {q19p : Option Addr} {q19n : Nat} {q19c : Nat} {wa22p : Option Addr} {wa22n : Nat} {wa22c : Nat} {t127p : Option Addr} {t127n : Nat} {t127c : Nat} {t128 : Int} {t129 : Int} {H : Hp} (hI : I q19p q19n q19c wa22p wa22n wa22c t127p t127n t127c t128 t129 H) : compasslaw19_ManyProved.l2 q19p q19n q19c wa22p wa22n wa22c t127p t127n t127c t128 t129  E H K :=
  loop_rule (S := (Option Addr) × Nat × Nat × (Option Addr) × Nat × Nat × (Option Addr) × Nat × Nat × Int × Int) (fun s => compasslaw19_ManyProved.f2 (s.1) (s.2.1) (s.2.2.1) (s.2.2.2.1) (s.2.2.2.2.1) (s.2.2.2.2.2.1) (s.2.2.2.2.2.2.1) (s.2.2.2.2.2.2.2.1) (s.2.2.2.2.2.2.2.2.1) (s.2.2.2.2.2.2.2.2.2.1) (s.2.2.2.2.2.2.2.2.2.2)) (fun s H => I (s.1) (s.2.1) (s.2.2.1) (s.2.2.2.1) (s.2.2.2.2.1) (s.2.2.2.2.2.1) (s.2.2.2.2.2.2.1) (s.2.2.2.2.2.2.2.1) (s.2.2.2.2.2.2.2.2.1) (s.2.2.2.2.2.2.2.2.2.1) (s.2.2.2.2.2.2.2.2.2.2) H) (fun s H => μ (s.1) (s.2.1) (s.2.2.1) (s.2.2.2.1) (s.2.2.2.2.1) (s.2.2.2.2.2.1) (s.2.2.2.2.2.2.1) (s.2.2.2.2.2.2.2.1) (s.2.2.2.2.2.2.2.2.1) (s.2.2.2.2.2.2.2.2.2.1) (s.2.2.2.2.2.2.2.2.2.2) H) (fun s H hI X hX => h (s.1) (s.2.1) (s.2.2.1) (s.2.2.2.1) (s.2.2.2.2.1) (s.2.2.2.2.2.1) (s.2.2.2.2.2.2.1) (s.2.2.2.2.2.2.2.1) (s.2.2.2.2.2.2.2.2.1) (s.2.2.2.2.2.2.2.2.2.1) (s.2.2.2.2.2.2.2.2.2.2) H hI X fun q19p' q19n' q19c' wa22p' wa22n' wa22c' t127p' t127n' t127c' t128' t129' H' hI' hlt => hX (q19p', q19n', q19c', wa22p', wa22n', wa22c', t127p', t127n', t127c', t128', t129') H' hI' hlt) (s := (q19p, q19n, q19c, wa22p, wa22n, wa22c, t127p, t127n, t127c, t128, t129)) rfl hI
theorem compasslaw19_ManyProved.nok : nodesOk compasslaw19_ManyProved.code [[1, 1, 1, 1], [0, 1, 0, 1, 1, 1, 1], [0, 1, 0, 1, 1, 1, 1, 1, 1], [1, 1, 1, 1, 1, 1, 1], [1, 1, 1, 1, 1, 1, 1, 1, 1, 1, 1], [0, 1, 0, 1, 1, 1, 1, 1, 1, 1, 1, 1, 1, 1, 1, 1], [1, 1, 1, 0, 0, 1, 0, 1, 1, 1, 1, 1, 1, 1, 1, 1, 1, 1, 1, 1], [1, 1, 1, 1, 1, 1, 1, 1, 1, 1, 1, 1, 1, 1]] = true := by kernel_rfl
def compasslaw19_ManyProved.run_t (j1 : Nat → (Option Addr) → Nat → Nat → Int → Hp → Prop) (g0_Nodes : Int) (g0_Edgesp : Option Addr) (g0_Edgesn : Nat) (g0_Edgesc : Nat) (b1p : Option Addr) (b1n : Nat) (b1c : Nat)  (E : Value → Hp → Prop) (H : Hp) (K : Bool → Hp → Prop) : Prop :=
  nw H ⟨[.int .i64 g0_Nodes, .slice g0_Edgesp g0_Edgesn g0_Edgesc], 24⟩ fun b_1 H_1 =>
  compasslaw19_awake.call  E H_1 fun r_1 H_2 =>
  bcase ((!r_1)) (
  K false H_2)
  (ldI .i64 (H_2.get b_1 0) fun x_1 =>
  ldS (H_2.get b_1 1) fun x_2p x_2n x_2c =>
  bmatch_Solve.call x_1 x_2p x_2n x_2c b1p b1n b1c E H_2 fun r_2p r_2n r_2c r_3p r_3n r_3c r_4 H_3 =>
  bcase (decide ((r_4 : Int) = 0)) (
  ldI .i64 (H_3.get b_1 0) fun x_3 =>
  ldS (H_3.get b_1 1) fun x_4p x_4n x_4c =>
  vouch_Many.call x_3 x_4p x_4n x_4c b1p b1n b1c r_2p r_2n r_2c r_3p r_3n r_3c E H_3 fun r_5 r_6 H_4 =>
  bcase (!decide ((r_6 : Int) = 0)) (
  K false H_4)
  (bcase (!decide ((r_5 : Int) = (r_2n : Int))) (
  K false H_4)
  (j1 b_1 r_2p r_2n r_2c r_4 H_4)))
  (j1 b_1 r_2p r_2n r_2c r_4 H_3))
theorem compasslaw19_ManyProved.run_eq {g0_Nodes : Int} {g0_Edgesp : Option Addr} {g0_Edgesn : Nat} {g0_Edgesc : Nat} {b1p : Option Addr} {b1n : Nat} {b1c : Nat} { E : Value → Hp → Prop} {H : Hp} {K : Bool → Hp → Prop} (h : compasslaw19_ManyProved.run_t (fun g2 m5p m5n m5c e7 H => compasslaw19_ManyProved.j1 g2 m5p m5n m5c e7  E H K) g0_Nodes g0_Edgesp g0_Edgesn g0_Edgesc b1p b1n b1c  E H K) : compasslaw19_ManyProved.run g0_Nodes g0_Edgesp g0_Edgesn g0_Edgesc b1p b1n b1c  E H K := by
  exact nodeR_imp2 (fun G => compasslaw19_ManyProved.run_t (fun g2 m5p m5n m5c e7 H => G [1, 1, 1, 1] [(2, .pointer (some ⟨g2, 0, none⟩)), (5, .slice m5p m5n m5c), (7, .int .i64 e7)] H) g0_Nodes g0_Edgesp g0_Edgesn g0_Edgesc b1p b1n b1c  E H K) compasslaw19_ManyProved.nok rfl (fun G => by kernel_rfl) (Eq.mp (by kernel_rfl) h)
def compasslaw19_ManyProved.j1_t (j2 : (Option Addr) → Nat → Nat → Int → Hp → Prop) (l1 : Nat → (Option Addr) → Nat → Nat → (Option Addr) → Nat → Nat → Int → Int → Hp → Prop) (g2 : Nat) (m5p : Option Addr) (m5n : Nat) (m5c : Nat) (e7 : Int)  (E : Value → Hp → Prop) (H : Hp) (K : Bool → Hp → Prop) : Prop :=
  ldI .i64 (H.get g2 0) fun x_1 =>
  bcase (decide ((x_1 : Int) < 0)) (
  j2 m5p m5n m5c e7 H)
  (ldI .i64 (H.get g2 0) fun x_2 =>
  bcase (decide ((1024 : Int) < x_2)) (
  j2 m5p m5n m5c e7 H)
  (ldI .i64 (H.get g2 0) fun x_3 =>
  mkS x_3 x_3 3 [.i .i64] 8 H fun b_1 H_1 =>
  ldI .i64 (H_1.get g2 0) fun x_4 =>
  mkS x_4 x_4 3 [.i .i64] 8 H_1 fun b_2 H_2 =>
  l1 g2 (some ⟨b_1, 0, none⟩) x_3.toNat x_3.toNat (some ⟨b_2, 0, none⟩) x_4.toNat x_4.toNat (x_3.toNat : Int) 0 H_2))
theorem compasslaw19_ManyProved.j1_eq {g2 : Nat} {m5p : Option Addr} {m5n : Nat} {m5c : Nat} {e7 : Int} { E : Value → Hp → Prop} {H : Hp} {K : Bool → Hp → Prop} (h : compasslaw19_ManyProved.j1_t (fun m5p m5n m5c e7 H => compasslaw19_ManyProved.j2 m5p m5n m5c e7  E H K) (fun g2 on10p on10n on10c al11p al11n al11c t74 t75 H => compasslaw19_ManyProved.l1 g2 on10p on10n on10c al11p al11n al11c t74 t75  E H K) g2 m5p m5n m5c e7  E H K) : compasslaw19_ManyProved.j1 g2 m5p m5n m5c e7  E H K := by
  exact nodeR_imp2 (fun G => compasslaw19_ManyProved.j1_t (fun m5p m5n m5c e7 H => G [0, 1, 0, 1, 1, 1, 1] [(5, .slice m5p m5n m5c), (7, .int .i64 e7)] H) (fun g2 on10p on10n on10c al11p al11n al11c t74 t75 H => G [0, 1, 0, 1, 1, 1, 1, 1, 1] [(2, .pointer (some ⟨g2, 0, none⟩)), (10, .slice on10p on10n on10c), (11, .slice al11p al11n al11c), (74, .int .i64 t74), (75, .int .i64 t75)] H) g2 m5p m5n m5c e7  E H K) compasslaw19_ManyProved.nok rfl (fun G => by kernel_rfl) (Eq.mp (by kernel_rfl) h)
def compasslaw19_ManyProved.j2_t  (m5p : Option Addr) (m5n : Nat) (m5c : Nat) (e7 : Int)  (E : Value → Hp → Prop) (H : Hp) (K : Bool → Hp → Prop) : Prop :=
  bcase (decide ((e7 : Int) = 3)) (
  K (decide (((m5n : Int) : Int) = 0)) H)
  (K false H)
theorem compasslaw19_ManyProved.j2_eq {m5p : Option Addr} {m5n : Nat} {m5c : Nat} {e7 : Int} { E : Value → Hp → Prop} {H : Hp} {K : Bool → Hp → Prop} (h : compasslaw19_ManyProved.j2_t  m5p m5n m5c e7  E H K) : compasslaw19_ManyProved.j2 m5p m5n m5c e7  E H K := by
  exact nodeR_imp2 (fun _ => compasslaw19_ManyProved.j2_t  m5p m5n m5c e7  E H K) compasslaw19_ManyProved.nok rfl (fun G => by kernel_rfl) h
def compasslaw19_ManyProved.j3_t (j4 : Nat → (Option Addr) → Nat → Nat → Int → Hp → Prop) (g2 : Nat) (on10p : Option Addr) (on10n : Nat) (on10c : Nat) (al11p : Option Addr) (al11n : Nat) (al11c : Nat)  (E : Value → Hp → Prop) (H : Hp) (K : Bool → Hp → Prop) : Prop :=
  ldI .i64 (H.get g2 0) fun x_1 =>
  ldS (H.get g2 1) fun x_2p x_2n x_2c =>
  bmatch_Solve.call x_1 x_2p x_2n x_2c on10p on10n on10c E H fun r_1p r_1n r_1c r_2p r_2n r_2c r_3 H_1 =>
  ldI .i64 (H_1.get g2 0) fun x_3 =>
  ldS (H_1.get g2 1) fun x_4p x_4n x_4c =>
  blossom_Solve.call x_3 x_4p x_4n x_4c E H_1 fun r_4p r_4n r_4c r_5p r_5n r_5c r_6 H_2 =>
  ldI .i64 (H_2.get g2 0) fun x_5 =>
  ldS (H_2.get g2 1) fun x_6p x_6n x_6c =>
  bmatch_Solve.call x_5 x_6p x_6n x_6c al11p al11n al11c E H_2 fun r_7p r_7n r_7c r_8p r_8n r_8c r_9 H_3 =>
  bcase (decide ((r_3 : Int) = 0)) (
  bcase (!decide ((r_6 : Int) = 0)) (
  K false H_3)
  (bcase (!decide (((r_1n : Int) : Int) = (r_4n : Int))) (
  K false H_3)
  (j4 g2 r_7p r_7n r_7c r_9 H_3)))
  (j4 g2 r_7p r_7n r_7c r_9 H_3)
theorem compasslaw19_ManyProved.j3_eq {g2 : Nat} {on10p : Option Addr} {on10n : Nat} {on10c : Nat} {al11p : Option Addr} {al11n : Nat} {al11c : Nat} { E : Value → Hp → Prop} {H : Hp} {K : Bool → Hp → Prop} (h : compasslaw19_ManyProved.j3_t (fun g2 q19p q19n q19c j21 H => compasslaw19_ManyProved.j4 g2 q19p q19n q19c j21  E H K) g2 on10p on10n on10c al11p al11n al11c  E H K) : compasslaw19_ManyProved.j3 g2 on10p on10n on10c al11p al11n al11c  E H K := by
  exact nodeR_imp2 (fun G => compasslaw19_ManyProved.j3_t (fun g2 q19p q19n q19c j21 H => G [1, 1, 1, 1, 1, 1, 1, 1, 1, 1, 1] [(2, .pointer (some ⟨g2, 0, none⟩)), (19, .slice q19p q19n q19c), (21, .int .i64 j21)] H) g2 on10p on10n on10c al11p al11n al11c  E H K) compasslaw19_ManyProved.nok rfl (fun G => by kernel_rfl) (Eq.mp (by kernel_rfl) h)
def compasslaw19_ManyProved.j4_t (l2 : (Option Addr) → Nat → Nat → (Option Addr) → Nat → Nat → (Option Addr) → Nat → Nat → Int → Int → Hp → Prop) (g2 : Nat) (q19p : Option Addr) (q19n : Nat) (q19c : Nat) (j21 : Int)  (E : Value → Hp → Prop) (H : Hp) (K : Bool → Hp → Prop) : Prop :=
  bcase (!decide ((j21 : Int) = 0)) (
  K (decide (((q19n : Int) : Int) = 0)) H)
  (ldS (H.get g2 1) fun x_1p x_1n x_1c =>
  l2 q19p q19n q19c none 0 0 x_1p x_1n x_1c (x_1n : Int) 0 H)
theorem compasslaw19_ManyProved.j4_eq {g2 : Nat} {q19p : Option Addr} {q19n : Nat} {q19c : Nat} {j21 : Int} { E : Value → Hp → Prop} {H : Hp} {K : Bool → Hp → Prop} (h : compasslaw19_ManyProved.j4_t (fun q19p q19n q19c wa22p wa22n wa22c t127p t127n t127c t128 t129 H => compasslaw19_ManyProved.l2 q19p q19n q19c wa22p wa22n wa22c t127p t127n t127c t128 t129  E H K) g2 q19p q19n q19c j21  E H K) : compasslaw19_ManyProved.j4 g2 q19p q19n q19c j21  E H K := by
  exact nodeR_imp2 (fun G => compasslaw19_ManyProved.j4_t (fun q19p q19n q19c wa22p wa22n wa22c t127p t127n t127c t128 t129 H => G [0, 1, 0, 1, 1, 1, 1, 1, 1, 1, 1, 1, 1, 1, 1, 1] [(19, .slice q19p q19n q19c), (22, .slice wa22p wa22n wa22c), (127, .slice t127p t127n t127c), (128, .int .i64 t128), (129, .int .i64 t129)] H) g2 q19p q19n q19c j21  E H K) compasslaw19_ManyProved.nok rfl (fun G => by kernel_rfl) (Eq.mp (by kernel_rfl) h)
def compasslaw19_ManyProved.j5_t  (q19p : Option Addr) (q19n : Nat) (q19c : Nat) (wa22p : Option Addr) (wa22n : Nat) (wa22c : Nat) (t127p : Option Addr) (t127n : Nat) (t127c : Nat) (t128 : Int) (t129 : Int) (X1 : Fr → Hp → Prop) (E : Value → Hp → Prop) (H : Hp) (K : Bool → Hp → Prop) : Prop :=
  X1 (compasslaw19_ManyProved.f2 q19p q19n q19c wa22p wa22n wa22c t127p t127n t127c t128 (IntKind.wrap .i64 (t129 + 1))) H
theorem compasslaw19_ManyProved.j5_eq {q19p : Option Addr} {q19n : Nat} {q19c : Nat} {wa22p : Option Addr} {wa22n : Nat} {wa22c : Nat} {t127p : Option Addr} {t127n : Nat} {t127c : Nat} {t128 : Int} {t129 : Int} {X1 : Fr → Hp → Prop} { E : Value → Hp → Prop} {H : Hp} {K : Bool → Hp → Prop} (h : compasslaw19_ManyProved.j5_t  q19p q19n q19c wa22p wa22n wa22c t127p t127n t127c t128 t129 X1 E H K) : compasslaw19_ManyProved.j5 q19p q19n q19c wa22p wa22n wa22c t127p t127n t127c t128 t129 X1 E H K := by
  exact nodeR_imp2 (fun _ => compasslaw19_ManyProved.j5_t  q19p q19n q19c wa22p wa22n wa22c t127p t127n t127c t128 t129 X1 E H K) compasslaw19_ManyProved.nok rfl (fun G => by kernel_rfl) h
def compasslaw19_ManyProved.j6_t  (q19p : Option Addr) (q19n : Nat) (q19c : Nat) (wa22p : Option Addr) (wa22n : Nat) (wa22c : Nat)  (E : Value → Hp → Prop) (H : Hp) (K : Bool → Hp → Prop) : Prop :=
  compasslaw19_ints.call q19p q19n q19c wa22p wa22n wa22c E H fun r_1 H_1 =>
  K r_1 H_1
theorem compasslaw19_ManyProved.j6_eq {q19p : Option Addr} {q19n : Nat} {q19c : Nat} {wa22p : Option Addr} {wa22n : Nat} {wa22c : Nat} { E : Value → Hp → Prop} {H : Hp} {K : Bool → Hp → Prop} (h : compasslaw19_ManyProved.j6_t  q19p q19n q19c wa22p wa22n wa22c  E H K) : compasslaw19_ManyProved.j6 q19p q19n q19c wa22p wa22n wa22c  E H K := by
  exact nodeR_imp2 (fun _ => compasslaw19_ManyProved.j6_t  q19p q19n q19c wa22p wa22n wa22c  E H K) compasslaw19_ManyProved.nok rfl (fun G => by kernel_rfl) h
def compasslaw19_ManyProved.b1_t (j3 : Nat → (Option Addr) → Nat → Nat → (Option Addr) → Nat → Nat → Hp → Prop) (g2 : Nat) (on10p : Option Addr) (on10n : Nat) (on10c : Nat) (al11p : Option Addr) (al11n : Nat) (al11c : Nat) (t74 : Int) (t75 : Int) (X1 : Fr → Hp → Prop) (E : Value → Hp → Prop) (H : Hp) (K : Bool → Hp → Prop) : Prop :=
  bcase (decide ((t75 : Int) < t74)) (
  ldS (H.get g2 1) fun x_1p x_1n x_1c =>
  ix on10p on10n t75 1 fun b_1 o_1 =>
  stC H b_1 o_1 [.int .i64 1] fun H_1 =>
  (ldS (H_1.get g2 1) fun x_2p x_2n x_2c =>
  Value.slice x_2p x_2n x_2c = Value.slice x_1p x_1n x_1c) ∧
  ix al11p al11n t75 1 fun b_2 o_2 =>
  stC H_1 b_2 o_2 [.int .i64 (x_1n : Int)] fun H_2 =>
  X1 (compasslaw19_ManyProved.f1 g2 on10p on10n on10c al11p al11n al11c t74 (IntKind.wrap .i64 (t75 + 1))) H_2)
  (j3 g2 on10p on10n on10c al11p al11n al11c H)
theorem compasslaw19_ManyProved.b1_eq {g2 : Nat} {on10p : Option Addr} {on10n : Nat} {on10c : Nat} {al11p : Option Addr} {al11n : Nat} {al11c : Nat} {t74 : Int} {t75 : Int} {X1 : Fr → Hp → Prop} { E : Value → Hp → Prop} {H : Hp} {K : Bool → Hp → Prop} (h : compasslaw19_ManyProved.b1_t (fun g2 on10p on10n on10c al11p al11n al11c H => compasslaw19_ManyProved.j3 g2 on10p on10n on10c al11p al11n al11c  E H K) g2 on10p on10n on10c al11p al11n al11c t74 t75 X1 E H K) : compasslaw19_ManyProved.b1 g2 on10p on10n on10c al11p al11n al11c t74 t75 X1 E H K := by
  exact nodeR_imp2 (fun G => compasslaw19_ManyProved.b1_t (fun g2 on10p on10n on10c al11p al11n al11c H => G [1, 1, 1, 1, 1, 1, 1] [(2, .pointer (some ⟨g2, 0, none⟩)), (10, .slice on10p on10n on10c), (11, .slice al11p al11n al11c)] H) g2 on10p on10n on10c al11p al11n al11c t74 t75 X1 E H K) compasslaw19_ManyProved.nok rfl (fun G => by kernel_rfl) (Eq.mp (by kernel_rfl) h)
def compasslaw19_ManyProved.b2_t (j5 : (Option Addr) → Nat → Nat → (Option Addr) → Nat → Nat → (Option Addr) → Nat → Nat → Int → Int → Hp → Prop) (j6 : (Option Addr) → Nat → Nat → (Option Addr) → Nat → Nat → Hp → Prop) (q19p : Option Addr) (q19n : Nat) (q19c : Nat) (wa22p : Option Addr) (wa22n : Nat) (wa22c : Nat) (t127p : Option Addr) (t127n : Nat) (t127c : Nat) (t128 : Int) (t129 : Int) (X1 : Fr → Hp → Prop) (E : Value → Hp → Prop) (H : Hp) (K : Bool → Hp → Prop) : Prop :=
  bcase (decide ((t129 : Int) < t128)) (
  ix t127p t127n t129 4 fun b_1 o_1 =>
  ldI .i64 (H.get b_1 o_1) fun x_1 =>
  ldI .i64 (H.get b_1 (o_1 + 1)) fun x_2 =>
  ldI .i64 (H.get b_1 (o_1 + 2)) fun x_3 =>
  ldI .i64 (H.get b_1 (o_1 + 3)) fun x_4 =>
  nw H ⟨[.int .i64 0, .int .i64 0, .int .i64 0, .int .i64 0], 44⟩ fun b_2 H_1 =>
  stC H_1 b_2 0 [.int .i64 x_1, .int .i64 x_2, .int .i64 x_3, .int .i64 x_4] fun H_2 =>
  ldI .i64 (H_2.get b_2 0) fun x_5 =>
  ldI .i64 (H_2.get b_2 1) fun x_6 =>
  bcase (!decide ((x_5 : Int) = x_6)) (
  nw H_2 ⟨[.int .i64 t129], 3⟩ fun b_3 H_3 =>
  appM 3 [.i .i64] 8 wa22p wa22n wa22c (some ⟨b_3, 0, none⟩) 1 H_3 fun a_1p a_1n a_1c H_4 =>
  j5 q19p q19n q19c a_1p a_1n a_1c t127p t127n t127c t128 t129 H_4)
  (j5 q19p q19n q19c wa22p wa22n wa22c t127p t127n t127c t128 t129 H_2))
  (j6 q19p q19n q19c wa22p wa22n wa22c H)
theorem compasslaw19_ManyProved.b2_eq {q19p : Option Addr} {q19n : Nat} {q19c : Nat} {wa22p : Option Addr} {wa22n : Nat} {wa22c : Nat} {t127p : Option Addr} {t127n : Nat} {t127c : Nat} {t128 : Int} {t129 : Int} {X1 : Fr → Hp → Prop} { E : Value → Hp → Prop} {H : Hp} {K : Bool → Hp → Prop} (h : compasslaw19_ManyProved.b2_t (fun q19p q19n q19c wa22p wa22n wa22c t127p t127n t127c t128 t129 H => compasslaw19_ManyProved.j5 q19p q19n q19c wa22p wa22n wa22c t127p t127n t127c t128 t129 X1 E H K) (fun q19p q19n q19c wa22p wa22n wa22c H => compasslaw19_ManyProved.j6 q19p q19n q19c wa22p wa22n wa22c  E H K) q19p q19n q19c wa22p wa22n wa22c t127p t127n t127c t128 t129 X1 E H K) : compasslaw19_ManyProved.b2 q19p q19n q19c wa22p wa22n wa22c t127p t127n t127c t128 t129 X1 E H K := by
  exact nodeR_imp2 (fun G => compasslaw19_ManyProved.b2_t (fun q19p q19n q19c wa22p wa22n wa22c t127p t127n t127c t128 t129 H => G [1, 1, 1, 0, 0, 1, 0, 1, 1, 1, 1, 1, 1, 1, 1, 1, 1, 1, 1, 1] [(19, .slice q19p q19n q19c), (22, .slice wa22p wa22n wa22c), (127, .slice t127p t127n t127c), (128, .int .i64 t128), (129, .int .i64 t129)] H) (fun q19p q19n q19c wa22p wa22n wa22c H => G [1, 1, 1, 1, 1, 1, 1, 1, 1, 1, 1, 1, 1, 1] [(19, .slice q19p q19n q19c), (22, .slice wa22p wa22n wa22c)] H) q19p q19n q19c wa22p wa22n wa22c t127p t127n t127c t128 t129 X1 E H K) compasslaw19_ManyProved.nok rfl (fun G => by kernel_rfl) (Eq.mp (by kernel_rfl) h)
end Go.Mz
