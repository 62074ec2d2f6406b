/-
  The shallow texts of functions (Voa), each with a kernel-checked equation to the translated code. It proves nothing of the program by itself.
-/
import Derived.Test.YtbocpfdlfnodfaaTab
set_option linter.unusedVariables false
set_option maxRecDepth 100000
namespace Go.Mz
/-! ### compass/vouch.right (30) -/
noncomputable def vouch_right.A : An := { live := [(0, [0]), (1, [1]), (2, [2])], ord := [], stb := [], pre := [] }
noncomputable def vouch_right.code : Code := bodyOf Go.Proofs.Try.f30
theorem vouch_right.ok : okCode vouch_right.A 11 vouch_right.code = true := by kernel_rfl
def vouch_right.rq (E : Value → Hp → Prop) (K : Hp → Prop) : Ex → Fr → Hp → Prop := retQ T0 [] [] (fun r H => ldR (.tup []) r fun u => K  H) E
def vouch_right.run (g0_Nodes : Int) (g0_Edgesp : Option Addr) (g0_Edgesn : Nat) (g0_Edgesc : Nat) (E : Value → Hp → Prop) (H : Hp) (K : Hp → Prop) : Prop := nodeM P0 T0 vouch_right.A vouch_right.code [] [] (vouch_right.rq E K) (argF 0 [.agg ⟨[.int .i64 g0_Nodes, .slice g0_Edgesp g0_Edgesn g0_Edgesc]⟩]) H
theorem vouch_right.of {g0_Nodes : Int} {g0_Edgesp : Option Addr} {g0_Edgesn : Nat} {g0_Edgesc : Nat} {E : Value → Hp → Prop} {H : Hp} {K : Hp → Prop} (h : vouch_right.run g0_Nodes g0_Edgesp g0_Edgesn g0_Edgesc E H K) : vouch_right.call g0_Nodes g0_Edgesp g0_Edgesn g0_Edgesc E H K :=
  callW_of T0_ok P0_mixed (A := vouch_right.A) (fn := Go.Proofs.Try.f30) Go.Proofs.Try.func30 rfl vouch_right.ok rfl h
theorem vouch_right.nok : nodesOk vouch_right.code [] = true := by kernel_rfl
def vouch_right.run_t  (g0_Nodes : Int) (g0_Edgesp : Option Addr) (g0_Edgesn : Nat) (g0_Edgesc : Nat)  (E : Value → Hp → Prop) (H : Hp) (K : Hp → Prop) : Prop :=
  nw H ⟨[.int .i64 g0_Nodes, .slice g0_Edgesp g0_Edgesn g0_Edgesc], 24⟩ fun b_1 H_1 =>
  ldI .i64 (H_1.get b_1 0) fun x_1 =>
  ldS (H_1.get b_1 1) fun x_2p x_2n x_2c =>
  graph_Check.call x_1 x_2p x_2n x_2c E H_1 fun r_1_Code r_1_At H_2 =>
  nw H_2 ⟨[.int .i64 0, .int .i64 0], 65⟩ fun b_2 H_3 =>
  stC H_3 b_2 0 [.int .i64 r_1_Code, .int .i64 r_1_At] fun H_4 =>
  ldI .i64 (H_4.get b_2 0) fun x_3 =>
  ldI .i64 (H_4.get b_2 0) fun x_4 =>
  vouch_need.call (decide ((x_3 : Int) = 0)) x_4 E H_4 fun H_5 =>
  K H_5
theorem vouch_right.run_eq {g0_Nodes : Int} {g0_Edgesp : Option Addr} {g0_Edgesn : Nat} {g0_Edgesc : Nat} { E : Value → Hp → Prop} {H : Hp} {K : Hp → Prop} (h : vouch_right.run_t  g0_Nodes g0_Edgesp g0_Edgesn g0_Edgesc  E H K) : vouch_right.run g0_Nodes g0_Edgesp g0_Edgesn g0_Edgesc  E H K := by
  exact nodeR_imp2 (fun _ => vouch_right.run_t  g0_Nodes g0_Edgesp g0_Edgesn g0_Edgesc  E H K) vouch_right.nok rfl (fun G => by kernel_rfl) h
/-! ### compass/vouch.matched (32) -/
noncomputable def vouch_matched.A : An := { live := [(0, [0, 1, 2]), (1, [1, 2, 3]), (2, [1, 2, 3]), (3, [1, 2, 3, 6]), (4, [2, 3, 6, 20, 21, 22]), (5, [2, 3, 6, 20, 21, 22]), (6, [2, 3, 6, 8, 20, 21, 22]), (7, [2, 3, 6, 9, 20, 21, 22]), (8, [2, 3, 6, 9, 20, 21, 22]), (9, [2, 3, 6, 20, 21, 22, 39, 40]), (10, [2, 3, 6, 20, 21, 22, 39, 40]), (11, [2, 3, 6, 11, 20, 21, 22, 39, 40]), (12, [2, 3, 6, 11, 20, 21, 22, 39, 40]), (13, [2, 3, 6, 20, 21, 22, 39, 40]), (14, [2, 3, 6, 20, 21, 22])], ord := [(12, [0, 1, 2, 3, 4, 5, 6, 7, 8])], stb := [(12, [(6, [3])])], pre := [(12, [[], [], [0, 1], [0, 1, 2], [], [], [4, 5], [0, 1, 2, 3, 4, 5, 6], [0, 1, 2, 3, 4, 5, 6, 7]])] }
noncomputable def vouch_matched.code : Code := bodyOf Go.Proofs.Try.f32
theorem vouch_matched.ok : okCode vouch_matched.A 60 vouch_matched.code = true := by kernel_rfl
def vouch_matched.rq (E : Value → Hp → Prop) (K : Hp → Prop) : Ex → Fr → Hp → Prop := retQ T0 [] [] (fun r H => ldR (.tup []) r fun u => K  H) E
def vouch_matched.run (g0_Nodes : Int) (g0_Edgesp : Option Addr) (g0_Edgesn : Nat) (g0_Edgesc : Nat) (m1p : Option Addr) (m1n : Nat) (m1c : Nat) (mo2g : Nat) (mo2k : List Value) (E : Value → Hp → Prop) (H : Hp) (K : Hp → Prop) : Prop := nodeM P0 T0 vouch_matched.A vouch_matched.code [] [] (vouch_matched.rq E K) (argF 0 [.agg ⟨[.int .i64 g0_Nodes, .slice g0_Edgesp g0_Edgesn g0_Edgesc]⟩, .slice m1p m1n m1c, .func (.func mo2g) ⟨[]⟩ ⟨mo2k⟩]) H
theorem vouch_matched.of {g0_Nodes : Int} {g0_Edgesp : Option Addr} {g0_Edgesn : Nat} {g0_Edgesc : Nat} {m1p : Option Addr} {m1n : Nat} {m1c : Nat} {mo2g : Nat} {mo2k : List Value} {E : Value → Hp → Prop} {H : Hp} {K : Hp → Prop} (h : vouch_matched.run g0_Nodes g0_Edgesp g0_Edgesn g0_Edgesc m1p m1n m1c mo2g mo2k E H K) : vouch_matched.call g0_Nodes g0_Edgesp g0_Edgesn g0_Edgesc m1p m1n m1c mo2g mo2k E H K :=
  callW_of T0_ok P0_mixed (A := vouch_matched.A) (fn := Go.Proofs.Try.f32) Go.Proofs.Try.func32 rfl vouch_matched.ok rfl h
noncomputable def vouch_matched.f1 (mo2g : Nat) (mo2k : List Value) (g3 : Nat) (at6p : Option Addr) (at6n : Nat) (at6c : Nat) (t20p : Option Addr) (t20n : Nat) (t20c : Nat) (t21 : Int) (t22 : Int) : Fr := [(2, .func (.func mo2g) ⟨[]⟩ ⟨mo2k⟩), (3, .pointer (some ⟨g3, 0, none⟩)), (6, .slice at6p at6n at6c), (20, .slice t20p t20n t20c), (21, .int .i64 t21), (22, .int .i64 t22)]
noncomputable def vouch_matched.f2 (mo2g : Nat) (mo2k : List Value) (g3 : Nat) (at6p : Option Addr) (at6n : Nat) (at6c : Nat) (t20p : Option Addr) (t20n : Nat) (t20c : Nat) (t21 : Int) (t22 : Int) (t39_0 : Int) (t39_1 : Int) (t40 : Int) : Fr := [(2, .func (.func mo2g) ⟨[]⟩ ⟨mo2k⟩), (3, .pointer (some ⟨g3, 0, none⟩)), (6, .slice at6p at6n at6c), (20, .slice t20p t20n t20c), (21, .int .i64 t21), (22, .int .i64 t22), (39, .agg ⟨[.int .i64 t39_0, .int .i64 t39_1]⟩), (40, .int .i64 t40)]
def vouch_matched.j1 (mo2g : Nat) (mo2k : List Value) (g3 : Nat) (at6p : Option Addr) (at6n : Nat) (at6c : Nat) (t20p : Option Addr) (t20n : Nat) (t20c : Nat) (t21 : Int) (t22 : Int) (X1 : Fr → Hp → Prop) (E : Value → Hp → Prop) (H : Hp) (K : Hp → Prop) : Prop := nodeM P0 T0 vouch_matched.A vouch_matched.code [1, 1, 1, 1, 0, 0, 1, 1, 1] [X1] (vouch_matched.rq E K) [(2, .func (.func mo2g) ⟨[]⟩ ⟨mo2k⟩), (3, .pointer (some ⟨g3, 0, none⟩)), (6, .slice at6p at6n at6c), (20, .slice t20p t20n t20c), (21, .int .i64 t21), (22, .int .i64 t22)] H
def vouch_matched.l1 (mo2g : Nat) (mo2k : List Value) (g3 : Nat) (at6p : Option Addr) (at6n : Nat) (at6c : Nat) (t20p : Option Addr) (t20n : Nat) (t20c : Nat) (t21 : Int) (t22 : Int)  (E : Value → Hp → Prop) (H : Hp) (K : Hp → Prop) : Prop := nodeM P0 T0 vouch_matched.A vouch_matched.code [1, 1, 1, 1, 0] [] (vouch_matched.rq E K) (vouch_matched.f1 mo2g mo2k g3 at6p at6n at6c t20p t20n t20c t21 t22) H
def vouch_matched.b1 (mo2g : Nat) (mo2k : List Value) (g3 : Nat) (at6p : Option Addr) (at6n : Nat) (at6c : Nat) (t20p : Option Addr) (t20n : Nat) (t20c : Nat) (t21 : Int) (t22 : Int)  (X1 : Fr → Hp → Prop) (E : Value → Hp → Prop) (H : Hp) (K : Hp → Prop) : Prop := nodeM P0 T0 vouch_matched.A vouch_matched.code [1, 1, 1, 1, 0, 0] [X1] (vouch_matched.rq E K) (vouch_matched.f1 mo2g mo2k g3 at6p at6n at6c t20p t20n t20c t21 t22) H
theorem vouch_matched.l1_rule { E : Value → Hp → Prop} {K : Hp → Prop} (I : Nat → (List Value) → Nat → (Option Addr) → Nat → Nat → (Option Addr) → Nat → Nat → Int → Int → Hp → Prop) (μ : Nat → (List Value) → Nat → (Option Addr) → Nat → Nat → (Option Addr) → Nat → Nat → Int → Int → Hp → Nat)
    (h : ∀ mo2g mo2k g3 at6p at6n at6c t20p t20n t20c t21 t22 H, I mo2g mo2k g3 at6p at6n at6c t20p t20n t20c t21 t22 H → ∀ X : Fr → Hp → Prop, (∀ mo2g' mo2k' g3' at6p' at6n' at6c' t20p' t20n' t20c' t21' t22' H', I mo2g' mo2k' g3' at6p' at6n' at6c' t20p' t20n' t20c' t21' t22' H' → μ mo2g' mo2k' g3' at6p' at6n' at6c' t20p' t20n' t20c' t21' t22' H' < μ mo2g mo2k g3 at6p at6n at6c t20p t20n t20c t21 t22 H → X (vouch_matched.f1 mo2g' mo2k' g3' at6p' at6n' at6c' t20p' t20n' t20c' t21' t22') H') → vouch_matched.b1 mo2g mo2k g3 at6p at6n at6c t20p t20n t20c t21 t22  X E H K)
    {mo2g : Nat} {mo2k : List Value} {g3 : Nat} {at6p : Option Addr} {at6n : Nat} {at6c : Nat} {t20p : Option Addr} {t20n : Nat} {t20c : Nat} {t21 : Int} {t22 : Int} {H : Hp} (hI : I mo2g mo2k g3 at6p at6n at6c t20p t20n t20c t21 t22 H) : vouch_matched.l1 mo2g mo2k g3 at6p at6n at6c t20p t20n t20c t21 t22  E H K :=
  loop_rule (S := Nat × (List Value) × Nat × (Option Addr) × Nat × Nat × (Option Addr) × Nat × Nat × Int × Int) (fun s => vouch_matched.f1 (s.1) (s.2.1) (s.2.2.1) (s.2.2.2.1) (s.2.2.2.2.1) (s.2.2.2.2.2.1) (s.2.2.2.2.2.2.1) (s.2.2.2.2.2.2.2.1) (s.2.2.2.2.2.2.2.2.1) (s.2.2.2.2.2.2.2.2.2.1) (s.2.2.2.2.2.2.2.2.2.2)) (fun s H => I (s.1) (s.2.1) (s.2.2.1) (s.2.2.2.1) (s.2.2.2.2.1) (s.2.2.2.2.2.1) (s.2.2.2.2.2.2.1) (s.2.2.2.2.2.2.2.1) (s.2.2.2.2.2.2.2.2.1) (s.2.2.2.2.2.2.2.2.2.1) (s.2.2.2.2.2.2.2.2.2.2) H) (fun s H => μ (s.1) (s.2.1) (s.2.2.1) (s.2.2.2.1) (s.2.2.2.2.1) (s.2.2.2.2.2.1) (s.2.2.2.2.2.2.1) (s.2.2.2.2.2.2.2.1) (s.2.2.2.2.2.2.2.2.1) (s.2.2.2.2.2.2.2.2.2.1) (s.2.2.2.2.2.2.2.2.2.2) H) (fun s H hI X hX => h (s.1) (s.2.1) (s.2.2.1) (s.2.2.2.1) (s.2.2.2.2.1) (s.2.2.2.2.2.1) (s.2.2.2.2.2.2.1) (s.2.2.2.2.2.2.2.1) (s.2.2.2.2.2.2.2.2.1) (s.2.2.2.2.2.2.2.2.2.1) (s.2.2.2.2.2.2.2.2.2.2) H hI X fun mo2g' mo2k' g3' at6p' at6n' at6c' t20p' t20n' t20c' t21' t22' H' hI' hlt => hX (mo2g', mo2k', g3', at6p', at6n', at6c', t20p', t20n', t20c', t21', t22') H' hI' hlt) (s := (mo2g, mo2k, g3, at6p, at6n, at6c, t20p, t20n, t20c, t21, t22)) rfl hI
def vouch_matched.l2 (mo2g : Nat) (mo2k : List Value) (g3 : Nat) (at6p : Option Addr) (at6n : Nat) (at6c : Nat) (t20p : Option Addr) (t20n : Nat) (t20c : Nat) (t21 : Int) (t22 : Int) (t39_0 : Int) (t39_1 : Int) (t40 : Int) (X1 : Fr → Hp → Prop) (E : Value → Hp → Prop) (H : Hp) (K : Hp → Prop) : Prop := nodeM P0 T0 vouch_matched.A vouch_matched.code [1, 1, 1, 1, 0, 0, 1, 1, 0, 0, 1, 1, 1, 1, 0] [X1] (vouch_matched.rq E K) (vouch_matched.f2 mo2g mo2k g3 at6p at6n at6c t20p t20n t20c t21 t22 t39_0 t39_1 t40) H
def vouch_matched.b2 (mo2g : Nat) (mo2k : List Value) (g3 : Nat) (at6p : Option Addr) (at6n : Nat) (at6c : Nat) (t20p : Option Addr) (t20n : Nat) (t20c : Nat) (t21 : Int) (t22 : Int) (t39_0 : Int) (t39_1 : Int) (t40 : Int) (X1 : Fr → Hp → Prop) (X2 : Fr → Hp → Prop) (E : Value → Hp → Prop) (H : Hp) (K : Hp → Prop) : Prop := nodeM P0 T0 vouch_matched.A vouch_matched.code [1, 1, 1, 1, 0, 0, 1, 1, 0, 0, 1, 1, 1, 1, 0, 0] [X1, X2] (vouch_matched.rq E K) (vouch_matched.f2 mo2g mo2k g3 at6p at6n at6c t20p t20n t20c t21 t22 t39_0 t39_1 t40) H
theorem vouch_matched.l2_rule {X1 : Fr → Hp → Prop} { E : Value → Hp → Prop} {K : Hp → Prop} (I : Nat → (List Value) → Nat → (Option Addr) → Nat → Nat → (Option Addr) → Nat → Nat → Int → Int → Int → Int → Int → Hp → Prop) (μ : Nat → (List Value) → Nat → (Option Addr) → Nat → Nat → (Option Addr) → Nat → Nat → Int → Int → Int → Int → Int → Hp → Nat)
    (h : ∀ mo2g mo2k g3 at6p at6n at6c t20p t20n t20c t21 t22 t39_0 t39_1 t40 H, I mo2g mo2k g3 at6p at6n at6c t20p t20n t20c t21 t22 t39_0 t39_1 t40 H → ∀ X : Fr → Hp → Prop, (∀ mo2g' mo2k' g3' at6p' at6n' at6c' t20p' t20n' t20c' t21' t22' t39_0' t39_1' t40' H', I mo2g' mo2k' g3' at6p' at6n' at6c' t20p' t20n' t20c' t21' t22' t39_0' t39_1' t40' H' → μ mo2g' mo2k' g3' at6p' at6n' at6c' t20p' t20n' t20c' t21' t22' t39_0' t39_1' t40' H' < μ mo2g mo2k g3 at6p at6n at6c t20p t20n t20c t21 t22 t39_0 t39_1 t40 H → X (vouch_matched.f2 mo2g' mo2k' g3' at6p' at6n' at6c' t20p' t20n' t20c' t21' t22' t39_0' t39_1' t40') H') → vouch_matched.b2 mo2g mo2k g3 at6p at6n at6c t20p t20n t20c t21 t22 t39_0 t39_1 t40 X1 X E H K)
    {mo2g : Nat} {mo2k : List Value} {g3 : Nat} {at6p : Option Addr} {at6n : Nat} {at6c : Nat} {t20p : Option Addr} {t20n : Nat} {t20c : Nat} {t21 : Int} {t22 : Int} {t39_0 : Int} {t39_1 : Int} {t40 : Int} {H : Hp} (hI : I mo2g mo2k g3 at6p at6n at6c t20p t20n t20c t21 t22 t39_0 t39_1 t40 H) : vouch_matched.l2 mo2g mo2k g3 at6p at6n at6c t20p t20n t20c t21 t22 t39_0 t39_1 t40 X1 E H K :=
  loop_rule (S := Nat × (List Value) × Nat × (Option Addr) × Nat × Nat × (Option Addr) × Nat × Nat × Int × Int × Int × Int × Int) (fun s => vouch_matched.f2 (s.1) (s.2.1) (s.2.2.1) (s.2.2.2.1) (s.2.2.2.2.1) (s.2.2.2.2.2.1) (s.2.2.2.2.2.2.1) (s.2.2.2.2.2.2.2.1) (s.2.2.2.2.2.2.2.2.1) (s.2.2.2.2.2.2.2.2.2.1) (s.2.2.2.2.2.2.2.2.2.2.1) (s.2.2.2.2.2.2.2.2.2.2.2.1) (s.2.2.2.2.2.2.2.2.2.2.2.2.1) (s.2.2.2.2.2.2.2.2.2.2.2.2.2)) (fun s H => I (s.1) (s.2.1) (s.2.2.1) (s.2.2.2.1) (s.2.2.2.2.1) (s.2.2.2.2.2.1) (s.2.2.2.2.2.2.1) (s.2.2.2.2.2.2.2.1) (s.2.2.2.2.2.2.2.2.1) (s.2.2.2.2.2.2.2.2.2.1) (s.2.2.2.2.2.2.2.2.2.2.1) (s.2.2.2.2.2.2.2.2.2.2.2.1) (s.2.2.2.2.2.2.2.2.2.2.2.2.1) (s.2.2.2.2.2.2.2.2.2.2.2.2.2) H) (fun s H => μ (s.1) (s.2.1) (s.2.2.1) (s.2.2.2.1) (s.2.2.2.2.1) (s.2.2.2.2.2.1) (s.2.2.2.2.2.2.1) (s.2.2.2.2.2.2.2.1) (s.2.2.2.2.2.2.2.2.1) (s.2.2.2.2.2.2.2.2.2.1) (s.2.2.2.2.2.2.2.2.2.2.1) (s.2.2.2.2.2.2.2.2.2.2.2.1) (s.2.2.2.2.2.2.2.2.2.2.2.2.1) (s.2.2.2.2.2.2.2.2.2.2.2.2.2) H) (fun s H hI X hX => h (s.1) (s.2.1) (s.2.2.1) (s.2.2.2.1) (s.2.2.2.2.1) (s.2.2.2.2.2.1) (s.2.2.2.2.2.2.1) (s.2.2.2.2.2.2.2.1) (s.2.2.2.2.2.2.2.2.1) (s.2.2.2.2.2.2.2.2.2.1) (s.2.2.2.2.2.2.2.2.2.2.1) (s.2.2.2.2.2.2.2.2.2.2.2.1) (s.2.2.2.2.2.2.2.2.2.2.2.2.1) (s.2.2.2.2.2.2.2.2.2.2.2.2.2) H hI X fun mo2g' mo2k' g3' at6p' at6n' at6c' t20p' t20n' t20c' t21' t22' t39_0' t39_1' t40' H' hI' hlt => hX (mo2g', mo2k', g3', at6p', at6n', at6c', t20p', t20n', t20c', t21', t22', t39_0', t39_1', t40') H' hI' hlt) (s := (mo2g, mo2k, g3, at6p, at6n, at6c, t20p, t20n, t20c, t21, t22, t39_0, t39_1, t40)) rfl hI
theorem vouch_matched.nok : nodesOk vouch_matched.code [[0, 1, 1, 1, 1], [0, 1, 1, 1, 1, 0, 0, 1, 1, 0, 0, 1, 1, 1, 1], [1, 1, 1, 0, 0, 1, 1, 1, 1]] = true := by kernel_rfl
def vouch_matched.run_t (l1 : Nat → (List Value) → Nat → (Option Addr) → Nat → Nat → (Option Addr) → Nat → Nat → Int → Int → Hp → Prop) (g0_Nodes : Int) (g0_Edgesp : Option Addr) (g0_Edgesn : Nat) (g0_Edgesc : Nat) (m1p : Option Addr) (m1n : Nat) (m1c : Nat) (mo2g : Nat) (mo2k : List Value)  (E : Value → Hp → Prop) (H : Hp) (K : Hp → Prop) : Prop :=
  nw H ⟨[.int .i64 g0_Nodes, .slice g0_Edgesp g0_Edgesn g0_Edgesc], 24⟩ fun b_1 H_1 =>
  ldS (H_1.get b_1 1) fun x_1p x_1n x_1c =>
  vouch_rising.call m1p m1n m1c (x_1n : Int) E H_1 fun H_2 =>
  ldI .i64 (H_2.get b_1 0) fun x_2 =>
  mkS x_2 x_2 3 [.i .i64] 8 H_2 fun b_2 H_3 =>
  l1 mo2g mo2k b_1 (some ⟨b_2, 0, none⟩) x_2.toNat x_2.toNat m1p m1n m1c (m1n : Int) 0 H_3
theorem vouch_matched.run_eq {g0_Nodes : Int} {g0_Edgesp : Option Addr} {g0_Edgesn : Nat} {g0_Edgesc : Nat} {m1p : Option Addr} {m1n : Nat} {m1c : Nat} {mo2g : Nat} {mo2k : List Value} { E : Value → Hp → Prop} {H : Hp} {K : Hp → Prop} (h : vouch_matched.run_t (fun mo2g mo2k g3 at6p at6n at6c t20p t20n t20c t21 t22 H => vouch_matched.l1 mo2g mo2k g3 at6p at6n at6c t20p t20n t20c t21 t22  E H K) g0_Nodes g0_Edgesp g0_Edgesn g0_Edgesc m1p m1n m1c mo2g mo2k  E H K) : vouch_matched.run g0_Nodes g0_Edgesp g0_Edgesn g0_Edgesc m1p m1n m1c mo2g mo2k  E H K := by
  exact nodeR_imp2 (fun G => vouch_matched.run_t (fun mo2g mo2k g3 at6p at6n at6c t20p t20n t20c t21 t22 H => G [0, 1, 1, 1, 1] [(2, .func (.func mo2g) ⟨[]⟩ ⟨mo2k⟩), (3, .pointer (some ⟨g3, 0, none⟩)), (6, .slice at6p at6n at6c), (20, .slice t20p t20n t20c), (21, .int .i64 t21), (22, .int .i64 t22)] H) g0_Nodes g0_Edgesp g0_Edgesn g0_Edgesc m1p m1n m1c mo2g mo2k  E H K) vouch_matched.nok rfl (fun G => by kernel_rfl) (Eq.mp (by kernel_rfl) h)
def vouch_matched.j1_t  (mo2g : Nat) (mo2k : List Value) (g3 : Nat) (at6p : Option Addr) (at6n : Nat) (at6c : Nat) (t20p : Option Addr) (t20n : Nat) (t20c : Nat) (t21 : Int) (t22 : Int) (X1 : Fr → Hp → Prop) (E : Value → Hp → Prop) (H : Hp) (K : Hp → Prop) : Prop :=
  X1 (vouch_matched.f1 mo2g mo2k g3 at6p at6n at6c t20p t20n t20c t21 (IntKind.wrap .i64 (t22 + 1))) H
theorem vouch_matched.j1_eq {mo2g : Nat} {mo2k : List Value} {g3 : Nat} {at6p : Option Addr} {at6n : Nat} {at6c : Nat} {t20p : Option Addr} {t20n : Nat} {t20c : Nat} {t21 : Int} {t22 : Int} {X1 : Fr → Hp → Prop} { E : Value → Hp → Prop} {H : Hp} {K : Hp → Prop} (h : vouch_matched.j1_t  mo2g mo2k g3 at6p at6n at6c t20p t20n t20c t21 t22 X1 E H K) : vouch_matched.j1 mo2g mo2k g3 at6p at6n at6c t20p t20n t20c t21 t22 X1 E H K := by
  exact nodeR_imp2 (fun _ => vouch_matched.j1_t  mo2g mo2k g3 at6p at6n at6c t20p t20n t20c t21 t22 X1 E H K) vouch_matched.nok rfl (fun G => by kernel_rfl) h
def vouch_matched.b1_t (l2 : Nat → (List Value) → Nat → (Option Addr) → Nat → Nat → (Option Addr) → Nat → Nat → Int → Int → Int → Int → Int → Hp → Prop) (mo2g : Nat) (mo2k : List Value) (g3 : Nat) (at6p : Option Addr) (at6n : Nat) (at6c : Nat) (t20p : Option Addr) (t20n : Nat) (t20c : Nat) (t21 : Int) (t22 : Int) (X1 : Fr → Hp → Prop) (E : Value → Hp → Prop) (H : Hp) (K : Hp → Prop) : Prop :=
  bcase (decide ((t22 : Int) < t21)) (
  ix t20p t20n t22 1 fun b_1 o_1 =>
  ldI .i64 (H.get b_1 o_1) fun x_1 =>
  ldS (H.get g3 1) fun x_2p x_2n x_2c =>
  ix x_2p x_2n x_1 4 fun b_2 o_2 =>
  ldI .i64 (H.get b_2 o_2) fun x_3 =>
  ldI .i64 (H.get b_2 (o_2 + 1)) fun x_4 =>
  ldI .i64 (H.get b_2 (o_2 + 2)) fun x_5 =>
  ldI .i64 (H.get b_2 (o_2 + 3)) fun x_6 =>
  nw H ⟨[.int .i64 0, .int .i64 0, .int .i64 0, .int .i64 0], 44⟩ fun b_3 H_1 =>
  stC H_1 b_3 0 [.int .i64 x_3, .int .i64 x_4, .int .i64 x_5, .int .i64 x_6] fun H_2 =>
  ldI .i64 (H_2.get b_3 0) fun x_7 =>
  ldI .i64 (H_2.get b_3 1) fun x_8 =>
  ldI .i64 (H_2.get b_3 2) fun x_9 =>
  ldI .i64 (H_2.get b_3 3) fun x_10 =>
  vouch_loop.call x_7 x_8 x_9 x_10 E H_2 fun r_1 H_3 =>
  vouch_need.call (!r_1) 221 E H_3 fun H_4 =>
  ldI .i64 (H_4.get b_3 0) fun x_11 =>
  ldI .i64 (H_4.get b_3 1) fun x_12 =>
  l2 mo2g mo2k g3 at6p at6n at6c t20p t20n t20c t21 t22 x_11 x_12 0 H_4)
  (K H)
theorem vouch_matched.b1_eq {mo2g : Nat} {mo2k : List Value} {g3 : Nat} {at6p : Option Addr} {at6n : Nat} {at6c : Nat} {t20p : Option Addr} {t20n : Nat} {t20c : Nat} {t21 : Int} {t22 : Int} {X1 : Fr → Hp → Prop} { E : Value → Hp → Prop} {H : Hp} {K : Hp → Prop} (h : vouch_matched.b1_t (fun mo2g mo2k g3 at6p at6n at6c t20p t20n t20c t21 t22 t39_0 t39_1 t40 H => vouch_matched.l2 mo2g mo2k g3 at6p at6n at6c t20p t20n t20c t21 t22 t39_0 t39_1 t40 X1 E H K) mo2g mo2k g3 at6p at6n at6c t20p t20n t20c t21 t22 X1 E H K) : vouch_matched.b1 mo2g mo2k g3 at6p at6n at6c t20p t20n t20c t21 t22 X1 E H K := by
  exact nodeR_imp2 (fun G => vouch_matched.b1_t (fun mo2g mo2k g3 at6p at6n at6c t20p t20n t20c t21 t22 t39_0 t39_1 t40 H => G [0, 1, 1, 1, 1, 0, 0, 1, 1, 0, 0, 1, 1, 1, 1] [(2, .func (.func mo2g) ⟨[]⟩ ⟨mo2k⟩), (3, .pointer (some ⟨g3, 0, none⟩)), (6, .slice at6p at6n at6c), (20, .slice t20p t20n t20c), (21, .int .i64 t21), (22, .int .i64 t22), (39, .agg ⟨[.int .i64 t39_0, .int .i64 t39_1]⟩), (40, .int .i64 t40)] H) mo2g mo2k g3 at6p at6n at6c t20p t20n t20c t21 t22 X1 E H K) vouch_matched.nok rfl (fun G => by kernel_rfl) (Eq.mp (by kernel_rfl) h)
def vouch_matched.b2_t (j1 : Nat → (List Value) → Nat → (Option Addr) → Nat → Nat → (Option Addr) → Nat → Nat → Int → Int → Hp → Prop) (mo2g : Nat) (mo2k : List Value) (g3 : Nat) (at6p : Option Addr) (at6n : Nat) (at6c : Nat) (t20p : Option Addr) (t20n : Nat) (t20c : Nat) (t21 : Int) (t22 : Int) (t39_0 : Int) (t39_1 : Int) (t40 : Int) (X1 : Fr → Hp → Prop) (X2 : Fr → Hp → Prop) (E : Value → Hp → Prop) (H : Hp) (K : Hp → Prop) : Prop :=
  bcase (decide ((t40 : Int) < 2)) (
  ((0 : Int) ≤ t40 ∧ t40 < (2 : Int)) ∧
  ldI .i64 ([Value.int .i64 t39_0, Value.int .i64 t39_1][t40.toNat]?) fun x_1 =>
  ix at6p at6n x_1 1 fun b_1 o_1 =>
  ldI .i64 (H.get b_1 o_1) fun x_2 =>
  ix at6p at6n x_1 1 fun b_2 o_2 =>
  stC H b_2 o_2 [.int .i64 (IntKind.wrap .i64 (x_2 + 1))] fun H_1 =>
  ix at6p at6n x_1 1 fun b_3 o_3 =>
  ldI .i64 (H_1.get b_3 o_3) fun x_3 =>
  dcall P0 T0 mo2g ([Value.int .i64 x_1] ++ mo2k) (.one false [.i .i64]) E H_1 fun u_1 H_2 =>
  (ldI .i64 (H_2.get b_3 o_3) fun x_4 =>
  Value.int .i64 x_4 = Value.int .i64 x_3) ∧
  vouch_need.call (decide ((x_3 : Int) ≤ (asI u_1))) 221 E H_2 fun H_3 =>
  X2 (vouch_matched.f2 mo2g mo2k g3 at6p at6n at6c t20p t20n t20c t21 t22 t39_0 t39_1 (IntKind.wrap .i64 (t40 + 1))) H_3)
  (j1 mo2g mo2k g3 at6p at6n at6c t20p t20n t20c t21 t22 H)
theorem vouch_matched.b2_eq {mo2g : Nat} {mo2k : List Value} {g3 : Nat} {at6p : Option Addr} {at6n : Nat} {at6c : Nat} {t20p : Option Addr} {t20n : Nat} {t20c : Nat} {t21 : Int} {t22 : Int} {t39_0 : Int} {t39_1 : Int} {t40 : Int} {X1 X2 : Fr → Hp → Prop} { E : Value → Hp → Prop} {H : Hp} {K : Hp → Prop} (h : vouch_matched.b2_t (fun mo2g mo2k g3 at6p at6n at6c t20p t20n t20c t21 t22 H => vouch_matched.j1 mo2g mo2k g3 at6p at6n at6c t20p t20n t20c t21 t22 X1 E H K) mo2g mo2k g3 at6p at6n at6c t20p t20n t20c t21 t22 t39_0 t39_1 t40 X1 X2 E H K) : vouch_matched.b2 mo2g mo2k g3 at6p at6n at6c t20p t20n t20c t21 t22 t39_0 t39_1 t40 X1 X2 E H K := by
  exact nodeR_imp2 (fun G => vouch_matched.b2_t (fun mo2g mo2k g3 at6p at6n at6c t20p t20n t20c t21 t22 H => G [1, 1, 1, 0, 0, 1, 1, 1, 1] [(2, .func (.func mo2g) ⟨[]⟩ ⟨mo2k⟩), (3, .pointer (some ⟨g3, 0, none⟩)), (6, .slice at6p at6n at6c), (20, .slice t20p t20n t20c), (21, .int .i64 t21), (22, .int .i64 t22)] H) mo2g mo2k g3 at6p at6n at6c t20p t20n t20c t21 t22 t39_0 t39_1 t40 X1 X2 E H K) vouch_matched.nok rfl (fun G => by kernel_rfl) (Eq.mp (by kernel_rfl) h)
/-! ### compass/vouch.need (34) -/
noncomputable def vouch_need.A : An := { live := [(0, [0, 1]), (1, [1])], ord := [], stb := [], pre := [] }
noncomputable def vouch_need.code : Code := bodyOf Go.Proofs.Try.f34
theorem vouch_need.ok : okCode vouch_need.A 9 vouch_need.code = true := by kernel_rfl
def vouch_need.rq (E : Value → Hp → Prop) (K : Hp → Prop) : Ex → Fr → Hp → Prop := retQ T0 [] [] (fun r H => ldR (.tup []) r fun u => K  H) E
def vouch_need.run (ok0 : Bool) (co1 : Int) (E : Value → Hp → Prop) (H : Hp) (K : Hp → Prop) : Prop := nodeM P0 T0 vouch_need.A vouch_need.code [] [] (vouch_need.rq E K) (argF 0 [.bool ok0, .int .i64 co1]) H
theorem vouch_need.of {ok0 : Bool} {co1 : Int} {E : Value → Hp → Prop} {H : Hp} {K : Hp → Prop} (h : vouch_need.run ok0 co1 E H K) : vouch_need.call ok0 co1 E H K :=
  callW_of T0_ok P0_mixed (A := vouch_need.A) (fn := Go.Proofs.Try.f34) Go.Proofs.Try.func34 rfl vouch_need.ok rfl h
theorem vouch_need.nok : nodesOk vouch_need.code [] = true := by kernel_rfl
def vouch_need.run_t  (ok0 : Bool) (co1 : Int)  (E : Value → Hp → Prop) (H : Hp) (K : Hp → Prop) : Prop :=
  bcase ((!ok0)) (
  E (Value.iface 81 (.agg ⟨[.int .i64 co1]⟩)) H)
  (K H)
theorem vouch_need.run_eq {ok0 : Bool} {co1 : Int} { E : Value → Hp → Prop} {H : Hp} {K : Hp → Prop} (h : vouch_need.run_t  ok0 co1  E H K) : vouch_need.run ok0 co1  E H K := by
  exact nodeR_imp2 (fun _ => vouch_need.run_t  ok0 co1  E H K) vouch_need.nok rfl (fun G => by kernel_rfl) h
/-! ### compass/vouch.odd (35) -/
noncomputable def vouch_odd.A : An := { live := [(0, [0, 1]), (1, [1, 2]), (2, [1, 2, 5]), (3, [1, 2, 5, 18, 19, 20]), (4, [1, 2, 5, 18, 19, 20]), (5, [1, 2, 5, 7, 18, 19, 20]), (6, [1, 2, 5, 7, 18, 19, 20]), (7, [1, 2, 5, 7, 18, 19, 20]), (8, [1, 2, 5, 18, 19, 20]), (9, [1, 2, 5]), (10, [1, 2, 5, 8]), (11, [2, 5, 8]), (12, [2, 5, 8, 9]), (13, [5, 8, 9, 72, 73]), (14, [5, 8, 9, 72, 73]), (15, [5, 8, 9, 10, 72, 73]), (16, [5, 8, 9, 10, 11, 72, 73]), (17, [5, 8, 9, 11, 12, 72, 73]), (18, [5, 8, 9, 11, 12, 72, 73]), (19, [5, 8, 9, 11, 12, 13, 72, 73]), (20, [5, 8, 9, 11, 12, 13, 72, 73]), (21, [5, 8, 9, 11, 12, 13, 72, 73]), (22, [5, 8, 9, 11, 12, 13, 72, 73]), (23, [5, 8, 9, 11, 12, 13, 72, 73]), (24, [5, 8, 9, 11, 72, 73]), (25, [5, 8, 9, 72, 73]), (26, [9])], ord := [(6, [0, 1, 2, 3, 4, 5, 6, 7, 8, 9, 10, 11, 12, 13]), (7, [0, 1, 2, 3, 4, 5, 6, 7, 8, 9, 10, 11, 12, 13])], stb := [(6, [(11, [2])]), (7, [(11, [2])])], pre := [(6, [[], [], [1], [], [], [4], [3, 4, 5], [3, 4, 5, 6], [], [8], [8, 9], [3, 4, 5, 6, 7, 8, 9, 10], [0, 1, 2, 3, 4, 5, 6, 7, 8, 9, 10, 11], [0, 1, 2, 3, 4, 5, 6, 7, 8, 9, 10, 11, 12]]), (7, [[], [], [1], [], [], [4], [3, 4, 5], [3, 4, 5, 6], [], [8], [8, 9], [3, 4, 5, 6, 7, 8, 9, 10], [0, 1, 2, 3, 4, 5, 6, 7, 8, 9, 10, 11], [0, 1, 2, 3, 4, 5, 6, 7, 8, 9, 10, 11, 12]])] }
noncomputable def vouch_odd.code : Code := bodyOf Go.Proofs.Try.f35
theorem vouch_odd.ok : okCode vouch_odd.A 114 vouch_odd.code = true := by kernel_rfl
def vouch_odd.rq (E : Value → Hp → Prop) (K : Int → Hp → Prop) : Ex → Fr → Hp → Prop := retQ T0 [.tmp 4] [3] (fun r H => ldR (.one false [.i .i64]) r fun u => K (asI u) H) E
def vouch_odd.run (g0_Nodes : Int) (g0_Edgesp : Option Addr) (g0_Edgesn : Nat) (g0_Edgesc : Nat) (wi1p : Option Addr) (wi1n : Nat) (wi1c : Nat) (E : Value → Hp → Prop) (H : Hp) (K : Int → Hp → Prop) : Prop := nodeM P0 T0 vouch_odd.A vouch_odd.code [] [] (vouch_odd.rq E K) (argF 0 [.agg ⟨[.int .i64 g0_Nodes, .slice g0_Edgesp g0_Edgesn g0_Edgesc]⟩, .slice wi1p wi1n wi1c]) H
theorem vouch_odd.of {g0_Nodes : Int} {g0_Edgesp : Option Addr} {g0_Edgesn : Nat} {g0_Edgesc : Nat} {wi1p : Option Addr} {wi1n : Nat} {wi1c : Nat} {E : Value → Hp → Prop} {H : Hp} {K : Int → Hp → Prop} (h : vouch_odd.run g0_Nodes g0_Edgesp g0_Edgesn g0_Edgesc wi1p wi1n wi1c E H K) : vouch_odd.call g0_Nodes g0_Edgesp g0_Edgesn g0_Edgesc wi1p wi1n wi1c E H K :=
  callW_of T0_ok P0_mixed (A := vouch_odd.A) (fn := Go.Proofs.Try.f35) Go.Proofs.Try.func35 rfl vouch_odd.ok rfl h
noncomputable def vouch_odd.f1 (wi1p : Option Addr) (wi1n : Nat) (wi1c : Nat) (g2 : Nat) (ne5p : Option Addr) (ne5n : Nat) (ne5c : Nat) (t18p : Option Addr) (t18n : Nat) (t18c : Nat) (t19 : Int) (t20 : Int) : Fr := [(1, .slice wi1p wi1n wi1c), (2, .pointer (some ⟨g2, 0, none⟩)), (5, .slice ne5p ne5n ne5c), (18, .slice t18p t18n t18c), (19, .int .i64 t19), (20, .int .i64 t20)]
noncomputable def vouch_odd.f2 (ne5p : Option Addr) (ne5n : Nat) (ne5c : Nat) (se8p : Option Addr) (se8n : Nat) (se8c : Nat) (co9 : Int) (t72 : Int) (t73 : Int) : Fr := [(5, .slice ne5p ne5n ne5c), (8, .slice se8p se8n se8c), (9, .int .i64 co9), (72, .int .i64 t72), (73, .int .i64 t73)]
noncomputable def vouch_odd.f3 (ne5p : Option Addr) (ne5n : Nat) (ne5c : Nat) (se8p : Option Addr) (se8n : Nat) (se8c : Nat) (co9 : Int) (si11 : Int) (st12p : Option Addr) (st12n : Nat) (st12c : Nat) (t72 : Int) (t73 : Int) : Fr := [(5, .slice ne5p ne5n ne5c), (8, .slice se8p se8n se8c), (9, .int .i64 co9), (11, .int .i64 si11), (12, .slice st12p st12n st12c), (72, .int .i64 t72), (73, .int .i64 t73)]
def vouch_odd.j1 (wi1p : Option Addr) (wi1n : Nat) (wi1c : Nat) (g2 : Nat) (ne5p : Option Addr) (ne5n : Nat) (ne5c : Nat) (t18p : Option Addr) (t18n : Nat) (t18c : Nat) (t19 : Int) (t20 : Int) (X1 : Fr → Hp → Prop) (E : Value → Hp → Prop) (H : Hp) (K : Int → Hp → Prop) : Prop := nodeM P0 T0 vouch_odd.A vouch_odd.code [1, 1, 0, 1, 0, 0, 1, 1, 1] [X1] (vouch_odd.rq E K) [(1, .slice wi1p wi1n wi1c), (2, .pointer (some ⟨g2, 0, none⟩)), (5, .slice ne5p ne5n ne5c), (18, .slice t18p t18n t18c), (19, .int .i64 t19), (20, .int .i64 t20)] H
def vouch_odd.j2 (wi1p : Option Addr) (wi1n : Nat) (wi1c : Nat) (g2 : Nat) (ne5p : Option Addr) (ne5n : Nat) (ne5c : Nat)  (E : Value → Hp → Prop) (H : Hp) (K : Int → Hp → Prop) : Prop := nodeM P0 T0 vouch_odd.A vouch_odd.code [1, 1, 1] [] (vouch_odd.rq E K) [(1, .slice wi1p wi1n wi1c), (2, .pointer (some ⟨g2, 0, none⟩)), (5, .slice ne5p ne5n ne5c)] H
def vouch_odd.j3 (ne5p : Option Addr) (ne5n : Nat) (ne5c : Nat) (se8p : Option Addr) (se8n : Nat) (se8c : Nat) (co9 : Int) (si11 : Int) (t72 : Int) (t73 : Int) (X1 : Fr → Hp → Prop) (E : Value → Hp → Prop) (H : Hp) (K : Int → Hp → Prop) : Prop := nodeM P0 T0 vouch_odd.A vouch_odd.code [1, 1, 1, 1, 1, 1, 0, 1, 0, 0, 1, 1, 0, 0, 1, 1, 1, 1] [X1] (vouch_odd.rq E K) [(5, .slice ne5p ne5n ne5c), (8, .slice se8p se8n se8c), (9, .int .i64 co9), (11, .int .i64 si11), (72, .int .i64 t72), (73, .int .i64 t73)] H
def vouch_odd.l1 (wi1p : Option Addr) (wi1n : Nat) (wi1c : Nat) (g2 : Nat) (ne5p : Option Addr) (ne5n : Nat) (ne5c : Nat) (t18p : Option Addr) (t18n : Nat) (t18c : Nat) (t19 : Int) (t20 : Int)  (E : Value → Hp → Prop) (H : Hp) (K : Int → Hp → Prop) : Prop := nodeM P0 T0 vouch_odd.A vouch_odd.code [1, 1, 0, 1, 0] [] (vouch_odd.rq E K) (vouch_odd.f1 wi1p wi1n wi1c g2 ne5p ne5n ne5c t18p t18n t18c t19 t20) H
def vouch_odd.b1 (wi1p : Option Addr) (wi1n : Nat) (wi1c : Nat) (g2 : Nat) (ne5p : Option Addr) (ne5n : Nat) (ne5c : Nat) (t18p : Option Addr) (t18n : Nat) (t18c : Nat) (t19 : Int) (t20 : Int)  (X1 : Fr → Hp → Prop) (E : Value → Hp → Prop) (H : Hp) (K : Int → Hp → Prop) : Prop := nodeM P0 T0 vouch_odd.A vouch_odd.code [1, 1, 0, 1, 0, 0] [X1] (vouch_odd.rq E K) (vouch_odd.f1 wi1p wi1n wi1c g2 ne5p ne5n ne5c t18p t18n t18c t19 t20) H
theorem vouch_odd.l1_rule { E : Value → Hp → Prop} {K : Int → Hp → Prop} (I : (Option Addr) → Nat → Nat → Nat → (Option Addr) → Nat → Nat → (Option Addr) → Nat → Nat → Int → Int → Hp → Prop) (μ : (Option Addr) → Nat → Nat → Nat → (Option Addr) → Nat → Nat → (Option Addr) → Nat → Nat → Int → Int → Hp → Nat)
    (h : ∀ wi1p wi1n wi1c g2 ne5p ne5n ne5c t18p t18n t18c t19 t20 H, I wi1p wi1n wi1c g2 ne5p ne5n ne5c t18p t18n t18c t19 t20 H → ∀ X : Fr → Hp → Prop, (∀ wi1p' wi1n' wi1c' g2' ne5p' ne5n' ne5c' t18p' t18n' t18c' t19' t20' H', I wi1p' wi1n' wi1c' g2' ne5p' ne5n' ne5c' t18p' t18n' t18c' t19' t20' H' → μ wi1p' wi1n' wi1c' g2' ne5p' ne5n' ne5c' t18p' t18n' t18c' t19' t20' H' < μ wi1p wi1n wi1c g2 ne5p ne5n ne5c t18p t18n t18c t19 t20 H → X (vouch_odd.f1 wi1p' wi1n' wi1c' g2' ne5p' ne5n' ne5c' t18p' t18n' t18c' t19' t20') H') → vouch_odd.b1 wi1p wi1n wi1c g2 ne5p ne5n ne5c t18p t18n t18c t19 t20  X E H K)
    {wi1p : Option Addr} {wi1n : Nat} {wi1c : Nat} {g2 : Nat} {ne5p : Option Addr} {ne5n : Nat} {ne5c : Nat} {t18p : Option Addr} {t18n : Nat} {t18c : Nat} {t19 : Int} {t20 : Int} {H : Hp} (hI : I wi1p wi1n wi1c g2 ne5p ne5n ne5c t18p t18n t18c t19 t20 H) : vouch_odd.l1 wi1p wi1n wi1c g2 ne5p ne5n ne5c t18p t18n t18c t19 t20  E H K :=
  loop_rule (S := (Option Addr) × Nat × Nat × Nat × (Option Addr) × Nat × Nat × (Option Addr) × Nat × Nat × Int × Int) (fun s => vouch_odd.f1 (s.1) (s.2.1) (s.2.2.1) (s.2.2.2.1) (s.2.2.2.2.1) (s.2.2.2.2.2.1) (s.2.2.2.2.2.2.1) (s.2.2.2.2.2.2.2.1) (s.2.2.2.2.2.2.2.2.1) (s.2.2.2.2.2.2.2.2.2.1) (s.2.2.2.2.2.2.2.2.2.2.1) (s.2.2.2.2.2.2.2.2.2.2.2)) (fun s H => I (s.1) (s.2.1) (s.2.2.1) (s.2.2.2.1) (s.2.2.2.2.1) (s.2.2.2.2.2.1) (s.2.2.2.2.2.2.1) (s.2.2.2.2.2.2.2.1) (s.2.2.2.2.2.2.2.2.1) (s.2.2.2.2.2.2.2.2.2.1) (s.2.2.2.2.2.2.2.2.2.2.1) (s.2.2.2.2.2.2.2.2.2.2.2) H) (fun s H => μ (s.1) (s.2.1) (s.2.2.1) (s.2.2.2.1) (s.2.2.2.2.1) (s.2.2.2.2.2.1) (s.2.2.2.2.2.2.1) (s.2.2.2.2.2.2.2.1) (s.2.2.2.2.2.2.2.2.1) (s.2.2.2.2.2.2.2.2.2.1) (s.2.2.2.2.2.2.2.2.2.2.1) (s.2.2.2.2.2.2.2.2.2.2.2) H) (fun s H hI X hX => h (s.1) (s.2.1) (s.2.2.1) (s.2.2.2.1) (s.2.2.2.2.1) (s.2.2.2.2.2.1) (s.2.2.2.2.2.2.1) (s.2.2.2.2.2.2.2.1) (s.2.2.2.2.2.2.2.2.1) (s.2.2.2.2.2.2.2.2.2.1) (s.2.2.2.2.2.2.2.2.2.2.1) (s.2.2.2.2.2.2.2.2.2.2.2) H hI X fun wi1p' wi1n' wi1c' g2' ne5p' ne5n' ne5c' t18p' t18n' t18c' t19' t20' H' hI' hlt => hX (wi1p', wi1n', wi1c', g2', ne5p', ne5n', ne5c', t18p', t18n', t18c', t19', t20') H' hI' hlt) (s := (wi1p, wi1n, wi1c, g2, ne5p, ne5n, ne5c, t18p, t18n, t18c, t19, t20)) rfl hI
def vouch_odd.l2 (ne5p : Option Addr) (ne5n : Nat) (ne5c : Nat) (se8p : Option Addr) (se8n : Nat) (se8c : Nat) (co9 : Int) (t72 : Int) (t73 : Int)  (E : Value → Hp → Prop) (H : Hp) (K : Int → Hp → Prop) : Prop := nodeM P0 T0 vouch_odd.A vouch_odd.code [1, 1, 1, 1, 1, 1, 0, 1, 0] [] (vouch_odd.rq E K) (vouch_odd.f2 ne5p ne5n ne5c se8p se8n se8c co9 t72 t73) H
def vouch_odd.b2 (ne5p : Option Addr) (ne5n : Nat) (ne5c : Nat) (se8p : Option Addr) (se8n : Nat) (se8c : Nat) (co9 : Int) (t72 : Int) (t73 : Int)  (X1 : Fr → Hp → Prop) (E : Value → Hp → Prop) (H : Hp) (K : Int → Hp → Prop) : Prop := nodeM P0 T0 vouch_odd.A vouch_odd.code [1, 1, 1, 1, 1, 1, 0, 1, 0, 0] [X1] (vouch_odd.rq E K) (vouch_odd.f2 ne5p ne5n ne5c se8p se8n se8c co9 t72 t73) H
theorem vouch_odd.l2_rule { E : Value → Hp → Prop} {K : Int → Hp → Prop} (I : (Option Addr) → Nat → Nat → (Option Addr) → Nat → Nat → Int → Int → Int → Hp → Prop) (μ : (Option Addr) → Nat → Nat → (Option Addr) → Nat → Nat → Int → Int → Int → Hp → Nat)
    (h : ∀ ne5p ne5n ne5c se8p se8n se8c co9 t72 t73 H, I ne5p ne5n ne5c se8p se8n se8c co9 t72 t73 H → ∀ X : Fr → Hp → Prop, (∀ ne5p' ne5n' ne5c' se8p' se8n' se8c' co9' t72' t73' H', I ne5p' ne5n' ne5c' se8p' se8n' se8c' co9' t72' t73' H' → μ ne5p' ne5n' ne5c' se8p' se8n' se8c' co9' t72' t73' H' < μ ne5p ne5n ne5c se8p se8n se8c co9 t72 t73 H → X (vouch_odd.f2 ne5p' ne5n' ne5c' se8p' se8n' se8c' co9' t72' t73') H') → vouch_odd.b2 ne5p ne5n ne5c se8p se8n se8c co9 t72 t73  X E H K)
    {ne5p : Option Addr} {ne5n : Nat} {ne5c : Nat} {se8p : Option Addr} {se8n : Nat} {se8c : Nat} {co9 : Int} {t72 : Int} {t73 : Int} {H : Hp} (hI : I ne5p ne5n ne5c se8p se8n se8c co9 t72 t73 H) : vouch_odd.l2 ne5p ne5n ne5c se8p se8n se8c co9 t72 t73  E H K :=
  loop_rule (S := (Option Addr) × Nat × Nat × (Option Addr) × Nat × Nat × Int × Int × Int) (fun s => vouch_odd.f2 (s.1) (s.2.1) (s.2.2.1) (s.2.2.2.1) (s.2.2.2.2.1) (s.2.2.2.2.2.1) (s.2.2.2.2.2.2.1) (s.2.2.2.2.2.2.2.1) (s.2.2.2.2.2.2.2.2)) (fun s H => I (s.1) (s.2.1) (s.2.2.1) (s.2.2.2.1) (s.2.2.2.2.1) (s.2.2.2.2.2.1) (s.2.2.2.2.2.2.1) (s.2.2.2.2.2.2.2.1) (s.2.2.2.2.2.2.2.2) H) (fun s H => μ (s.1) (s.2.1) (s.2.2.1) (s.2.2.2.1) (s.2.2.2.2.1) (s.2.2.2.2.2.1) (s.2.2.2.2.2.2.1) (s.2.2.2.2.2.2.2.1) (s.2.2.2.2.2.2.2.2) H) (fun s H hI X hX => h (s.1) (s.2.1) (s.2.2.1) (s.2.2.2.1) (s.2.2.2.2.1) (s.2.2.2.2.2.1) (s.2.2.2.2.2.2.1) (s.2.2.2.2.2.2.2.1) (s.2.2.2.2.2.2.2.2) H hI X fun ne5p' ne5n' ne5c' se8p' se8n' se8c' co9' t72' t73' H' hI' hlt => hX (ne5p', ne5n', ne5c', se8p', se8n', se8c', co9', t72', t73') H' hI' hlt) (s := (ne5p, ne5n, ne5c, se8p, se8n, se8c, co9, t72, t73)) rfl hI
def vouch_odd.l3 (ne5p : Option Addr) (ne5n : Nat) (ne5c : Nat) (se8p : Option Addr) (se8n : Nat) (se8c : Nat) (co9 : Int) (si11 : Int) (st12p : Option Addr) (st12n : Nat) (st12c : Nat) (t72 : Int) (t73 : Int) (X1 : Fr → Hp → Prop) (E : Value → Hp → Prop) (H : Hp) (K : Int → Hp → Prop) : Prop := nodeM P0 T0 vouch_odd.A vouch_odd.code [1, 1, 1, 1, 1, 1, 0, 1, 0, 0, 1, 1, 0, 0, 1, 1, 1, 0, 0] [X1] (vouch_odd.rq E K) (vouch_odd.f3 ne5p ne5n ne5c se8p se8n se8c co9 si11 st12p st12n st12c t72 t73) H
def vouch_odd.b3 (ne5p : Option Addr) (ne5n : Nat) (ne5c : Nat) (se8p : Option Addr) (se8n : Nat) (se8c : Nat) (co9 : Int) (si11 : Int) (st12p : Option Addr) (st12n : Nat) (st12c : Nat) (t72 : Int) (t73 : Int) (X1 : Fr → Hp → Prop) (X2 : Fr → Hp → Prop) (E : Value → Hp → Prop) (H : Hp) (K : Int → Hp → Prop) : Prop := nodeM P0 T0 vouch_odd.A vouch_odd.code [1, 1, 1, 1, 1, 1, 0, 1, 0, 0, 1, 1, 0, 0, 1, 1, 1, 0, 0, 0] [X1, X2] (vouch_odd.rq E K) (vouch_odd.f3 ne5p ne5n ne5c se8p se8n se8c co9 si11 st12p st12n st12c t72 t73) H
theorem vouch_odd.l3_rule {X1 : Fr → Hp → Prop} { E : Value → Hp → Prop} {K : Int → Hp → Prop} (I : (Option Addr) → Nat → Nat → (Option Addr) → Nat → Nat → Int → Int → (Option Addr) → Nat → Nat → Int → Int → Hp → Prop) (μ : (Option Addr) → Nat → Nat → (Option Addr) → Nat → Nat → Int → Int → (Option Addr) → Nat → Nat → Int → Int → Hp → Nat)
    (h : ∀ ne5p ne5n ne5c se8p se8n se8c co9 si11 st12p st12n st12c t72 t73 H, I ne5p ne5n ne5c se8p se8n se8c co9 si11 st12p st12n st12c t72 t73 H → ∀ X : Fr → Hp → Prop, (∀ ne5p' ne5n' ne5c' se8p' se8n' se8c' co9' si11' st12p' st12n' st12c' t72' t73' H', I ne5p' ne5n' ne5c' se8p' se8n' se8c' co9' si11' st12p' st12n' st12c' t72' t73' H' → μ ne5p' ne5n' ne5c' se8p' se8n' se8c' co9' si11' st12p' st12n' st12c' t72' t73' H' < μ ne5p ne5n ne5c se8p se8n se8c co9 si11 st12p st12n st12c t72 t73 H → X (vouch_odd.f3 ne5p' ne5n' ne5c' se8p' se8n' se8c' co9' si11' st12p' st12n' st12c' t72' t73') H') → vouch_odd.b3 ne5p ne5n ne5c se8p se8n se8c co9 si11 st12p st12n st12c t72 t73 X1 X E H K)
    {ne5p : Option Addr} {ne5n : Nat} {ne5c : Nat} {se8p : Option Addr} {se8n : Nat} {se8c : Nat} {co9 : Int} {si11 : Int} {st12p : Option Addr} {st12n : Nat} {st12c : Nat} {t72 : Int} {t73 : Int} {H : Hp} (hI : I ne5p ne5n ne5c se8p se8n se8c co9 si11 st12p st12n st12c t72 t73 H) : vouch_odd.l3 ne5p ne5n ne5c se8p se8n se8c co9 si11 st12p st12n st12c t72 t73 X1 E H K :=
  loop_rule (S := (Option Addr) × Nat × Nat × (Option Addr) × Nat × Nat × Int × Int × (Option Addr) × Nat × Nat × Int × Int) (fun s => vouch_odd.f3 (s.1) (s.2.1) (s.2.2.1) (s.2.2.2.1) (s.2.2.2.2.1) (s.2.2.2.2.2.1) (s.2.2.2.2.2.2.1) (s.2.2.2.2.2.2.2.1) (s.2.2.2.2.2.2.2.2.1) (s.2.2.2.2.2.2.2.2.2.1) (s.2.2.2.2.2.2.2.2.2.2.1) (s.2.2.2.2.2.2.2.2.2.2.2.1) (s.2.2.2.2.2.2.2.2.2.2.2.2)) (fun s H => I (s.1) (s.2.1) (s.2.2.1) (s.2.2.2.1) (s.2.2.2.2.1) (s.2.2.2.2.2.1) (s.2.2.2.2.2.2.1) (s.2.2.2.2.2.2.2.1) (s.2.2.2.2.2.2.2.2.1) (s.2.2.2.2.2.2.2.2.2.1) (s.2.2.2.2.2.2.2.2.2.2.1) (s.2.2.2.2.2.2.2.2.2.2.2.1) (s.2.2.2.2.2.2.2.2.2.2.2.2) H) (fun s H => μ (s.1) (s.2.1) (s.2.2.1) (s.2.2.2.1) (s.2.2.2.2.1) (s.2.2.2.2.2.1) (s.2.2.2.2.2.2.1) (s.2.2.2.2.2.2.2.1) (s.2.2.2.2.2.2.2.2.1) (s.2.2.2.2.2.2.2.2.2.1) (s.2.2.2.2.2.2.2.2.2.2.1) (s.2.2.2.2.2.2.2.2.2.2.2.1) (s.2.2.2.2.2.2.2.2.2.2.2.2) H) (fun s H hI X hX => h (s.1) (s.2.1) (s.2.2.1) (s.2.2.2.1) (s.2.2.2.2.1) (s.2.2.2.2.2.1) (s.2.2.2.2.2.2.1) (s.2.2.2.2.2.2.2.1) (s.2.2.2.2.2.2.2.2.1) (s.2.2.2.2.2.2.2.2.2.1) (s.2.2.2.2.2.2.2.2.2.2.1) (s.2.2.2.2.2.2.2.2.2.2.2.1) (s.2.2.2.2.2.2.2.2.2.2.2.2) H hI X fun ne5p' ne5n' ne5c' se8p' se8n' se8c' co9' si11' st12p' st12n' st12c' t72' t73' H' hI' hlt => hX (ne5p', ne5n', ne5c', se8p', se8n', se8c', co9', si11', st12p', st12n', st12c', t72', t73') H' hI' hlt) (s := (ne5p, ne5n, ne5c, se8p, se8n, se8c, co9, si11, st12p, st12n, st12c, t72, t73)) rfl hI
theorem vouch_odd.nok : nodesOk vouch_odd.code [[0, 1, 0, 1, 1], [1, 1, 1, 0, 0, 1, 0, 1, 1], [1, 1, 1], [0, 1, 0, 1, 1, 1, 1, 1, 1], [0, 0, 1, 1, 1, 0, 0, 1, 1, 0, 0, 1, 0, 1, 1, 1, 1, 1, 1], [1, 1, 1, 1, 0, 0, 1, 1, 0, 0, 1, 0, 1, 1, 1, 1, 1, 1]] = true := by kernel_rfl
def vouch_odd.run_t (l1 : (Option Addr) → Nat → Nat → Nat → (Option Addr) → Nat → Nat → (Option Addr) → Nat → Nat → Int → Int → Hp → Prop) (g0_Nodes : Int) (g0_Edgesp : Option Addr) (g0_Edgesn : Nat) (g0_Edgesc : Nat) (wi1p : Option Addr) (wi1n : Nat) (wi1c : Nat)  (E : Value → Hp → Prop) (H : Hp) (K : Int → Hp → Prop) : Prop :=
  nw H ⟨[.int .i64 g0_Nodes, .slice g0_Edgesp g0_Edgesn g0_Edgesc], 24⟩ fun b_1 H_1 =>
  ldI .i64 (H_1.get b_1 0) fun x_1 =>
  mkS x_1 x_1 25 [.sl] 24 H_1 fun b_2 H_2 =>
  ldS (H_2.get b_1 1) fun x_2p x_2n x_2c =>
  l1 wi1p wi1n wi1c b_1 (some ⟨b_2, 0, none⟩) x_1.toNat x_1.toNat x_2p x_2n x_2c (x_2n : Int) 0 H_2
theorem vouch_odd.run_eq {g0_Nodes : Int} {g0_Edgesp : Option Addr} {g0_Edgesn : Nat} {g0_Edgesc : Nat} {wi1p : Option Addr} {wi1n : Nat} {wi1c : Nat} { E : Value → Hp → Prop} {H : Hp} {K : Int → Hp → Prop} (h : vouch_odd.run_t (fun wi1p wi1n wi1c g2 ne5p ne5n ne5c t18p t18n t18c t19 t20 H => vouch_odd.l1 wi1p wi1n wi1c g2 ne5p ne5n ne5c t18p t18n t18c t19 t20  E H K) g0_Nodes g0_Edgesp g0_Edgesn g0_Edgesc wi1p wi1n wi1c  E H K) : vouch_odd.run g0_Nodes g0_Edgesp g0_Edgesn g0_Edgesc wi1p wi1n wi1c  E H K := by
  exact nodeR_imp2 (fun G => vouch_odd.run_t (fun wi1p wi1n wi1c g2 ne5p ne5n ne5c t18p t18n t18c t19 t20 H => G [0, 1, 0, 1, 1] [(1, .slice wi1p wi1n wi1c), (2, .pointer (some ⟨g2, 0, none⟩)), (5, .slice ne5p ne5n ne5c), (18, .slice t18p t18n t18c), (19, .int .i64 t19), (20, .int .i64 t20)] H) g0_Nodes g0_Edgesp g0_Edgesn g0_Edgesc wi1p wi1n wi1c  E H K) vouch_odd.nok rfl (fun G => by kernel_rfl) (Eq.mp (by kernel_rfl) h)
def vouch_odd.j1_t  (wi1p : Option Addr) (wi1n : Nat) (wi1c : Nat) (g2 : Nat) (ne5p : Option Addr) (ne5n : Nat) (ne5c : Nat) (t18p : Option Addr) (t18n : Nat) (t18c : Nat) (t19 : Int) (t20 : Int) (X1 : Fr → Hp → Prop) (E : Value → Hp → Prop) (H : Hp) (K : Int → Hp → Prop) : Prop :=
  X1 (vouch_odd.f1 wi1p wi1n wi1c g2 ne5p ne5n ne5c t18p t18n t18c t19 (IntKind.wrap .i64 (t20 + 1))) H
theorem vouch_odd.j1_eq {wi1p : Option Addr} {wi1n : Nat} {wi1c : Nat} {g2 : Nat} {ne5p : Option Addr} {ne5n : Nat} {ne5c : Nat} {t18p : Option Addr} {t18n : Nat} {t18c : Nat} {t19 : Int} {t20 : Int} {X1 : Fr → Hp → Prop} { E : Value → Hp → Prop} {H : Hp} {K : Int → Hp → Prop} (h : vouch_odd.j1_t  wi1p wi1n wi1c g2 ne5p ne5n ne5c t18p t18n t18c t19 t20 X1 E H K) : vouch_odd.j1 wi1p wi1n wi1c g2 ne5p ne5n ne5c t18p t18n t18c t19 t20 X1 E H K := by
  exact nodeR_imp2 (fun _ => vouch_odd.j1_t  wi1p wi1n wi1c g2 ne5p ne5n ne5c t18p t18n t18c t19 t20 X1 E H K) vouch_odd.nok rfl (fun G => by kernel_rfl) h
def vouch_odd.j2_t (l2 : (Option Addr) → Nat → Nat → (Option Addr) → Nat → Nat → Int → Int → Int → Hp → Prop) (wi1p : Option Addr) (wi1n : Nat) (wi1c : Nat) (g2 : Nat) (ne5p : Option Addr) (ne5n : Nat) (ne5c : Nat)  (E : Value → Hp → Prop) (H : Hp) (K : Int → Hp → Prop) : Prop :=
  ldI .i64 (H.get g2 0) fun x_1 =>
  mkS x_1 x_1 4 [.bool] 1 H fun b_1 H_1 =>
  cpyM 1 (some ⟨b_1, 0, none⟩) x_1.toNat wi1p wi1n H_1 fun x_2 H_2 =>
  ldI .i64 (H_2.get g2 0) fun x_3 =>
  l2 ne5p ne5n ne5c (some ⟨b_1, 0, none⟩) x_1.toNat x_1.toNat 0 x_3 0 H_2
theorem vouch_odd.j2_eq {wi1p : Option Addr} {wi1n : Nat} {wi1c : Nat} {g2 : Nat} {ne5p : Option Addr} {ne5n : Nat} {ne5c : Nat} { E : Value → Hp → Prop} {H : Hp} {K : Int → Hp → Prop} (h : vouch_odd.j2_t (fun ne5p ne5n ne5c se8p se8n se8c co9 t72 t73 H => vouch_odd.l2 ne5p ne5n ne5c se8p se8n se8c co9 t72 t73  E H K) wi1p wi1n wi1c g2 ne5p ne5n ne5c  E H K) : vouch_odd.j2 wi1p wi1n wi1c g2 ne5p ne5n ne5c  E H K := by
  exact nodeR_imp2 (fun G => vouch_odd.j2_t (fun ne5p ne5n ne5c se8p se8n se8c co9 t72 t73 H => G [0, 1, 0, 1, 1, 1, 1, 1, 1] [(5, .slice ne5p ne5n ne5c), (8, .slice se8p se8n se8c), (9, .int .i64 co9), (72, .int .i64 t72), (73, .int .i64 t73)] H) wi1p wi1n wi1c g2 ne5p ne5n ne5c  E H K) vouch_odd.nok rfl (fun G => by kernel_rfl) (Eq.mp (by kernel_rfl) h)
def vouch_odd.j3_t  (ne5p : Option Addr) (ne5n : Nat) (ne5c : Nat) (se8p : Option Addr) (se8n : Nat) (se8c : Nat) (co9 : Int) (si11 : Int) (t72 : Int) (t73 : Int) (X1 : Fr → Hp → Prop) (E : Value → Hp → Prop) (H : Hp) (K : Int → Hp → Prop) : Prop :=
  X1 (vouch_odd.f2 ne5p ne5n ne5c se8p se8n se8c (IntKind.wrap .i64 (co9 + (IntKind.wrap .i64 (((BitVec.ofInt (IntKind.bits .i64) si11 &&& BitVec.ofInt (IntKind.bits .i64) 1).toNat : Int))))) t72 (IntKind.wrap .i64 (t73 + 1))) H
theorem vouch_odd.j3_eq {ne5p : Option Addr} {ne5n : Nat} {ne5c : Nat} {se8p : Option Addr} {se8n : Nat} {se8c : Nat} {co9 : Int} {si11 : Int} {t72 : Int} {t73 : Int} {X1 : Fr → Hp → Prop} { E : Value → Hp → Prop} {H : Hp} {K : Int → Hp → Prop} (h : vouch_odd.j3_t  ne5p ne5n ne5c se8p se8n se8c co9 si11 t72 t73 X1 E H K) : vouch_odd.j3 ne5p ne5n ne5c se8p se8n se8c co9 si11 t72 t73 X1 E H K := by
  exact nodeR_imp2 (fun _ => vouch_odd.j3_t  ne5p ne5n ne5c se8p se8n se8c co9 si11 t72 t73 X1 E H K) vouch_odd.nok rfl (fun G => by kernel_rfl) h
def vouch_odd.b1_t (j1 : (Option Addr) → Nat → Nat → Nat → (Option Addr) → Nat → Nat → (Option Addr) → Nat → Nat → Int → Int → Hp → Prop) (j2 : (Option Addr) → Nat → Nat → Nat → (Option Addr) → Nat → Nat → Hp → Prop) (wi1p : Option Addr) (wi1n : Nat) (wi1c : Nat) (g2 : Nat) (ne5p : Option Addr) (ne5n : Nat) (ne5c : Nat) (t18p : Option Addr) (t18n : Nat) (t18c : Nat) (t19 : Int) (t20 : Int) (X1 : Fr → Hp → Prop) (E : Value → Hp → Prop) (H : Hp) (K : Int → Hp → Prop) : Prop :=
  bcase (decide ((t20 : Int) < t19)) (
  ix t18p t18n t20 4 fun b_1 o_1 =>
  ldI .i64 (H.get b_1 o_1) fun x_1 =>
  ldI .i64 (H.get b_1 (o_1 + 1)) fun x_2 =>
  ldI .i64 (H.get b_1 (o_1 + 2)) fun x_3 =>
  ldI .i64 (H.get b_1 (o_1 + 3)) fun x_4 =>
  nw H ⟨[.int .i64 0, .int .i64 0, .int .i64 0, .int .i64 0], 44⟩ fun b_2 H_1 =>
  stC H_1 b_2 0 [.int .i64 x_1, .int .i64 x_2, .int .i64 x_3, .int .i64 x_4] fun H_2 =>
  ldI .i64 (H_2.get b_2 0) fun x_5 =>
  ix wi1p wi1n x_5 1 fun b_3 o_2 =>
  ldB (H_2.get b_3 o_2) fun x_6 =>
  bcase ((!x_6)) (
  ldI .i64 (H_2.get b_2 1) fun x_7 =>
  ix wi1p wi1n x_7 1 fun b_4 o_3 =>
  ldB (H_2.get b_4 o_3) fun x_8 =>
  bcase ((!x_8)) (
  ldI .i64 (H_2.get b_2 0) fun x_9 =>
  ldI .i64 (H_2.get b_2 0) fun x_10 =>
  ix ne5p ne5n x_10 1 fun b_5 o_4 =>
  ldS (H_2.get b_5 o_4) fun x_11p x_11n x_11c =>
  ldI .i64 (H_2.get b_2 1) fun x_12 =>
  nw H_2 ⟨[.int .i64 x_12], 3⟩ fun b_6 H_3 =>
  appM 3 [.i .i64] 8 x_11p x_11n x_11c (some ⟨b_6, 0, none⟩) 1 H_3 fun a_1p a_1n a_1c H_4 =>
  (ldI .i64 (H_4.get b_2 0) fun x_18 =>
  Value.int .i64 x_18 = Value.int .i64 x_9) ∧
  ix ne5p ne5n x_9 1 fun b_7 o_5 =>
  stC H_4 b_7 o_5 [.slice a_1p a_1n a_1c] fun H_5 =>
  ldI .i64 (H_5.get b_2 1) fun x_13 =>
  ldI .i64 (H_5.get b_2 1) fun x_14 =>
  ix ne5p ne5n x_14 1 fun b_8 o_6 =>
  ldS (H_5.get b_8 o_6) fun x_15p x_15n x_15c =>
  ldI .i64 (H_5.get b_2 0) fun x_16 =>
  nw H_5 ⟨[.int .i64 x_16], 3⟩ fun b_9 H_6 =>
  appM 3 [.i .i64] 8 x_15p x_15n x_15c (some ⟨b_9, 0, none⟩) 1 H_6 fun a_2p a_2n a_2c H_7 =>
  (ldI .i64 (H_7.get b_2 1) fun x_17 =>
  Value.int .i64 x_17 = Value.int .i64 x_13) ∧
  ix ne5p ne5n x_13 1 fun b_10 o_7 =>
  stC H_7 b_10 o_7 [.slice a_2p a_2n a_2c] fun H_8 =>
  j1 wi1p wi1n wi1c g2 ne5p ne5n ne5c t18p t18n t18c t19 t20 H_8)
  (j1 wi1p wi1n wi1c g2 ne5p ne5n ne5c t18p t18n t18c t19 t20 H_2))
  (j1 wi1p wi1n wi1c g2 ne5p ne5n ne5c t18p t18n t18c t19 t20 H_2))
  (j2 wi1p wi1n wi1c g2 ne5p ne5n ne5c H)
theorem vouch_odd.b1_eq {wi1p : Option Addr} {wi1n : Nat} {wi1c : Nat} {g2 : Nat} {ne5p : Option Addr} {ne5n : Nat} {ne5c : Nat} {t18p : Option Addr} {t18n : Nat} {t18c : Nat} {t19 : Int} {t20 : Int} {X1 : Fr → Hp → Prop} { E : Value → Hp → Prop} {H : Hp} {K : Int → Hp → Prop} (h : vouch_odd.b1_t (fun wi1p wi1n wi1c g2 ne5p ne5n ne5c t18p t18n t18c t19 t20 H => vouch_odd.j1 wi1p wi1n wi1c g2 ne5p ne5n ne5c t18p t18n t18c t19 t20 X1 E H K) (fun wi1p wi1n wi1c g2 ne5p ne5n ne5c H => vouch_odd.j2 wi1p wi1n wi1c g2 ne5p ne5n ne5c  E H K) wi1p wi1n wi1c g2 ne5p ne5n ne5c t18p t18n t18c t19 t20 X1 E H K) : vouch_odd.b1 wi1p wi1n wi1c g2 ne5p ne5n ne5c t18p t18n t18c t19 t20 X1 E H K := by
  exact nodeR_imp2 (fun G => vouch_odd.b1_t (fun wi1p wi1n wi1c g2 ne5p ne5n ne5c t18p t18n t18c t19 t20 H => G [1, 1, 1, 0, 0, 1, 0, 1, 1] [(1, .slice wi1p wi1n wi1c), (2, .pointer (some ⟨g2, 0, none⟩)), (5, .slice ne5p ne5n ne5c), (18, .slice t18p t18n t18c), (19, .int .i64 t19), (20, .int .i64 t20)] H) (fun wi1p wi1n wi1c g2 ne5p ne5n ne5c H => G [1, 1, 1] [(1, .slice wi1p wi1n wi1c), (2, .pointer (some ⟨g2, 0, none⟩)), (5, .slice ne5p ne5n ne5c)] H) wi1p wi1n wi1c g2 ne5p ne5n ne5c t18p t18n t18c t19 t20 X1 E H K) vouch_odd.nok rfl (fun G => by kernel_rfl) (Eq.mp (by kernel_rfl) h)
def vouch_odd.b2_t (l3 : (Option Addr) → Nat → Nat → (Option Addr) → Nat → Nat → Int → Int → (Option Addr) → Nat → Nat → Int → Int → Hp → Prop) (ne5p : Option Addr) (ne5n : Nat) (ne5c : Nat) (se8p : Option Addr) (se8n : Nat) (se8c : Nat) (co9 : Int) (t72 : Int) (t73 : Int) (X1 : Fr → Hp → Prop) (E : Value → Hp → Prop) (H : Hp) (K : Int → Hp → Prop) : Prop :=
  bcase (decide ((t73 : Int) < t72)) (
  nw H ⟨[.int .i64 t73], 3⟩ fun b_1 H_1 =>
  l3 ne5p ne5n ne5c se8p se8n se8c co9 0 (some ⟨b_1, 0, none⟩) 1 1 t72 t73 H_1)
  (K co9 H)
theorem vouch_odd.b2_eq {ne5p : Option Addr} {ne5n : Nat} {ne5c : Nat} {se8p : Option Addr} {se8n : Nat} {se8c : Nat} {co9 : Int} {t72 : Int} {t73 : Int} {X1 : Fr → Hp → Prop} { E : Value → Hp → Prop} {H : Hp} {K : Int → Hp → Prop} (h : vouch_odd.b2_t (fun ne5p ne5n ne5c se8p se8n se8c co9 si11 st12p st12n st12c t72 t73 H => vouch_odd.l3 ne5p ne5n ne5c se8p se8n se8c co9 si11 st12p st12n st12c t72 t73 X1 E H K) ne5p ne5n ne5c se8p se8n se8c co9 t72 t73 X1 E H K) : vouch_odd.b2 ne5p ne5n ne5c se8p se8n se8c co9 t72 t73 X1 E H K := by
  exact nodeR_imp2 (fun G => vouch_odd.b2_t (fun ne5p ne5n ne5c se8p se8n se8c co9 si11 st12p st12n st12c t72 t73 H => G [0, 0, 1, 1, 1, 0, 0, 1, 1, 0, 0, 1, 0, 1, 1, 1, 1, 1, 1] [(5, .slice ne5p ne5n ne5c), (8, .slice se8p se8n se8c), (9, .int .i64 co9), (11, .int .i64 si11), (12, .slice st12p st12n st12c), (72, .int .i64 t72), (73, .int .i64 t73)] H) ne5p ne5n ne5c se8p se8n se8c co9 t72 t73 X1 E H K) vouch_odd.nok rfl (fun G => by kernel_rfl) (Eq.mp (by kernel_rfl) h)
def vouch_odd.b3_t (j3 : (Option Addr) → Nat → Nat → (Option Addr) → Nat → Nat → Int → Int → Int → Int → Hp → Prop) (ne5p : Option Addr) (ne5n : Nat) (ne5c : Nat) (se8p : Option Addr) (se8n : Nat) (se8c : Nat) (co9 : Int) (si11 : Int) (st12p : Option Addr) (st12n : Nat) (st12c : Nat) (t72 : Int) (t73 : Int) (X1 : Fr → Hp → Prop) (X2 : Fr → Hp → Prop) (E : Value → Hp → Prop) (H : Hp) (K : Int → Hp → Prop) : Prop :=
  bcase (decide ((0 : Int) < (st12n : Int))) (
  ix st12p st12n (IntKind.wrap .i64 ((st12n : Int) - 1)) 1 fun b_1 o_1 =>
  ldI .i64 (H.get b_1 o_1) fun x_1 =>
  ((0 : Int) ≤ (IntKind.wrap .i64 ((st12n : Int) - 1)) ∧ (IntKind.wrap .i64 ((st12n : Int) - 1)) ≤ (st12c : Int)) ∧
  ix se8p se8n x_1 1 fun b_2 o_2 =>
  ldB (H.get b_2 o_2) fun x_2 =>
  bcase ((!x_2)) (
  ix se8p se8n x_1 1 fun b_3 o_3 =>
  stC H b_3 o_3 [.bool true] fun H_1 =>
  ix ne5p ne5n x_1 1 fun b_4 o_4 =>
  ldS (H_1.get b_4 o_4) fun x_3p x_3n x_3c =>
  appM 3 [.i .i64] 8 (slp st12p 0 st12c 1) ((IntKind.wrap .i64 ((st12n : Int) - 1)).toNat) st12c x_3p x_3n H_1 fun a_1p a_1n a_1c H_2 =>
  X2 (vouch_odd.f3 ne5p ne5n ne5c se8p se8n se8c co9 (IntKind.wrap .i64 (si11 + 1)) a_1p a_1n a_1c t72 t73) H_2)
  (X2 (vouch_odd.f3 ne5p ne5n ne5c se8p se8n se8c co9 si11 (slp st12p 0 st12c 1) ((IntKind.wrap .i64 ((st12n : Int) - 1)).toNat) st12c t72 t73) H))
  (j3 ne5p ne5n ne5c se8p se8n se8c co9 si11 t72 t73 H)
theorem vouch_odd.b3_eq {ne5p : Option Addr} {ne5n : Nat} {ne5c : Nat} {se8p : Option Addr} {se8n : Nat} {se8c : Nat} {co9 : Int} {si11 : Int} {st12p : Option Addr} {st12n : Nat} {st12c : Nat} {t72 : Int} {t73 : Int} {X1 X2 : Fr → Hp → Prop} { E : Value → Hp → Prop} {H : Hp} {K : Int → Hp → Prop} (h : vouch_odd.b3_t (fun ne5p ne5n ne5c se8p se8n se8c co9 si11 t72 t73 H => vouch_odd.j3 ne5p ne5n ne5c se8p se8n se8c co9 si11 t72 t73 X1 E H K) ne5p ne5n ne5c se8p se8n se8c co9 si11 st12p st12n st12c t72 t73 X1 X2 E H K) : vouch_odd.b3 ne5p ne5n ne5c se8p se8n se8c co9 si11 st12p st12n st12c t72 t73 X1 X2 E H K := by
  exact nodeR_imp2 (fun G => vouch_odd.b3_t (fun ne5p ne5n ne5c se8p se8n se8c co9 si11 t72 t73 H => G [1, 1, 1, 1, 0, 0, 1, 1, 0, 0, 1, 0, 1, 1, 1, 1, 1, 1] [(5, .slice ne5p ne5n ne5c), (8, .slice se8p se8n se8c), (9, .int .i64 co9), (11, .int .i64 si11), (72, .int .i64 t72), (73, .int .i64 t73)] H) ne5p ne5n ne5c se8p se8n se8c co9 si11 st12p st12n st12c t72 t73 X1 X2 E H K) vouch_odd.nok rfl (fun G => by kernel_rfl) (Eq.mp (by kernel_rfl) h)
/-! ### compass/vouch.marked (36) -/
noncomputable def vouch_marked.A : An := { live := [(0, [0, 1]), (1, [0, 1]), (2, [0, 1]), (3, [0, 5]), (4, [5, 13, 14, 15]), (5, [5, 13, 14, 15]), (6, [5, 7, 13, 14, 15]), (7, [5, 13, 14, 15]), (8, [5])], ord := [], stb := [], pre := [] }
noncomputable def vouch_marked.code : Code := bodyOf Go.Proofs.Try.f36
theorem vouch_marked.ok : okCode vouch_marked.A 24 vouch_marked.code = true := by kernel_rfl
def vouch_marked.rq (E : Value → Hp → Prop) (K : (Option Addr) → Nat → Nat → Hp → Prop) : Ex → Fr → Hp → Prop := retQ T0 [.tmp 4] [62] (fun r H => ldR (.one false [.sl]) r fun u => K (asS1 u) (asS2 u) (asS3 u) H) E
def vouch_marked.run (li0p : Option Addr) (li0n : Nat) (li0c : Nat) (n1 : Int) (E : Value → Hp → Prop) (H : Hp) (K : (Option Addr) → Nat → Nat → Hp → Prop) : Prop := nodeM P0 T0 vouch_marked.A vouch_marked.code [] [] (vouch_marked.rq E K) (argF 0 [.slice li0p li0n li0c, .int .i64 n1]) H
theorem vouch_marked.of {li0p : Option Addr} {li0n : Nat} {li0c : Nat} {n1 : Int} {E : Value → Hp → Prop} {H : Hp} {K : (Option Addr) → Nat → Nat → Hp → Prop} (h : vouch_marked.run li0p li0n li0c n1 E H K) : vouch_marked.call li0p li0n li0c n1 E H K :=
  callW_of T0_ok P0_mixed (A := vouch_marked.A) (fn := Go.Proofs.Try.f36) Go.Proofs.Try.func36 rfl vouch_marked.ok rfl h
noncomputable def vouch_marked.f1 (in5p : Option Addr) (in5n : Nat) (in5c : Nat) (t13p : Option Addr) (t13n : Nat) (t13c : Nat) (t14 : Int) (t15 : Int) : Fr := [(5, .slice in5p in5n in5c), (13, .slice t13p t13n t13c), (14, .int .i64 t14), (15, .int .i64 t15)]
def vouch_marked.l1 (in5p : Option Addr) (in5n : Nat) (in5c : Nat) (t13p : Option Addr) (t13n : Nat) (t13c : Nat) (t14 : Int) (t15 : Int)  (E : Value → Hp → Prop) (H : Hp) (K : (Option Addr) → Nat → Nat → Hp → Prop) : Prop := nodeM P0 T0 vouch_marked.A vouch_marked.code [1, 1, 1, 0, 1, 0] [] (vouch_marked.rq E K) (vouch_marked.f1 in5p in5n in5c t13p t13n t13c t14 t15) H
def vouch_marked.b1 (in5p : Option Addr) (in5n : Nat) (in5c : Nat) (t13p : Option Addr) (t13n : Nat) (t13c : Nat) (t14 : Int) (t15 : Int)  (X1 : Fr → Hp → Prop) (E : Value → Hp → Prop) (H : Hp) (K : (Option Addr) → Nat → Nat → Hp → Prop) : Prop := nodeM P0 T0 vouch_marked.A vouch_marked.code [1, 1, 1, 0, 1, 0, 0] [X1] (vouch_marked.rq E K) (vouch_marked.f1 in5p in5n in5c t13p t13n t13c t14 t15) H
theorem vouch_marked.l1_rule { E : Value → Hp → Prop} {K : (Option Addr) → Nat → Nat → Hp → Prop} (I : (Option Addr) → Nat → Nat → (Option Addr) → Nat → Nat → Int → Int → Hp → Prop) (μ : (Option Addr) → Nat → Nat → (Option Addr) → Nat → Nat → Int → Int → Hp → Nat)
    (h : ∀ in5p in5n in5c t13p t13n t13c t14 t15 H, I in5p in5n in5c t13p t13n t13c t14 t15 H → ∀ X : Fr → Hp → Prop, (∀ in5p' in5n' in5c' t13p' t13n' t13c' t14' t15' H', I in5p' in5n' in5c' t13p' t13n' t13c' t14' t15' H' → μ in5p' in5n' in5c' t13p' t13n' t13c' t14' t15' H' < μ in5p in5n in5c t13p t13n t13c t14 t15 H → X (vouch_marked.f1 in5p' in5n' in5c' t13p' t13n' t13c' t14' t15') H') → vouch_marked.b1 in5p in5n in5c t13p t13n t13c t14 t15  X E H K)
    {in5p : Option Addr} {in5n : Nat} {in5c : Nat} {t13p : Option Addr} {t13n : Nat} {t13c : Nat} {t14 : Int} {t15 : Int} {H : Hp} (hI : I in5p in5n in5c t13p t13n t13c t14 t15 H) : vouch_marked.l1 in5p in5n in5c t13p t13n t13c t14 t15  E H K :=
  loop_rule (S := (Option Addr) × Nat × Nat × (Option Addr) × Nat × Nat × Int × Int) (fun s => vouch_marked.f1 (s.1) (s.2.1) (s.2.2.1) (s.2.2.2.1) (s.2.2.2.2.1) (s.2.2.2.2.2.1) (s.2.2.2.2.2.2.1) (s.2.2.2.2.2.2.2)) (fun s H => I (s.1) (s.2.1) (s.2.2.1) (s.2.2.2.1) (s.2.2.2.2.1) (s.2.2.2.2.2.1) (s.2.2.2.2.2.2.1) (s.2.2.2.2.2.2.2) H) (fun s H => μ (s.1) (s.2.1) (s.2.2.1) (s.2.2.2.1) (s.2.2.2.2.1) (s.2.2.2.2.2.1) (s.2.2.2.2.2.2.1) (s.2.2.2.2.2.2.2) H) (fun s H hI X hX => h (s.1) (s.2.1) (s.2.2.1) (s.2.2.2.1) (s.2.2.2.2.1) (s.2.2.2.2.2.1) (s.2.2.2.2.2.2.1) (s.2.2.2.2.2.2.2) H hI X fun in5p' in5n' in5c' t13p' t13n' t13c' t14' t15' H' hI' hlt => hX (in5p', in5n', in5c', t13p', t13n', t13c', t14', t15') H' hI' hlt) (s := (in5p, in5n, in5c, t13p, t13n, t13c, t14, t15)) rfl hI
theorem vouch_marked.nok : nodesOk vouch_marked.code [[0, 1, 0, 1, 1, 1]] = true := by kernel_rfl
def vouch_marked.run_t (l1 : (Option Addr) → Nat → Nat → (Option Addr) → Nat → Nat → Int → Int → Hp → Prop) (li0p : Option Addr) (li0n : Nat) (li0c : Nat) (n1 : Int)  (E : Value → Hp → Prop) (H : Hp) (K : (Option Addr) → Nat → Nat → Hp → Prop) : Prop :=
  vouch_rising.call li0p li0n li0c n1 E H fun H_1 =>
  mkS n1 n1 4 [.bool] 1 H_1 fun b_1 H_2 =>
  l1 (some ⟨b_1, 0, none⟩) n1.toNat n1.toNat li0p li0n li0c (li0n : Int) 0 H_2
theorem vouch_marked.run_eq {li0p : Option Addr} {li0n : Nat} {li0c : Nat} {n1 : Int} { E : Value → Hp → Prop} {H : Hp} {K : (Option Addr) → Nat → Nat → Hp → Prop} (h : vouch_marked.run_t (fun in5p in5n in5c t13p t13n t13c t14 t15 H => vouch_marked.l1 in5p in5n in5c t13p t13n t13c t14 t15  E H K) li0p li0n li0c n1  E H K) : vouch_marked.run li0p li0n li0c n1  E H K := by
  exact nodeR_imp2 (fun G => vouch_marked.run_t (fun in5p in5n in5c t13p t13n t13c t14 t15 H => G [0, 1, 0, 1, 1, 1] [(5, .slice in5p in5n in5c), (13, .slice t13p t13n t13c), (14, .int .i64 t14), (15, .int .i64 t15)] H) li0p li0n li0c n1  E H K) vouch_marked.nok rfl (fun G => by kernel_rfl) (Eq.mp (by kernel_rfl) h)
def vouch_marked.b1_t  (in5p : Option Addr) (in5n : Nat) (in5c : Nat) (t13p : Option Addr) (t13n : Nat) (t13c : Nat) (t14 : Int) (t15 : Int) (X1 : Fr → Hp → Prop) (E : Value → Hp → Prop) (H : Hp) (K : (Option Addr) → Nat → Nat → Hp → Prop) : Prop :=
  bcase (decide ((t15 : Int) < t14)) (
  ix t13p t13n t15 1 fun b_1 o_1 =>
  ldI .i64 (H.get b_1 o_1) fun x_1 =>
  ix in5p in5n x_1 1 fun b_2 o_2 =>
  stC H b_2 o_2 [.bool true] fun H_1 =>
  X1 (vouch_marked.f1 in5p in5n in5c t13p t13n t13c t14 (IntKind.wrap .i64 (t15 + 1))) H_1)
  (K in5p in5n in5c H)
theorem vouch_marked.b1_eq {in5p : Option Addr} {in5n : Nat} {in5c : Nat} {t13p : Option Addr} {t13n : Nat} {t13c : Nat} {t14 : Int} {t15 : Int} {X1 : Fr → Hp → Prop} { E : Value → Hp → Prop} {H : Hp} {K : (Option Addr) → Nat → Nat → Hp → Prop} (h : vouch_marked.b1_t  in5p in5n in5c t13p t13n t13c t14 t15 X1 E H K) : vouch_marked.b1 in5p in5n in5c t13p t13n t13c t14 t15 X1 E H K := by
  exact nodeR_imp2 (fun _ => vouch_marked.b1_t  in5p in5n in5c t13p t13n t13c t14 t15 X1 E H K) vouch_marked.nok rfl (fun G => by kernel_rfl) h
/-! ### compass/vouch.loop (51) -/
noncomputable def vouch_loop.A : An := { live := [(0, [0]), (1, [1])], ord := [], stb := [], pre := [] }
noncomputable def vouch_loop.code : Code := bodyOf Go.Proofs.Try.f51
theorem vouch_loop.ok : okCode vouch_loop.A 8 vouch_loop.code = true := by kernel_rfl
def vouch_loop.rq (E : Value → Hp → Prop) (K : Bool → Hp → Prop) : Ex → Fr → Hp → Prop := retQ T0 [.tmp 2] [4] (fun r H => ldR (.one false [.bool]) r fun u => K (asB u) H) E
def vouch_loop.run (e0_From : Int) (e0_To : Int) (e0_Cap : Int) (e0_Cost : Int) (E : Value → Hp → Prop) (H : Hp) (K : Bool → Hp → Prop) : Prop := nodeM P0 T0 vouch_loop.A vouch_loop.code [] [] (vouch_loop.rq E K) (argF 0 [.agg ⟨[.int .i64 e0_From, .int .i64 e0_To, .int .i64 e0_Cap, .int .i64 e0_Cost]⟩]) H
theorem vouch_loop.of {e0_From : Int} {e0_To : Int} {e0_Cap : Int} {e0_Cost : Int} {E : Value → Hp → Prop} {H : Hp} {K : Bool → Hp → Prop} (h : vouch_loop.run e0_From e0_To e0_Cap e0_Cost E H K) : vouch_loop.call e0_From e0_To e0_Cap e0_Cost E H K :=
  callW_of T0_ok P0_mixed (A := vouch_loop.A) (fn := Go.Proofs.Try.f51) Go.Proofs.Try.func51 rfl vouch_loop.ok rfl h
theorem vouch_loop.nok : nodesOk vouch_loop.code [] = true := by kernel_rfl
def vouch_loop.run_t  (e0_From : Int) (e0_To : Int) (e0_Cap : Int) (e0_Cost : Int)  (E : Value → Hp → Prop) (H : Hp) (K : Bool → Hp → Prop) : Prop :=
  nw H ⟨[.int .i64 e0_From, .int .i64 e0_To, .int .i64 e0_Cap, .int .i64 e0_Cost], 44⟩ fun b_1 H_1 =>
  ldI .i64 (H_1.get b_1 0) fun x_1 =>
  ldI .i64 (H_1.get b_1 1) fun x_2 =>
  K (decide ((x_1 : Int) = x_2)) H_1
theorem vouch_loop.run_eq {e0_From : Int} {e0_To : Int} {e0_Cap : Int} {e0_Cost : Int} { E : Value → Hp → Prop} {H : Hp} {K : Bool → Hp → Prop} (h : vouch_loop.run_t  e0_From e0_To e0_Cap e0_Cost  E H K) : vouch_loop.run e0_From e0_To e0_Cap e0_Cost  E H K := by
  exact nodeR_imp2 (fun _ => vouch_loop.run_t  e0_From e0_To e0_Cap e0_Cost  E H K) vouch_loop.nok rfl (fun G => by kernel_rfl) h
/-! ### compass/vouch.rising (52) -/
noncomputable def vouch_rising.A : An := { live := [(0, [0, 1]), (1, [0, 1, 4]), (2, [1, 4, 7, 8, 9]), (3, [1, 4, 7, 8, 9]), (4, [1, 4, 6, 7, 8, 9]), (5, [1, 6, 7, 8, 9]), (6, [1, 4, 7, 8, 9])], ord := [], stb := [], pre := [] }
noncomputable def vouch_rising.code : Code := bodyOf Go.Proofs.Try.f52
theorem vouch_rising.ok : okCode vouch_rising.A 24 vouch_rising.code = true := by kernel_rfl
def vouch_rising.rq (E : Value → Hp → Prop) (K : Hp → Prop) : Ex → Fr → Hp → Prop := retQ T0 [] [] (fun r H => ldR (.tup []) r fun u => K  H) E
def vouch_rising.run (li0p : Option Addr) (li0n : Nat) (li0c : Nat) (n1 : Int) (E : Value → Hp → Prop) (H : Hp) (K : Hp → Prop) : Prop := nodeM P0 T0 vouch_rising.A vouch_rising.code [] [] (vouch_rising.rq E K) (argF 0 [.slice li0p li0n li0c, .int .i64 n1]) H
theorem vouch_rising.of {li0p : Option Addr} {li0n : Nat} {li0c : Nat} {n1 : Int} {E : Value → Hp → Prop} {H : Hp} {K : Hp → Prop} (h : vouch_rising.run li0p li0n li0c n1 E H K) : vouch_rising.call li0p li0n li0c n1 E H K :=
  callW_of T0_ok P0_mixed (A := vouch_rising.A) (fn := Go.Proofs.Try.f52) Go.Proofs.Try.func52 rfl vouch_rising.ok rfl h
noncomputable def vouch_rising.f1 (n1 : Int) (la4 : Int) (t7p : Option Addr) (t7n : Nat) (t7c : Nat) (t8 : Int) (t9 : Int) : Fr := [(1, .int .i64 n1), (4, .int .i64 la4), (7, .slice t7p t7n t7c), (8, .int .i64 t8), (9, .int .i64 t9)]
def vouch_rising.j1 (n1 : Int) (la4 : Int) (t7p : Option Addr) (t7n : Nat) (t7c : Nat) (t8 : Int) (t9 : Int) (X1 : Fr → Hp → Prop) (E : Value → Hp → Prop) (H : Hp) (K : Hp → Prop) : Prop := nodeM P0 T0 vouch_rising.A vouch_rising.code [1, 1, 0, 0, 1, 1, 1] [X1] (vouch_rising.rq E K) [(1, .int .i64 n1), (4, .int .i64 la4), (7, .slice t7p t7n t7c), (8, .int .i64 t8), (9, .int .i64 t9)] H
def vouch_rising.l1 (n1 : Int) (la4 : Int) (t7p : Option Addr) (t7n : Nat) (t7c : Nat) (t8 : Int) (t9 : Int)  (E : Value → Hp → Prop) (H : Hp) (K : Hp → Prop) : Prop := nodeM P0 T0 vouch_rising.A vouch_rising.code [1, 1, 0] [] (vouch_rising.rq E K) (vouch_rising.f1 n1 la4 t7p t7n t7c t8 t9) H
def vouch_rising.b1 (n1 : Int) (la4 : Int) (t7p : Option Addr) (t7n : Nat) (t7c : Nat) (t8 : Int) (t9 : Int)  (X1 : Fr → Hp → Prop) (E : Value → Hp → Prop) (H : Hp) (K : Hp → Prop) : Prop := nodeM P0 T0 vouch_rising.A vouch_rising.code [1, 1, 0, 0] [X1] (vouch_rising.rq E K) (vouch_rising.f1 n1 la4 t7p t7n t7c t8 t9) H
theorem vouch_rising.l1_rule { E : Value → Hp → Prop} {K : Hp → Prop} (I : Int → Int → (Option Addr) → Nat → Nat → Int → Int → Hp → Prop) (μ : Int → Int → (Option Addr) → Nat → Nat → Int → Int → Hp → Nat)
    (h : ∀ n1 la4 t7p t7n t7c t8 t9 H, I n1 la4 t7p t7n t7c t8 t9 H → ∀ X : Fr → Hp → Prop, (∀ n1' la4' t7p' t7n' t7c' t8' t9' H', I n1' la4' t7p' t7n' t7c' t8' t9' H' → μ n1' la4' t7p' t7n' t7c' t8' t9' H' < μ n1 la4 t7p t7n t7c t8 t9 H → X (vouch_rising.f1 n1' la4' t7p' t7n' t7c' t8' t9') H') → vouch_rising.b1 n1 la4 t7p t7n t7c t8 t9  X E H K)
    {n1 : Int} {la4 : Int} {t7p : Option Addr} {t7n : Nat} {t7c : Nat} {t8 : Int} {t9 : Int} {H : Hp} (hI : I n1 la4 t7p t7n t7c t8 t9 H) : vouch_rising.l1 n1 la4 t7p t7n t7c t8 t9  E H K :=
  loop_rule (S := Int × Int × (Option Addr) × Nat × Nat × Int × Int) (fun s => vouch_rising.f1 (s.1) (s.2.1) (s.2.2.1) (s.2.2.2.1) (s.2.2.2.2.1) (s.2.2.2.2.2.1) (s.2.2.2.2.2.2)) (fun s H => I (s.1) (s.2.1) (s.2.2.1) (s.2.2.2.1) (s.2.2.2.2.1) (s.2.2.2.2.2.1) (s.2.2.2.2.2.2) H) (fun s H => μ (s.1) (s.2.1) (s.2.2.1) (s.2.2.2.1) (s.2.2.2.2.1) (s.2.2.2.2.2.1) (s.2.2.2.2.2.2) H) (fun s H hI X hX => h (s.1) (s.2.1) (s.2.2.1) (s.2.2.2.1) (s.2.2.2.2.1) (s.2.2.2.2.2.1) (s.2.2.2.2.2.2) H hI X fun n1' la4' t7p' t7n' t7c' t8' t9' H' hI' hlt => hX (n1', la4', t7p', t7n', t7c', t8', t9') H' hI' hlt) (s := (n1, la4, t7p, t7n, t7c, t8, t9)) rfl hI
theorem vouch_rising.nok : nodesOk vouch_rising.code [[0, 1, 1], [1, 1, 1, 0, 0, 1, 1]] = true := by kernel_rfl
def vouch_rising.run_t (l1 : Int → Int → (Option Addr) → Nat → Nat → Int → Int → Hp → Prop) (li0p : Option Addr) (li0n : Nat) (li0c : Nat) (n1 : Int)  (E : Value → Hp → Prop) (H : Hp) (K : Hp → Prop) : Prop :=
  l1 n1 (-1) li0p li0n li0c (li0n : Int) 0 H
theorem vouch_rising.run_eq {li0p : Option Addr} {li0n : Nat} {li0c : Nat} {n1 : Int} { E : Value → Hp → Prop} {H : Hp} {K : Hp → Prop} (h : vouch_rising.run_t (fun n1 la4 t7p t7n t7c t8 t9 H => vouch_rising.l1 n1 la4 t7p t7n t7c t8 t9  E H K) li0p li0n li0c n1  E H K) : vouch_rising.run li0p li0n li0c n1  E H K := by
  exact nodeR_imp2 (fun G => vouch_rising.run_t (fun n1 la4 t7p t7n t7c t8 t9 H => G [0, 1, 1] [(1, .int .i64 n1), (4, .int .i64 la4), (7, .slice t7p t7n t7c), (8, .int .i64 t8), (9, .int .i64 t9)] H) li0p li0n li0c n1  E H K) vouch_rising.nok rfl (fun G => by kernel_rfl) (Eq.mp (by kernel_rfl) h)
def vouch_rising.j1_t  (n1 : Int) (la4 : Int) (t7p : Option Addr) (t7n : Nat) (t7c : Nat) (t8 : Int) (t9 : Int) (X1 : Fr → Hp → Prop) (E : Value → Hp → Prop) (H : Hp) (K : Hp → Prop) : Prop :=
  X1 (vouch_rising.f1 n1 la4 t7p t7n t7c t8 (IntKind.wrap .i64 (t9 + 1))) H
theorem vouch_rising.j1_eq {n1 : Int} {la4 : Int} {t7p : Option Addr} {t7n : Nat} {t7c : Nat} {t8 : Int} {t9 : Int} {X1 : Fr → Hp → Prop} { E : Value → Hp → Prop} {H : Hp} {K : Hp → Prop} (h : vouch_rising.j1_t  n1 la4 t7p t7n t7c t8 t9 X1 E H K) : vouch_rising.j1 n1 la4 t7p t7n t7c t8 t9 X1 E H K := by
  exact nodeR_imp2 (fun _ => vouch_rising.j1_t  n1 la4 t7p t7n t7c t8 t9 X1 E H K) vouch_rising.nok rfl (fun G => by kernel_rfl) h
def vouch_rising.b1_t (j1 : Int → Int → (Option Addr) → Nat → Nat → Int → Int → Hp → Prop) (n1 : Int) (la4 : Int) (t7p : Option Addr) (t7n : Nat) (t7c : Nat) (t8 : Int) (t9 : Int) (X1 : Fr → Hp → Prop) (E : Value → Hp → Prop) (H : Hp) (K : Hp → Prop) : Prop :=
  bcase (decide ((t9 : Int) < t8)) (
  ix t7p t7n t9 1 fun b_1 o_1 =>
  ldI .i64 (H.get b_1 o_1) fun x_1 =>
  bcase (decide ((la4 : Int) < x_1)) (
  vouch_need.call (decide ((x_1 : Int) < n1)) 221 E H fun H_1 =>
  j1 n1 x_1 t7p t7n t7c t8 t9 H_1)
  (vouch_need.call false 221 E H fun H_2 =>
  j1 n1 x_1 t7p t7n t7c t8 t9 H_2))
  (K H)
theorem vouch_rising.b1_eq {n1 : Int} {la4 : Int} {t7p : Option Addr} {t7n : Nat} {t7c : Nat} {t8 : Int} {t9 : Int} {X1 : Fr → Hp → Prop} { E : Value → Hp → Prop} {H : Hp} {K : Hp → Prop} (h : vouch_rising.b1_t (fun n1 la4 t7p t7n t7c t8 t9 H => vouch_rising.j1 n1 la4 t7p t7n t7c t8 t9 X1 E H K) n1 la4 t7p t7n t7c t8 t9 X1 E H K) : vouch_rising.b1 n1 la4 t7p t7n t7c t8 t9 X1 E H K := by
  exact nodeR_imp2 (fun G => vouch_rising.b1_t (fun n1 la4 t7p t7n t7c t8 t9 H => G [1, 1, 1, 0, 0, 1, 1] [(1, .int .i64 n1), (4, .int .i64 la4), (7, .slice t7p t7n t7c), (8, .int .i64 t8), (9, .int .i64 t9)] H) n1 la4 t7p t7n t7c t8 t9 X1 E H K) vouch_rising.nok rfl (fun G => by kernel_rfl) (Eq.mp (by kernel_rfl) h)
end Go.Mz
