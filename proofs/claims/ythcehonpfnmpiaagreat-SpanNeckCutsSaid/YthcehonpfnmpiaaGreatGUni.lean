/-
  The shallow texts of functions (Uni), each with a kernel-checked equation to the translated code. It proves nothing of the program by itself.
-/
import Derived.Test.YthcehonpfnmpiaaGreatTab
set_option linter.unusedVariables false
set_option maxRecDepth 100000
namespace Go.Mz
/-! ### (*compass/unions.Sets).Find (28) -/
noncomputable def unions_Sets_Find.A : An := { live := [(0, [0, 1]), (1, [0, 1]), (2, []), (3, [0, 1])], ord := [(3, [0, 1, 2, 3, 4, 5, 6, 7, 8, 9, 10])], stb := [(3, [(6, [3])])], pre := [(3, [[], [0], [0, 1], [0, 1, 2], [], [], [4, 5], [0, 1, 2, 3, 4, 5, 6], [0, 1, 2, 3, 4, 5, 6, 7], [0, 1, 2, 3, 4, 5, 6, 7, 8], [0, 1, 2, 3, 4, 5, 6, 7, 8, 9]])] }
noncomputable def unions_Sets_Find.code : Code := bodyOf Go.Proofs.Tryz.f28
theorem unions_Sets_Find.ok : okCode unions_Sets_Find.A 19 unions_Sets_Find.code = true := by kernel_rfl
def unions_Sets_Find.rq (E : Value → Hp → Prop) (K : Int → Int → Hp → Prop) : Ex → Fr → Hp → Prop := retQ T0 [.tmp 4, .tmp 5] [3, 27] (fun r H => ldR (.tup [(false, [.i .i64]), (false, [.i .i64])]) r fun u => K (asI (tupV u 0)) (asI (tupV u 1)) H) E
def unions_Sets_Find.run (s0 : Option Addr) (v1 : Int) (E : Value → Hp → Prop) (H : Hp) (K : Int → Int → Hp → Prop) : Prop := nodeM P0 T0 unions_Sets_Find.A unions_Sets_Find.code [] [] (unions_Sets_Find.rq E K) (argF 0 [.pointer s0, .int .i64 v1]) H
theorem unions_Sets_Find.of {s0 : Option Addr} {v1 : Int} {E : Value → Hp → Prop} {H : Hp} {K : Int → Int → Hp → Prop} (h : unions_Sets_Find.run s0 v1 E H K) : unions_Sets_Find.call s0 v1 E H K :=
  callW_of T0_ok P0_mixed (A := unions_Sets_Find.A) (fn := Go.Proofs.Tryz.f28) Go.Proofs.Tryz.func28 rfl unions_Sets_Find.ok rfl h
theorem unions_Sets_Find.nok : nodesOk unions_Sets_Find.code [] = true := by kernel_rfl
def unions_Sets_Find.run_t  (s0 : Option Addr) (v1 : Int)  (E : Value → Hp → Prop) (H : Hp) (K : Int → Int → Hp → Prop) : Prop :=
  unions_Sets_node.call s0 v1 E H fun r_1 H_1 =>
  bcase ((!r_1)) (
  K 0 30 H_1)
  (nn s0 fun b_1 o_1 =>
  ldS (H_1.get b_1 (o_1 + 2)) fun x_1p x_1n x_1c =>
  unions_Sets_root.call s0 v1 E H_1 fun r_2 H_2 =>
  (ldS (H_2.get b_1 (o_1 + 2)) fun x_3p x_3n x_3c =>
  Value.slice x_3p x_3n x_3c = Value.slice x_1p x_1n x_1c) ∧
  ix x_1p x_1n r_2 1 fun b_2 o_2 =>
  ldI .i64 (H_2.get b_2 o_2) fun x_2 =>
  K x_2 0 H_2)
theorem unions_Sets_Find.run_eq {s0 : Option Addr} {v1 : Int} { E : Value → Hp → Prop} {H : Hp} {K : Int → Int → Hp → Prop} (h : unions_Sets_Find.run_t  s0 v1  E H K) : unions_Sets_Find.run s0 v1  E H K := by
  exact nodeR_imp2 (fun _ => unions_Sets_Find.run_t  s0 v1  E H K) unions_Sets_Find.nok rfl (fun G => by kernel_rfl) h
/-! ### compass/unions.New (47) -/
noncomputable def unions_New.A : An := { live := [(0, [0]), (1, [0]), (2, []), (3, [0]), (4, [0, 4]), (5, [4, 20, 21]), (6, [4, 20, 21]), (7, [4, 5, 20, 21]), (8, [4, 20, 21]), (9, [4])], ord := [(3, [0, 1, 2, 3, 4, 5, 6, 7, 8]), (7, [0, 1, 2, 3, 4, 5, 6, 7, 8, 9, 10, 11, 12, 13, 14, 15, 16, 17, 18, 19, 20, 21, 22])], stb := [], pre := [(3, [[], [0], [], [2], [], [4], [0, 1, 2, 3, 4, 5], [0, 1, 2, 3, 4, 5, 6], [0, 1, 2, 3, 4, 5, 6, 7]]), (7, [[], [0], [0, 1], [0, 1, 2], [], [], [5], [5, 6], [5, 6, 7], [], [], [10], [10, 11], [10, 11, 12], [], [], [], [0, 1, 2, 3, 4, 5, 6, 7, 8, 10, 11, 12, 13, 15], [0, 1, 2, 3, 4, 5, 6, 7, 8, 10, 11, 12, 13, 15, 17], [0, 1, 2, 3, 4, 5, 6, 7, 8, 9, 10, 11, 12, 13, 15, 17, 18], [0, 1, 2, 3, 4, 5, 6, 7, 8, 9, 10, 11, 12, 13, 15, 17, 18, 19], [0, 1, 2, 3, 4, 5, 6, 7, 8, 9, 10, 11, 12, 13, 14, 15, 16, 17, 18, 19, 20], [0, 1, 2, 3, 4, 5, 6, 7, 8, 9, 10, 11, 12, 13, 14, 15, 16, 17, 18, 19, 20, 21]])] }
noncomputable def unions_New.code : Code := bodyOf Go.Proofs.Tryz.f47
theorem unions_New.ok : okCode unions_New.A 46 unions_New.code = true := by kernel_rfl
def unions_New.rq (E : Value → Hp → Prop) (K : (Option Addr) → Int → Hp → Prop) : Ex → Fr → Hp → Prop := retQ T0 [.tmp 2, .tmp 3] [59, 27] (fun r H => ldR (.tup [(false, [.ptr]), (false, [.i .i64])]) r fun u => K (asP (tupV u 0)) (asI (tupV u 1)) H) E
def unions_New.run (n0 : Int) (E : Value → Hp → Prop) (H : Hp) (K : (Option Addr) → Int → Hp → Prop) : Prop := nodeM P0 T0 unions_New.A unions_New.code [] [] (unions_New.rq E K) (argF 0 [.int .i64 n0]) H
theorem unions_New.of {n0 : Int} {E : Value → Hp → Prop} {H : Hp} {K : (Option Addr) → Int → Hp → Prop} (h : unions_New.run n0 E H K) : unions_New.call n0 E H K :=
  callW_of T0_ok P0_mixed (A := unions_New.A) (fn := Go.Proofs.Tryz.f47) Go.Proofs.Tryz.func47 rfl unions_New.ok rfl h
noncomputable def unions_New.f1 (s4 : Option Addr) (t20 : Int) (t21 : Int) : Fr := [(4, .pointer s4), (20, .int .i64 t20), (21, .int .i64 t21)]
def unions_New.l1 (s4 : Option Addr) (t20 : Int) (t21 : Int)  (E : Value → Hp → Prop) (H : Hp) (K : (Option Addr) → Int → Hp → Prop) : Prop := nodeM P0 T0 unions_New.A unions_New.code [1, 1, 1, 0, 1, 0] [] (unions_New.rq E K) (unions_New.f1 s4 t20 t21) H
def unions_New.b1 (s4 : Option Addr) (t20 : Int) (t21 : Int)  (X1 : Fr → Hp → Prop) (E : Value → Hp → Prop) (H : Hp) (K : (Option Addr) → Int → Hp → Prop) : Prop := nodeM P0 T0 unions_New.A unions_New.code [1, 1, 1, 0, 1, 0, 0] [X1] (unions_New.rq E K) (unions_New.f1 s4 t20 t21) H
theorem unions_New.l1_rule { E : Value → Hp → Prop} {K : (Option Addr) → Int → Hp → Prop} (I : (Option Addr) → Int → Int → Hp → Prop) (μ : (Option Addr) → Int → Int → Hp → Nat)
    (h : ∀ s4 t20 t21 H, I s4 t20 t21 H → ∀ X : Fr → Hp → Prop, (∀ s4' t20' t21' H', I s4' t20' t21' H' → μ s4' t20' t21' H' < μ s4 t20 t21 H → X (unions_New.f1 s4' t20' t21') H') → unions_New.b1 s4 t20 t21  X E H K)
    {s4 : Option Addr} {t20 : Int} {t21 : Int} {H : Hp} (hI : I s4 t20 t21 H) : unions_New.l1 s4 t20 t21  E H K :=
  loop_rule (S := (Option Addr) × Int × Int) (fun s => unions_New.f1 (s.1) (s.2.1) (s.2.2)) (fun s H => I (s.1) (s.2.1) (s.2.2) H) (fun s H => μ (s.1) (s.2.1) (s.2.2) H) (fun s H hI X hX => h (s.1) (s.2.1) (s.2.2) H hI X fun s4' t20' t21' H' hI' hlt => hX (s4', t20', t21') H' hI' hlt) (s := (s4, t20, t21)) rfl hI
theorem unions_New.nok : nodesOk unions_New.code [[0, 1, 0, 1, 1, 1]] = true := by kernel_rfl
def unions_New.run_t (l1 : (Option Addr) → Int → Int → Hp → Prop) (n0 : Int)  (E : Value → Hp → Prop) (H : Hp) (K : (Option Addr) → Int → Hp → Prop) : Prop :=
  bcase (decide ((n0 : Int) < 0)) (
  K none 3 H)
  (bcase (decide ((1024 : Int) < n0)) (
  K none 3 H)
  (mkS n0 n0 3 [.i .i64] 8 H fun b_1 H_1 =>
  mkS n0 n0 3 [.i .i64] 8 H_1 fun b_2 H_2 =>
  mkS n0 n0 3 [.i .i64] 8 H_2 fun b_3 H_3 =>
  nw H_3 ⟨[.slice (some ⟨b_1, 0, none⟩) n0.toNat n0.toNat, .slice (some ⟨b_2, 0, none⟩) n0.toNat n0.toNat, .slice (some ⟨b_3, 0, none⟩) n0.toNat n0.toNat, .slice none 0 0], 90⟩ fun b_4 H_4 =>
  l1 (some ⟨b_4, 0, none⟩) n0 0 H_4))
theorem unions_New.run_eq {n0 : Int} { E : Value → Hp → Prop} {H : Hp} {K : (Option Addr) → Int → Hp → Prop} (h : unions_New.run_t (fun s4 t20 t21 H => unions_New.l1 s4 t20 t21  E H K) n0  E H K) : unions_New.run n0  E H K := by
  exact nodeR_imp2 (fun G => unions_New.run_t (fun s4 t20 t21 H => G [0, 1, 0, 1, 1, 1] [(4, .pointer s4), (20, .int .i64 t20), (21, .int .i64 t21)] H) n0  E H K) unions_New.nok rfl (fun G => by kernel_rfl) (Eq.mp (by kernel_rfl) h)
def unions_New.b1_t  (s4 : Option Addr) (t20 : Int) (t21 : Int) (X1 : Fr → Hp → Prop) (E : Value → Hp → Prop) (H : Hp) (K : (Option Addr) → Int → Hp → Prop) : Prop :=
  bcase (decide ((t21 : Int) < t20)) (
  nn s4 fun b_1 o_1 =>
  ldS (H.get b_1 o_1) fun x_1p x_1n x_1c =>
  nn s4 fun b_2 o_2 =>
  ldS (H.get b_2 (o_2 + 1)) fun x_2p x_2n x_2c =>
  nn s4 fun b_3 o_3 =>
  ldS (H.get b_3 (o_3 + 2)) fun x_3p x_3n x_3c =>
  ix x_1p x_1n t21 1 fun b_4 o_4 =>
  stC H b_4 o_4 [.int .i64 t21] fun H_1 =>
  ix x_2p x_2n t21 1 fun b_5 o_5 =>
  stC H_1 b_5 o_5 [.int .i64 1] fun H_2 =>
  ix x_3p x_3n t21 1 fun b_6 o_6 =>
  stC H_2 b_6 o_6 [.int .i64 t21] fun H_3 =>
  X1 (unions_New.f1 s4 t20 (IntKind.wrap .i64 (t21 + 1))) H_3)
  (K s4 0 H)
theorem unions_New.b1_eq {s4 : Option Addr} {t20 : Int} {t21 : Int} {X1 : Fr → Hp → Prop} { E : Value → Hp → Prop} {H : Hp} {K : (Option Addr) → Int → Hp → Prop} (h : unions_New.b1_t  s4 t20 t21 X1 E H K) : unions_New.b1 s4 t20 t21 X1 E H K := by
  exact nodeR_imp2 (fun _ => unions_New.b1_t  s4 t20 t21 X1 E H K) unions_New.nok rfl (fun G => by kernel_rfl) h
/-! ### (*compass/unions.Sets).Join (48) -/
noncomputable def unions_Sets_Join.A : An := { live := [(0, [0, 1, 2]), (1, [0, 1, 2]), (2, []), (3, [0, 1, 2]), (4, [0, 8, 9]), (5, []), (6, [0, 8, 9]), (7, [0, 8, 9]), (8, [0, 8, 9]), (9, [0, 8, 9]), (10, [0, 8, 9]), (11, [0, 8, 9]), (12, [])], ord := [(6, [0, 1, 2, 3, 4, 5, 6, 7, 8, 9, 10, 11, 12, 13, 14]), (8, [0, 1, 2, 3, 4, 5, 6, 7, 8, 9, 10, 11, 12, 13, 14, 15, 16, 17, 18, 19]), (10, [0, 1, 2, 3, 4, 5, 6, 7, 8, 9, 10, 11, 12, 13, 14, 15, 16]), (11, [0, 1, 2, 3, 4, 5, 6, 7, 8, 9, 10, 11, 12, 13, 14, 15, 16, 17, 18, 19, 20, 21])], stb := [], pre := [(6, [[], [0], [0, 1], [0, 1, 2], [], [0, 1, 2, 3, 4], [0, 1, 2, 3, 4, 5], [], [7], [7, 8], [7, 8, 9], [], [7, 8, 9, 10, 11], [7, 8, 9, 10, 11, 12], [0, 1, 2, 3, 4, 5, 6, 7, 8, 9, 10, 11, 12, 13]]), (8, [[], [], [1], [1, 2], [1, 2, 3], [], [], [], [7], [7, 8], [7, 8, 9], [], [7, 8, 9, 10, 11], [7, 8, 9, 10, 11, 12], [5, 6, 7, 8, 9, 10, 11, 12, 13], [5, 6, 7, 8, 9, 10, 11, 12, 13, 14], [1, 2, 3, 4, 5, 6, 7, 8, 9, 10, 11, 12, 13, 14, 15], [0, 1, 2, 3, 4, 5, 6, 7, 8, 9, 10, 11, 12, 13, 14, 15, 16], [0, 1, 2, 3, 4, 5, 6, 7, 8, 9, 10, 11, 12, 13, 14, 15, 16, 17], [0, 1, 2, 3, 4, 5, 6, 7, 8, 9, 10, 11, 12, 13, 14, 15, 16, 17, 18]]), (10, [[], [0], [0, 1], [0, 1, 2], [], [0, 1, 2, 3, 4], [0, 1, 2, 3, 4, 5], [], [7], [7, 8], [7, 8, 9], [], [7, 8, 9, 10, 11], [7, 8, 9, 10, 11, 12], [0, 1, 2, 3, 4, 5, 6, 7, 8, 9, 10, 11, 12, 13], [0, 1, 2, 3, 4, 5, 6, 7, 8, 9, 10, 11, 12, 13, 14], [0, 1, 2, 3, 4, 5, 6, 7, 8, 9, 10, 11, 12, 13, 14, 15]]), (11, [[], [0], [0, 1], [0, 1, 2], [], [], [5], [5, 6], [5, 6, 7], [], [5, 6, 7, 8, 9], [5, 6, 7, 8, 9, 10], [], [12], [12, 13], [12, 13, 14], [], [12, 13, 14, 15, 16], [12, 13, 14, 15, 16, 17], [5, 6, 7, 8, 9, 10, 11, 12, 13, 14, 15, 16, 17, 18], [0, 1, 2, 3, 4, 5, 6, 7, 8, 9, 10, 11, 12, 13, 14, 15, 16, 17, 18, 19], [0, 1, 2, 3, 4, 5, 6, 7, 8, 9, 10, 11, 12, 13, 14, 15, 16, 17, 18, 19, 20]])] }
noncomputable def unions_Sets_Join.code : Code := bodyOf Go.Proofs.Tryz.f48
theorem unions_Sets_Join.ok : okCode unions_Sets_Join.A 109 unions_Sets_Join.code = true := by kernel_rfl
def unions_Sets_Join.rq (E : Value → Hp → Prop) (K : Bool → Int → Hp → Prop) : Ex → Fr → Hp → Prop := retQ T0 [.tmp 6, .tmp 7] [4, 27] (fun r H => ldR (.tup [(false, [.bool]), (false, [.i .i64])]) r fun u => K (asB (tupV u 0)) (asI (tupV u 1)) H) E
def unions_Sets_Join.run (s0 : Option Addr) (u1 : Int) (v2 : Int) (E : Value → Hp → Prop) (H : Hp) (K : Bool → Int → Hp → Prop) : Prop := nodeM P0 T0 unions_Sets_Join.A unions_Sets_Join.code [] [] (unions_Sets_Join.rq E K) (argF 0 [.pointer s0, .int .i64 u1, .int .i64 v2]) H
theorem unions_Sets_Join.of {s0 : Option Addr} {u1 : Int} {v2 : Int} {E : Value → Hp → Prop} {H : Hp} {K : Bool → Int → Hp → Prop} (h : unions_Sets_Join.run s0 u1 v2 E H K) : unions_Sets_Join.call s0 u1 v2 E H K :=
  callW_of T0_ok P0_mixed (A := unions_Sets_Join.A) (fn := Go.Proofs.Tryz.f48) Go.Proofs.Tryz.func48 rfl unions_Sets_Join.ok rfl h
def unions_Sets_Join.j1 (s0 : Option Addr) (a8 : Int) (bb9 : Int)  (E : Value → Hp → Prop) (H : Hp) (K : Bool → Int → Hp → Prop) : Prop := nodeM P0 T0 unions_Sets_Join.A unions_Sets_Join.code [1, 1, 1, 1, 1] [] (unions_Sets_Join.rq E K) [(0, .pointer s0), (8, .int .i64 a8), (9, .int .i64 bb9)] H
theorem unions_Sets_Join.nok : nodesOk unions_Sets_Join.code [[1, 1, 1, 1, 1]] = true := by kernel_rfl
def unions_Sets_Join.run_t (j1 : (Option Addr) → Int → Int → Hp → Prop) (s0 : Option Addr) (u1 : Int) (v2 : Int)  (E : Value → Hp → Prop) (H : Hp) (K : Bool → Int → Hp → Prop) : Prop :=
  unions_Sets_node.call s0 u1 E H fun r_1 H_1 =>
  bcase ((!r_1)) (
  K false 30 H_1)
  (unions_Sets_node.call s0 v2 E H_1 fun r_2 H_2 =>
  bcase ((!r_2)) (
  K false 30 H_2)
  (unions_Sets_root.call s0 u1 E H_2 fun r_3 H_3 =>
  unions_Sets_root.call s0 v2 E H_3 fun r_4 H_4 =>
  bcase (decide ((r_3 : Int) = r_4)) (
  K false 0 H_4)
  (nn s0 fun b_1 o_1 =>
  ldS (H_4.get b_1 (o_1 + 1)) fun x_1p x_1n x_1c =>
  ix x_1p x_1n r_3 1 fun b_2 o_2 =>
  ldI .i64 (H_4.get b_2 o_2) fun x_2 =>
  nn s0 fun b_3 o_3 =>
  ldS (H_4.get b_3 (o_3 + 1)) fun x_3p x_3n x_3c =>
  ix x_3p x_3n r_4 1 fun b_4 o_4 =>
  ldI .i64 (H_4.get b_4 o_4) fun x_4 =>
  bcase (decide ((x_2 : Int) < x_4)) (
  j1 s0 r_4 r_3 H_4)
  (j1 s0 r_3 r_4 H_4))))
theorem unions_Sets_Join.run_eq {s0 : Option Addr} {u1 : Int} {v2 : Int} { E : Value → Hp → Prop} {H : Hp} {K : Bool → Int → Hp → Prop} (h : unions_Sets_Join.run_t (fun s0 a8 bb9 H => unions_Sets_Join.j1 s0 a8 bb9  E H K) s0 u1 v2  E H K) : unions_Sets_Join.run s0 u1 v2  E H K := by
  exact nodeR_imp2 (fun G => unions_Sets_Join.run_t (fun s0 a8 bb9 H => G [1, 1, 1, 1, 1] [(0, .pointer s0), (8, .int .i64 a8), (9, .int .i64 bb9)] H) s0 u1 v2  E H K) unions_Sets_Join.nok rfl (fun G => by kernel_rfl) (Eq.mp (by kernel_rfl) h)
def unions_Sets_Join.j1_t  (s0 : Option Addr) (a8 : Int) (bb9 : Int)  (E : Value → Hp → Prop) (H : Hp) (K : Bool → Int → Hp → Prop) : Prop :=
  nn s0 fun b_1 o_1 =>
  ldS (H.get b_1 (o_1 + 3)) fun x_1p x_1n x_1c =>
  nn s0 fun b_2 o_2 =>
  ldS (H.get b_2 (o_2 + 2)) fun x_2p x_2n x_2c =>
  ix x_2p x_2n a8 1 fun b_3 o_3 =>
  ldI .i64 (H.get b_3 o_3) fun x_3 =>
  nw H ⟨[.int .i64 bb9, .int .i64 a8, .int .i64 x_3], 136⟩ fun b_4 H_1 =>
  appM 136 [.i .i64, .i .i64, .i .i64] 24 x_1p x_1n x_1c (some ⟨b_4, 0, none⟩) 1 H_1 fun a_1p a_1n a_1c H_2 =>
  nn s0 fun b_5 o_4 =>
  stC H_2 b_5 (o_4 + 3) [.slice a_1p a_1n a_1c] fun H_3 =>
  nn s0 fun b_6 o_5 =>
  ldS (H_3.get b_6 o_5) fun x_4p x_4n x_4c =>
  ix x_4p x_4n bb9 1 fun b_7 o_6 =>
  stC H_3 b_7 o_6 [.int .i64 a8] fun H_4 =>
  nn s0 fun b_8 o_7 =>
  ldS (H_4.get b_8 (o_7 + 1)) fun x_5p x_5n x_5c =>
  ix x_5p x_5n a8 1 fun b_9 o_8 =>
  ldI .i64 (H_4.get b_9 o_8) fun x_6 =>
  nn s0 fun b_10 o_9 =>
  ldS (H_4.get b_10 (o_9 + 1)) fun x_7p x_7n x_7c =>
  ix x_7p x_7n bb9 1 fun b_11 o_10 =>
  ldI .i64 (H_4.get b_11 o_10) fun x_8 =>
  ix x_5p x_5n a8 1 fun b_12 o_11 =>
  stC H_4 b_12 o_11 [.int .i64 (IntKind.wrap .i64 (x_6 + x_8))] fun H_5 =>
  nn s0 fun b_13 o_12 =>
  ldS (H_5.get b_13 (o_12 + 2)) fun x_9p x_9n x_9c =>
  nn s0 fun b_14 o_13 =>
  ldS (H_5.get b_14 (o_13 + 2)) fun x_10p x_10n x_10c =>
  ix x_10p x_10n a8 1 fun b_15 o_14 =>
  ldI .i64 (H_5.get b_15 o_14) fun x_11 =>
  nn s0 fun b_16 o_15 =>
  ldS (H_5.get b_16 (o_15 + 2)) fun x_12p x_12n x_12c =>
  ix x_12p x_12n bb9 1 fun b_17 o_16 =>
  ldI .i64 (H_5.get b_17 o_16) fun x_13 =>
  ix x_9p x_9n a8 1 fun b_18 o_17 =>
  stC H_5 b_18 o_17 [.int .i64 (if x_13 < x_11 then x_13 else x_11)] fun H_6 =>
  K true 0 H_6
theorem unions_Sets_Join.j1_eq {s0 : Option Addr} {a8 : Int} {bb9 : Int} { E : Value → Hp → Prop} {H : Hp} {K : Bool → Int → Hp → Prop} (h : unions_Sets_Join.j1_t  s0 a8 bb9  E H K) : unions_Sets_Join.j1 s0 a8 bb9  E H K := by
  exact nodeR_imp2 (fun _ => unions_Sets_Join.j1_t  s0 a8 bb9  E H K) unions_Sets_Join.nok rfl (fun G => by kernel_rfl) h
/-! ### (*compass/unions.Sets).node (49) -/
noncomputable def unions_Sets_node.A : An := { live := [(0, [0, 1]), (1, [0, 1])], ord := [], stb := [], pre := [] }
noncomputable def unions_Sets_node.code : Code := bodyOf Go.Proofs.Tryz.f49
theorem unions_Sets_node.ok : okCode unions_Sets_node.A 16 unions_Sets_node.code = true := by kernel_rfl
def unions_Sets_node.rq (E : Value → Hp → Prop) (K : Bool → Hp → Prop) : Ex → Fr → Hp → Prop := retQ T0 [.tmp 4] [4] (fun r H => ldR (.one false [.bool]) r fun u => K (asB u) H) E
def unions_Sets_node.run (s0 : Option Addr) (v1 : Int) (E : Value → Hp → Prop) (H : Hp) (K : Bool → Hp → Prop) : Prop := nodeM P0 T0 unions_Sets_node.A unions_Sets_node.code [] [] (unions_Sets_node.rq E K) (argF 0 [.pointer s0, .int .i64 v1]) H
theorem unions_Sets_node.of {s0 : Option Addr} {v1 : Int} {E : Value → Hp → Prop} {H : Hp} {K : Bool → Hp → Prop} (h : unions_Sets_node.run s0 v1 E H K) : unions_Sets_node.call s0 v1 E H K :=
  callW_of T0_ok P0_mixed (A := unions_Sets_node.A) (fn := Go.Proofs.Tryz.f49) Go.Proofs.Tryz.func49 rfl unions_Sets_node.ok rfl h
theorem unions_Sets_node.nok : nodesOk unions_Sets_node.code [] = true := by kernel_rfl
def unions_Sets_node.run_t  (s0 : Option Addr) (v1 : Int)  (E : Value → Hp → Prop) (H : Hp) (K : Bool → Hp → Prop) : Prop :=
  bcase (decide ((0 : Int) ≤ v1)) (
  nn s0 fun b_1 o_1 =>
  ldS (H.get b_1 o_1) fun x_1p x_1n x_1c =>
  K (decide ((v1 : Int) < (x_1n : Int))) H)
  (K false H)
theorem unions_Sets_node.run_eq {s0 : Option Addr} {v1 : Int} { E : Value → Hp → Prop} {H : Hp} {K : Bool → Hp → Prop} (h : unions_Sets_node.run_t  s0 v1  E H K) : unions_Sets_node.run s0 v1  E H K := by
  exact nodeR_imp2 (fun _ => unions_Sets_node.run_t  s0 v1  E H K) unions_Sets_node.nok rfl (fun G => by kernel_rfl) h
/-! ### (*compass/unions.Sets).root (50) -/
noncomputable def unions_Sets_root.A : An := { live := [(0, [0, 1]), (1, [0, 1]), (2, [0, 1]), (3, [1])], ord := [], stb := [], pre := [] }
noncomputable def unions_Sets_root.code : Code := bodyOf Go.Proofs.Tryz.f50
theorem unions_Sets_root.ok : okCode unions_Sets_root.A 22 unions_Sets_root.code = true := by kernel_rfl
def unions_Sets_root.rq (E : Value → Hp → Prop) (K : Int → Hp → Prop) : Ex → Fr → Hp → Prop := retQ T0 [.tmp 4] [3] (fun r H => ldR (.one false [.i .i64]) r fun u => K (asI u) H) E
def unions_Sets_root.run (s0 : Option Addr) (v1 : Int) (E : Value → Hp → Prop) (H : Hp) (K : Int → Hp → Prop) : Prop := nodeM P0 T0 unions_Sets_root.A unions_Sets_root.code [] [] (unions_Sets_root.rq E K) (argF 0 [.pointer s0, .int .i64 v1]) H
theorem unions_Sets_root.of {s0 : Option Addr} {v1 : Int} {E : Value → Hp → Prop} {H : Hp} {K : Int → Hp → Prop} (h : unions_Sets_root.run s0 v1 E H K) : unions_Sets_root.call s0 v1 E H K :=
  callW_of T0_ok P0_mixed (A := unions_Sets_root.A) (fn := Go.Proofs.Tryz.f50) Go.Proofs.Tryz.func50 rfl unions_Sets_root.ok rfl h
noncomputable def unions_Sets_root.f1 (s0 : Option Addr) (v1 : Int) : Fr := [(0, .pointer s0), (1, .int .i64 v1)]
def unions_Sets_root.l1 (s0 : Option Addr) (v1 : Int)  (E : Value → Hp → Prop) (H : Hp) (K : Int → Hp → Prop) : Prop := nodeM P0 T0 unions_Sets_root.A unions_Sets_root.code [1, 0, 0] [] (unions_Sets_root.rq E K) (unions_Sets_root.f1 s0 v1) H
def unions_Sets_root.b1 (s0 : Option Addr) (v1 : Int)  (X1 : Fr → Hp → Prop) (E : Value → Hp → Prop) (H : Hp) (K : Int → Hp → Prop) : Prop := nodeM P0 T0 unions_Sets_root.A unions_Sets_root.code [1, 0, 0, 0] [X1] (unions_Sets_root.rq E K) (unions_Sets_root.f1 s0 v1) H
theorem unions_Sets_root.l1_rule { E : Value → Hp → Prop} {K : Int → Hp → Prop} (I : (Option Addr) → Int → Hp → Prop) (μ : (Option Addr) → Int → Hp → Nat)
    (h : ∀ s0 v1 H, I s0 v1 H → ∀ X : Fr → Hp → Prop, (∀ s0' v1' H', I s0' v1' H' → μ s0' v1' H' < μ s0 v1 H → X (unions_Sets_root.f1 s0' v1') H') → unions_Sets_root.b1 s0 v1  X E H K)
    {s0 : Option Addr} {v1 : Int} {H : Hp} (hI : I s0 v1 H) : unions_Sets_root.l1 s0 v1  E H K :=
  loop_rule (S := (Option Addr) × Int) (fun s => unions_Sets_root.f1 (s.1) (s.2)) (fun s H => I (s.1) (s.2) H) (fun s H => μ (s.1) (s.2) H) (fun s H hI X hX => h (s.1) (s.2) H hI X fun s0' v1' H' hI' hlt => hX (s0', v1') H' hI' hlt) (s := (s0, v1)) rfl hI
theorem unions_Sets_root.nok : nodesOk unions_Sets_root.code [[0, 0, 1]] = true := by kernel_rfl
def unions_Sets_root.run_t (l1 : (Option Addr) → Int → Hp → Prop) (s0 : Option Addr) (v1 : Int)  (E : Value → Hp → Prop) (H : Hp) (K : Int → Hp → Prop) : Prop :=
  l1 s0 v1 H
theorem unions_Sets_root.run_eq {s0 : Option Addr} {v1 : Int} { E : Value → Hp → Prop} {H : Hp} {K : Int → Hp → Prop} (h : unions_Sets_root.run_t (fun s0 v1 H => unions_Sets_root.l1 s0 v1  E H K) s0 v1  E H K) : unions_Sets_root.run s0 v1  E H K := by
  exact nodeR_imp2 (fun G => unions_Sets_root.run_t (fun s0 v1 H => G [0, 0, 1] [(0, .pointer s0), (1, .int .i64 v1)] H) s0 v1  E H K) unions_Sets_root.nok rfl (fun G => by kernel_rfl) (Eq.mp (by kernel_rfl) h)
def unions_Sets_root.b1_t  (s0 : Option Addr) (v1 : Int) (X1 : Fr → Hp → Prop) (E : Value → Hp → Prop) (H : Hp) (K : Int → Hp → Prop) : Prop :=
  nn s0 fun b_1 o_1 =>
  ldS (H.get b_1 o_1) fun x_1p x_1n x_1c =>
  ix x_1p x_1n v1 1 fun b_2 o_2 =>
  ldI .i64 (H.get b_2 o_2) fun x_2 =>
  bcase (!decide ((x_2 : Int) = v1)) (
  nn s0 fun b_3 o_3 =>
  ldS (H.get b_3 o_3) fun x_3p x_3n x_3c =>
  ix x_3p x_3n v1 1 fun b_4 o_4 =>
  ldI .i64 (H.get b_4 o_4) fun x_4 =>
  X1 (unions_Sets_root.f1 s0 x_4) H)
  (K v1 H)
theorem unions_Sets_root.b1_eq {s0 : Option Addr} {v1 : Int} {X1 : Fr → Hp → Prop} { E : Value → Hp → Prop} {H : Hp} {K : Int → Hp → Prop} (h : unions_Sets_root.b1_t  s0 v1 X1 E H K) : unions_Sets_root.b1 s0 v1 X1 E H K := by
  exact nodeR_imp2 (fun _ => unions_Sets_root.b1_t  s0 v1 X1 E H K) unions_Sets_root.nok rfl (fun G => by kernel_rfl) h
end Go.Mz
