/-
  The shallow texts of functions (LawDu), each with a kernel-checked equation to the translated code. It proves nothing of the program by itself.
-/
import Derived.Test.YtjdhhepphbhjgaaTab
set_option linter.unusedVariables false
set_option maxRecDepth 100000
namespace Go.Mz
/-! ### compass/compasslaw12.VouchDuals (4) -/
/-! ### compass/compasslaw12.plain (23) -/
noncomputable def compasslaw12_plain.A : An := { live := [(0, [0]), (1, [1, 2]), (2, [1, 2, 3]), (3, [2, 3, 10, 11, 12]), (4, [2, 3, 10, 11, 12]), (5, [2, 3, 5, 10, 11, 12]), (6, [2, 3, 10, 11, 12]), (7, [2, 3])], ord := [], stb := [], pre := [] }
noncomputable def compasslaw12_plain.code : Code := bodyOf Go.Proofs.Try.f23
theorem compasslaw12_plain.ok : okCode compasslaw12_plain.A 28 compasslaw12_plain.code = true := by kernel_rfl
def compasslaw12_plain.rq (E : Value → Hp → Prop) (K : (Option Addr) → Nat → Nat → (Option Addr) → Nat → Nat → Hp → Prop) : Ex → Fr → Hp → Prop := retQ T0 [.cell 2 45] [45] (fun r H => ldR (.one true [.sl, .sl]) r fun u => K (asS1 (cellV u 0)) (asS2 (cellV u 0)) (asS3 (cellV u 0)) (asS1 (cellV u 1)) (asS2 (cellV u 1)) (asS3 (cellV u 1)) H) E
def compasslaw12_plain.run (d0_Yp : Option Addr) (d0_Yn : Nat) (d0_Yc : Nat) (d0_Setsp : Option Addr) (d0_Setsn : Nat) (d0_Setsc : Nat) (E : Value → Hp → Prop) (H : Hp) (K : (Option Addr) → Nat → Nat → (Option Addr) → Nat → Nat → Hp → Prop) : Prop := nodeM P0 T0 compasslaw12_plain.A compasslaw12_plain.code [] [] (compasslaw12_plain.rq E K) (argF 0 [.agg ⟨[.slice d0_Yp d0_Yn d0_Yc, .slice d0_Setsp d0_Setsn d0_Setsc]⟩]) H
theorem compasslaw12_plain.of {d0_Yp : Option Addr} {d0_Yn : Nat} {d0_Yc : Nat} {d0_Setsp : Option Addr} {d0_Setsn : Nat} {d0_Setsc : Nat} {E : Value → Hp → Prop} {H : Hp} {K : (Option Addr) → Nat → Nat → (Option Addr) → Nat → Nat → Hp → Prop} (h : compasslaw12_plain.run d0_Yp d0_Yn d0_Yc d0_Setsp d0_Setsn d0_Setsc E H K) : compasslaw12_plain.call d0_Yp d0_Yn d0_Yc d0_Setsp d0_Setsn d0_Setsc E H K :=
  callW_of T0_ok P0_mixed (A := compasslaw12_plain.A) (fn := Go.Proofs.Try.f23) Go.Proofs.Try.func23 rfl compasslaw12_plain.ok rfl h
noncomputable def compasslaw12_plain.f1 (t2 : Nat) (out3 : Nat) (t10p : Option Addr) (t10n : Nat) (t10c : Nat) (t11 : Int) (t12 : Int) : Fr := [(2, .pointer (some ⟨t2, 0, none⟩)), (3, .pointer (some ⟨out3, 0, none⟩)), (10, .slice t10p t10n t10c), (11, .int .i64 t11), (12, .int .i64 t12)]
def compasslaw12_plain.j1 (t2 : Nat) (out3 : Nat)  (E : Value → Hp → Prop) (H : Hp) (K : (Option Addr) → Nat → Nat → (Option Addr) → Nat → Nat → Hp → Prop) : Prop := nodeM P0 T0 compasslaw12_plain.A compasslaw12_plain.code [1, 1, 1] [] (compasslaw12_plain.rq E K) [(2, .pointer (some ⟨t2, 0, none⟩)), (3, .pointer (some ⟨out3, 0, none⟩))] H
def compasslaw12_plain.l1 (t2 : Nat) (out3 : Nat) (t10p : Option Addr) (t10n : Nat) (t10c : Nat) (t11 : Int) (t12 : Int)  (E : Value → Hp → Prop) (H : Hp) (K : (Option Addr) → Nat → Nat → (Option Addr) → Nat → Nat → Hp → Prop) : Prop := nodeM P0 T0 compasslaw12_plain.A compasslaw12_plain.code [1, 1, 0, 1, 0] [] (compasslaw12_plain.rq E K) (compasslaw12_plain.f1 t2 out3 t10p t10n t10c t11 t12) H
def compasslaw12_plain.b1 (t2 : Nat) (out3 : Nat) (t10p : Option Addr) (t10n : Nat) (t10c : Nat) (t11 : Int) (t12 : Int)  (X1 : Fr → Hp → Prop) (E : Value → Hp → Prop) (H : Hp) (K : (Option Addr) → Nat → Nat → (Option Addr) → Nat → Nat → Hp → Prop) : Prop := nodeM P0 T0 compasslaw12_plain.A compasslaw12_plain.code [1, 1, 0, 1, 0, 0] [X1] (compasslaw12_plain.rq E K) (compasslaw12_plain.f1 t2 out3 t10p t10n t10c t11 t12) H
theorem compasslaw12_plain.l1_rule { E : Value → Hp → Prop} {K : (Option Addr) → Nat → Nat → (Option Addr) → Nat → Nat → Hp → Prop} (I : Nat → Nat → (Option Addr) → Nat → Nat → Int → Int → Hp → Prop) (μ : Nat → Nat → (Option Addr) → Nat → Nat → Int → Int → Hp → Nat)
    (h : ∀ t2 out3 t10p t10n t10c t11 t12 H, I t2 out3 t10p t10n t10c t11 t12 H → ∀ X : Fr → Hp → Prop, (∀ t2' out3' t10p' t10n' t10c' t11' t12' H', I t2' out3' t10p' t10n' t10c' t11' t12' H' → μ t2' out3' t10p' t10n' t10c' t11' t12' H' < μ t2 out3 t10p t10n t10c t11 t12 H → X (compasslaw12_plain.f1 t2' out3' t10p' t10n' t10c' t11' t12') H') → compasslaw12_plain.b1 t2 out3 t10p t10n t10c t11 t12  X E H K)
    {t2 : Nat} {out3 : Nat} {t10p : Option Addr} {t10n : Nat} {t10c : Nat} {t11 : Int} {t12 : Int} {H : Hp} (hI : I t2 out3 t10p t10n t10c t11 t12 H) : compasslaw12_plain.l1 t2 out3 t10p t10n t10c t11 t12  E H K :=
  loop_rule (S := Nat × Nat × (Option Addr) × Nat × Nat × Int × Int) (fun s => compasslaw12_plain.f1 (s.1) (s.2.1) (s.2.2.1) (s.2.2.2.1) (s.2.2.2.2.1) (s.2.2.2.2.2.1) (s.2.2.2.2.2.2)) (fun s H => I (s.1) (s.2.1) (s.2.2.1) (s.2.2.2.1) (s.2.2.2.2.1) (s.2.2.2.2.2.1) (s.2.2.2.2.2.2) H) (fun s H => μ (s.1) (s.2.1) (s.2.2.1) (s.2.2.2.1) (s.2.2.2.2.1) (s.2.2.2.2.2.1) (s.2.2.2.2.2.2) H) (fun s H hI X hX => h (s.1) (s.2.1) (s.2.2.1) (s.2.2.2.1) (s.2.2.2.2.1) (s.2.2.2.2.2.1) (s.2.2.2.2.2.2) H hI X fun t2' out3' t10p' t10n' t10c' t11' t12' H' hI' hlt => hX (t2', out3', t10p', t10n', t10c', t11', t12') H' hI' hlt) (s := (t2, out3, t10p, t10n, t10c, t11, t12)) rfl hI
theorem compasslaw12_plain.nok : nodesOk compasslaw12_plain.code [[0, 1, 0, 1, 1], [1, 1, 1]] = true := by kernel_rfl
def compasslaw12_plain.run_t (l1 : Nat → Nat → (Option Addr) → Nat → Nat → Int → Int → Hp → Prop) (d0_Yp : Option Addr) (d0_Yn : Nat) (d0_Yc : Nat) (d0_Setsp : Option Addr) (d0_Setsn : Nat) (d0_Setsc : Nat)  (E : Value → Hp → Prop) (H : Hp) (K : (Option Addr) → Nat → Nat → (Option Addr) → Nat → Nat → Hp → Prop) : Prop :=
  nw H ⟨[.slice d0_Yp d0_Yn d0_Yc, .slice d0_Setsp d0_Setsn d0_Setsc], 38⟩ fun b_1 H_1 =>
  nw H_1 ⟨[.slice none 0 0, .slice none 0 0], 45⟩ fun b_2 H_2 =>
  ldS (H_2.get b_1 0) fun x_1p x_1n x_1c =>
  nw H_2 ⟨[.slice none 0 0, .slice none 0 0], 45⟩ fun b_3 H_3 =>
  stC H_3 b_3 0 [.slice x_1p x_1n x_1c, .slice none 0 0] fun H_4 =>
  ldS (H_4.get b_1 1) fun x_2p x_2n x_2c =>
  l1 b_2 b_3 x_2p x_2n x_2c (x_2n : Int) 0 H_4
theorem compasslaw12_plain.run_eq {d0_Yp : Option Addr} {d0_Yn : Nat} {d0_Yc : Nat} {d0_Setsp : Option Addr} {d0_Setsn : Nat} {d0_Setsc : Nat} { E : Value → Hp → Prop} {H : Hp} {K : (Option Addr) → Nat → Nat → (Option Addr) → Nat → Nat → Hp → Prop} (h : compasslaw12_plain.run_t (fun t2 out3 t10p t10n t10c t11 t12 H => compasslaw12_plain.l1 t2 out3 t10p t10n t10c t11 t12  E H K) d0_Yp d0_Yn d0_Yc d0_Setsp d0_Setsn d0_Setsc  E H K) : compasslaw12_plain.run d0_Yp d0_Yn d0_Yc d0_Setsp d0_Setsn d0_Setsc  E H K := by
  have k1 : ∀ G : List Nat → Fr → Hp → Prop, nodeR P0 T0 compasslaw12_plain.A [[0, 1, 0, 1, 1], [1, 1, 1]] G compasslaw12_plain.code [] [] (compasslaw12_plain.rq E K) (argF 0 [.agg ⟨[.slice d0_Yp d0_Yn d0_Yc, .slice d0_Setsp d0_Setsn d0_Setsc]⟩]) H = compasslaw12_plain.run_t (fun t2 out3 t10p t10n t10c t11 t12 H => G [0, 1, 0, 1, 1] [(2, .pointer (some ⟨t2, 0, none⟩)), (3, .pointer (some ⟨out3, 0, none⟩)), (10, .slice t10p t10n t10c), (11, .int .i64 t11), (12, .int .i64 t12)] H) d0_Yp d0_Yn d0_Yc d0_Setsp d0_Setsn d0_Setsc  E H K := fun G => by kernel_rfl
  have k2 : compasslaw12_plain.run_t (fun t2 out3 t10p t10n t10c t11 t12 H => compasslaw12_plain.l1 t2 out3 t10p t10n t10c t11 t12  E H K) d0_Yp d0_Yn d0_Yc d0_Setsp d0_Setsn d0_Setsc  E H K = compasslaw12_plain.run_t (fun t2 out3 t10p t10n t10c t11 t12 H => (fun q F H => nodeM P0 T0 compasslaw12_plain.A compasslaw12_plain.code q.reverse [] (compasslaw12_plain.rq E K) F H) [0, 1, 0, 1, 1] [(2, .pointer (some ⟨t2, 0, none⟩)), (3, .pointer (some ⟨out3, 0, none⟩)), (10, .slice t10p t10n t10c), (11, .int .i64 t11), (12, .int .i64 t12)] H) d0_Yp d0_Yn d0_Yc d0_Setsp d0_Setsn d0_Setsc  E H K := by kernel_rfl
  exact nodeR_imp compasslaw12_plain.nok rfl ((k1 _).mpr (k2.mp h))
def compasslaw12_plain.j1_t  (t2 : Nat) (out3 : Nat)  (E : Value → Hp → Prop) (H : Hp) (K : (Option Addr) → Nat → Nat → (Option Addr) → Nat → Nat → Hp → Prop) : Prop :=
  ldS (H.get out3 0) fun x_1p x_1n x_1c =>
  ldS (H.get out3 1) fun x_2p x_2n x_2c =>
  stC H t2 0 [.slice x_1p x_1n x_1c, .slice x_2p x_2n x_2c] fun H_1 =>
  ldS (H_1.get t2 0) fun x_3p x_3n x_3c =>
  ldS (H_1.get t2 1) fun x_4p x_4n x_4c =>
  K x_3p x_3n x_3c x_4p x_4n x_4c H_1
theorem compasslaw12_plain.j1_eq {t2 : Nat} {out3 : Nat} { E : Value → Hp → Prop} {H : Hp} {K : (Option Addr) → Nat → Nat → (Option Addr) → Nat → Nat → Hp → Prop} (h : compasslaw12_plain.j1_t  t2 out3  E H K) : compasslaw12_plain.j1 t2 out3  E H K := by
  have k1 : ∀ G : List Nat → Fr → Hp → Prop, nodeR P0 T0 compasslaw12_plain.A [[0, 1, 0, 1, 1], [1, 1, 1]] G compasslaw12_plain.code [1, 1, 1] [] (compasslaw12_plain.rq E K) [(2, .pointer (some ⟨t2, 0, none⟩)), (3, .pointer (some ⟨out3, 0, none⟩))] H = compasslaw12_plain.j1_t  t2 out3  E H K := fun G => by kernel_rfl
  exact nodeR_imp compasslaw12_plain.nok rfl ((k1 _).mpr h)
def compasslaw12_plain.b1_t (j1 : Nat → Nat → Hp → Prop) (t2 : Nat) (out3 : Nat) (t10p : Option Addr) (t10n : Nat) (t10c : Nat) (t11 : Int) (t12 : Int) (X1 : Fr → Hp → Prop) (E : Value → Hp → Prop) (H : Hp) (K : (Option Addr) → Nat → Nat → (Option Addr) → Nat → Nat → Hp → Prop) : Prop :=
  bcase (decide ((t12 : Int) < t11)) (
  ix t10p t10n t12 2 fun b_1 o_1 =>
  ldS (H.get b_1 o_1) fun x_1p x_1n x_1c =>
  ldI .i64 (H.get b_1 (o_1 + 1)) fun x_2 =>
  nw H ⟨[.slice none 0 0, .int .i64 0], 107⟩ fun b_2 H_1 =>
  stC H_1 b_2 0 [.slice x_1p x_1n x_1c, .int .i64 x_2] fun H_2 =>
  ldS (H_2.get out3 1) fun x_3p x_3n x_3c =>
  ldS (H_2.get b_2 0) fun x_4p x_4n x_4c =>
  ldI .i64 (H_2.get b_2 1) fun x_5 =>
  nw H_2 ⟨[.slice x_4p x_4n x_4c, .int .i64 x_5], 108⟩ fun b_3 H_3 =>
  appM 108 [.sl, .i .i64] 32 x_3p x_3n x_3c (some ⟨b_3, 0, none⟩) 1 H_3 fun a_1p a_1n a_1c H_4 =>
  stC H_4 out3 1 [.slice a_1p a_1n a_1c] fun H_5 =>
  X1 (compasslaw12_plain.f1 t2 out3 t10p t10n t10c t11 (IntKind.wrap .i64 (t12 + 1))) H_5)
  (j1 t2 out3 H)
theorem compasslaw12_plain.b1_eq {t2 : Nat} {out3 : Nat} {t10p : Option Addr} {t10n : Nat} {t10c : Nat} {t11 : Int} {t12 : Int} {X1 : Fr → Hp → Prop} { E : Value → Hp → Prop} {H : Hp} {K : (Option Addr) → Nat → Nat → (Option Addr) → Nat → Nat → Hp → Prop} (h : compasslaw12_plain.b1_t (fun t2 out3 H => compasslaw12_plain.j1 t2 out3  E H K) t2 out3 t10p t10n t10c t11 t12 X1 E H K) : compasslaw12_plain.b1 t2 out3 t10p t10n t10c t11 t12 X1 E H K := by
  have k1 : ∀ G : List Nat → Fr → Hp → Prop, nodeR P0 T0 compasslaw12_plain.A [[0, 1, 0, 1, 1], [1, 1, 1]] G compasslaw12_plain.code [1, 1, 0, 1, 0, 0] [X1] (compasslaw12_plain.rq E K) (compasslaw12_plain.f1 t2 out3 t10p t10n t10c t11 t12) H = compasslaw12_plain.b1_t (fun t2 out3 H => G [1, 1, 1] [(2, .pointer (some ⟨t2, 0, none⟩)), (3, .pointer (some ⟨out3, 0, none⟩))] H) t2 out3 t10p t10n t10c t11 t12 X1 E H K := fun G => by kernel_rfl
  have k2 : compasslaw12_plain.b1_t (fun t2 out3 H => compasslaw12_plain.j1 t2 out3  E H K) t2 out3 t10p t10n t10c t11 t12 X1 E H K = compasslaw12_plain.b1_t (fun t2 out3 H => (fun q F H => nodeM P0 T0 compasslaw12_plain.A compasslaw12_plain.code q.reverse [X1] (compasslaw12_plain.rq E K) F H) [1, 1, 1] [(2, .pointer (some ⟨t2, 0, none⟩)), (3, .pointer (some ⟨out3, 0, none⟩))] H) t2 out3 t10p t10n t10c t11 t12 X1 E H K := by kernel_rfl
  exact nodeR_imp compasslaw12_plain.nok rfl ((k1 _).mpr (k2.mp h))
end Go.Mz
