/-
  The shallow texts of functions (Ref06), each with a kernel-checked equation to the translated code. It proves nothing of the program by itself.
-/
import Derived.Test.YteobpjjocfbdgaaTab
set_option linter.unusedVariables false
set_option maxRecDepth 100000
namespace Go.Mz
/-! ### compass/compassref06.Wrong (15) -/
noncomputable def compassref06_Wrong.A : An := { live := [(0, [0]), (1, [0]), (2, []), (3, [])], ord := [], stb := [], pre := [] }
noncomputable def compassref06_Wrong.code : Code := bodyOf Go.Proofs.Try.f15
theorem compassref06_Wrong.ok : okCode compassref06_Wrong.A 9 compassref06_Wrong.code = true := by kernel_rfl
def compassref06_Wrong.rq (E : Value → Hp → Prop) (K : Int → Hp → Prop) : Ex → Fr → Hp → Prop := retQ T0 [.tmp 2] [3] (fun r H => ldR (.one false [.i .i64]) r fun u => K (asI u) H) E
def compassref06_Wrong.run (n0 : Int) (E : Value → Hp → Prop) (H : Hp) (K : Int → Hp → Prop) : Prop := nodeM P0 T0 compassref06_Wrong.A compassref06_Wrong.code [] [] (compassref06_Wrong.rq E K) (argF 0 [.int .i64 n0]) H
theorem compassref06_Wrong.of {n0 : Int} {E : Value → Hp → Prop} {H : Hp} {K : Int → Hp → Prop} (h : compassref06_Wrong.run n0 E H K) : compassref06_Wrong.call n0 E H K :=
  callW_of T0_ok P0_mixed (A := compassref06_Wrong.A) (fn := Go.Proofs.Try.f15) Go.Proofs.Try.func15 rfl compassref06_Wrong.ok rfl h
theorem compassref06_Wrong.nok : nodesOk compassref06_Wrong.code [] = true := by kernel_rfl
def compassref06_Wrong.run_t  (n0 : Int)  (E : Value → Hp → Prop) (H : Hp) (K : Int → Hp → Prop) : Prop :=
  bcase (decide ((n0 : Int) < 0)) (
  K 3 H)
  (bcase (decide ((1024 : Int) < n0)) (
  K 3 H)
  (K 0 H))
theorem compassref06_Wrong.run_eq {n0 : Int} { E : Value → Hp → Prop} {H : Hp} {K : Int → Hp → Prop} (h : compassref06_Wrong.run_t  n0  E H K) : compassref06_Wrong.run n0  E H K := by
  have k1 : ∀ G : List Nat → Fr → Hp → Prop, nodeR P0 T0 compassref06_Wrong.A [] G compassref06_Wrong.code [] [] (compassref06_Wrong.rq E K) (argF 0 [.int .i64 n0]) H = compassref06_Wrong.run_t  n0  E H K := fun G => by kernel_rfl
  exact nodeR_imp compassref06_Wrong.nok rfl ((k1 _).mpr h)
/-! ### compass/compassref06.Join (20) -/
noncomputable def compassref06_Join.A : An := { live := [(0, [0, 1, 2]), (1, [1, 2, 3, 6]), (2, [3, 6]), (3, [1, 2, 3, 6]), (4, [1, 2, 3, 6, 9]), (5, [3, 6]), (6, [1, 2, 3, 6]), (7, [1, 2, 3, 6, 10]), (8, [1, 2, 3, 6, 10]), (9, [3, 6])], ord := [(4, [0, 1, 2, 3, 4, 5, 6, 7, 8])], stb := [], pre := [(4, [[], [], [0, 1], [0, 1, 2], [], [], [4, 5], [4, 5, 6], [0, 1, 2, 3, 4, 5, 6, 7]])] }
noncomputable def compassref06_Join.code : Code := bodyOf Go.Proofs.Try.f20
theorem compassref06_Join.ok : okCode compassref06_Join.A 59 compassref06_Join.code = true := by kernel_rfl
def compassref06_Join.rq (E : Value → Hp → Prop) (K : Int → (Option Addr) → Nat → Nat → Bool → Int → Hp → Prop) : Ex → Fr → Hp → Prop := retQ T0 [.cell 6 45, .tmp 7, .tmp 8] [45, 4, 3] (fun r H => ldR (.tup [(true, [.i .i64, .sl]), (false, [.bool]), (false, [.i .i64])]) r fun u => K (asI (cellV (tupV u 0) 0)) (asS1 (cellV (tupV u 0) 1)) (asS2 (cellV (tupV u 0) 1)) (asS3 (cellV (tupV u 0) 1)) (asB (tupV u 1)) (asI (tupV u 2)) H) E
def compassref06_Join.run (s0_N : Int) (s0_Joinsp : Option Addr) (s0_Joinsn : Nat) (s0_Joinsc : Nat) (u1 : Int) (v2 : Int) (E : Value → Hp → Prop) (H : Hp) (K : Int → (Option Addr) → Nat → Nat → Bool → Int → Hp → Prop) : Prop := nodeM P0 T0 compassref06_Join.A compassref06_Join.code [] [] (compassref06_Join.rq E K) (argF 0 [.agg ⟨[.int .i64 s0_N, .slice s0_Joinsp s0_Joinsn s0_Joinsc]⟩, .int .i64 u1, .int .i64 v2]) H
theorem compassref06_Join.of {s0_N : Int} {s0_Joinsp : Option Addr} {s0_Joinsn : Nat} {s0_Joinsc : Nat} {u1 : Int} {v2 : Int} {E : Value → Hp → Prop} {H : Hp} {K : Int → (Option Addr) → Nat → Nat → Bool → Int → Hp → Prop} (h : compassref06_Join.run s0_N s0_Joinsp s0_Joinsn s0_Joinsc u1 v2 E H K) : compassref06_Join.call s0_N s0_Joinsp s0_Joinsn s0_Joinsc u1 v2 E H K :=
  callW_of T0_ok P0_mixed (A := compassref06_Join.A) (fn := Go.Proofs.Try.f20) Go.Proofs.Try.func20 rfl compassref06_Join.ok rfl h
def compassref06_Join.j1 (s3 : Nat) (t6 : Nat)  (E : Value → Hp → Prop) (H : Hp) (K : Int → (Option Addr) → Nat → Nat → Bool → Int → Hp → Prop) : Prop := nodeM P0 T0 compassref06_Join.A compassref06_Join.code [1, 0, 1, 0] [] (compassref06_Join.rq E K) [(3, .pointer (some ⟨s3, 0, none⟩)), (6, .pointer (some ⟨t6, 0, none⟩))] H
theorem compassref06_Join.nok : nodesOk compassref06_Join.code [[0, 1, 0, 1]] = true := by kernel_rfl
def compassref06_Join.run_t (j1 : Nat → Nat → Hp → Prop) (s0_N : Int) (s0_Joinsp : Option Addr) (s0_Joinsn : Nat) (s0_Joinsc : Nat) (u1 : Int) (v2 : Int)  (E : Value → Hp → Prop) (H : Hp) (K : Int → (Option Addr) → Nat → Nat → Bool → Int → Hp → Prop) : Prop :=
  nw H ⟨[.int .i64 s0_N, .slice s0_Joinsp s0_Joinsn s0_Joinsc], 45⟩ fun b_1 H_1 =>
  nw H_1 ⟨[.int .i64 0, .slice none 0 0], 45⟩ fun b_2 H_2 =>
  bcase (decide ((u1 : Int) < 0)) (
  j1 b_1 b_2 H_2)
  (bcase (decide ((v2 : Int) < 0)) (
  j1 b_1 b_2 H_2)
  (ldI .i64 (H_2.get b_1 0) fun x_1 =>
  bcase (decide ((x_1 : Int) ≤ u1)) (
  j1 b_1 b_2 H_2)
  (ldI .i64 (H_2.get b_1 0) fun x_2 =>
  bcase (decide ((x_2 : Int) ≤ v2)) (
  j1 b_1 b_2 H_2)
  (ldI .i64 (H_2.get b_1 0) fun x_3 =>
  ldS (H_2.get b_1 1) fun x_4p x_4n x_4c =>
  compassref06_Names.call x_3 x_4p x_4n x_4c E H_2 fun r_1p r_1n r_1c H_3 =>
  ix r_1p r_1n u1 1 fun b_3 o_1 =>
  ldI .i64 (H_3.get b_3 o_1) fun x_5 =>
  ix r_1p r_1n v2 1 fun b_4 o_2 =>
  ldI .i64 (H_3.get b_4 o_2) fun x_6 =>
  bcase (decide ((x_5 : Int) = x_6)) (
  ldI .i64 (H_3.get b_1 0) fun x_7 =>
  ldS (H_3.get b_1 1) fun x_8p x_8n x_8c =>
  stC H_3 b_2 0 [.int .i64 x_7, .slice x_8p x_8n x_8c] fun H_4 =>
  ldI .i64 (H_4.get b_2 0) fun x_9 =>
  ldS (H_4.get b_2 1) fun x_10p x_10n x_10c =>
  K x_9 x_10p x_10n x_10c false 0 H_4)
  (ldS (H_3.get b_1 1) fun x_11p x_11n x_11c =>
  mkS 0 (IntKind.wrap .i64 ((x_11n : Int) + 1)) 67 [.i .i64, .i .i64] 16 H_3 fun b_5 H_5 =>
  ldS (H_5.get b_1 1) fun x_12p x_12n x_12c =>
  appM 67 [.i .i64, .i .i64] 16 (some ⟨b_5, 0, none⟩) 0 ((IntKind.wrap .i64 ((x_11n : Int) + 1)).toNat) x_12p x_12n H_5 fun a_1p a_1n a_1c H_6 =>
  nw H_6 ⟨[.int .i64 u1, .int .i64 v2], 67⟩ fun b_6 H_7 =>
  appM 67 [.i .i64, .i .i64] 16 a_1p a_1n a_1c (some ⟨b_6, 0, none⟩) 1 H_7 fun a_2p a_2n a_2c H_8 =>
  stC H_8 b_1 1 [.slice a_2p a_2n a_2c] fun H_9 =>
  ldI .i64 (H_9.get b_1 0) fun x_13 =>
  ldS (H_9.get b_1 1) fun x_14p x_14n x_14c =>
  stC H_9 b_2 0 [.int .i64 x_13, .slice x_14p x_14n x_14c] fun H_10 =>
  ldI .i64 (H_10.get b_2 0) fun x_15 =>
  ldS (H_10.get b_2 1) fun x_16p x_16n x_16c =>
  K x_15 x_16p x_16n x_16c true 0 H_10)))))
theorem compassref06_Join.run_eq {s0_N : Int} {s0_Joinsp : Option Addr} {s0_Joinsn : Nat} {s0_Joinsc : Nat} {u1 : Int} {v2 : Int} { E : Value → Hp → Prop} {H : Hp} {K : Int → (Option Addr) → Nat → Nat → Bool → Int → Hp → Prop} (h : compassref06_Join.run_t (fun s3 t6 H => compassref06_Join.j1 s3 t6  E H K) s0_N s0_Joinsp s0_Joinsn s0_Joinsc u1 v2  E H K) : compassref06_Join.run s0_N s0_Joinsp s0_Joinsn s0_Joinsc u1 v2  E H K := by
  have k1 : ∀ G : List Nat → Fr → Hp → Prop, nodeR P0 T0 compassref06_Join.A [[0, 1, 0, 1]] G compassref06_Join.code [] [] (compassref06_Join.rq E K) (argF 0 [.agg ⟨[.int .i64 s0_N, .slice s0_Joinsp s0_Joinsn s0_Joinsc]⟩, .int .i64 u1, .int .i64 v2]) H = compassref06_Join.run_t (fun s3 t6 H => G [0, 1, 0, 1] [(3, .pointer (some ⟨s3, 0, none⟩)), (6, .pointer (some ⟨t6, 0, none⟩))] H) s0_N s0_Joinsp s0_Joinsn s0_Joinsc u1 v2  E H K := fun G => by kernel_rfl
  have k2 : compassref06_Join.run_t (fun s3 t6 H => compassref06_Join.j1 s3 t6  E H K) s0_N s0_Joinsp s0_Joinsn s0_Joinsc u1 v2  E H K = compassref06_Join.run_t (fun s3 t6 H => (fun q F H => nodeM P0 T0 compassref06_Join.A compassref06_Join.code q.reverse [] (compassref06_Join.rq E K) F H) [0, 1, 0, 1] [(3, .pointer (some ⟨s3, 0, none⟩)), (6, .pointer (some ⟨t6, 0, none⟩))] H) s0_N s0_Joinsp s0_Joinsn s0_Joinsc u1 v2  E H K := by kernel_rfl
  exact nodeR_imp compassref06_Join.nok rfl ((k1 _).mpr (k2.mp h))
def compassref06_Join.j1_t  (s3 : Nat) (t6 : Nat)  (E : Value → Hp → Prop) (H : Hp) (K : Int → (Option Addr) → Nat → Nat → Bool → Int → Hp → Prop) : Prop :=
  ldI .i64 (H.get s3 0) fun x_1 =>
  ldS (H.get s3 1) fun x_2p x_2n x_2c =>
  stC H t6 0 [.int .i64 x_1, .slice x_2p x_2n x_2c] fun H_1 =>
  ldI .i64 (H_1.get t6 0) fun x_3 =>
  ldS (H_1.get t6 1) fun x_4p x_4n x_4c =>
  K x_3 x_4p x_4n x_4c false 30 H_1
theorem compassref06_Join.j1_eq {s3 : Nat} {t6 : Nat} { E : Value → Hp → Prop} {H : Hp} {K : Int → (Option Addr) → Nat → Nat → Bool → Int → Hp → Prop} (h : compassref06_Join.j1_t  s3 t6  E H K) : compassref06_Join.j1 s3 t6  E H K := by
  have k1 : ∀ G : List Nat → Fr → Hp → Prop, nodeR P0 T0 compassref06_Join.A [[0, 1, 0, 1]] G compassref06_Join.code [1, 0, 1, 0] [] (compassref06_Join.rq E K) [(3, .pointer (some ⟨s3, 0, none⟩)), (6, .pointer (some ⟨t6, 0, none⟩))] H = compassref06_Join.j1_t  s3 t6  E H K := fun G => by kernel_rfl
  exact nodeR_imp compassref06_Join.nok rfl ((k1 _).mpr h)
/-! ### compass/compassref06.Find (21) -/
noncomputable def compassref06_Find.A : An := { live := [(0, [0, 1]), (1, [1, 2]), (2, []), (3, [1, 2])], ord := [], stb := [], pre := [] }
noncomputable def compassref06_Find.code : Code := bodyOf Go.Proofs.Try.f21
theorem compassref06_Find.ok : okCode compassref06_Find.A 19 compassref06_Find.code = true := by kernel_rfl
def compassref06_Find.rq (E : Value → Hp → Prop) (K : Int → Int → Hp → Prop) : Ex → Fr → Hp → Prop := retQ T0 [.tmp 4, .tmp 5] [3, 3] (fun r H => ldR (.tup [(false, [.i .i64]), (false, [.i .i64])]) r fun u => K (asI (tupV u 0)) (asI (tupV u 1)) H) E
def compassref06_Find.run (s0_N : Int) (s0_Joinsp : Option Addr) (s0_Joinsn : Nat) (s0_Joinsc : Nat) (v1 : Int) (E : Value → Hp → Prop) (H : Hp) (K : Int → Int → Hp → Prop) : Prop := nodeM P0 T0 compassref06_Find.A compassref06_Find.code [] [] (compassref06_Find.rq E K) (argF 0 [.agg ⟨[.int .i64 s0_N, .slice s0_Joinsp s0_Joinsn s0_Joinsc]⟩, .int .i64 v1]) H
theorem compassref06_Find.of {s0_N : Int} {s0_Joinsp : Option Addr} {s0_Joinsn : Nat} {s0_Joinsc : Nat} {v1 : Int} {E : Value → Hp → Prop} {H : Hp} {K : Int → Int → Hp → Prop} (h : compassref06_Find.run s0_N s0_Joinsp s0_Joinsn s0_Joinsc v1 E H K) : compassref06_Find.call s0_N s0_Joinsp s0_Joinsn s0_Joinsc v1 E H K :=
  callW_of T0_ok P0_mixed (A := compassref06_Find.A) (fn := Go.Proofs.Try.f21) Go.Proofs.Try.func21 rfl compassref06_Find.ok rfl h
theorem compassref06_Find.nok : nodesOk compassref06_Find.code [] = true := by kernel_rfl
def compassref06_Find.run_t  (s0_N : Int) (s0_Joinsp : Option Addr) (s0_Joinsn : Nat) (s0_Joinsc : Nat) (v1 : Int)  (E : Value → Hp → Prop) (H : Hp) (K : Int → Int → Hp → Prop) : Prop :=
  nw H ⟨[.int .i64 s0_N, .slice s0_Joinsp s0_Joinsn s0_Joinsc], 45⟩ fun b_1 H_1 =>
  bcase (decide ((v1 : Int) < 0)) (
  K 0 30 H_1)
  (ldI .i64 (H_1.get b_1 0) fun x_1 =>
  bcase (decide ((x_1 : Int) ≤ v1)) (
  K 0 30 H_1)
  (ldI .i64 (H_1.get b_1 0) fun x_2 =>
  ldS (H_1.get b_1 1) fun x_3p x_3n x_3c =>
  compassref06_Names.call x_2 x_3p x_3n x_3c E H_1 fun r_1p r_1n r_1c H_2 =>
  ix r_1p r_1n v1 1 fun b_2 o_1 =>
  ldI .i64 (H_2.get b_2 o_1) fun x_4 =>
  K x_4 0 H_2))
theorem compassref06_Find.run_eq {s0_N : Int} {s0_Joinsp : Option Addr} {s0_Joinsn : Nat} {s0_Joinsc : Nat} {v1 : Int} { E : Value → Hp → Prop} {H : Hp} {K : Int → Int → Hp → Prop} (h : compassref06_Find.run_t  s0_N s0_Joinsp s0_Joinsn s0_Joinsc v1  E H K) : compassref06_Find.run s0_N s0_Joinsp s0_Joinsn s0_Joinsc v1  E H K := by
  have k1 : ∀ G : List Nat → Fr → Hp → Prop, nodeR P0 T0 compassref06_Find.A [] G compassref06_Find.code [] [] (compassref06_Find.rq E K) (argF 0 [.agg ⟨[.int .i64 s0_N, .slice s0_Joinsp s0_Joinsn s0_Joinsc]⟩, .int .i64 v1]) H = compassref06_Find.run_t  s0_N s0_Joinsp s0_Joinsn s0_Joinsc v1  E H K := fun G => by kernel_rfl
  exact nodeR_imp compassref06_Find.nok rfl ((k1 _).mpr h)
/-! ### compass/compassref06.Undo (22) -/
noncomputable def compassref06_Undo.A : An := { live := [(0, [0]), (1, [1, 2]), (2, [1, 2]), (3, [1, 2]), (4, [1, 2])], ord := [], stb := [], pre := [] }
noncomputable def compassref06_Undo.code : Code := bodyOf Go.Proofs.Try.f22
theorem compassref06_Undo.ok : okCode compassref06_Undo.A 18 compassref06_Undo.code = true := by kernel_rfl
def compassref06_Undo.rq (E : Value → Hp → Prop) (K : Int → (Option Addr) → Nat → Nat → Int → Hp → Prop) : Ex → Fr → Hp → Prop := retQ T0 [.cell 2 45, .tmp 3] [45, 3] (fun r H => ldR (.tup [(true, [.i .i64, .sl]), (false, [.i .i64])]) r fun u => K (asI (cellV (tupV u 0) 0)) (asS1 (cellV (tupV u 0) 1)) (asS2 (cellV (tupV u 0) 1)) (asS3 (cellV (tupV u 0) 1)) (asI (tupV u 1)) H) E
def compassref06_Undo.run (s0_N : Int) (s0_Joinsp : Option Addr) (s0_Joinsn : Nat) (s0_Joinsc : Nat) (E : Value → Hp → Prop) (H : Hp) (K : Int → (Option Addr) → Nat → Nat → Int → Hp → Prop) : Prop := nodeM P0 T0 compassref06_Undo.A compassref06_Undo.code [] [] (compassref06_Undo.rq E K) (argF 0 [.agg ⟨[.int .i64 s0_N, .slice s0_Joinsp s0_Joinsn s0_Joinsc]⟩]) H
theorem compassref06_Undo.of {s0_N : Int} {s0_Joinsp : Option Addr} {s0_Joinsn : Nat} {s0_Joinsc : Nat} {E : Value → Hp → Prop} {H : Hp} {K : Int → (Option Addr) → Nat → Nat → Int → Hp → Prop} (h : compassref06_Undo.run s0_N s0_Joinsp s0_Joinsn s0_Joinsc E H K) : compassref06_Undo.call s0_N s0_Joinsp s0_Joinsn s0_Joinsc E H K :=
  callW_of T0_ok P0_mixed (A := compassref06_Undo.A) (fn := Go.Proofs.Try.f22) Go.Proofs.Try.func22 rfl compassref06_Undo.ok rfl h
theorem compassref06_Undo.nok : nodesOk compassref06_Undo.code [] = true := by kernel_rfl
def compassref06_Undo.run_t  (s0_N : Int) (s0_Joinsp : Option Addr) (s0_Joinsn : Nat) (s0_Joinsc : Nat)  (E : Value → Hp → Prop) (H : Hp) (K : Int → (Option Addr) → Nat → Nat → Int → Hp → Prop) : Prop :=
  nw H ⟨[.int .i64 s0_N, .slice s0_Joinsp s0_Joinsn s0_Joinsc], 45⟩ fun b_1 H_1 =>
  nw H_1 ⟨[.int .i64 0, .slice none 0 0], 45⟩ fun b_2 H_2 =>
  ldS (H_2.get b_1 1) fun x_1p x_1n x_1c =>
  bcase (decide (((x_1n : Int) : Int) = 0)) (
  ldI .i64 (H_2.get b_1 0) fun x_2 =>
  ldS (H_2.get b_1 1) fun x_3p x_3n x_3c =>
  stC H_2 b_2 0 [.int .i64 x_2, .slice x_3p x_3n x_3c] fun H_3 =>
  ldI .i64 (H_3.get b_2 0) fun x_4 =>
  ldS (H_3.get b_2 1) fun x_5p x_5n x_5c =>
  K x_4 x_5p x_5n x_5c 4 H_3)
  (ldS (H_2.get b_1 1) fun x_6p x_6n x_6c =>
  ldS (H_2.get b_1 1) fun x_7p x_7n x_7c =>
  (0 ≤ (IntKind.wrap .i64 ((x_7n : Int) - 1)) ∧ (IntKind.wrap .i64 ((x_7n : Int) - 1)) ≤ (x_6c : Int)) ∧
  stC H_2 b_1 1 [.slice (slp x_6p 0 x_6c 2) ((IntKind.wrap .i64 ((x_7n : Int) - 1)).toNat) x_6c] fun H_4 =>
  ldI .i64 (H_4.get b_1 0) fun x_8 =>
  ldS (H_4.get b_1 1) fun x_9p x_9n x_9c =>
  stC H_4 b_2 0 [.int .i64 x_8, .slice x_9p x_9n x_9c] fun H_5 =>
  ldI .i64 (H_5.get b_2 0) fun x_10 =>
  ldS (H_5.get b_2 1) fun x_11p x_11n x_11c =>
  K x_10 x_11p x_11n x_11c 0 H_5)
theorem compassref06_Undo.run_eq {s0_N : Int} {s0_Joinsp : Option Addr} {s0_Joinsn : Nat} {s0_Joinsc : Nat} { E : Value → Hp → Prop} {H : Hp} {K : Int → (Option Addr) → Nat → Nat → Int → Hp → Prop} (h : compassref06_Undo.run_t  s0_N s0_Joinsp s0_Joinsn s0_Joinsc  E H K) : compassref06_Undo.run s0_N s0_Joinsp s0_Joinsn s0_Joinsc  E H K := by
  have k1 : ∀ G : List Nat → Fr → Hp → Prop, nodeR P0 T0 compassref06_Undo.A [] G compassref06_Undo.code [] [] (compassref06_Undo.rq E K) (argF 0 [.agg ⟨[.int .i64 s0_N, .slice s0_Joinsp s0_Joinsn s0_Joinsc]⟩]) H = compassref06_Undo.run_t  s0_N s0_Joinsp s0_Joinsn s0_Joinsc  E H K := fun G => by kernel_rfl
  exact nodeR_imp compassref06_Undo.nok rfl ((k1 _).mpr h)
/-! ### compass/compassref06.Members (23) -/
noncomputable def compassref06_Members.A : An := { live := [(0, [0, 1]), (1, [1, 2]), (2, []), (3, [1, 2]), (4, [1, 2, 6]), (5, [1, 2, 6, 7]), (6, [1, 2, 6, 7, 8]), (7, [1, 2, 6, 7, 8]), (8, [1, 2, 6, 7, 8]), (9, [1, 2, 6, 7, 8]), (10, [7])], ord := [(8, [0, 1, 2, 3, 4, 5, 6, 7, 8])], stb := [], pre := [(8, [[], [], [0, 1], [0, 1, 2], [], [], [4, 5], [4, 5, 6], [0, 1, 2, 3, 4, 5, 6, 7]])] }
noncomputable def compassref06_Members.code : Code := bodyOf Go.Proofs.Try.f23
theorem compassref06_Members.ok : okCode compassref06_Members.A 39 compassref06_Members.code = true := by kernel_rfl
def compassref06_Members.rq (E : Value → Hp → Prop) (K : (Option Addr) → Nat → Nat → Int → Hp → Prop) : Ex → Fr → Hp → Prop := retQ T0 [.tmp 4, .tmp 5] [28, 3] (fun r H => ldR (.tup [(false, [.sl]), (false, [.i .i64])]) r fun u => K (asS1 (tupV u 0)) (asS2 (tupV u 0)) (asS3 (tupV u 0)) (asI (tupV u 1)) H) E
def compassref06_Members.run (s0_N : Int) (s0_Joinsp : Option Addr) (s0_Joinsn : Nat) (s0_Joinsc : Nat) (v1 : Int) (E : Value → Hp → Prop) (H : Hp) (K : (Option Addr) → Nat → Nat → Int → Hp → Prop) : Prop := nodeM P0 T0 compassref06_Members.A compassref06_Members.code [] [] (compassref06_Members.rq E K) (argF 0 [.agg ⟨[.int .i64 s0_N, .slice s0_Joinsp s0_Joinsn s0_Joinsc]⟩, .int .i64 v1]) H
theorem compassref06_Members.of {s0_N : Int} {s0_Joinsp : Option Addr} {s0_Joinsn : Nat} {s0_Joinsc : Nat} {v1 : Int} {E : Value → Hp → Prop} {H : Hp} {K : (Option Addr) → Nat → Nat → Int → Hp → Prop} (h : compassref06_Members.run s0_N s0_Joinsp s0_Joinsn s0_Joinsc v1 E H K) : compassref06_Members.call s0_N s0_Joinsp s0_Joinsn s0_Joinsc v1 E H K :=
  callW_of T0_ok P0_mixed (A := compassref06_Members.A) (fn := Go.Proofs.Try.f23) Go.Proofs.Try.func23 rfl compassref06_Members.ok rfl h
noncomputable def compassref06_Members.f1 (v1 : Int) (s2 : Nat) (name6p : Option Addr) (name6n : Nat) (name6c : Nat) (out7p : Option Addr) (out7n : Nat) (out7c : Nat) (u8 : Int) : Fr := [(1, .int .i64 v1), (2, .pointer (some ⟨s2, 0, none⟩)), (6, .slice name6p name6n name6c), (7, .slice out7p out7n out7c), (8, .int .i64 u8)]
def compassref06_Members.j1 (v1 : Int) (s2 : Nat) (name6p : Option Addr) (name6n : Nat) (name6c : Nat) (out7p : Option Addr) (out7n : Nat) (out7c : Nat) (u8 : Int) (X1 : Fr → Hp → Prop) (E : Value → Hp → Prop) (H : Hp) (K : (Option Addr) → Nat → Nat → Int → Hp → Prop) : Prop := nodeM P0 T0 compassref06_Members.A compassref06_Members.code [1, 1, 1, 1, 0, 1, 0, 0, 1, 1] [X1] (compassref06_Members.rq E K) [(1, .int .i64 v1), (2, .pointer (some ⟨s2, 0, none⟩)), (6, .slice name6p name6n name6c), (7, .slice out7p out7n out7c), (8, .int .i64 u8)] H
def compassref06_Members.l1 (v1 : Int) (s2 : Nat) (name6p : Option Addr) (name6n : Nat) (name6c : Nat) (out7p : Option Addr) (out7n : Nat) (out7c : Nat) (u8 : Int)  (E : Value → Hp → Prop) (H : Hp) (K : (Option Addr) → Nat → Nat → Int → Hp → Prop) : Prop := nodeM P0 T0 compassref06_Members.A compassref06_Members.code [1, 1, 1, 1, 0, 1, 0] [] (compassref06_Members.rq E K) (compassref06_Members.f1 v1 s2 name6p name6n name6c out7p out7n out7c u8) H
def compassref06_Members.b1 (v1 : Int) (s2 : Nat) (name6p : Option Addr) (name6n : Nat) (name6c : Nat) (out7p : Option Addr) (out7n : Nat) (out7c : Nat) (u8 : Int)  (X1 : Fr → Hp → Prop) (E : Value → Hp → Prop) (H : Hp) (K : (Option Addr) → Nat → Nat → Int → Hp → Prop) : Prop := nodeM P0 T0 compassref06_Members.A compassref06_Members.code [1, 1, 1, 1, 0, 1, 0, 0] [X1] (compassref06_Members.rq E K) (compassref06_Members.f1 v1 s2 name6p name6n name6c out7p out7n out7c u8) H
theorem compassref06_Members.l1_rule { E : Value → Hp → Prop} {K : (Option Addr) → Nat → Nat → Int → Hp → Prop} (I : Int → Nat → (Option Addr) → Nat → Nat → (Option Addr) → Nat → Nat → Int → Hp → Prop) (μ : Int → Nat → (Option Addr) → Nat → Nat → (Option Addr) → Nat → Nat → Int → Hp → Nat)
    (h : ∀ v1 s2 name6p name6n name6c out7p out7n out7c u8 H, I v1 s2 name6p name6n name6c out7p out7n out7c u8 H → ∀ X : Fr → Hp → Prop, (∀ v1' s2' name6p' name6n' name6c' out7p' out7n' out7c' u8' H', I v1' s2' name6p' name6n' name6c' out7p' out7n' out7c' u8' H' → μ v1' s2' name6p' name6n' name6c' out7p' out7n' out7c' u8' H' < μ v1 s2 name6p name6n name6c out7p out7n out7c u8 H → X (compassref06_Members.f1 v1' s2' name6p' name6n' name6c' out7p' out7n' out7c' u8') H') → compassref06_Members.b1 v1 s2 name6p name6n name6c out7p out7n out7c u8  X E H K)
    {v1 : Int} {s2 : Nat} {name6p : Option Addr} {name6n : Nat} {name6c : Nat} {out7p : Option Addr} {out7n : Nat} {out7c : Nat} {u8 : Int} {H : Hp} (hI : I v1 s2 name6p name6n name6c out7p out7n out7c u8 H) : compassref06_Members.l1 v1 s2 name6p name6n name6c out7p out7n out7c u8  E H K :=
  loop_rule (S := Int × Nat × (Option Addr) × Nat × Nat × (Option Addr) × Nat × Nat × Int) (fun s => compassref06_Members.f1 (s.1) (s.2.1) (s.2.2.1) (s.2.2.2.1) (s.2.2.2.2.1) (s.2.2.2.2.2.1) (s.2.2.2.2.2.2.1) (s.2.2.2.2.2.2.2.1) (s.2.2.2.2.2.2.2.2)) (fun s H => I (s.1) (s.2.1) (s.2.2.1) (s.2.2.2.1) (s.2.2.2.2.1) (s.2.2.2.2.2.1) (s.2.2.2.2.2.2.1) (s.2.2.2.2.2.2.2.1) (s.2.2.2.2.2.2.2.2) H) (fun s H => μ (s.1) (s.2.1) (s.2.2.1) (s.2.2.2.1) (s.2.2.2.2.1) (s.2.2.2.2.2.1) (s.2.2.2.2.2.2.1) (s.2.2.2.2.2.2.2.1) (s.2.2.2.2.2.2.2.2) H) (fun s H hI X hX => h (s.1) (s.2.1) (s.2.2.1) (s.2.2.2.1) (s.2.2.2.2.1) (s.2.2.2.2.2.1) (s.2.2.2.2.2.2.1) (s.2.2.2.2.2.2.2.1) (s.2.2.2.2.2.2.2.2) H hI X fun v1' s2' name6p' name6n' name6c' out7p' out7n' out7c' u8' H' hI' hlt => hX (v1', s2', name6p', name6n', name6c', out7p', out7n', out7c', u8') H' hI' hlt) (s := (v1, s2, name6p, name6n, name6c, out7p, out7n, out7c, u8)) rfl hI
theorem compassref06_Members.nok : nodesOk compassref06_Members.code [[0, 1, 0, 1, 1, 1, 1], [1, 1, 0, 0, 1, 0, 1, 1, 1, 1]] = true := by kernel_rfl
def compassref06_Members.run_t (l1 : Int → Nat → (Option Addr) → Nat → Nat → (Option Addr) → Nat → Nat → Int → Hp → Prop) (s0_N : Int) (s0_Joinsp : Option Addr) (s0_Joinsn : Nat) (s0_Joinsc : Nat) (v1 : Int)  (E : Value → Hp → Prop) (H : Hp) (K : (Option Addr) → Nat → Nat → Int → Hp → Prop) : Prop :=
  nw H ⟨[.int .i64 s0_N, .slice s0_Joinsp s0_Joinsn s0_Joinsc], 45⟩ fun b_1 H_1 =>
  bcase (decide ((v1 : Int) < 0)) (
  K none 0 0 30 H_1)
  (ldI .i64 (H_1.get b_1 0) fun x_1 =>
  bcase (decide ((x_1 : Int) ≤ v1)) (
  K none 0 0 30 H_1)
  (ldI .i64 (H_1.get b_1 0) fun x_2 =>
  ldS (H_1.get b_1 1) fun x_3p x_3n x_3c =>
  compassref06_Names.call x_2 x_3p x_3n x_3c E H_1 fun r_1p r_1n r_1c H_2 =>
  l1 v1 b_1 r_1p r_1n r_1c none 0 0 0 H_2))
theorem compassref06_Members.run_eq {s0_N : Int} {s0_Joinsp : Option Addr} {s0_Joinsn : Nat} {s0_Joinsc : Nat} {v1 : Int} { E : Value → Hp → Prop} {H : Hp} {K : (Option Addr) → Nat → Nat → Int → Hp → Prop} (h : compassref06_Members.run_t (fun v1 s2 name6p name6n name6c out7p out7n out7c u8 H => compassref06_Members.l1 v1 s2 name6p name6n name6c out7p out7n out7c u8  E H K) s0_N s0_Joinsp s0_Joinsn s0_Joinsc v1  E H K) : compassref06_Members.run s0_N s0_Joinsp s0_Joinsn s0_Joinsc v1  E H K := by
  have k1 : ∀ G : List Nat → Fr → Hp → Prop, nodeR P0 T0 compassref06_Members.A [[0, 1, 0, 1, 1, 1, 1], [1, 1, 0, 0, 1, 0, 1, 1, 1, 1]] G compassref06_Members.code [] [] (compassref06_Members.rq E K) (argF 0 [.agg ⟨[.int .i64 s0_N, .slice s0_Joinsp s0_Joinsn s0_Joinsc]⟩, .int .i64 v1]) H = compassref06_Members.run_t (fun v1 s2 name6p name6n name6c out7p out7n out7c u8 H => G [0, 1, 0, 1, 1, 1, 1] [(1, .int .i64 v1), (2, .pointer (some ⟨s2, 0, none⟩)), (6, .slice name6p name6n name6c), (7, .slice out7p out7n out7c), (8, .int .i64 u8)] H) s0_N s0_Joinsp s0_Joinsn s0_Joinsc v1  E H K := fun G => by kernel_rfl
  have k2 : compassref06_Members.run_t (fun v1 s2 name6p name6n name6c out7p out7n out7c u8 H => compassref06_Members.l1 v1 s2 name6p name6n name6c out7p out7n out7c u8  E H K) s0_N s0_Joinsp s0_Joinsn s0_Joinsc v1  E H K = compassref06_Members.run_t (fun v1 s2 name6p name6n name6c out7p out7n out7c u8 H => (fun q F H => nodeM P0 T0 compassref06_Members.A compassref06_Members.code q.reverse [] (compassref06_Members.rq E K) F H) [0, 1, 0, 1, 1, 1, 1] [(1, .int .i64 v1), (2, .pointer (some ⟨s2, 0, none⟩)), (6, .slice name6p name6n name6c), (7, .slice out7p out7n out7c), (8, .int .i64 u8)] H) s0_N s0_Joinsp s0_Joinsn s0_Joinsc v1  E H K := by kernel_rfl
  exact nodeR_imp compassref06_Members.nok rfl ((k1 _).mpr (k2.mp h))
def compassref06_Members.j1_t  (v1 : Int) (s2 : Nat) (name6p : Option Addr) (name6n : Nat) (name6c : Nat) (out7p : Option Addr) (out7n : Nat) (out7c : Nat) (u8 : Int) (X1 : Fr → Hp → Prop) (E : Value → Hp → Prop) (H : Hp) (K : (Option Addr) → Nat → Nat → Int → Hp → Prop) : Prop :=
  X1 (compassref06_Members.f1 v1 s2 name6p name6n name6c out7p out7n out7c (IntKind.wrap .i64 (u8 + 1))) H
theorem compassref06_Members.j1_eq {v1 : Int} {s2 : Nat} {name6p : Option Addr} {name6n : Nat} {name6c : Nat} {out7p : Option Addr} {out7n : Nat} {out7c : Nat} {u8 : Int} {X1 : Fr → Hp → Prop} { E : Value → Hp → Prop} {H : Hp} {K : (Option Addr) → Nat → Nat → Int → Hp → Prop} (h : compassref06_Members.j1_t  v1 s2 name6p name6n name6c out7p out7n out7c u8 X1 E H K) : compassref06_Members.j1 v1 s2 name6p name6n name6c out7p out7n out7c u8 X1 E H K := by
  have k1 : ∀ G : List Nat → Fr → Hp → Prop, nodeR P0 T0 compassref06_Members.A [[0, 1, 0, 1, 1, 1, 1], [1, 1, 0, 0, 1, 0, 1, 1, 1, 1]] G compassref06_Members.code [1, 1, 1, 1, 0, 1, 0, 0, 1, 1] [X1] (compassref06_Members.rq E K) [(1, .int .i64 v1), (2, .pointer (some ⟨s2, 0, none⟩)), (6, .slice name6p name6n name6c), (7, .slice out7p out7n out7c), (8, .int .i64 u8)] H = compassref06_Members.j1_t  v1 s2 name6p name6n name6c out7p out7n out7c u8 X1 E H K := fun G => by kernel_rfl
  exact nodeR_imp compassref06_Members.nok rfl ((k1 _).mpr h)
def compassref06_Members.b1_t (j1 : Int → Nat → (Option Addr) → Nat → Nat → (Option Addr) → Nat → Nat → Int → Hp → Prop) (v1 : Int) (s2 : Nat) (name6p : Option Addr) (name6n : Nat) (name6c : Nat) (out7p : Option Addr) (out7n : Nat) (out7c : Nat) (u8 : Int) (X1 : Fr → Hp → Prop) (E : Value → Hp → Prop) (H : Hp) (K : (Option Addr) → Nat → Nat → Int → Hp → Prop) : Prop :=
  ldI .i64 (H.get s2 0) fun x_1 =>
  bcase (decide ((u8 : Int) < x_1)) (
  ix name6p name6n u8 1 fun b_1 o_1 =>
  ldI .i64 (H.get b_1 o_1) fun x_2 =>
  ix name6p name6n v1 1 fun b_2 o_2 =>
  ldI .i64 (H.get b_2 o_2) fun x_3 =>
  bcase (decide ((x_2 : Int) = x_3)) (
  nw H ⟨[.int .i64 u8], 3⟩ fun b_3 H_1 =>
  appM 3 [.i .i64] 8 out7p out7n out7c (some ⟨b_3, 0, none⟩) 1 H_1 fun a_1p a_1n a_1c H_2 =>
  j1 v1 s2 name6p name6n name6c a_1p a_1n a_1c u8 H_2)
  (j1 v1 s2 name6p name6n name6c out7p out7n out7c u8 H))
  (K out7p out7n out7c 0 H)
theorem compassref06_Members.b1_eq {v1 : Int} {s2 : Nat} {name6p : Option Addr} {name6n : Nat} {name6c : Nat} {out7p : Option Addr} {out7n : Nat} {out7c : Nat} {u8 : Int} {X1 : Fr → Hp → Prop} { E : Value → Hp → Prop} {H : Hp} {K : (Option Addr) → Nat → Nat → Int → Hp → Prop} (h : compassref06_Members.b1_t (fun v1 s2 name6p name6n name6c out7p out7n out7c u8 H => compassref06_Members.j1 v1 s2 name6p name6n name6c out7p out7n out7c u8 X1 E H K) v1 s2 name6p name6n name6c out7p out7n out7c u8 X1 E H K) : compassref06_Members.b1 v1 s2 name6p name6n name6c out7p out7n out7c u8 X1 E H K := by
  have k1 : ∀ G : List Nat → Fr → Hp → Prop, nodeR P0 T0 compassref06_Members.A [[0, 1, 0, 1, 1, 1, 1], [1, 1, 0, 0, 1, 0, 1, 1, 1, 1]] G compassref06_Members.code [1, 1, 1, 1, 0, 1, 0, 0] [X1] (compassref06_Members.rq E K) (compassref06_Members.f1 v1 s2 name6p name6n name6c out7p out7n out7c u8) H = compassref06_Members.b1_t (fun v1 s2 name6p name6n name6c out7p out7n out7c u8 H => G [1, 1, 0, 0, 1, 0, 1, 1, 1, 1] [(1, .int .i64 v1), (2, .pointer (some ⟨s2, 0, none⟩)), (6, .slice name6p name6n name6c), (7, .slice out7p out7n out7c), (8, .int .i64 u8)] H) v1 s2 name6p name6n name6c out7p out7n out7c u8 X1 E H K := fun G => by kernel_rfl
  have k2 : compassref06_Members.b1_t (fun v1 s2 name6p name6n name6c out7p out7n out7c u8 H => compassref06_Members.j1 v1 s2 name6p name6n name6c out7p out7n out7c u8 X1 E H K) v1 s2 name6p name6n name6c out7p out7n out7c u8 X1 E H K = compassref06_Members.b1_t (fun v1 s2 name6p name6n name6c out7p out7n out7c u8 H => (fun q F H => nodeM P0 T0 compassref06_Members.A compassref06_Members.code q.reverse [X1] (compassref06_Members.rq E K) F H) [1, 1, 0, 0, 1, 0, 1, 1, 1, 1] [(1, .int .i64 v1), (2, .pointer (some ⟨s2, 0, none⟩)), (6, .slice name6p name6n name6c), (7, .slice out7p out7n out7c), (8, .int .i64 u8)] H) v1 s2 name6p name6n name6c out7p out7n out7c u8 X1 E H K := by kernel_rfl
  exact nodeR_imp compassref06_Members.nok rfl ((k1 _).mpr (k2.mp h))
/-! ### compass/compassref06.Names (24) -/
noncomputable def compassref06_Names.A : An := { live := [(0, [0]), (1, [1]), (2, [1, 3]), (3, [1, 3, 4]), (4, [1, 3, 4]), (5, [1, 3, 4]), (6, [1, 3]), (7, [1, 3, 5]), (8, [1, 3, 5]), (9, [1, 3, 5]), (10, [1, 3, 5, 6]), (11, [1, 3, 5, 6]), (12, [1, 3, 5, 6]), (13, [1, 3, 5, 6, 7]), (14, [1, 3, 5, 6, 7]), (15, [1, 3, 5, 6, 7]), (16, [3])], ord := [(13, [0, 1, 2, 3, 4, 5, 6, 7, 8, 9, 10]), (14, [0, 1, 2, 3, 4, 5, 6, 7, 8, 9]), (15, [0, 1, 2, 3, 4, 5, 6, 7, 8, 9])], stb := [], pre := [(13, [[], [], [1], [0, 1, 2], [0, 1, 2, 3], [], [], [6], [5, 6, 7], [5, 6, 7, 8], [0, 1, 2, 3, 4, 5, 6, 7, 8, 9]]), (14, [[], [], [1], [], [], [4], [3, 4, 5], [3, 4, 5, 6], [0, 1, 2, 3, 4, 5, 6, 7], [0, 1, 2, 3, 4, 5, 6, 7, 8]]), (15, [[], [], [1], [], [], [4], [3, 4, 5], [3, 4, 5, 6], [0, 1, 2, 3, 4, 5, 6, 7], [0, 1, 2, 3, 4, 5, 6, 7, 8]])] }
noncomputable def compassref06_Names.code : Code := bodyOf Go.Proofs.Try.f24
theorem compassref06_Names.ok : okCode compassref06_Names.A 70 compassref06_Names.code = true := by kernel_rfl
def compassref06_Names.rq (E : Value → Hp → Prop) (K : (Option Addr) → Nat → Nat → Hp → Prop) : Ex → Fr → Hp → Prop := retQ T0 [.tmp 2] [28] (fun r H => ldR (.one false [.sl]) r fun u => K (asS1 u) (asS2 u) (asS3 u) H) E
def compassref06_Names.run (s0_N : Int) (s0_Joinsp : Option Addr) (s0_Joinsn : Nat) (s0_Joinsc : Nat) (E : Value → Hp → Prop) (H : Hp) (K : (Option Addr) → Nat → Nat → Hp → Prop) : Prop := nodeM P0 T0 compassref06_Names.A compassref06_Names.code [] [] (compassref06_Names.rq E K) (argF 0 [.agg ⟨[.int .i64 s0_N, .slice s0_Joinsp s0_Joinsn s0_Joinsc]⟩]) H
theorem compassref06_Names.of {s0_N : Int} {s0_Joinsp : Option Addr} {s0_Joinsn : Nat} {s0_Joinsc : Nat} {E : Value → Hp → Prop} {H : Hp} {K : (Option Addr) → Nat → Nat → Hp → Prop} (h : compassref06_Names.run s0_N s0_Joinsp s0_Joinsn s0_Joinsc E H K) : compassref06_Names.call s0_N s0_Joinsp s0_Joinsn s0_Joinsc E H K :=
  callW_of T0_ok P0_mixed (A := compassref06_Names.A) (fn := Go.Proofs.Try.f24) Go.Proofs.Try.func24 rfl compassref06_Names.ok rfl h
noncomputable def compassref06_Names.f1 (s1 : Nat) (name3p : Option Addr) (name3n : Nat) (name3c : Nat) (v4 : Int) : Fr := [(1, .pointer (some ⟨s1, 0, none⟩)), (3, .slice name3p name3n name3c), (4, .int .i64 v4)]
noncomputable def compassref06_Names.f2 (s1 : Nat) (name3p : Option Addr) (name3n : Nat) (name3c : Nat) (round5 : Int) : Fr := [(1, .pointer (some ⟨s1, 0, none⟩)), (3, .slice name3p name3n name3c), (5, .int .i64 round5)]
noncomputable def compassref06_Names.f3 (s1 : Nat) (name3p : Option Addr) (name3n : Nat) (name3c : Nat) (round5 : Int) (i6 : Int) : Fr := [(1, .pointer (some ⟨s1, 0, none⟩)), (3, .slice name3p name3n name3c), (5, .int .i64 round5), (6, .int .i64 i6)]
def compassref06_Names.j1 (s1 : Nat) (name3p : Option Addr) (name3n : Nat) (name3c : Nat)  (E : Value → Hp → Prop) (H : Hp) (K : (Option Addr) → Nat → Nat → Hp → Prop) : Prop := nodeM P0 T0 compassref06_Names.A compassref06_Names.code [1, 1, 1] [] (compassref06_Names.rq E K) [(1, .pointer (some ⟨s1, 0, none⟩)), (3, .slice name3p name3n name3c)] H
def compassref06_Names.j2 (s1 : Nat) (name3p : Option Addr) (name3n : Nat) (name3c : Nat) (round5 : Int) (i6 : Int) (X1 : Fr → Hp → Prop) (X2 : Fr → Hp → Prop) (E : Value → Hp → Prop) (H : Hp) (K : (Option Addr) → Nat → Nat → Hp → Prop) : Prop := nodeM P0 T0 compassref06_Names.A compassref06_Names.code [1, 1, 1, 0, 1, 0, 0, 1, 0, 0, 1, 0, 0, 1, 1] [X1, X2] (compassref06_Names.rq E K) [(1, .pointer (some ⟨s1, 0, none⟩)), (3, .slice name3p name3n name3c), (5, .int .i64 round5), (6, .int .i64 i6)] H
def compassref06_Names.j3 (s1 : Nat) (name3p : Option Addr) (name3n : Nat) (name3c : Nat) (round5 : Int) (X1 : Fr → Hp → Prop) (E : Value → Hp → Prop) (H : Hp) (K : (Option Addr) → Nat → Nat → Hp → Prop) : Prop := nodeM P0 T0 compassref06_Names.A compassref06_Names.code [1, 1, 1, 0, 1, 0, 0, 1, 1] [X1] (compassref06_Names.rq E K) [(1, .pointer (some ⟨s1, 0, none⟩)), (3, .slice name3p name3n name3c), (5, .int .i64 round5)] H
def compassref06_Names.l1 (s1 : Nat) (name3p : Option Addr) (name3n : Nat) (name3c : Nat) (v4 : Int)  (E : Value → Hp → Prop) (H : Hp) (K : (Option Addr) → Nat → Nat → Hp → Prop) : Prop := nodeM P0 T0 compassref06_Names.A compassref06_Names.code [1, 1, 0, 1, 0] [] (compassref06_Names.rq E K) (compassref06_Names.f1 s1 name3p name3n name3c v4) H
def compassref06_Names.b1 (s1 : Nat) (name3p : Option Addr) (name3n : Nat) (name3c : Nat) (v4 : Int)  (X1 : Fr → Hp → Prop) (E : Value → Hp → Prop) (H : Hp) (K : (Option Addr) → Nat → Nat → Hp → Prop) : Prop := nodeM P0 T0 compassref06_Names.A compassref06_Names.code [1, 1, 0, 1, 0, 0] [X1] (compassref06_Names.rq E K) (compassref06_Names.f1 s1 name3p name3n name3c v4) H
theorem compassref06_Names.l1_rule { E : Value → Hp → Prop} {K : (Option Addr) → Nat → Nat → Hp → Prop} (I : Nat → (Option Addr) → Nat → Nat → Int → Hp → Prop) (μ : Nat → (Option Addr) → Nat → Nat → Int → Hp → Nat)
    (h : ∀ s1 name3p name3n name3c v4 H, I s1 name3p name3n name3c v4 H → ∀ X : Fr → Hp → Prop, (∀ s1' name3p' name3n' name3c' v4' H', I s1' name3p' name3n' name3c' v4' H' → μ s1' name3p' name3n' name3c' v4' H' < μ s1 name3p name3n name3c v4 H → X (compassref06_Names.f1 s1' name3p' name3n' name3c' v4') H') → compassref06_Names.b1 s1 name3p name3n name3c v4  X E H K)
    {s1 : Nat} {name3p : Option Addr} {name3n : Nat} {name3c : Nat} {v4 : Int} {H : Hp} (hI : I s1 name3p name3n name3c v4 H) : compassref06_Names.l1 s1 name3p name3n name3c v4  E H K :=
  loop_rule (S := Nat × (Option Addr) × Nat × Nat × Int) (fun s => compassref06_Names.f1 (s.1) (s.2.1) (s.2.2.1) (s.2.2.2.1) (s.2.2.2.2)) (fun s H => I (s.1) (s.2.1) (s.2.2.1) (s.2.2.2.1) (s.2.2.2.2) H) (fun s H => μ (s.1) (s.2.1) (s.2.2.1) (s.2.2.2.1) (s.2.2.2.2) H) (fun s H hI X hX => h (s.1) (s.2.1) (s.2.2.1) (s.2.2.2.1) (s.2.2.2.2) H hI X fun s1' name3p' name3n' name3c' v4' H' hI' hlt => hX (s1', name3p', name3n', name3c', v4') H' hI' hlt) (s := (s1, name3p, name3n, name3c, v4)) rfl hI
def compassref06_Names.l2 (s1 : Nat) (name3p : Option Addr) (name3n : Nat) (name3c : Nat) (round5 : Int)  (E : Value → Hp → Prop) (H : Hp) (K : (Option Addr) → Nat → Nat → Hp → Prop) : Prop := nodeM P0 T0 compassref06_Names.A compassref06_Names.code [1, 1, 1, 0, 1, 0] [] (compassref06_Names.rq E K) (compassref06_Names.f2 s1 name3p name3n name3c round5) H
def compassref06_Names.b2 (s1 : Nat) (name3p : Option Addr) (name3n : Nat) (name3c : Nat) (round5 : Int)  (X1 : Fr → Hp → Prop) (E : Value → Hp → Prop) (H : Hp) (K : (Option Addr) → Nat → Nat → Hp → Prop) : Prop := nodeM P0 T0 compassref06_Names.A compassref06_Names.code [1, 1, 1, 0, 1, 0, 0] [X1] (compassref06_Names.rq E K) (compassref06_Names.f2 s1 name3p name3n name3c round5) H
theorem compassref06_Names.l2_rule { E : Value → Hp → Prop} {K : (Option Addr) → Nat → Nat → Hp → Prop} (I : Nat → (Option Addr) → Nat → Nat → Int → Hp → Prop) (μ : Nat → (Option Addr) → Nat → Nat → Int → Hp → Nat)
    (h : ∀ s1 name3p name3n name3c round5 H, I s1 name3p name3n name3c round5 H → ∀ X : Fr → Hp → Prop, (∀ s1' name3p' name3n' name3c' round5' H', I s1' name3p' name3n' name3c' round5' H' → μ s1' name3p' name3n' name3c' round5' H' < μ s1 name3p name3n name3c round5 H → X (compassref06_Names.f2 s1' name3p' name3n' name3c' round5') H') → compassref06_Names.b2 s1 name3p name3n name3c round5  X E H K)
    {s1 : Nat} {name3p : Option Addr} {name3n : Nat} {name3c : Nat} {round5 : Int} {H : Hp} (hI : I s1 name3p name3n name3c round5 H) : compassref06_Names.l2 s1 name3p name3n name3c round5  E H K :=
  loop_rule (S := Nat × (Option Addr) × Nat × Nat × Int) (fun s => compassref06_Names.f2 (s.1) (s.2.1) (s.2.2.1) (s.2.2.2.1) (s.2.2.2.2)) (fun s H => I (s.1) (s.2.1) (s.2.2.1) (s.2.2.2.1) (s.2.2.2.2) H) (fun s H => μ (s.1) (s.2.1) (s.2.2.1) (s.2.2.2.1) (s.2.2.2.2) H) (fun s H hI X hX => h (s.1) (s.2.1) (s.2.2.1) (s.2.2.2.1) (s.2.2.2.2) H hI X fun s1' name3p' name3n' name3c' round5' H' hI' hlt => hX (s1', name3p', name3n', name3c', round5') H' hI' hlt) (s := (s1, name3p, name3n, name3c, round5)) rfl hI
def compassref06_Names.l3 (s1 : Nat) (name3p : Option Addr) (name3n : Nat) (name3c : Nat) (round5 : Int) (i6 : Int) (X1 : Fr → Hp → Prop) (E : Value → Hp → Prop) (H : Hp) (K : (Option Addr) → Nat → Nat → Hp → Prop) : Prop := nodeM P0 T0 compassref06_Names.A compassref06_Names.code [1, 1, 1, 0, 1, 0, 0, 1, 0, 0, 1, 0] [X1] (compassref06_Names.rq E K) (compassref06_Names.f3 s1 name3p name3n name3c round5 i6) H
def compassref06_Names.b3 (s1 : Nat) (name3p : Option Addr) (name3n : Nat) (name3c : Nat) (round5 : Int) (i6 : Int) (X1 : Fr → Hp → Prop) (X2 : Fr → Hp → Prop) (E : Value → Hp → Prop) (H : Hp) (K : (Option Addr) → Nat → Nat → Hp → Prop) : Prop := nodeM P0 T0 compassref06_Names.A compassref06_Names.code [1, 1, 1, 0, 1, 0, 0, 1, 0, 0, 1, 0, 0] [X1, X2] (compassref06_Names.rq E K) (compassref06_Names.f3 s1 name3p name3n name3c round5 i6) H
theorem compassref06_Names.l3_rule {X1 : Fr → Hp → Prop} { E : Value → Hp → Prop} {K : (Option Addr) → Nat → Nat → Hp → Prop} (I : Nat → (Option Addr) → Nat → Nat → Int → Int → Hp → Prop) (μ : Nat → (Option Addr) → Nat → Nat → Int → Int → Hp → Nat)
    (h : ∀ s1 name3p name3n name3c round5 i6 H, I s1 name3p name3n name3c round5 i6 H → ∀ X : Fr → Hp → Prop, (∀ s1' name3p' name3n' name3c' round5' i6' H', I s1' name3p' name3n' name3c' round5' i6' H' → μ s1' name3p' name3n' name3c' round5' i6' H' < μ s1 name3p name3n name3c round5 i6 H → X (compassref06_Names.f3 s1' name3p' name3n' name3c' round5' i6') H') → compassref06_Names.b3 s1 name3p name3n name3c round5 i6 X1 X E H K)
    {s1 : Nat} {name3p : Option Addr} {name3n : Nat} {name3c : Nat} {round5 : Int} {i6 : Int} {H : Hp} (hI : I s1 name3p name3n name3c round5 i6 H) : compassref06_Names.l3 s1 name3p name3n name3c round5 i6 X1 E H K :=
  loop_rule (S := Nat × (Option Addr) × Nat × Nat × Int × Int) (fun s => compassref06_Names.f3 (s.1) (s.2.1) (s.2.2.1) (s.2.2.2.1) (s.2.2.2.2.1) (s.2.2.2.2.2)) (fun s H => I (s.1) (s.2.1) (s.2.2.1) (s.2.2.2.1) (s.2.2.2.2.1) (s.2.2.2.2.2) H) (fun s H => μ (s.1) (s.2.1) (s.2.2.1) (s.2.2.2.1) (s.2.2.2.2.1) (s.2.2.2.2.2) H) (fun s H hI X hX => h (s.1) (s.2.1) (s.2.2.1) (s.2.2.2.1) (s.2.2.2.2.1) (s.2.2.2.2.2) H hI X fun s1' name3p' name3n' name3c' round5' i6' H' hI' hlt => hX (s1', name3p', name3n', name3c', round5', i6') H' hI' hlt) (s := (s1, name3p, name3n, name3c, round5, i6)) rfl hI
theorem compassref06_Names.nok : nodesOk compassref06_Names.code [[0, 1, 0, 1, 1], [1, 1, 1], [0, 1, 0, 1, 1, 1], [0, 1, 0, 0, 1, 0, 0, 1, 0, 1, 1, 1], [1, 1, 0, 0, 1, 0, 0, 1, 0, 0, 1, 0, 1, 1, 1], [1, 1, 0, 0, 1, 0, 1, 1, 1]] = true := by kernel_rfl
def compassref06_Names.run_t (l1 : Nat → (Option Addr) → Nat → Nat → Int → Hp → Prop) (s0_N : Int) (s0_Joinsp : Option Addr) (s0_Joinsn : Nat) (s0_Joinsc : Nat)  (E : Value → Hp → Prop) (H : Hp) (K : (Option Addr) → Nat → Nat → Hp → Prop) : Prop :=
  nw H ⟨[.int .i64 s0_N, .slice s0_Joinsp s0_Joinsn s0_Joinsc], 45⟩ fun b_1 H_1 =>
  ldI .i64 (H_1.get b_1 0) fun x_1 =>
  mkS x_1 x_1 3 [.i .i64] 8 H_1 fun b_2 H_2 =>
  l1 b_1 (some ⟨b_2, 0, none⟩) x_1.toNat x_1.toNat 0 H_2
theorem compassref06_Names.run_eq {s0_N : Int} {s0_Joinsp : Option Addr} {s0_Joinsn : Nat} {s0_Joinsc : Nat} { E : Value → Hp → Prop} {H : Hp} {K : (Option Addr) → Nat → Nat → Hp → Prop} (h : compassref06_Names.run_t (fun s1 name3p name3n name3c v4 H => compassref06_Names.l1 s1 name3p name3n name3c v4  E H K) s0_N s0_Joinsp s0_Joinsn s0_Joinsc  E H K) : compassref06_Names.run s0_N s0_Joinsp s0_Joinsn s0_Joinsc  E H K := by
  have k1 : ∀ G : List Nat → Fr → Hp → Prop, nodeR P0 T0 compassref06_Names.A [[0, 1, 0, 1, 1], [1, 1, 1], [0, 1, 0, 1, 1, 1], [0, 1, 0, 0, 1, 0, 0, 1, 0, 1, 1, 1], [1, 1, 0, 0, 1, 0, 0, 1, 0, 0, 1, 0, 1, 1, 1], [1, 1, 0, 0, 1, 0, 1, 1, 1]] G compassref06_Names.code [] [] (compassref06_Names.rq E K) (argF 0 [.agg ⟨[.int .i64 s0_N, .slice s0_Joinsp s0_Joinsn s0_Joinsc]⟩]) H = compassref06_Names.run_t (fun s1 name3p name3n name3c v4 H => G [0, 1, 0, 1, 1] [(1, .pointer (some ⟨s1, 0, none⟩)), (3, .slice name3p name3n name3c), (4, .int .i64 v4)] H) s0_N s0_Joinsp s0_Joinsn s0_Joinsc  E H K := fun G => by kernel_rfl
  have k2 : compassref06_Names.run_t (fun s1 name3p name3n name3c v4 H => compassref06_Names.l1 s1 name3p name3n name3c v4  E H K) s0_N s0_Joinsp s0_Joinsn s0_Joinsc  E H K = compassref06_Names.run_t (fun s1 name3p name3n name3c v4 H => (fun q F H => nodeM P0 T0 compassref06_Names.A compassref06_Names.code q.reverse [] (compassref06_Names.rq E K) F H) [0, 1, 0, 1, 1] [(1, .pointer (some ⟨s1, 0, none⟩)), (3, .slice name3p name3n name3c), (4, .int .i64 v4)] H) s0_N s0_Joinsp s0_Joinsn s0_Joinsc  E H K := by kernel_rfl
  exact nodeR_imp compassref06_Names.nok rfl ((k1 _).mpr (k2.mp h))
def compassref06_Names.j1_t (l2 : Nat → (Option Addr) → Nat → Nat → Int → Hp → Prop) (s1 : Nat) (name3p : Option Addr) (name3n : Nat) (name3c : Nat)  (E : Value → Hp → Prop) (H : Hp) (K : (Option Addr) → Nat → Nat → Hp → Prop) : Prop :=
  l2 s1 name3p name3n name3c 0 H
theorem compassref06_Names.j1_eq {s1 : Nat} {name3p : Option Addr} {name3n : Nat} {name3c : Nat} { E : Value → Hp → Prop} {H : Hp} {K : (Option Addr) → Nat → Nat → Hp → Prop} (h : compassref06_Names.j1_t (fun s1 name3p name3n name3c round5 H => compassref06_Names.l2 s1 name3p name3n name3c round5  E H K) s1 name3p name3n name3c  E H K) : compassref06_Names.j1 s1 name3p name3n name3c  E H K := by
  have k1 : ∀ G : List Nat → Fr → Hp → Prop, nodeR P0 T0 compassref06_Names.A [[0, 1, 0, 1, 1], [1, 1, 1], [0, 1, 0, 1, 1, 1], [0, 1, 0, 0, 1, 0, 0, 1, 0, 1, 1, 1], [1, 1, 0, 0, 1, 0, 0, 1, 0, 0, 1, 0, 1, 1, 1], [1, 1, 0, 0, 1, 0, 1, 1, 1]] G compassref06_Names.code [1, 1, 1] [] (compassref06_Names.rq E K) [(1, .pointer (some ⟨s1, 0, none⟩)), (3, .slice name3p name3n name3c)] H = compassref06_Names.j1_t (fun s1 name3p name3n name3c round5 H => G [0, 1, 0, 1, 1, 1] [(1, .pointer (some ⟨s1, 0, none⟩)), (3, .slice name3p name3n name3c), (5, .int .i64 round5)] H) s1 name3p name3n name3c  E H K := fun G => by kernel_rfl
  have k2 : compassref06_Names.j1_t (fun s1 name3p name3n name3c round5 H => compassref06_Names.l2 s1 name3p name3n name3c round5  E H K) s1 name3p name3n name3c  E H K = compassref06_Names.j1_t (fun s1 name3p name3n name3c round5 H => (fun q F H => nodeM P0 T0 compassref06_Names.A compassref06_Names.code q.reverse [] (compassref06_Names.rq E K) F H) [0, 1, 0, 1, 1, 1] [(1, .pointer (some ⟨s1, 0, none⟩)), (3, .slice name3p name3n name3c), (5, .int .i64 round5)] H) s1 name3p name3n name3c  E H K := by kernel_rfl
  exact nodeR_imp compassref06_Names.nok rfl ((k1 _).mpr (k2.mp h))
def compassref06_Names.j2_t  (s1 : Nat) (name3p : Option Addr) (name3n : Nat) (name3c : Nat) (round5 : Int) (i6 : Int) (X1 : Fr → Hp → Prop) (X2 : Fr → Hp → Prop) (E : Value → Hp → Prop) (H : Hp) (K : (Option Addr) → Nat → Nat → Hp → Prop) : Prop :=
  X2 (compassref06_Names.f3 s1 name3p name3n name3c round5 (IntKind.wrap .i64 (i6 + 1))) H
theorem compassref06_Names.j2_eq {s1 : Nat} {name3p : Option Addr} {name3n : Nat} {name3c : Nat} {round5 : Int} {i6 : Int} {X1 X2 : Fr → Hp → Prop} { E : Value → Hp → Prop} {H : Hp} {K : (Option Addr) → Nat → Nat → Hp → Prop} (h : compassref06_Names.j2_t  s1 name3p name3n name3c round5 i6 X1 X2 E H K) : compassref06_Names.j2 s1 name3p name3n name3c round5 i6 X1 X2 E H K := by
  have k1 : ∀ G : List Nat → Fr → Hp → Prop, nodeR P0 T0 compassref06_Names.A [[0, 1, 0, 1, 1], [1, 1, 1], [0, 1, 0, 1, 1, 1], [0, 1, 0, 0, 1, 0, 0, 1, 0, 1, 1, 1], [1, 1, 0, 0, 1, 0, 0, 1, 0, 0, 1, 0, 1, 1, 1], [1, 1, 0, 0, 1, 0, 1, 1, 1]] G compassref06_Names.code [1, 1, 1, 0, 1, 0, 0, 1, 0, 0, 1, 0, 0, 1, 1] [X1, X2] (compassref06_Names.rq E K) [(1, .pointer (some ⟨s1, 0, none⟩)), (3, .slice name3p name3n name3c), (5, .int .i64 round5), (6, .int .i64 i6)] H = compassref06_Names.j2_t  s1 name3p name3n name3c round5 i6 X1 X2 E H K := fun G => by kernel_rfl
  exact nodeR_imp compassref06_Names.nok rfl ((k1 _).mpr h)
def compassref06_Names.j3_t  (s1 : Nat) (name3p : Option Addr) (name3n : Nat) (name3c : Nat) (round5 : Int) (X1 : Fr → Hp → Prop) (E : Value → Hp → Prop) (H : Hp) (K : (Option Addr) → Nat → Nat → Hp → Prop) : Prop :=
  X1 (compassref06_Names.f2 s1 name3p name3n name3c (IntKind.wrap .i64 (round5 + 1))) H
theorem compassref06_Names.j3_eq {s1 : Nat} {name3p : Option Addr} {name3n : Nat} {name3c : Nat} {round5 : Int} {X1 : Fr → Hp → Prop} { E : Value → Hp → Prop} {H : Hp} {K : (Option Addr) → Nat → Nat → Hp → Prop} (h : compassref06_Names.j3_t  s1 name3p name3n name3c round5 X1 E H K) : compassref06_Names.j3 s1 name3p name3n name3c round5 X1 E H K := by
  have k1 : ∀ G : List Nat → Fr → Hp → Prop, nodeR P0 T0 compassref06_Names.A [[0, 1, 0, 1, 1], [1, 1, 1], [0, 1, 0, 1, 1, 1], [0, 1, 0, 0, 1, 0, 0, 1, 0, 1, 1, 1], [1, 1, 0, 0, 1, 0, 0, 1, 0, 0, 1, 0, 1, 1, 1], [1, 1, 0, 0, 1, 0, 1, 1, 1]] G compassref06_Names.code [1, 1, 1, 0, 1, 0, 0, 1, 1] [X1] (compassref06_Names.rq E K) [(1, .pointer (some ⟨s1, 0, none⟩)), (3, .slice name3p name3n name3c), (5, .int .i64 round5)] H = compassref06_Names.j3_t  s1 name3p name3n name3c round5 X1 E H K := fun G => by kernel_rfl
  exact nodeR_imp compassref06_Names.nok rfl ((k1 _).mpr h)
def compassref06_Names.b1_t (j1 : Nat → (Option Addr) → Nat → Nat → Hp → Prop) (s1 : Nat) (name3p : Option Addr) (name3n : Nat) (name3c : Nat) (v4 : Int) (X1 : Fr → Hp → Prop) (E : Value → Hp → Prop) (H : Hp) (K : (Option Addr) → Nat → Nat → Hp → Prop) : Prop :=
  ldI .i64 (H.get s1 0) fun x_1 =>
  bcase (decide ((v4 : Int) < x_1)) (
  ix name3p name3n v4 1 fun b_1 o_1 =>
  stC H b_1 o_1 [.int .i64 v4] fun H_1 =>
  X1 (compassref06_Names.f1 s1 name3p name3n name3c (IntKind.wrap .i64 (v4 + 1))) H_1)
  (j1 s1 name3p name3n name3c H)
theorem compassref06_Names.b1_eq {s1 : Nat} {name3p : Option Addr} {name3n : Nat} {name3c : Nat} {v4 : Int} {X1 : Fr → Hp → Prop} { E : Value → Hp → Prop} {H : Hp} {K : (Option Addr) → Nat → Nat → Hp → Prop} (h : compassref06_Names.b1_t (fun s1 name3p name3n name3c H => compassref06_Names.j1 s1 name3p name3n name3c  E H K) s1 name3p name3n name3c v4 X1 E H K) : compassref06_Names.b1 s1 name3p name3n name3c v4 X1 E H K := by
  have k1 : ∀ G : List Nat → Fr → Hp → Prop, nodeR P0 T0 compassref06_Names.A [[0, 1, 0, 1, 1], [1, 1, 1], [0, 1, 0, 1, 1, 1], [0, 1, 0, 0, 1, 0, 0, 1, 0, 1, 1, 1], [1, 1, 0, 0, 1, 0, 0, 1, 0, 0, 1, 0, 1, 1, 1], [1, 1, 0, 0, 1, 0, 1, 1, 1]] G compassref06_Names.code [1, 1, 0, 1, 0, 0] [X1] (compassref06_Names.rq E K) (compassref06_Names.f1 s1 name3p name3n name3c v4) H = compassref06_Names.b1_t (fun s1 name3p name3n name3c H => G [1, 1, 1] [(1, .pointer (some ⟨s1, 0, none⟩)), (3, .slice name3p name3n name3c)] H) s1 name3p name3n name3c v4 X1 E H K := fun G => by kernel_rfl
  have k2 : compassref06_Names.b1_t (fun s1 name3p name3n name3c H => compassref06_Names.j1 s1 name3p name3n name3c  E H K) s1 name3p name3n name3c v4 X1 E H K = compassref06_Names.b1_t (fun s1 name3p name3n name3c H => (fun q F H => nodeM P0 T0 compassref06_Names.A compassref06_Names.code q.reverse [X1] (compassref06_Names.rq E K) F H) [1, 1, 1] [(1, .pointer (some ⟨s1, 0, none⟩)), (3, .slice name3p name3n name3c)] H) s1 name3p name3n name3c v4 X1 E H K := by kernel_rfl
  exact nodeR_imp compassref06_Names.nok rfl ((k1 _).mpr (k2.mp h))
def compassref06_Names.b2_t (l3 : Nat → (Option Addr) → Nat → Nat → Int → Int → Hp → Prop) (s1 : Nat) (name3p : Option Addr) (name3n : Nat) (name3c : Nat) (round5 : Int) (X1 : Fr → Hp → Prop) (E : Value → Hp → Prop) (H : Hp) (K : (Option Addr) → Nat → Nat → Hp → Prop) : Prop :=
  ldS (H.get s1 1) fun x_1p x_1n x_1c =>
  bcase (decide ((round5 : Int) ≤ (x_1n : Int))) (
  l3 s1 name3p name3n name3c round5 0 H)
  (K name3p name3n name3c H)
theorem compassref06_Names.b2_eq {s1 : Nat} {name3p : Option Addr} {name3n : Nat} {name3c : Nat} {round5 : Int} {X1 : Fr → Hp → Prop} { E : Value → Hp → Prop} {H : Hp} {K : (Option Addr) → Nat → Nat → Hp → Prop} (h : compassref06_Names.b2_t (fun s1 name3p name3n name3c round5 i6 H => compassref06_Names.l3 s1 name3p name3n name3c round5 i6 X1 E H K) s1 name3p name3n name3c round5 X1 E H K) : compassref06_Names.b2 s1 name3p name3n name3c round5 X1 E H K := by
  have k1 : ∀ G : List Nat → Fr → Hp → Prop, nodeR P0 T0 compassref06_Names.A [[0, 1, 0, 1, 1], [1, 1, 1], [0, 1, 0, 1, 1, 1], [0, 1, 0, 0, 1, 0, 0, 1, 0, 1, 1, 1], [1, 1, 0, 0, 1, 0, 0, 1, 0, 0, 1, 0, 1, 1, 1], [1, 1, 0, 0, 1, 0, 1, 1, 1]] G compassref06_Names.code [1, 1, 1, 0, 1, 0, 0] [X1] (compassref06_Names.rq E K) (compassref06_Names.f2 s1 name3p name3n name3c round5) H = compassref06_Names.b2_t (fun s1 name3p name3n name3c round5 i6 H => G [0, 1, 0, 0, 1, 0, 0, 1, 0, 1, 1, 1] [(1, .pointer (some ⟨s1, 0, none⟩)), (3, .slice name3p name3n name3c), (5, .int .i64 round5), (6, .int .i64 i6)] H) s1 name3p name3n name3c round5 X1 E H K := fun G => by kernel_rfl
  have k2 : compassref06_Names.b2_t (fun s1 name3p name3n name3c round5 i6 H => compassref06_Names.l3 s1 name3p name3n name3c round5 i6 X1 E H K) s1 name3p name3n name3c round5 X1 E H K = compassref06_Names.b2_t (fun s1 name3p name3n name3c round5 i6 H => (fun q F H => nodeM P0 T0 compassref06_Names.A compassref06_Names.code q.reverse [X1] (compassref06_Names.rq E K) F H) [0, 1, 0, 0, 1, 0, 0, 1, 0, 1, 1, 1] [(1, .pointer (some ⟨s1, 0, none⟩)), (3, .slice name3p name3n name3c), (5, .int .i64 round5), (6, .int .i64 i6)] H) s1 name3p name3n name3c round5 X1 E H K := by kernel_rfl
  exact nodeR_imp compassref06_Names.nok rfl ((k1 _).mpr (k2.mp h))
def compassref06_Names.b3_t (j2 : Nat → (Option Addr) → Nat → Nat → Int → Int → Hp → Prop) (j3 : Nat → (Option Addr) → Nat → Nat → Int → Hp → Prop) (s1 : Nat) (name3p : Option Addr) (name3n : Nat) (name3c : Nat) (round5 : Int) (i6 : Int) (X1 : Fr → Hp → Prop) (X2 : Fr → Hp → Prop) (E : Value → Hp → Prop) (H : Hp) (K : (Option Addr) → Nat → Nat → Hp → Prop) : Prop :=
  ldS (H.get s1 1) fun x_1p x_1n x_1c =>
  bcase (decide ((i6 : Int) < (x_1n : Int))) (
  ldS (H.get s1 1) fun x_2p x_2n x_2c =>
  ix x_2p x_2n i6 2 fun b_1 o_1 =>
  ldI .i64 (H.get b_1 o_1) fun x_3 =>
  ldI .i64 (H.get b_1 (o_1 + 1)) fun x_4 =>
  nw H ⟨[.int .i64 0, .int .i64 0], 67⟩ fun b_2 H_1 =>
  stC H_1 b_2 0 [.int .i64 x_3, .int .i64 x_4] fun H_2 =>
  ldI .i64 (H_2.get b_2 0) fun x_5 =>
  ix name3p name3n x_5 1 fun b_3 o_2 =>
  ldI .i64 (H_2.get b_3 o_2) fun x_6 =>
  ldI .i64 (H_2.get b_2 1) fun x_7 =>
  ix name3p name3n x_7 1 fun b_4 o_3 =>
  ldI .i64 (H_2.get b_4 o_3) fun x_8 =>
  bcase (decide ((x_6 : Int) < x_8)) (
  ldI .i64 (H_2.get b_2 1) fun x_9 =>
  ldI .i64 (H_2.get b_2 0) fun x_10 =>
  ix name3p name3n x_10 1 fun b_5 o_4 =>
  ldI .i64 (H_2.get b_5 o_4) fun x_11 =>
  ix name3p name3n x_9 1 fun b_6 o_5 =>
  stC H_2 b_6 o_5 [.int .i64 x_11] fun H_3 =>
  j2 s1 name3p name3n name3c round5 i6 H_3)
  (ldI .i64 (H_2.get b_2 0) fun x_12 =>
  ldI .i64 (H_2.get b_2 1) fun x_13 =>
  ix name3p name3n x_13 1 fun b_7 o_6 =>
  ldI .i64 (H_2.get b_7 o_6) fun x_14 =>
  ix name3p name3n x_12 1 fun b_8 o_7 =>
  stC H_2 b_8 o_7 [.int .i64 x_14] fun H_4 =>
  j2 s1 name3p name3n name3c round5 i6 H_4))
  (j3 s1 name3p name3n name3c round5 H)
theorem compassref06_Names.b3_eq {s1 : Nat} {name3p : Option Addr} {name3n : Nat} {name3c : Nat} {round5 : Int} {i6 : Int} {X1 X2 : Fr → Hp → Prop} { E : Value → Hp → Prop} {H : Hp} {K : (Option Addr) → Nat → Nat → Hp → Prop} (h : compassref06_Names.b3_t (fun s1 name3p name3n name3c round5 i6 H => compassref06_Names.j2 s1 name3p name3n name3c round5 i6 X1 X2 E H K) (fun s1 name3p name3n name3c round5 H => compassref06_Names.j3 s1 name3p name3n name3c round5 X1 E H K) s1 name3p name3n name3c round5 i6 X1 X2 E H K) : compassref06_Names.b3 s1 name3p name3n name3c round5 i6 X1 X2 E H K := by
  have k1 : ∀ G : List Nat → Fr → Hp → Prop, nodeR P0 T0 compassref06_Names.A [[0, 1, 0, 1, 1], [1, 1, 1], [0, 1, 0, 1, 1, 1], [0, 1, 0, 0, 1, 0, 0, 1, 0, 1, 1, 1], [1, 1, 0, 0, 1, 0, 0, 1, 0, 0, 1, 0, 1, 1, 1], [1, 1, 0, 0, 1, 0, 1, 1, 1]] G compassref06_Names.code [1, 1, 1, 0, 1, 0, 0, 1, 0, 0, 1, 0, 0] [X1, X2] (compassref06_Names.rq E K) (compassref06_Names.f3 s1 name3p name3n name3c round5 i6) H = compassref06_Names.b3_t (fun s1 name3p name3n name3c round5 i6 H => G [1, 1, 0, 0, 1, 0, 0, 1, 0, 0, 1, 0, 1, 1, 1] [(1, .pointer (some ⟨s1, 0, none⟩)), (3, .slice name3p name3n name3c), (5, .int .i64 round5), (6, .int .i64 i6)] H) (fun s1 name3p name3n name3c round5 H => G [1, 1, 0, 0, 1, 0, 1, 1, 1] [(1, .pointer (some ⟨s1, 0, none⟩)), (3, .slice name3p name3n name3c), (5, .int .i64 round5)] H) s1 name3p name3n name3c round5 i6 X1 X2 E H K := fun G => by kernel_rfl
  have k2 : compassref06_Names.b3_t (fun s1 name3p name3n name3c round5 i6 H => compassref06_Names.j2 s1 name3p name3n name3c round5 i6 X1 X2 E H K) (fun s1 name3p name3n name3c round5 H => compassref06_Names.j3 s1 name3p name3n name3c round5 X1 E H K) s1 name3p name3n name3c round5 i6 X1 X2 E H K = compassref06_Names.b3_t (fun s1 name3p name3n name3c round5 i6 H => (fun q F H => nodeM P0 T0 compassref06_Names.A compassref06_Names.code q.reverse [X1, X2] (compassref06_Names.rq E K) F H) [1, 1, 0, 0, 1, 0, 0, 1, 0, 0, 1, 0, 1, 1, 1] [(1, .pointer (some ⟨s1, 0, none⟩)), (3, .slice name3p name3n name3c), (5, .int .i64 round5), (6, .int .i64 i6)] H) (fun s1 name3p name3n name3c round5 H => (fun q F H => nodeM P0 T0 compassref06_Names.A compassref06_Names.code q.reverse [X1, X2] (compassref06_Names.rq E K) F H) [1, 1, 0, 0, 1, 0, 1, 1, 1] [(1, .pointer (some ⟨s1, 0, none⟩)), (3, .slice name3p name3n name3c), (5, .int .i64 round5)] H) s1 name3p name3n name3c round5 i6 X1 X2 E H K := by kernel_rfl
  exact nodeR_imp compassref06_Names.nok rfl ((k1 _).mpr (k2.mp h))
end Go.Mz
