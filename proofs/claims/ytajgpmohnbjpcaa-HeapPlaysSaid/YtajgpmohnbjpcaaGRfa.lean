/-
  The shallow texts of functions (Rfa), each with a kernel-checked equation to the translated code. It proves nothing of the program by itself.
-/
import Derived.Test.YtajgpmohnbjpcaaTab
set_option linter.unusedVariables false
set_option maxRecDepth 100000
namespace Go.Mz
/-! ### compass/compassref05.New (20) -/
noncomputable def compassref05_New.A : An := { live := [(0, [0, 1]), (1, [0, 1, 4]), (2, [4]), (3, [0, 1, 4]), (4, [4]), (5, [0, 1, 4])], ord := [], stb := [], pre := [] }
noncomputable def compassref05_New.code : Code := bodyOf Go.Proofs.Try.f20
theorem compassref05_New.ok : okCode compassref05_New.A 23 compassref05_New.code = true := by kernel_rfl
def compassref05_New.rq (E : Value → Hp → Prop) (K : Int → Int → (Option Addr) → Nat → Nat → Int → Int → Hp → Prop) : Ex → Fr → Hp → Prop := retQ T0 [.cell 4 40, .tmp 5] [40, 3] (fun r H => ldR (.tup [(true, [.i .i64, .i .i64, .sl, .i .i64]), (false, [.i .i64])]) r fun u => K (asI (cellV (tupV u 0) 0)) (asI (cellV (tupV u 0) 1)) (asS1 (cellV (tupV u 0) 2)) (asS2 (cellV (tupV u 0) 2)) (asS3 (cellV (tupV u 0) 2)) (asI (cellV (tupV u 0) 3)) (asI (tupV u 1)) H) E
def compassref05_New.run (kind0 : Int) (n1 : Int) (E : Value → Hp → Prop) (H : Hp) (K : Int → Int → (Option Addr) → Nat → Nat → Int → Int → Hp → Prop) : Prop := nodeM P0 T0 compassref05_New.A compassref05_New.code [] [] (compassref05_New.rq E K) (argF 0 [.int .i64 kind0, .int .i64 n1]) H
theorem compassref05_New.of {kind0 : Int} {n1 : Int} {E : Value → Hp → Prop} {H : Hp} {K : Int → Int → (Option Addr) → Nat → Nat → Int → Int → Hp → Prop} (h : compassref05_New.run kind0 n1 E H K) : compassref05_New.call kind0 n1 E H K :=
  callW_of T0_ok P0_mixed (A := compassref05_New.A) (fn := Go.Proofs.Try.f20) Go.Proofs.Try.func20 rfl compassref05_New.ok rfl h
def compassref05_New.j1 (t4 : Nat)  (E : Value → Hp → Prop) (H : Hp) (K : Int → Int → (Option Addr) → Nat → Nat → Int → Int → Hp → Prop) : Prop := nodeM P0 T0 compassref05_New.A compassref05_New.code [1, 0, 1, 0] [] (compassref05_New.rq E K) [(4, .pointer (some ⟨t4, 0, none⟩))] H
def compassref05_New.j2 (t4 : Nat)  (E : Value → Hp → Prop) (H : Hp) (K : Int → Int → (Option Addr) → Nat → Nat → Int → Int → Hp → Prop) : Prop := nodeM P0 T0 compassref05_New.A compassref05_New.code [1, 1, 0, 1, 0] [] (compassref05_New.rq E K) [(4, .pointer (some ⟨t4, 0, none⟩))] H
theorem compassref05_New.nok : nodesOk compassref05_New.code [[0, 1, 0, 1], [0, 1, 0, 1, 1]] = true := by kernel_rfl
def compassref05_New.run_t (j1 : Nat → Hp → Prop) (j2 : Nat → Hp → Prop) (kind0 : Int) (n1 : Int)  (E : Value → Hp → Prop) (H : Hp) (K : Int → Int → (Option Addr) → Nat → Nat → Int → Int → Hp → Prop) : Prop :=
  nw H ⟨[.int .i64 0, .int .i64 0, .slice none 0 0, .int .i64 0], 40⟩ fun b_1 H_1 =>
  bcase (decide ((kind0 : Int) < 1)) (
  j1 b_1 H_1)
  (bcase (decide ((4 : Int) < kind0)) (
  j1 b_1 H_1)
  (bcase (decide ((n1 : Int) < 0)) (
  j2 b_1 H_1)
  (bcase (decide ((1024 : Int) < n1)) (
  j2 b_1 H_1)
  (stC H_1 b_1 0 [.int .i64 kind0, .int .i64 n1, .slice none 0 0, .int .i64 0] fun H_2 =>
  ldI .i64 (H_2.get b_1 0) fun x_1 =>
  ldI .i64 (H_2.get b_1 1) fun x_2 =>
  ldS (H_2.get b_1 2) fun x_3p x_3n x_3c =>
  ldI .i64 (H_2.get b_1 3) fun x_4 =>
  K x_1 x_2 x_3p x_3n x_3c x_4 0 H_2))))
theorem compassref05_New.run_eq {kind0 : Int} {n1 : Int} { E : Value → Hp → Prop} {H : Hp} {K : Int → Int → (Option Addr) → Nat → Nat → Int → Int → Hp → Prop} (h : compassref05_New.run_t (fun t4 H => compassref05_New.j1 t4  E H K) (fun t4 H => compassref05_New.j2 t4  E H K) kind0 n1  E H K) : compassref05_New.run kind0 n1  E H K := by
  have k1 : ∀ G : List Nat → Fr → Hp → Prop, nodeR P0 T0 compassref05_New.A [[0, 1, 0, 1], [0, 1, 0, 1, 1]] G compassref05_New.code [] [] (compassref05_New.rq E K) (argF 0 [.int .i64 kind0, .int .i64 n1]) H = compassref05_New.run_t (fun t4 H => G [0, 1, 0, 1] [(4, .pointer (some ⟨t4, 0, none⟩))] H) (fun t4 H => G [0, 1, 0, 1, 1] [(4, .pointer (some ⟨t4, 0, none⟩))] H) kind0 n1  E H K := fun G => by kernel_rfl
  have k2 : compassref05_New.run_t (fun t4 H => compassref05_New.j1 t4  E H K) (fun t4 H => compassref05_New.j2 t4  E H K) kind0 n1  E H K = compassref05_New.run_t (fun t4 H => (fun q F H => nodeM P0 T0 compassref05_New.A compassref05_New.code q.reverse [] (compassref05_New.rq E K) F H) [0, 1, 0, 1] [(4, .pointer (some ⟨t4, 0, none⟩))] H) (fun t4 H => (fun q F H => nodeM P0 T0 compassref05_New.A compassref05_New.code q.reverse [] (compassref05_New.rq E K) F H) [0, 1, 0, 1, 1] [(4, .pointer (some ⟨t4, 0, none⟩))] H) kind0 n1  E H K := by kernel_rfl
  exact nodeR_imp compassref05_New.nok rfl ((k1 _).mpr (k2.mp h))
def compassref05_New.j1_t  (t4 : Nat)  (E : Value → Hp → Prop) (H : Hp) (K : Int → Int → (Option Addr) → Nat → Nat → Int → Int → Hp → Prop) : Prop :=
  stC H t4 0 [.int .i64 0, .int .i64 0, .slice none 0 0, .int .i64 0] fun H_1 =>
  ldI .i64 (H_1.get t4 0) fun x_1 =>
  ldI .i64 (H_1.get t4 1) fun x_2 =>
  ldS (H_1.get t4 2) fun x_3p x_3n x_3c =>
  ldI .i64 (H_1.get t4 3) fun x_4 =>
  K x_1 x_2 x_3p x_3n x_3c x_4 50 H_1
theorem compassref05_New.j1_eq {t4 : Nat} { E : Value → Hp → Prop} {H : Hp} {K : Int → Int → (Option Addr) → Nat → Nat → Int → Int → Hp → Prop} (h : compassref05_New.j1_t  t4  E H K) : compassref05_New.j1 t4  E H K := by
  have k1 : ∀ G : List Nat → Fr → Hp → Prop, nodeR P0 T0 compassref05_New.A [[0, 1, 0, 1], [0, 1, 0, 1, 1]] G compassref05_New.code [1, 0, 1, 0] [] (compassref05_New.rq E K) [(4, .pointer (some ⟨t4, 0, none⟩))] H = compassref05_New.j1_t  t4  E H K := fun G => by kernel_rfl
  exact nodeR_imp compassref05_New.nok rfl ((k1 _).mpr h)
def compassref05_New.j2_t  (t4 : Nat)  (E : Value → Hp → Prop) (H : Hp) (K : Int → Int → (Option Addr) → Nat → Nat → Int → Int → Hp → Prop) : Prop :=
  stC H t4 0 [.int .i64 0, .int .i64 0, .slice none 0 0, .int .i64 0] fun H_1 =>
  ldI .i64 (H_1.get t4 0) fun x_1 =>
  ldI .i64 (H_1.get t4 1) fun x_2 =>
  ldS (H_1.get t4 2) fun x_3p x_3n x_3c =>
  ldI .i64 (H_1.get t4 3) fun x_4 =>
  K x_1 x_2 x_3p x_3n x_3c x_4 3 H_1
theorem compassref05_New.j2_eq {t4 : Nat} { E : Value → Hp → Prop} {H : Hp} {K : Int → Int → (Option Addr) → Nat → Nat → Int → Int → Hp → Prop} (h : compassref05_New.j2_t  t4  E H K) : compassref05_New.j2 t4  E H K := by
  have k1 : ∀ G : List Nat → Fr → Hp → Prop, nodeR P0 T0 compassref05_New.A [[0, 1, 0, 1], [0, 1, 0, 1, 1]] G compassref05_New.code [1, 1, 0, 1, 0] [] (compassref05_New.rq E K) [(4, .pointer (some ⟨t4, 0, none⟩))] H = compassref05_New.j2_t  t4  E H K := fun G => by kernel_rfl
  exact nodeR_imp compassref05_New.nok rfl ((k1 _).mpr h)
/-! ### compass/compassref05.Push (42) -/
noncomputable def compassref05_Push.A : An := { live := [(0, [0, 1, 2]), (1, [1, 2, 3, 6]), (2, [3, 6]), (3, [1, 2, 3, 6]), (4, [3, 6]), (5, [1, 2, 3, 6]), (6, [3, 6]), (7, [1, 2, 3, 6])], ord := [], stb := [], pre := [] }
noncomputable def compassref05_Push.code : Code := bodyOf Go.Proofs.Try.f42
theorem compassref05_Push.ok : okCode compassref05_Push.A 37 compassref05_Push.code = true := by kernel_rfl
def compassref05_Push.rq (E : Value → Hp → Prop) (K : Int → Int → (Option Addr) → Nat → Nat → Int → Int → Hp → Prop) : Ex → Fr → Hp → Prop := retQ T0 [.cell 6 40, .tmp 7] [40, 3] (fun r H => ldR (.tup [(true, [.i .i64, .i .i64, .sl, .i .i64]), (false, [.i .i64])]) r fun u => K (asI (cellV (tupV u 0) 0)) (asI (cellV (tupV u 0) 1)) (asS1 (cellV (tupV u 0) 2)) (asS2 (cellV (tupV u 0) 2)) (asS3 (cellV (tupV u 0) 2)) (asI (cellV (tupV u 0) 3)) (asI (tupV u 1)) H) E
def compassref05_Push.run (q0_Kind : Int) (q0_N : Int) (q0_Itemsp : Option Addr) (q0_Itemsn : Nat) (q0_Itemsc : Nat) (q0_Last : Int) (h1 : Int) (key2 : Int) (E : Value → Hp → Prop) (H : Hp) (K : Int → Int → (Option Addr) → Nat → Nat → Int → Int → Hp → Prop) : Prop := nodeM P0 T0 compassref05_Push.A compassref05_Push.code [] [] (compassref05_Push.rq E K) (argF 0 [.agg ⟨[.int .i64 q0_Kind, .int .i64 q0_N, .slice q0_Itemsp q0_Itemsn q0_Itemsc, .int .i64 q0_Last]⟩, .int .i64 h1, .int .i64 key2]) H
theorem compassref05_Push.of {q0_Kind : Int} {q0_N : Int} {q0_Itemsp : Option Addr} {q0_Itemsn : Nat} {q0_Itemsc : Nat} {q0_Last : Int} {h1 : Int} {key2 : Int} {E : Value → Hp → Prop} {H : Hp} {K : Int → Int → (Option Addr) → Nat → Nat → Int → Int → Hp → Prop} (h : compassref05_Push.run q0_Kind q0_N q0_Itemsp q0_Itemsn q0_Itemsc q0_Last h1 key2 E H K) : compassref05_Push.call q0_Kind q0_N q0_Itemsp q0_Itemsn q0_Itemsc q0_Last h1 key2 E H K :=
  callW_of T0_ok P0_mixed (A := compassref05_Push.A) (fn := Go.Proofs.Try.f42) Go.Proofs.Try.func42 rfl compassref05_Push.ok rfl h
def compassref05_Push.j1 (q3 : Nat) (t6 : Nat)  (E : Value → Hp → Prop) (H : Hp) (K : Int → Int → (Option Addr) → Nat → Nat → Int → Int → Hp → Prop) : Prop := nodeM P0 T0 compassref05_Push.A compassref05_Push.code [1, 0, 1, 0] [] (compassref05_Push.rq E K) [(3, .pointer (some ⟨q3, 0, none⟩)), (6, .pointer (some ⟨t6, 0, none⟩))] H
def compassref05_Push.j2 (h1 : Int) (key2 : Int) (q3 : Nat) (t6 : Nat)  (E : Value → Hp → Prop) (H : Hp) (K : Int → Int → (Option Addr) → Nat → Nat → Int → Int → Hp → Prop) : Prop := nodeM P0 T0 compassref05_Push.A compassref05_Push.code [1, 1, 1, 1] [] (compassref05_Push.rq E K) [(1, .int .i64 h1), (2, .int .i64 key2), (3, .pointer (some ⟨q3, 0, none⟩)), (6, .pointer (some ⟨t6, 0, none⟩))] H
theorem compassref05_Push.nok : nodesOk compassref05_Push.code [[0, 1, 0, 1], [1, 1, 1, 1]] = true := by kernel_rfl
def compassref05_Push.run_t (j1 : Nat → Nat → Hp → Prop) (j2 : Int → Int → Nat → Nat → Hp → Prop) (q0_Kind : Int) (q0_N : Int) (q0_Itemsp : Option Addr) (q0_Itemsn : Nat) (q0_Itemsc : Nat) (q0_Last : Int) (h1 : Int) (key2 : Int)  (E : Value → Hp → Prop) (H : Hp) (K : Int → Int → (Option Addr) → Nat → Nat → Int → Int → Hp → Prop) : Prop :=
  nw H ⟨[.int .i64 q0_Kind, .int .i64 q0_N, .slice q0_Itemsp q0_Itemsn q0_Itemsc, .int .i64 q0_Last], 40⟩ fun b_1 H_1 =>
  nw H_1 ⟨[.int .i64 0, .int .i64 0, .slice none 0 0, .int .i64 0], 40⟩ fun b_2 H_2 =>
  bcase (decide ((h1 : Int) < 0)) (
  j1 b_1 b_2 H_2)
  (ldI .i64 (H_2.get b_1 1) fun x_1 =>
  bcase (decide ((x_1 : Int) ≤ h1)) (
  j1 b_1 b_2 H_2)
  (ldI .i64 (H_2.get b_1 0) fun x_2 =>
  ldI .i64 (H_2.get b_1 1) fun x_3 =>
  ldS (H_2.get b_1 2) fun x_4p x_4n x_4c =>
  ldI .i64 (H_2.get b_1 3) fun x_5 =>
  compassref05_Find.call x_2 x_3 x_4p x_4n x_4c x_5 h1 E H_2 fun r_1 H_3 =>
  bcase (decide ((0 : Int) ≤ r_1)) (
  ldI .i64 (H_3.get b_1 0) fun x_6 =>
  ldI .i64 (H_3.get b_1 1) fun x_7 =>
  ldS (H_3.get b_1 2) fun x_8p x_8n x_8c =>
  ldI .i64 (H_3.get b_1 3) fun x_9 =>
  stC H_3 b_2 0 [.int .i64 x_6, .int .i64 x_7, .slice x_8p x_8n x_8c, .int .i64 x_9] fun H_4 =>
  ldI .i64 (H_4.get b_2 0) fun x_10 =>
  ldI .i64 (H_4.get b_2 1) fun x_11 =>
  ldS (H_4.get b_2 2) fun x_12p x_12n x_12c =>
  ldI .i64 (H_4.get b_2 3) fun x_13 =>
  K x_10 x_11 x_12p x_12n x_12c x_13 51 H_4)
  (ldI .i64 (H_3.get b_1 0) fun x_14 =>
  bcase (decide ((x_14 : Int) = 4)) (
  ldI .i64 (H_3.get b_1 3) fun x_15 =>
  bcase (decide ((key2 : Int) < x_15)) (
  ldI .i64 (H_3.get b_1 0) fun x_16 =>
  ldI .i64 (H_3.get b_1 1) fun x_17 =>
  ldS (H_3.get b_1 2) fun x_18p x_18n x_18c =>
  ldI .i64 (H_3.get b_1 3) fun x_19 =>
  stC H_3 b_2 0 [.int .i64 x_16, .int .i64 x_17, .slice x_18p x_18n x_18c, .int .i64 x_19] fun H_5 =>
  ldI .i64 (H_5.get b_2 0) fun x_20 =>
  ldI .i64 (H_5.get b_2 1) fun x_21 =>
  ldS (H_5.get b_2 2) fun x_22p x_22n x_22c =>
  ldI .i64 (H_5.get b_2 3) fun x_23 =>
  K x_20 x_21 x_22p x_22n x_22c x_23 80 H_5)
  (j2 h1 key2 b_1 b_2 H_3))
  (j2 h1 key2 b_1 b_2 H_3))))
theorem compassref05_Push.run_eq {q0_Kind : Int} {q0_N : Int} {q0_Itemsp : Option Addr} {q0_Itemsn : Nat} {q0_Itemsc : Nat} {q0_Last : Int} {h1 : Int} {key2 : Int} { E : Value → Hp → Prop} {H : Hp} {K : Int → Int → (Option Addr) → Nat → Nat → Int → Int → Hp → Prop} (h : compassref05_Push.run_t (fun q3 t6 H => compassref05_Push.j1 q3 t6  E H K) (fun h1 key2 q3 t6 H => compassref05_Push.j2 h1 key2 q3 t6  E H K) q0_Kind q0_N q0_Itemsp q0_Itemsn q0_Itemsc q0_Last h1 key2  E H K) : compassref05_Push.run q0_Kind q0_N q0_Itemsp q0_Itemsn q0_Itemsc q0_Last h1 key2  E H K := by
  have k1 : ∀ G : List Nat → Fr → Hp → Prop, nodeR P0 T0 compassref05_Push.A [[0, 1, 0, 1], [1, 1, 1, 1]] G compassref05_Push.code [] [] (compassref05_Push.rq E K) (argF 0 [.agg ⟨[.int .i64 q0_Kind, .int .i64 q0_N, .slice q0_Itemsp q0_Itemsn q0_Itemsc, .int .i64 q0_Last]⟩, .int .i64 h1, .int .i64 key2]) H = compassref05_Push.run_t (fun q3 t6 H => G [0, 1, 0, 1] [(3, .pointer (some ⟨q3, 0, none⟩)), (6, .pointer (some ⟨t6, 0, none⟩))] H) (fun h1 key2 q3 t6 H => G [1, 1, 1, 1] [(1, .int .i64 h1), (2, .int .i64 key2), (3, .pointer (some ⟨q3, 0, none⟩)), (6, .pointer (some ⟨t6, 0, none⟩))] H) q0_Kind q0_N q0_Itemsp q0_Itemsn q0_Itemsc q0_Last h1 key2  E H K := fun G => by kernel_rfl
  have k2 : compassref05_Push.run_t (fun q3 t6 H => compassref05_Push.j1 q3 t6  E H K) (fun h1 key2 q3 t6 H => compassref05_Push.j2 h1 key2 q3 t6  E H K) q0_Kind q0_N q0_Itemsp q0_Itemsn q0_Itemsc q0_Last h1 key2  E H K = compassref05_Push.run_t (fun q3 t6 H => (fun q F H => nodeM P0 T0 compassref05_Push.A compassref05_Push.code q.reverse [] (compassref05_Push.rq E K) F H) [0, 1, 0, 1] [(3, .pointer (some ⟨q3, 0, none⟩)), (6, .pointer (some ⟨t6, 0, none⟩))] H) (fun h1 key2 q3 t6 H => (fun q F H => nodeM P0 T0 compassref05_Push.A compassref05_Push.code q.reverse [] (compassref05_Push.rq E K) F H) [1, 1, 1, 1] [(1, .int .i64 h1), (2, .int .i64 key2), (3, .pointer (some ⟨q3, 0, none⟩)), (6, .pointer (some ⟨t6, 0, none⟩))] H) q0_Kind q0_N q0_Itemsp q0_Itemsn q0_Itemsc q0_Last h1 key2  E H K := by kernel_rfl
  exact nodeR_imp compassref05_Push.nok rfl ((k1 _).mpr (k2.mp h))
def compassref05_Push.j1_t  (q3 : Nat) (t6 : Nat)  (E : Value → Hp → Prop) (H : Hp) (K : Int → Int → (Option Addr) → Nat → Nat → Int → Int → Hp → Prop) : Prop :=
  ldI .i64 (H.get q3 0) fun x_1 =>
  ldI .i64 (H.get q3 1) fun x_2 =>
  ldS (H.get q3 2) fun x_3p x_3n x_3c =>
  ldI .i64 (H.get q3 3) fun x_4 =>
  stC H t6 0 [.int .i64 x_1, .int .i64 x_2, .slice x_3p x_3n x_3c, .int .i64 x_4] fun H_1 =>
  ldI .i64 (H_1.get t6 0) fun x_5 =>
  ldI .i64 (H_1.get t6 1) fun x_6 =>
  ldS (H_1.get t6 2) fun x_7p x_7n x_7c =>
  ldI .i64 (H_1.get t6 3) fun x_8 =>
  K x_5 x_6 x_7p x_7n x_7c x_8 30 H_1
theorem compassref05_Push.j1_eq {q3 : Nat} {t6 : Nat} { E : Value → Hp → Prop} {H : Hp} {K : Int → Int → (Option Addr) → Nat → Nat → Int → Int → Hp → Prop} (h : compassref05_Push.j1_t  q3 t6  E H K) : compassref05_Push.j1 q3 t6  E H K := by
  have k1 : ∀ G : List Nat → Fr → Hp → Prop, nodeR P0 T0 compassref05_Push.A [[0, 1, 0, 1], [1, 1, 1, 1]] G compassref05_Push.code [1, 0, 1, 0] [] (compassref05_Push.rq E K) [(3, .pointer (some ⟨q3, 0, none⟩)), (6, .pointer (some ⟨t6, 0, none⟩))] H = compassref05_Push.j1_t  q3 t6  E H K := fun G => by kernel_rfl
  exact nodeR_imp compassref05_Push.nok rfl ((k1 _).mpr h)
def compassref05_Push.j2_t  (h1 : Int) (key2 : Int) (q3 : Nat) (t6 : Nat)  (E : Value → Hp → Prop) (H : Hp) (K : Int → Int → (Option Addr) → Nat → Nat → Int → Int → Hp → Prop) : Prop :=
  ldI .i64 (H.get q3 0) fun x_1 =>
  ldI .i64 (H.get q3 1) fun x_2 =>
  ldS (H.get q3 2) fun x_3p x_3n x_3c =>
  ldI .i64 (H.get q3 3) fun x_4 =>
  compassref05_with.call x_1 x_2 x_3p x_3n x_3c x_4 h1 key2 E H fun r_1_Kind r_1_N r_1_Itemsp r_1_Itemsn r_1_Itemsc r_1_Last H_1 =>
  stC H_1 t6 0 [.int .i64 r_1_Kind, .int .i64 r_1_N, .slice r_1_Itemsp r_1_Itemsn r_1_Itemsc, .int .i64 r_1_Last] fun H_2 =>
  ldI .i64 (H_2.get t6 0) fun x_5 =>
  ldI .i64 (H_2.get t6 1) fun x_6 =>
  ldS (H_2.get t6 2) fun x_7p x_7n x_7c =>
  ldI .i64 (H_2.get t6 3) fun x_8 =>
  K x_5 x_6 x_7p x_7n x_7c x_8 0 H_2
theorem compassref05_Push.j2_eq {h1 : Int} {key2 : Int} {q3 : Nat} {t6 : Nat} { E : Value → Hp → Prop} {H : Hp} {K : Int → Int → (Option Addr) → Nat → Nat → Int → Int → Hp → Prop} (h : compassref05_Push.j2_t  h1 key2 q3 t6  E H K) : compassref05_Push.j2 h1 key2 q3 t6  E H K := by
  have k1 : ∀ G : List Nat → Fr → Hp → Prop, nodeR P0 T0 compassref05_Push.A [[0, 1, 0, 1], [1, 1, 1, 1]] G compassref05_Push.code [1, 1, 1, 1] [] (compassref05_Push.rq E K) [(1, .int .i64 h1), (2, .int .i64 key2), (3, .pointer (some ⟨q3, 0, none⟩)), (6, .pointer (some ⟨t6, 0, none⟩))] H = compassref05_Push.j2_t  h1 key2 q3 t6  E H K := fun G => by kernel_rfl
  exact nodeR_imp compassref05_Push.nok rfl ((k1 _).mpr h)
/-! ### compass/compassref05.Lower (43) -/
noncomputable def compassref05_Lower.A : An := { live := [(0, [0, 1, 2]), (1, [1, 2, 3, 6]), (2, [3, 6]), (3, [1, 2, 3, 6]), (4, [1, 2, 3, 6, 8]), (5, [3, 6]), (6, [1, 2, 3, 6, 8]), (7, [3, 6]), (8, [1, 2, 3, 6, 8]), (9, [3, 6]), (10, [1, 2, 3, 6, 8])], ord := [], stb := [], pre := [] }
noncomputable def compassref05_Lower.code : Code := bodyOf Go.Proofs.Try.f43
theorem compassref05_Lower.ok : okCode compassref05_Lower.A 50 compassref05_Lower.code = true := by kernel_rfl
def compassref05_Lower.rq (E : Value → Hp → Prop) (K : Int → Int → (Option Addr) → Nat → Nat → Int → Int → Hp → Prop) : Ex → Fr → Hp → Prop := retQ T0 [.cell 6 40, .tmp 7] [40, 3] (fun r H => ldR (.tup [(true, [.i .i64, .i .i64, .sl, .i .i64]), (false, [.i .i64])]) r fun u => K (asI (cellV (tupV u 0) 0)) (asI (cellV (tupV u 0) 1)) (asS1 (cellV (tupV u 0) 2)) (asS2 (cellV (tupV u 0) 2)) (asS3 (cellV (tupV u 0) 2)) (asI (cellV (tupV u 0) 3)) (asI (tupV u 1)) H) E
def compassref05_Lower.run (q0_Kind : Int) (q0_N : Int) (q0_Itemsp : Option Addr) (q0_Itemsn : Nat) (q0_Itemsc : Nat) (q0_Last : Int) (h1 : Int) (key2 : Int) (E : Value → Hp → Prop) (H : Hp) (K : Int → Int → (Option Addr) → Nat → Nat → Int → Int → Hp → Prop) : Prop := nodeM P0 T0 compassref05_Lower.A compassref05_Lower.code [] [] (compassref05_Lower.rq E K) (argF 0 [.agg ⟨[.int .i64 q0_Kind, .int .i64 q0_N, .slice q0_Itemsp q0_Itemsn q0_Itemsc, .int .i64 q0_Last]⟩, .int .i64 h1, .int .i64 key2]) H
theorem compassref05_Lower.of {q0_Kind : Int} {q0_N : Int} {q0_Itemsp : Option Addr} {q0_Itemsn : Nat} {q0_Itemsc : Nat} {q0_Last : Int} {h1 : Int} {key2 : Int} {E : Value → Hp → Prop} {H : Hp} {K : Int → Int → (Option Addr) → Nat → Nat → Int → Int → Hp → Prop} (h : compassref05_Lower.run q0_Kind q0_N q0_Itemsp q0_Itemsn q0_Itemsc q0_Last h1 key2 E H K) : compassref05_Lower.call q0_Kind q0_N q0_Itemsp q0_Itemsn q0_Itemsc q0_Last h1 key2 E H K :=
  callW_of T0_ok P0_mixed (A := compassref05_Lower.A) (fn := Go.Proofs.Try.f43) Go.Proofs.Try.func43 rfl compassref05_Lower.ok rfl h
def compassref05_Lower.j1 (q3 : Nat) (t6 : Nat)  (E : Value → Hp → Prop) (H : Hp) (K : Int → Int → (Option Addr) → Nat → Nat → Int → Int → Hp → Prop) : Prop := nodeM P0 T0 compassref05_Lower.A compassref05_Lower.code [1, 0, 1, 0] [] (compassref05_Lower.rq E K) [(3, .pointer (some ⟨q3, 0, none⟩)), (6, .pointer (some ⟨t6, 0, none⟩))] H
def compassref05_Lower.j2 (h1 : Int) (key2 : Int) (q3 : Nat) (t6 : Nat) (at8 : Int)  (E : Value → Hp → Prop) (H : Hp) (K : Int → Int → (Option Addr) → Nat → Nat → Int → Int → Hp → Prop) : Prop := nodeM P0 T0 compassref05_Lower.A compassref05_Lower.code [1, 1, 1, 1, 1, 1] [] (compassref05_Lower.rq E K) [(1, .int .i64 h1), (2, .int .i64 key2), (3, .pointer (some ⟨q3, 0, none⟩)), (6, .pointer (some ⟨t6, 0, none⟩)), (8, .int .i64 at8)] H
theorem compassref05_Lower.nok : nodesOk compassref05_Lower.code [[0, 1, 0, 1], [1, 1, 1, 1, 1, 1]] = true := by kernel_rfl
def compassref05_Lower.run_t (j1 : Nat → Nat → Hp → Prop) (j2 : Int → Int → Nat → Nat → Int → Hp → Prop) (q0_Kind : Int) (q0_N : Int) (q0_Itemsp : Option Addr) (q0_Itemsn : Nat) (q0_Itemsc : Nat) (q0_Last : Int) (h1 : Int) (key2 : Int)  (E : Value → Hp → Prop) (H : Hp) (K : Int → Int → (Option Addr) → Nat → Nat → Int → Int → Hp → Prop) : Prop :=
  nw H ⟨[.int .i64 q0_Kind, .int .i64 q0_N, .slice q0_Itemsp q0_Itemsn q0_Itemsc, .int .i64 q0_Last], 40⟩ fun b_1 H_1 =>
  nw H_1 ⟨[.int .i64 0, .int .i64 0, .slice none 0 0, .int .i64 0], 40⟩ fun b_2 H_2 =>
  bcase (decide ((h1 : Int) < 0)) (
  j1 b_1 b_2 H_2)
  (ldI .i64 (H_2.get b_1 1) fun x_1 =>
  bcase (decide ((x_1 : Int) ≤ h1)) (
  j1 b_1 b_2 H_2)
  (ldI .i64 (H_2.get b_1 0) fun x_2 =>
  ldI .i64 (H_2.get b_1 1) fun x_3 =>
  ldS (H_2.get b_1 2) fun x_4p x_4n x_4c =>
  ldI .i64 (H_2.get b_1 3) fun x_5 =>
  compassref05_Find.call x_2 x_3 x_4p x_4n x_4c x_5 h1 E H_2 fun r_1 H_3 =>
  bcase (decide ((r_1 : Int) < 0)) (
  ldI .i64 (H_3.get b_1 0) fun x_6 =>
  ldI .i64 (H_3.get b_1 1) fun x_7 =>
  ldS (H_3.get b_1 2) fun x_8p x_8n x_8c =>
  ldI .i64 (H_3.get b_1 3) fun x_9 =>
  stC H_3 b_2 0 [.int .i64 x_6, .int .i64 x_7, .slice x_8p x_8n x_8c, .int .i64 x_9] fun H_4 =>
  ldI .i64 (H_4.get b_2 0) fun x_10 =>
  ldI .i64 (H_4.get b_2 1) fun x_11 =>
  ldS (H_4.get b_2 2) fun x_12p x_12n x_12c =>
  ldI .i64 (H_4.get b_2 3) fun x_13 =>
  K x_10 x_11 x_12p x_12n x_12c x_13 2 H_4)
  (ldS (H_3.get b_1 2) fun x_14p x_14n x_14c =>
  ix x_14p x_14n r_1 2 fun b_3 o_1 =>
  ldI .i64 (H_3.get b_3 (o_1 + 1)) fun x_15 =>
  bcase (decide ((x_15 : Int) < key2)) (
  ldI .i64 (H_3.get b_1 0) fun x_16 =>
  ldI .i64 (H_3.get b_1 1) fun x_17 =>
  ldS (H_3.get b_1 2) fun x_18p x_18n x_18c =>
  ldI .i64 (H_3.get b_1 3) fun x_19 =>
  stC H_3 b_2 0 [.int .i64 x_16, .int .i64 x_17, .slice x_18p x_18n x_18c, .int .i64 x_19] fun H_5 =>
  ldI .i64 (H_5.get b_2 0) fun x_20 =>
  ldI .i64 (H_5.get b_2 1) fun x_21 =>
  ldS (H_5.get b_2 2) fun x_22p x_22n x_22c =>
  ldI .i64 (H_5.get b_2 3) fun x_23 =>
  K x_20 x_21 x_22p x_22n x_22c x_23 52 H_5)
  (ldI .i64 (H_3.get b_1 0) fun x_24 =>
  bcase (decide ((x_24 : Int) = 4)) (
  ldI .i64 (H_3.get b_1 3) fun x_25 =>
  bcase (decide ((key2 : Int) < x_25)) (
  ldI .i64 (H_3.get b_1 0) fun x_26 =>
  ldI .i64 (H_3.get b_1 1) fun x_27 =>
  ldS (H_3.get b_1 2) fun x_28p x_28n x_28c =>
  ldI .i64 (H_3.get b_1 3) fun x_29 =>
  stC H_3 b_2 0 [.int .i64 x_26, .int .i64 x_27, .slice x_28p x_28n x_28c, .int .i64 x_29] fun H_6 =>
  ldI .i64 (H_6.get b_2 0) fun x_30 =>
  ldI .i64 (H_6.get b_2 1) fun x_31 =>
  ldS (H_6.get b_2 2) fun x_32p x_32n x_32c =>
  ldI .i64 (H_6.get b_2 3) fun x_33 =>
  K x_30 x_31 x_32p x_32n x_32c x_33 80 H_6)
  (j2 h1 key2 b_1 b_2 r_1 H_3))
  (j2 h1 key2 b_1 b_2 r_1 H_3)))))
theorem compassref05_Lower.run_eq {q0_Kind : Int} {q0_N : Int} {q0_Itemsp : Option Addr} {q0_Itemsn : Nat} {q0_Itemsc : Nat} {q0_Last : Int} {h1 : Int} {key2 : Int} { E : Value → Hp → Prop} {H : Hp} {K : Int → Int → (Option Addr) → Nat → Nat → Int → Int → Hp → Prop} (h : compassref05_Lower.run_t (fun q3 t6 H => compassref05_Lower.j1 q3 t6  E H K) (fun h1 key2 q3 t6 at8 H => compassref05_Lower.j2 h1 key2 q3 t6 at8  E H K) q0_Kind q0_N q0_Itemsp q0_Itemsn q0_Itemsc q0_Last h1 key2  E H K) : compassref05_Lower.run q0_Kind q0_N q0_Itemsp q0_Itemsn q0_Itemsc q0_Last h1 key2  E H K := by
  have k1 : ∀ G : List Nat → Fr → Hp → Prop, nodeR P0 T0 compassref05_Lower.A [[0, 1, 0, 1], [1, 1, 1, 1, 1, 1]] G compassref05_Lower.code [] [] (compassref05_Lower.rq E K) (argF 0 [.agg ⟨[.int .i64 q0_Kind, .int .i64 q0_N, .slice q0_Itemsp q0_Itemsn q0_Itemsc, .int .i64 q0_Last]⟩, .int .i64 h1, .int .i64 key2]) H = compassref05_Lower.run_t (fun q3 t6 H => G [0, 1, 0, 1] [(3, .pointer (some ⟨q3, 0, none⟩)), (6, .pointer (some ⟨t6, 0, none⟩))] H) (fun h1 key2 q3 t6 at8 H => G [1, 1, 1, 1, 1, 1] [(1, .int .i64 h1), (2, .int .i64 key2), (3, .pointer (some ⟨q3, 0, none⟩)), (6, .pointer (some ⟨t6, 0, none⟩)), (8, .int .i64 at8)] H) q0_Kind q0_N q0_Itemsp q0_Itemsn q0_Itemsc q0_Last h1 key2  E H K := fun G => by kernel_rfl
  have k2 : compassref05_Lower.run_t (fun q3 t6 H => compassref05_Lower.j1 q3 t6  E H K) (fun h1 key2 q3 t6 at8 H => compassref05_Lower.j2 h1 key2 q3 t6 at8  E H K) q0_Kind q0_N q0_Itemsp q0_Itemsn q0_Itemsc q0_Last h1 key2  E H K = compassref05_Lower.run_t (fun q3 t6 H => (fun q F H => nodeM P0 T0 compassref05_Lower.A compassref05_Lower.code q.reverse [] (compassref05_Lower.rq E K) F H) [0, 1, 0, 1] [(3, .pointer (some ⟨q3, 0, none⟩)), (6, .pointer (some ⟨t6, 0, none⟩))] H) (fun h1 key2 q3 t6 at8 H => (fun q F H => nodeM P0 T0 compassref05_Lower.A compassref05_Lower.code q.reverse [] (compassref05_Lower.rq E K) F H) [1, 1, 1, 1, 1, 1] [(1, .int .i64 h1), (2, .int .i64 key2), (3, .pointer (some ⟨q3, 0, none⟩)), (6, .pointer (some ⟨t6, 0, none⟩)), (8, .int .i64 at8)] H) q0_Kind q0_N q0_Itemsp q0_Itemsn q0_Itemsc q0_Last h1 key2  E H K := by kernel_rfl
  exact nodeR_imp compassref05_Lower.nok rfl ((k1 _).mpr (k2.mp h))
def compassref05_Lower.j1_t  (q3 : Nat) (t6 : Nat)  (E : Value → Hp → Prop) (H : Hp) (K : Int → Int → (Option Addr) → Nat → Nat → Int → Int → Hp → Prop) : Prop :=
  ldI .i64 (H.get q3 0) fun x_1 =>
  ldI .i64 (H.get q3 1) fun x_2 =>
  ldS (H.get q3 2) fun x_3p x_3n x_3c =>
  ldI .i64 (H.get q3 3) fun x_4 =>
  stC H t6 0 [.int .i64 x_1, .int .i64 x_2, .slice x_3p x_3n x_3c, .int .i64 x_4] fun H_1 =>
  ldI .i64 (H_1.get t6 0) fun x_5 =>
  ldI .i64 (H_1.get t6 1) fun x_6 =>
  ldS (H_1.get t6 2) fun x_7p x_7n x_7c =>
  ldI .i64 (H_1.get t6 3) fun x_8 =>
  K x_5 x_6 x_7p x_7n x_7c x_8 30 H_1
theorem compassref05_Lower.j1_eq {q3 : Nat} {t6 : Nat} { E : Value → Hp → Prop} {H : Hp} {K : Int → Int → (Option Addr) → Nat → Nat → Int → Int → Hp → Prop} (h : compassref05_Lower.j1_t  q3 t6  E H K) : compassref05_Lower.j1 q3 t6  E H K := by
  have k1 : ∀ G : List Nat → Fr → Hp → Prop, nodeR P0 T0 compassref05_Lower.A [[0, 1, 0, 1], [1, 1, 1, 1, 1, 1]] G compassref05_Lower.code [1, 0, 1, 0] [] (compassref05_Lower.rq E K) [(3, .pointer (some ⟨q3, 0, none⟩)), (6, .pointer (some ⟨t6, 0, none⟩))] H = compassref05_Lower.j1_t  q3 t6  E H K := fun G => by kernel_rfl
  exact nodeR_imp compassref05_Lower.nok rfl ((k1 _).mpr h)
def compassref05_Lower.j2_t  (h1 : Int) (key2 : Int) (q3 : Nat) (t6 : Nat) (at8 : Int)  (E : Value → Hp → Prop) (H : Hp) (K : Int → Int → (Option Addr) → Nat → Nat → Int → Int → Hp → Prop) : Prop :=
  ldI .i64 (H.get q3 0) fun x_1 =>
  ldI .i64 (H.get q3 1) fun x_2 =>
  ldS (H.get q3 2) fun x_3p x_3n x_3c =>
  ldI .i64 (H.get q3 3) fun x_4 =>
  compassref05_without.call x_1 x_2 x_3p x_3n x_3c x_4 at8 E H fun r_1_Kind r_1_N r_1_Itemsp r_1_Itemsn r_1_Itemsc r_1_Last H_1 =>
  compassref05_with.call r_1_Kind r_1_N r_1_Itemsp r_1_Itemsn r_1_Itemsc r_1_Last h1 key2 E H_1 fun r_2_Kind r_2_N r_2_Itemsp r_2_Itemsn r_2_Itemsc r_2_Last H_2 =>
  stC H_2 t6 0 [.int .i64 r_2_Kind, .int .i64 r_2_N, .slice r_2_Itemsp r_2_Itemsn r_2_Itemsc, .int .i64 r_2_Last] fun H_3 =>
  ldI .i64 (H_3.get t6 0) fun x_5 =>
  ldI .i64 (H_3.get t6 1) fun x_6 =>
  ldS (H_3.get t6 2) fun x_7p x_7n x_7c =>
  ldI .i64 (H_3.get t6 3) fun x_8 =>
  K x_5 x_6 x_7p x_7n x_7c x_8 0 H_3
theorem compassref05_Lower.j2_eq {h1 : Int} {key2 : Int} {q3 : Nat} {t6 : Nat} {at8 : Int} { E : Value → Hp → Prop} {H : Hp} {K : Int → Int → (Option Addr) → Nat → Nat → Int → Int → Hp → Prop} (h : compassref05_Lower.j2_t  h1 key2 q3 t6 at8  E H K) : compassref05_Lower.j2 h1 key2 q3 t6 at8  E H K := by
  have k1 : ∀ G : List Nat → Fr → Hp → Prop, nodeR P0 T0 compassref05_Lower.A [[0, 1, 0, 1], [1, 1, 1, 1, 1, 1]] G compassref05_Lower.code [1, 1, 1, 1, 1, 1] [] (compassref05_Lower.rq E K) [(1, .int .i64 h1), (2, .int .i64 key2), (3, .pointer (some ⟨q3, 0, none⟩)), (6, .pointer (some ⟨t6, 0, none⟩)), (8, .int .i64 at8)] H = compassref05_Lower.j2_t  h1 key2 q3 t6 at8  E H K := fun G => by kernel_rfl
  exact nodeR_imp compassref05_Lower.nok rfl ((k1 _).mpr h)
/-! ### compass/compassref05.Pop (44) -/
noncomputable def compassref05_Pop.A : An := { live := [(0, [0]), (1, [1, 2, 3]), (2, [1, 2, 3, 5, 6]), (3, [1, 2, 3, 5, 6]), (4, [1, 2, 3, 5]), (5, [1, 2, 3, 5]), (6, [1, 2, 3, 5])], ord := [(3, [0, 1, 2, 3, 4, 5]), (4, [0, 1, 2, 3, 4, 5, 6]), (6, [0, 1, 2, 3, 4])], stb := [(3, [(3, [1])]), (4, [(4, [0])]), (6, [(2, [1])])], pre := [(3, [[], [], [], [0], [0, 1, 3], [0, 1, 2, 3, 4]]), (4, [[], [], [], [2], [1, 2, 3], [0, 1, 2, 3, 4], [0, 1, 2, 3, 4, 5]]), (6, [[], [], [0], [0, 1, 2], [0, 1, 2, 3]])] }
noncomputable def compassref05_Pop.code : Code := bodyOf Go.Proofs.Try.f44
theorem compassref05_Pop.ok : okCode compassref05_Pop.A 28 compassref05_Pop.code = true := by kernel_rfl
def compassref05_Pop.rq (E : Value → Hp → Prop) (K : Int → Int → (Option Addr) → Nat → Nat → Int → Int → Int → Int → Hp → Prop) : Ex → Fr → Hp → Prop := retQ T0 [.cell 2 40, .cell 3 107, .tmp 4] [40, 107, 3] (fun r H => ldR (.tup [(true, [.i .i64, .i .i64, .sl, .i .i64]), (true, [.i .i64, .i .i64]), (false, [.i .i64])]) r fun u => K (asI (cellV (tupV u 0) 0)) (asI (cellV (tupV u 0) 1)) (asS1 (cellV (tupV u 0) 2)) (asS2 (cellV (tupV u 0) 2)) (asS3 (cellV (tupV u 0) 2)) (asI (cellV (tupV u 0) 3)) (asI (cellV (tupV u 1) 0)) (asI (cellV (tupV u 1) 1)) (asI (tupV u 2)) H) E
def compassref05_Pop.run (q0_Kind : Int) (q0_N : Int) (q0_Itemsp : Option Addr) (q0_Itemsn : Nat) (q0_Itemsc : Nat) (q0_Last : Int) (E : Value → Hp → Prop) (H : Hp) (K : Int → Int → (Option Addr) → Nat → Nat → Int → Int → Int → Int → Hp → Prop) : Prop := nodeM P0 T0 compassref05_Pop.A compassref05_Pop.code [] [] (compassref05_Pop.rq E K) (argF 0 [.agg ⟨[.int .i64 q0_Kind, .int .i64 q0_N, .slice q0_Itemsp q0_Itemsn q0_Itemsc, .int .i64 q0_Last]⟩]) H
theorem compassref05_Pop.of {q0_Kind : Int} {q0_N : Int} {q0_Itemsp : Option Addr} {q0_Itemsn : Nat} {q0_Itemsc : Nat} {q0_Last : Int} {E : Value → Hp → Prop} {H : Hp} {K : Int → Int → (Option Addr) → Nat → Nat → Int → Int → Int → Int → Hp → Prop} (h : compassref05_Pop.run q0_Kind q0_N q0_Itemsp q0_Itemsn q0_Itemsc q0_Last E H K) : compassref05_Pop.call q0_Kind q0_N q0_Itemsp q0_Itemsn q0_Itemsc q0_Last E H K :=
  callW_of T0_ok P0_mixed (A := compassref05_Pop.A) (fn := Go.Proofs.Try.f44) Go.Proofs.Try.func44 rfl compassref05_Pop.ok rfl h
theorem compassref05_Pop.nok : nodesOk compassref05_Pop.code [] = true := by kernel_rfl
def compassref05_Pop.run_t  (q0_Kind : Int) (q0_N : Int) (q0_Itemsp : Option Addr) (q0_Itemsn : Nat) (q0_Itemsc : Nat) (q0_Last : Int)  (E : Value → Hp → Prop) (H : Hp) (K : Int → Int → (Option Addr) → Nat → Nat → Int → Int → Int → Int → Hp → Prop) : Prop :=
  nw H ⟨[.int .i64 q0_Kind, .int .i64 q0_N, .slice q0_Itemsp q0_Itemsn q0_Itemsc, .int .i64 q0_Last], 40⟩ fun b_1 H_1 =>
  nw H_1 ⟨[.int .i64 0, .int .i64 0, .slice none 0 0, .int .i64 0], 40⟩ fun b_2 H_2 =>
  nw H_2 ⟨[.int .i64 0, .int .i64 0], 107⟩ fun b_3 H_3 =>
  ldI .i64 (H_3.get b_1 0) fun x_1 =>
  ldI .i64 (H_3.get b_1 1) fun x_2 =>
  ldS (H_3.get b_1 2) fun x_3p x_3n x_3c =>
  ldI .i64 (H_3.get b_1 3) fun x_4 =>
  compassref05_Top.call x_1 x_2 x_3p x_3n x_3c x_4 E H_3 fun r_1_Handle r_1_Key r_2 H_4 =>
  nw H_4 ⟨[.int .i64 0, .int .i64 0], 107⟩ fun b_4 H_5 =>
  stC H_5 b_4 0 [.int .i64 r_1_Handle, .int .i64 r_1_Key] fun H_6 =>
  bcase (!decide ((r_2 : Int) = 0)) (
  ldI .i64 (H_6.get b_1 0) fun x_5 =>
  ldI .i64 (H_6.get b_1 1) fun x_6 =>
  ldS (H_6.get b_1 2) fun x_7p x_7n x_7c =>
  ldI .i64 (H_6.get b_1 3) fun x_8 =>
  ldI .i64 (H_6.get b_4 0) fun x_9 =>
  ldI .i64 (H_6.get b_4 1) fun x_10 =>
  stC H_6 b_2 0 [.int .i64 x_5, .int .i64 x_6, .slice x_7p x_7n x_7c, .int .i64 x_8] fun H_7 =>
  (ldI .i64 (H_7.get b_4 0) fun x_17 =>
  ldI .i64 (H_7.get b_4 1) fun x_18 =>
  Value.agg ⟨[.int .i64 x_17, .int .i64 x_18]⟩ = Value.agg ⟨[.int .i64 x_9, .int .i64 x_10]⟩) ∧
  stC H_7 b_3 0 [.int .i64 x_9, .int .i64 x_10] fun H_8 =>
  ldI .i64 (H_8.get b_2 0) fun x_11 =>
  ldI .i64 (H_8.get b_2 1) fun x_12 =>
  ldS (H_8.get b_2 2) fun x_13p x_13n x_13c =>
  ldI .i64 (H_8.get b_2 3) fun x_14 =>
  ldI .i64 (H_8.get b_3 0) fun x_15 =>
  ldI .i64 (H_8.get b_3 1) fun x_16 =>
  K x_11 x_12 x_13p x_13n x_13c x_14 x_15 x_16 r_2 H_8)
  (ldI .i64 (H_6.get b_1 0) fun x_19 =>
  ldI .i64 (H_6.get b_1 1) fun x_20 =>
  ldS (H_6.get b_1 2) fun x_21p x_21n x_21c =>
  ldI .i64 (H_6.get b_1 3) fun x_22 =>
  ldI .i64 (H_6.get b_1 0) fun x_23 =>
  ldI .i64 (H_6.get b_1 1) fun x_24 =>
  ldS (H_6.get b_1 2) fun x_25p x_25n x_25c =>
  ldI .i64 (H_6.get b_1 3) fun x_26 =>
  ldI .i64 (H_6.get b_4 0) fun x_27 =>
  compassref05_Find.call x_23 x_24 x_25p x_25n x_25c x_26 x_27 E H_6 fun r_3 H_9 =>
  (ldI .i64 (H_9.get b_1 0) fun x_43 =>
  ldI .i64 (H_9.get b_1 1) fun x_44 =>
  ldS (H_9.get b_1 2) fun x_45p x_45n x_45c =>
  ldI .i64 (H_9.get b_1 3) fun x_46 =>
  Value.agg ⟨[.int .i64 x_43, .int .i64 x_44, .slice x_45p x_45n x_45c, .int .i64 x_46]⟩ = Value.agg ⟨[.int .i64 x_19, .int .i64 x_20, .slice x_21p x_21n x_21c, .int .i64 x_22]⟩) ∧
  compassref05_without.call x_19 x_20 x_21p x_21n x_21c x_22 r_3 E H_9 fun r_4_Kind r_4_N r_4_Itemsp r_4_Itemsn r_4_Itemsc r_4_Last H_10 =>
  stC H_10 b_1 0 [.int .i64 r_4_Kind, .int .i64 r_4_N, .slice r_4_Itemsp r_4_Itemsn r_4_Itemsc, .int .i64 r_4_Last] fun H_11 =>
  ldI .i64 (H_11.get b_4 1) fun x_28 =>
  stC H_11 b_1 3 [.int .i64 x_28] fun H_12 =>
  ldI .i64 (H_12.get b_1 0) fun x_29 =>
  ldI .i64 (H_12.get b_1 1) fun x_30 =>
  ldS (H_12.get b_1 2) fun x_31p x_31n x_31c =>
  ldI .i64 (H_12.get b_1 3) fun x_32 =>
  ldI .i64 (H_12.get b_4 0) fun x_33 =>
  ldI .i64 (H_12.get b_4 1) fun x_34 =>
  stC H_12 b_2 0 [.int .i64 x_29, .int .i64 x_30, .slice x_31p x_31n x_31c, .int .i64 x_32] fun H_13 =>
  (ldI .i64 (H_13.get b_4 0) fun x_41 =>
  ldI .i64 (H_13.get b_4 1) fun x_42 =>
  Value.agg ⟨[.int .i64 x_41, .int .i64 x_42]⟩ = Value.agg ⟨[.int .i64 x_33, .int .i64 x_34]⟩) ∧
  stC H_13 b_3 0 [.int .i64 x_33, .int .i64 x_34] fun H_14 =>
  ldI .i64 (H_14.get b_2 0) fun x_35 =>
  ldI .i64 (H_14.get b_2 1) fun x_36 =>
  ldS (H_14.get b_2 2) fun x_37p x_37n x_37c =>
  ldI .i64 (H_14.get b_2 3) fun x_38 =>
  ldI .i64 (H_14.get b_3 0) fun x_39 =>
  ldI .i64 (H_14.get b_3 1) fun x_40 =>
  K x_35 x_36 x_37p x_37n x_37c x_38 x_39 x_40 0 H_14)
theorem compassref05_Pop.run_eq {q0_Kind : Int} {q0_N : Int} {q0_Itemsp : Option Addr} {q0_Itemsn : Nat} {q0_Itemsc : Nat} {q0_Last : Int} { E : Value → Hp → Prop} {H : Hp} {K : Int → Int → (Option Addr) → Nat → Nat → Int → Int → Int → Int → Hp → Prop} (h : compassref05_Pop.run_t  q0_Kind q0_N q0_Itemsp q0_Itemsn q0_Itemsc q0_Last  E H K) : compassref05_Pop.run q0_Kind q0_N q0_Itemsp q0_Itemsn q0_Itemsc q0_Last  E H K := by
  have k1 : ∀ G : List Nat → Fr → Hp → Prop, nodeR P0 T0 compassref05_Pop.A [] G compassref05_Pop.code [] [] (compassref05_Pop.rq E K) (argF 0 [.agg ⟨[.int .i64 q0_Kind, .int .i64 q0_N, .slice q0_Itemsp q0_Itemsn q0_Itemsc, .int .i64 q0_Last]⟩]) H = compassref05_Pop.run_t  q0_Kind q0_N q0_Itemsp q0_Itemsn q0_Itemsc q0_Last  E H K := fun G => by kernel_rfl
  exact nodeR_imp compassref05_Pop.nok rfl ((k1 _).mpr h)
/-! ### compass/compassref05.Top (45) -/
noncomputable def compassref05_Top.A : An := { live := [(0, [0]), (1, [1, 2]), (2, [2]), (3, [1, 2]), (4, [1, 2, 4]), (5, [1, 2, 4, 5]), (6, [1, 2, 4, 5]), (7, [1, 2, 4, 5]), (8, [1, 2, 4, 5, 6]), (9, [1, 2, 4, 5, 6]), (10, [2, 4])], ord := [], stb := [], pre := [] }
noncomputable def compassref05_Top.code : Code := bodyOf Go.Proofs.Try.f45
theorem compassref05_Top.ok : okCode compassref05_Top.A 49 compassref05_Top.code = true := by kernel_rfl
def compassref05_Top.rq (E : Value → Hp → Prop) (K : Int → Int → Int → Hp → Prop) : Ex → Fr → Hp → Prop := retQ T0 [.cell 2 107, .tmp 3] [107, 3] (fun r H => ldR (.tup [(true, [.i .i64, .i .i64]), (false, [.i .i64])]) r fun u => K (asI (cellV (tupV u 0) 0)) (asI (cellV (tupV u 0) 1)) (asI (tupV u 1)) H) E
def compassref05_Top.run (q0_Kind : Int) (q0_N : Int) (q0_Itemsp : Option Addr) (q0_Itemsn : Nat) (q0_Itemsc : Nat) (q0_Last : Int) (E : Value → Hp → Prop) (H : Hp) (K : Int → Int → Int → Hp → Prop) : Prop := nodeM P0 T0 compassref05_Top.A compassref05_Top.code [] [] (compassref05_Top.rq E K) (argF 0 [.agg ⟨[.int .i64 q0_Kind, .int .i64 q0_N, .slice q0_Itemsp q0_Itemsn q0_Itemsc, .int .i64 q0_Last]⟩]) H
theorem compassref05_Top.of {q0_Kind : Int} {q0_N : Int} {q0_Itemsp : Option Addr} {q0_Itemsn : Nat} {q0_Itemsc : Nat} {q0_Last : Int} {E : Value → Hp → Prop} {H : Hp} {K : Int → Int → Int → Hp → Prop} (h : compassref05_Top.run q0_Kind q0_N q0_Itemsp q0_Itemsn q0_Itemsc q0_Last E H K) : compassref05_Top.call q0_Kind q0_N q0_Itemsp q0_Itemsn q0_Itemsc q0_Last E H K :=
  callW_of T0_ok P0_mixed (A := compassref05_Top.A) (fn := Go.Proofs.Try.f45) Go.Proofs.Try.func45 rfl compassref05_Top.ok rfl h
noncomputable def compassref05_Top.f1 (q1 : Nat) (t2 : Nat) (best4 : Nat) (i5 : Int) : Fr := [(1, .pointer (some ⟨q1, 0, none⟩)), (2, .pointer (some ⟨t2, 0, none⟩)), (4, .pointer (some ⟨best4, 0, none⟩)), (5, .int .i64 i5)]
def compassref05_Top.j1 (q1 : Nat) (t2 : Nat) (best4 : Nat) (i5 : Int) (x6 : Nat) (X1 : Fr → Hp → Prop) (E : Value → Hp → Prop) (H : Hp) (K : Int → Int → Int → Hp → Prop) : Prop := nodeM P0 T0 compassref05_Top.A compassref05_Top.code [1, 1, 1, 0, 1, 0, 0, 1, 0, 0, 1, 1, 0] [X1] (compassref05_Top.rq E K) [(1, .pointer (some ⟨q1, 0, none⟩)), (2, .pointer (some ⟨t2, 0, none⟩)), (4, .pointer (some ⟨best4, 0, none⟩)), (5, .int .i64 i5), (6, .pointer (some ⟨x6, 0, none⟩))] H
def compassref05_Top.j2 (q1 : Nat) (t2 : Nat) (best4 : Nat) (i5 : Int) (X1 : Fr → Hp → Prop) (E : Value → Hp → Prop) (H : Hp) (K : Int → Int → Int → Hp → Prop) : Prop := nodeM P0 T0 compassref05_Top.A compassref05_Top.code [1, 1, 1, 0, 1, 0, 0, 1, 1] [X1] (compassref05_Top.rq E K) [(1, .pointer (some ⟨q1, 0, none⟩)), (2, .pointer (some ⟨t2, 0, none⟩)), (4, .pointer (some ⟨best4, 0, none⟩)), (5, .int .i64 i5)] H
def compassref05_Top.j3 (t2 : Nat) (best4 : Nat)  (E : Value → Hp → Prop) (H : Hp) (K : Int → Int → Int → Hp → Prop) : Prop := nodeM P0 T0 compassref05_Top.A compassref05_Top.code [1, 1, 1, 1] [] (compassref05_Top.rq E K) [(2, .pointer (some ⟨t2, 0, none⟩)), (4, .pointer (some ⟨best4, 0, none⟩))] H
def compassref05_Top.l1 (q1 : Nat) (t2 : Nat) (best4 : Nat) (i5 : Int)  (E : Value → Hp → Prop) (H : Hp) (K : Int → Int → Int → Hp → Prop) : Prop := nodeM P0 T0 compassref05_Top.A compassref05_Top.code [1, 1, 1, 0, 1, 0] [] (compassref05_Top.rq E K) (compassref05_Top.f1 q1 t2 best4 i5) H
def compassref05_Top.b1 (q1 : Nat) (t2 : Nat) (best4 : Nat) (i5 : Int)  (X1 : Fr → Hp → Prop) (E : Value → Hp → Prop) (H : Hp) (K : Int → Int → Int → Hp → Prop) : Prop := nodeM P0 T0 compassref05_Top.A compassref05_Top.code [1, 1, 1, 0, 1, 0, 0] [X1] (compassref05_Top.rq E K) (compassref05_Top.f1 q1 t2 best4 i5) H
theorem compassref05_Top.l1_rule { E : Value → Hp → Prop} {K : Int → Int → Int → Hp → Prop} (I : Nat → Nat → Nat → Int → Hp → Prop) (μ : Nat → Nat → Nat → Int → Hp → Nat)
    (h : ∀ q1 t2 best4 i5 H, I q1 t2 best4 i5 H → ∀ X : Fr → Hp → Prop, (∀ q1' t2' best4' i5' H', I q1' t2' best4' i5' H' → μ q1' t2' best4' i5' H' < μ q1 t2 best4 i5 H → X (compassref05_Top.f1 q1' t2' best4' i5') H') → compassref05_Top.b1 q1 t2 best4 i5  X E H K)
    {q1 : Nat} {t2 : Nat} {best4 : Nat} {i5 : Int} {H : Hp} (hI : I q1 t2 best4 i5 H) : compassref05_Top.l1 q1 t2 best4 i5  E H K :=
  loop_rule (S := Nat × Nat × Nat × Int) (fun s => compassref05_Top.f1 (s.1) (s.2.1) (s.2.2.1) (s.2.2.2)) (fun s H => I (s.1) (s.2.1) (s.2.2.1) (s.2.2.2) H) (fun s H => μ (s.1) (s.2.1) (s.2.2.1) (s.2.2.2) H) (fun s H hI X hX => h (s.1) (s.2.1) (s.2.2.1) (s.2.2.2) H hI X fun q1' t2' best4' i5' H' hI' hlt => hX (q1', t2', best4', i5') H' hI' hlt) (s := (q1, t2, best4, i5)) rfl hI
theorem compassref05_Top.nok : nodesOk compassref05_Top.code [[0, 1, 0, 1, 1, 1], [0, 1, 1, 0, 0, 1, 0, 0, 1, 0, 1, 1, 1], [1, 1, 0, 0, 1, 0, 1, 1, 1], [1, 1, 1, 1]] = true := by kernel_rfl
def compassref05_Top.run_t (l1 : Nat → Nat → Nat → Int → Hp → Prop) (q0_Kind : Int) (q0_N : Int) (q0_Itemsp : Option Addr) (q0_Itemsn : Nat) (q0_Itemsc : Nat) (q0_Last : Int)  (E : Value → Hp → Prop) (H : Hp) (K : Int → Int → Int → Hp → Prop) : Prop :=
  nw H ⟨[.int .i64 q0_Kind, .int .i64 q0_N, .slice q0_Itemsp q0_Itemsn q0_Itemsc, .int .i64 q0_Last], 40⟩ fun b_1 H_1 =>
  nw H_1 ⟨[.int .i64 0, .int .i64 0], 107⟩ fun b_2 H_2 =>
  ldS (H_2.get b_1 2) fun x_1p x_1n x_1c =>
  bcase (decide (((x_1n : Int) : Int) = 0)) (
  stC H_2 b_2 0 [.int .i64 0, .int .i64 0] fun H_3 =>
  ldI .i64 (H_3.get b_2 0) fun x_2 =>
  ldI .i64 (H_3.get b_2 1) fun x_3 =>
  K x_2 x_3 4 H_3)
  (ldS (H_2.get b_1 2) fun x_4p x_4n x_4c =>
  ix x_4p x_4n 0 2 fun b_3 o_1 =>
  ldI .i64 (H_2.get b_3 o_1) fun x_5 =>
  ldI .i64 (H_2.get b_3 (o_1 + 1)) fun x_6 =>
  nw H_2 ⟨[.int .i64 0, .int .i64 0], 107⟩ fun b_4 H_4 =>
  stC H_4 b_4 0 [.int .i64 x_5, .int .i64 x_6] fun H_5 =>
  l1 b_1 b_2 b_4 1 H_5)
theorem compassref05_Top.run_eq {q0_Kind : Int} {q0_N : Int} {q0_Itemsp : Option Addr} {q0_Itemsn : Nat} {q0_Itemsc : Nat} {q0_Last : Int} { E : Value → Hp → Prop} {H : Hp} {K : Int → Int → Int → Hp → Prop} (h : compassref05_Top.run_t (fun q1 t2 best4 i5 H => compassref05_Top.l1 q1 t2 best4 i5  E H K) q0_Kind q0_N q0_Itemsp q0_Itemsn q0_Itemsc q0_Last  E H K) : compassref05_Top.run q0_Kind q0_N q0_Itemsp q0_Itemsn q0_Itemsc q0_Last  E H K := by
  have k1 : ∀ G : List Nat → Fr → Hp → Prop, nodeR P0 T0 compassref05_Top.A [[0, 1, 0, 1, 1, 1], [0, 1, 1, 0, 0, 1, 0, 0, 1, 0, 1, 1, 1], [1, 1, 0, 0, 1, 0, 1, 1, 1], [1, 1, 1, 1]] G compassref05_Top.code [] [] (compassref05_Top.rq E K) (argF 0 [.agg ⟨[.int .i64 q0_Kind, .int .i64 q0_N, .slice q0_Itemsp q0_Itemsn q0_Itemsc, .int .i64 q0_Last]⟩]) H = compassref05_Top.run_t (fun q1 t2 best4 i5 H => G [0, 1, 0, 1, 1, 1] [(1, .pointer (some ⟨q1, 0, none⟩)), (2, .pointer (some ⟨t2, 0, none⟩)), (4, .pointer (some ⟨best4, 0, none⟩)), (5, .int .i64 i5)] H) q0_Kind q0_N q0_Itemsp q0_Itemsn q0_Itemsc q0_Last  E H K := fun G => by kernel_rfl
  have k2 : compassref05_Top.run_t (fun q1 t2 best4 i5 H => compassref05_Top.l1 q1 t2 best4 i5  E H K) q0_Kind q0_N q0_Itemsp q0_Itemsn q0_Itemsc q0_Last  E H K = compassref05_Top.run_t (fun q1 t2 best4 i5 H => (fun q F H => nodeM P0 T0 compassref05_Top.A compassref05_Top.code q.reverse [] (compassref05_Top.rq E K) F H) [0, 1, 0, 1, 1, 1] [(1, .pointer (some ⟨q1, 0, none⟩)), (2, .pointer (some ⟨t2, 0, none⟩)), (4, .pointer (some ⟨best4, 0, none⟩)), (5, .int .i64 i5)] H) q0_Kind q0_N q0_Itemsp q0_Itemsn q0_Itemsc q0_Last  E H K := by kernel_rfl
  exact nodeR_imp compassref05_Top.nok rfl ((k1 _).mpr (k2.mp h))
def compassref05_Top.j1_t (j2 : Nat → Nat → Nat → Int → Hp → Prop) (q1 : Nat) (t2 : Nat) (best4 : Nat) (i5 : Int) (x6 : Nat) (X1 : Fr → Hp → Prop) (E : Value → Hp → Prop) (H : Hp) (K : Int → Int → Int → Hp → Prop) : Prop :=
  ldI .i64 (H.get x6 0) fun x_1 =>
  ldI .i64 (H.get x6 1) fun x_2 =>
  stC H best4 0 [.int .i64 x_1, .int .i64 x_2] fun H_1 =>
  j2 q1 t2 best4 i5 H_1
theorem compassref05_Top.j1_eq {q1 : Nat} {t2 : Nat} {best4 : Nat} {i5 : Int} {x6 : Nat} {X1 : Fr → Hp → Prop} { E : Value → Hp → Prop} {H : Hp} {K : Int → Int → Int → Hp → Prop} (h : compassref05_Top.j1_t (fun q1 t2 best4 i5 H => compassref05_Top.j2 q1 t2 best4 i5 X1 E H K) q1 t2 best4 i5 x6 X1 E H K) : compassref05_Top.j1 q1 t2 best4 i5 x6 X1 E H K := by
  have k1 : ∀ G : List Nat → Fr → Hp → Prop, nodeR P0 T0 compassref05_Top.A [[0, 1, 0, 1, 1, 1], [0, 1, 1, 0, 0, 1, 0, 0, 1, 0, 1, 1, 1], [1, 1, 0, 0, 1, 0, 1, 1, 1], [1, 1, 1, 1]] G compassref05_Top.code [1, 1, 1, 0, 1, 0, 0, 1, 0, 0, 1, 1, 0] [X1] (compassref05_Top.rq E K) [(1, .pointer (some ⟨q1, 0, none⟩)), (2, .pointer (some ⟨t2, 0, none⟩)), (4, .pointer (some ⟨best4, 0, none⟩)), (5, .int .i64 i5), (6, .pointer (some ⟨x6, 0, none⟩))] H = compassref05_Top.j1_t (fun q1 t2 best4 i5 H => G [1, 1, 0, 0, 1, 0, 1, 1, 1] [(1, .pointer (some ⟨q1, 0, none⟩)), (2, .pointer (some ⟨t2, 0, none⟩)), (4, .pointer (some ⟨best4, 0, none⟩)), (5, .int .i64 i5)] H) q1 t2 best4 i5 x6 X1 E H K := fun G => by kernel_rfl
  have k2 : compassref05_Top.j1_t (fun q1 t2 best4 i5 H => compassref05_Top.j2 q1 t2 best4 i5 X1 E H K) q1 t2 best4 i5 x6 X1 E H K = compassref05_Top.j1_t (fun q1 t2 best4 i5 H => (fun q F H => nodeM P0 T0 compassref05_Top.A compassref05_Top.code q.reverse [X1] (compassref05_Top.rq E K) F H) [1, 1, 0, 0, 1, 0, 1, 1, 1] [(1, .pointer (some ⟨q1, 0, none⟩)), (2, .pointer (some ⟨t2, 0, none⟩)), (4, .pointer (some ⟨best4, 0, none⟩)), (5, .int .i64 i5)] H) q1 t2 best4 i5 x6 X1 E H K := by kernel_rfl
  exact nodeR_imp compassref05_Top.nok rfl ((k1 _).mpr (k2.mp h))
def compassref05_Top.j2_t  (q1 : Nat) (t2 : Nat) (best4 : Nat) (i5 : Int) (X1 : Fr → Hp → Prop) (E : Value → Hp → Prop) (H : Hp) (K : Int → Int → Int → Hp → Prop) : Prop :=
  X1 (compassref05_Top.f1 q1 t2 best4 (IntKind.wrap .i64 (i5 + 1))) H
theorem compassref05_Top.j2_eq {q1 : Nat} {t2 : Nat} {best4 : Nat} {i5 : Int} {X1 : Fr → Hp → Prop} { E : Value → Hp → Prop} {H : Hp} {K : Int → Int → Int → Hp → Prop} (h : compassref05_Top.j2_t  q1 t2 best4 i5 X1 E H K) : compassref05_Top.j2 q1 t2 best4 i5 X1 E H K := by
  have k1 : ∀ G : List Nat → Fr → Hp → Prop, nodeR P0 T0 compassref05_Top.A [[0, 1, 0, 1, 1, 1], [0, 1, 1, 0, 0, 1, 0, 0, 1, 0, 1, 1, 1], [1, 1, 0, 0, 1, 0, 1, 1, 1], [1, 1, 1, 1]] G compassref05_Top.code [1, 1, 1, 0, 1, 0, 0, 1, 1] [X1] (compassref05_Top.rq E K) [(1, .pointer (some ⟨q1, 0, none⟩)), (2, .pointer (some ⟨t2, 0, none⟩)), (4, .pointer (some ⟨best4, 0, none⟩)), (5, .int .i64 i5)] H = compassref05_Top.j2_t  q1 t2 best4 i5 X1 E H K := fun G => by kernel_rfl
  exact nodeR_imp compassref05_Top.nok rfl ((k1 _).mpr h)
def compassref05_Top.j3_t  (t2 : Nat) (best4 : Nat)  (E : Value → Hp → Prop) (H : Hp) (K : Int → Int → Int → Hp → Prop) : Prop :=
  ldI .i64 (H.get best4 0) fun x_1 =>
  ldI .i64 (H.get best4 1) fun x_2 =>
  stC H t2 0 [.int .i64 x_1, .int .i64 x_2] fun H_1 =>
  ldI .i64 (H_1.get t2 0) fun x_3 =>
  ldI .i64 (H_1.get t2 1) fun x_4 =>
  K x_3 x_4 0 H_1
theorem compassref05_Top.j3_eq {t2 : Nat} {best4 : Nat} { E : Value → Hp → Prop} {H : Hp} {K : Int → Int → Int → Hp → Prop} (h : compassref05_Top.j3_t  t2 best4  E H K) : compassref05_Top.j3 t2 best4  E H K := by
  have k1 : ∀ G : List Nat → Fr → Hp → Prop, nodeR P0 T0 compassref05_Top.A [[0, 1, 0, 1, 1, 1], [0, 1, 1, 0, 0, 1, 0, 0, 1, 0, 1, 1, 1], [1, 1, 0, 0, 1, 0, 1, 1, 1], [1, 1, 1, 1]] G compassref05_Top.code [1, 1, 1, 1] [] (compassref05_Top.rq E K) [(2, .pointer (some ⟨t2, 0, none⟩)), (4, .pointer (some ⟨best4, 0, none⟩))] H = compassref05_Top.j3_t  t2 best4  E H K := fun G => by kernel_rfl
  exact nodeR_imp compassref05_Top.nok rfl ((k1 _).mpr h)
def compassref05_Top.b1_t (j1 : Nat → Nat → Nat → Int → Nat → Hp → Prop) (j2 : Nat → Nat → Nat → Int → Hp → Prop) (j3 : Nat → Nat → Hp → Prop) (q1 : Nat) (t2 : Nat) (best4 : Nat) (i5 : Int) (X1 : Fr → Hp → Prop) (E : Value → Hp → Prop) (H : Hp) (K : Int → Int → Int → Hp → Prop) : Prop :=
  ldS (H.get q1 2) fun x_1p x_1n x_1c =>
  bcase (decide ((i5 : Int) < (x_1n : Int))) (
  ldS (H.get q1 2) fun x_2p x_2n x_2c =>
  ix x_2p x_2n i5 2 fun b_1 o_1 =>
  ldI .i64 (H.get b_1 o_1) fun x_3 =>
  ldI .i64 (H.get b_1 (o_1 + 1)) fun x_4 =>
  nw H ⟨[.int .i64 0, .int .i64 0], 107⟩ fun b_2 H_1 =>
  stC H_1 b_2 0 [.int .i64 x_3, .int .i64 x_4] fun H_2 =>
  ldI .i64 (H_2.get b_2 1) fun x_5 =>
  ldI .i64 (H_2.get best4 1) fun x_6 =>
  bcase (decide ((x_5 : Int) < x_6)) (
  j1 q1 t2 best4 i5 b_2 H_2)
  (ldI .i64 (H_2.get b_2 1) fun x_7 =>
  ldI .i64 (H_2.get best4 1) fun x_8 =>
  bcase (decide ((x_7 : Int) = x_8)) (
  ldI .i64 (H_2.get b_2 0) fun x_9 =>
  ldI .i64 (H_2.get best4 0) fun x_10 =>
  bcase (decide ((x_9 : Int) < x_10)) (
  j1 q1 t2 best4 i5 b_2 H_2)
  (j2 q1 t2 best4 i5 H_2))
  (j2 q1 t2 best4 i5 H_2)))
  (j3 t2 best4 H)
theorem compassref05_Top.b1_eq {q1 : Nat} {t2 : Nat} {best4 : Nat} {i5 : Int} {X1 : Fr → Hp → Prop} { E : Value → Hp → Prop} {H : Hp} {K : Int → Int → Int → Hp → Prop} (h : compassref05_Top.b1_t (fun q1 t2 best4 i5 x6 H => compassref05_Top.j1 q1 t2 best4 i5 x6 X1 E H K) (fun q1 t2 best4 i5 H => compassref05_Top.j2 q1 t2 best4 i5 X1 E H K) (fun t2 best4 H => compassref05_Top.j3 t2 best4  E H K) q1 t2 best4 i5 X1 E H K) : compassref05_Top.b1 q1 t2 best4 i5 X1 E H K := by
  have k1 : ∀ G : List Nat → Fr → Hp → Prop, nodeR P0 T0 compassref05_Top.A [[0, 1, 0, 1, 1, 1], [0, 1, 1, 0, 0, 1, 0, 0, 1, 0, 1, 1, 1], [1, 1, 0, 0, 1, 0, 1, 1, 1], [1, 1, 1, 1]] G compassref05_Top.code [1, 1, 1, 0, 1, 0, 0] [X1] (compassref05_Top.rq E K) (compassref05_Top.f1 q1 t2 best4 i5) H = compassref05_Top.b1_t (fun q1 t2 best4 i5 x6 H => G [0, 1, 1, 0, 0, 1, 0, 0, 1, 0, 1, 1, 1] [(1, .pointer (some ⟨q1, 0, none⟩)), (2, .pointer (some ⟨t2, 0, none⟩)), (4, .pointer (some ⟨best4, 0, none⟩)), (5, .int .i64 i5), (6, .pointer (some ⟨x6, 0, none⟩))] H) (fun q1 t2 best4 i5 H => G [1, 1, 0, 0, 1, 0, 1, 1, 1] [(1, .pointer (some ⟨q1, 0, none⟩)), (2, .pointer (some ⟨t2, 0, none⟩)), (4, .pointer (some ⟨best4, 0, none⟩)), (5, .int .i64 i5)] H) (fun t2 best4 H => G [1, 1, 1, 1] [(2, .pointer (some ⟨t2, 0, none⟩)), (4, .pointer (some ⟨best4, 0, none⟩))] H) q1 t2 best4 i5 X1 E H K := fun G => by kernel_rfl
  have k2 : compassref05_Top.b1_t (fun q1 t2 best4 i5 x6 H => compassref05_Top.j1 q1 t2 best4 i5 x6 X1 E H K) (fun q1 t2 best4 i5 H => compassref05_Top.j2 q1 t2 best4 i5 X1 E H K) (fun t2 best4 H => compassref05_Top.j3 t2 best4  E H K) q1 t2 best4 i5 X1 E H K = compassref05_Top.b1_t (fun q1 t2 best4 i5 x6 H => (fun q F H => nodeM P0 T0 compassref05_Top.A compassref05_Top.code q.reverse [X1] (compassref05_Top.rq E K) F H) [0, 1, 1, 0, 0, 1, 0, 0, 1, 0, 1, 1, 1] [(1, .pointer (some ⟨q1, 0, none⟩)), (2, .pointer (some ⟨t2, 0, none⟩)), (4, .pointer (some ⟨best4, 0, none⟩)), (5, .int .i64 i5), (6, .pointer (some ⟨x6, 0, none⟩))] H) (fun q1 t2 best4 i5 H => (fun q F H => nodeM P0 T0 compassref05_Top.A compassref05_Top.code q.reverse [X1] (compassref05_Top.rq E K) F H) [1, 1, 0, 0, 1, 0, 1, 1, 1] [(1, .pointer (some ⟨q1, 0, none⟩)), (2, .pointer (some ⟨t2, 0, none⟩)), (4, .pointer (some ⟨best4, 0, none⟩)), (5, .int .i64 i5)] H) (fun t2 best4 H => (fun q F H => nodeM P0 T0 compassref05_Top.A compassref05_Top.code q.reverse [X1] (compassref05_Top.rq E K) F H) [1, 1, 1, 1] [(2, .pointer (some ⟨t2, 0, none⟩)), (4, .pointer (some ⟨best4, 0, none⟩))] H) q1 t2 best4 i5 X1 E H K := by kernel_rfl
  exact nodeR_imp compassref05_Top.nok rfl ((k1 _).mpr (k2.mp h))
/-! ### compass/compassref05.Key (46) -/
noncomputable def compassref05_Key.A : An := { live := [(0, [0, 1]), (1, [1, 2]), (2, []), (3, [1, 2]), (4, [2, 6]), (5, []), (6, [2, 6])], ord := [], stb := [], pre := [] }
noncomputable def compassref05_Key.code : Code := bodyOf Go.Proofs.Try.f46
theorem compassref05_Key.ok : okCode compassref05_Key.A 26 compassref05_Key.code = true := by kernel_rfl
def compassref05_Key.rq (E : Value → Hp → Prop) (K : Int → Int → Hp → Prop) : Ex → Fr → Hp → Prop := retQ T0 [.tmp 4, .tmp 5] [2, 3] (fun r H => ldR (.tup [(false, [.i .i64]), (false, [.i .i64])]) r fun u => K (asI (tupV u 0)) (asI (tupV u 1)) H) E
def compassref05_Key.run (q0_Kind : Int) (q0_N : Int) (q0_Itemsp : Option Addr) (q0_Itemsn : Nat) (q0_Itemsc : Nat) (q0_Last : Int) (h1 : Int) (E : Value → Hp → Prop) (H : Hp) (K : Int → Int → Hp → Prop) : Prop := nodeM P0 T0 compassref05_Key.A compassref05_Key.code [] [] (compassref05_Key.rq E K) (argF 0 [.agg ⟨[.int .i64 q0_Kind, .int .i64 q0_N, .slice q0_Itemsp q0_Itemsn q0_Itemsc, .int .i64 q0_Last]⟩, .int .i64 h1]) H
theorem compassref05_Key.of {q0_Kind : Int} {q0_N : Int} {q0_Itemsp : Option Addr} {q0_Itemsn : Nat} {q0_Itemsc : Nat} {q0_Last : Int} {h1 : Int} {E : Value → Hp → Prop} {H : Hp} {K : Int → Int → Hp → Prop} (h : compassref05_Key.run q0_Kind q0_N q0_Itemsp q0_Itemsn q0_Itemsc q0_Last h1 E H K) : compassref05_Key.call q0_Kind q0_N q0_Itemsp q0_Itemsn q0_Itemsc q0_Last h1 E H K :=
  callW_of T0_ok P0_mixed (A := compassref05_Key.A) (fn := Go.Proofs.Try.f46) Go.Proofs.Try.func46 rfl compassref05_Key.ok rfl h
theorem compassref05_Key.nok : nodesOk compassref05_Key.code [] = true := by kernel_rfl
def compassref05_Key.run_t  (q0_Kind : Int) (q0_N : Int) (q0_Itemsp : Option Addr) (q0_Itemsn : Nat) (q0_Itemsc : Nat) (q0_Last : Int) (h1 : Int)  (E : Value → Hp → Prop) (H : Hp) (K : Int → Int → Hp → Prop) : Prop :=
  nw H ⟨[.int .i64 q0_Kind, .int .i64 q0_N, .slice q0_Itemsp q0_Itemsn q0_Itemsc, .int .i64 q0_Last], 40⟩ fun b_1 H_1 =>
  bcase (decide ((h1 : Int) < 0)) (
  K 0 30 H_1)
  (ldI .i64 (H_1.get b_1 1) fun x_1 =>
  bcase (decide ((x_1 : Int) ≤ h1)) (
  K 0 30 H_1)
  (ldI .i64 (H_1.get b_1 0) fun x_2 =>
  ldI .i64 (H_1.get b_1 1) fun x_3 =>
  ldS (H_1.get b_1 2) fun x_4p x_4n x_4c =>
  ldI .i64 (H_1.get b_1 3) fun x_5 =>
  compassref05_Find.call x_2 x_3 x_4p x_4n x_4c x_5 h1 E H_1 fun r_1 H_2 =>
  bcase (decide ((r_1 : Int) < 0)) (
  K 0 2 H_2)
  (ldS (H_2.get b_1 2) fun x_6p x_6n x_6c =>
  ix x_6p x_6n r_1 2 fun b_2 o_1 =>
  ldI .i64 (H_2.get b_2 (o_1 + 1)) fun x_7 =>
  K x_7 0 H_2)))
theorem compassref05_Key.run_eq {q0_Kind : Int} {q0_N : Int} {q0_Itemsp : Option Addr} {q0_Itemsn : Nat} {q0_Itemsc : Nat} {q0_Last : Int} {h1 : Int} { E : Value → Hp → Prop} {H : Hp} {K : Int → Int → Hp → Prop} (h : compassref05_Key.run_t  q0_Kind q0_N q0_Itemsp q0_Itemsn q0_Itemsc q0_Last h1  E H K) : compassref05_Key.run q0_Kind q0_N q0_Itemsp q0_Itemsn q0_Itemsc q0_Last h1  E H K := by
  have k1 : ∀ G : List Nat → Fr → Hp → Prop, nodeR P0 T0 compassref05_Key.A [] G compassref05_Key.code [] [] (compassref05_Key.rq E K) (argF 0 [.agg ⟨[.int .i64 q0_Kind, .int .i64 q0_N, .slice q0_Itemsp q0_Itemsn q0_Itemsc, .int .i64 q0_Last]⟩, .int .i64 h1]) H = compassref05_Key.run_t  q0_Kind q0_N q0_Itemsp q0_Itemsn q0_Itemsc q0_Last h1  E H K := fun G => by kernel_rfl
  exact nodeR_imp compassref05_Key.nok rfl ((k1 _).mpr h)
/-! ### compass/compassref05.Find (58) -/
noncomputable def compassref05_Find.A : An := { live := [(0, [0, 1]), (1, [1, 2]), (2, [1, 2, 5]), (3, [1, 2, 5]), (4, [1, 2, 5]), (5, [5]), (6, [])], ord := [], stb := [], pre := [] }
noncomputable def compassref05_Find.code : Code := bodyOf Go.Proofs.Try.f58
theorem compassref05_Find.ok : okCode compassref05_Find.A 22 compassref05_Find.code = true := by kernel_rfl
def compassref05_Find.rq (E : Value → Hp → Prop) (K : Int → Hp → Prop) : Ex → Fr → Hp → Prop := retQ T0 [.tmp 4] [3] (fun r H => ldR (.one false [.i .i64]) r fun u => K (asI u) H) E
def compassref05_Find.run (q0_Kind : Int) (q0_N : Int) (q0_Itemsp : Option Addr) (q0_Itemsn : Nat) (q0_Itemsc : Nat) (q0_Last : Int) (h1 : Int) (E : Value → Hp → Prop) (H : Hp) (K : Int → Hp → Prop) : Prop := nodeM P0 T0 compassref05_Find.A compassref05_Find.code [] [] (compassref05_Find.rq E K) (argF 0 [.agg ⟨[.int .i64 q0_Kind, .int .i64 q0_N, .slice q0_Itemsp q0_Itemsn q0_Itemsc, .int .i64 q0_Last]⟩, .int .i64 h1]) H
theorem compassref05_Find.of {q0_Kind : Int} {q0_N : Int} {q0_Itemsp : Option Addr} {q0_Itemsn : Nat} {q0_Itemsc : Nat} {q0_Last : Int} {h1 : Int} {E : Value → Hp → Prop} {H : Hp} {K : Int → Hp → Prop} (h : compassref05_Find.run q0_Kind q0_N q0_Itemsp q0_Itemsn q0_Itemsc q0_Last h1 E H K) : compassref05_Find.call q0_Kind q0_N q0_Itemsp q0_Itemsn q0_Itemsc q0_Last h1 E H K :=
  callW_of T0_ok P0_mixed (A := compassref05_Find.A) (fn := Go.Proofs.Try.f58) Go.Proofs.Try.func58 rfl compassref05_Find.ok rfl h
noncomputable def compassref05_Find.f1 (h1 : Int) (q2 : Nat) (i5 : Int) : Fr := [(1, .int .i64 h1), (2, .pointer (some ⟨q2, 0, none⟩)), (5, .int .i64 i5)]
def compassref05_Find.l1 (h1 : Int) (q2 : Nat) (i5 : Int)  (E : Value → Hp → Prop) (H : Hp) (K : Int → Hp → Prop) : Prop := nodeM P0 T0 compassref05_Find.A compassref05_Find.code [1, 0, 1, 0] [] (compassref05_Find.rq E K) (compassref05_Find.f1 h1 q2 i5) H
def compassref05_Find.b1 (h1 : Int) (q2 : Nat) (i5 : Int)  (X1 : Fr → Hp → Prop) (E : Value → Hp → Prop) (H : Hp) (K : Int → Hp → Prop) : Prop := nodeM P0 T0 compassref05_Find.A compassref05_Find.code [1, 0, 1, 0, 0] [X1] (compassref05_Find.rq E K) (compassref05_Find.f1 h1 q2 i5) H
theorem compassref05_Find.l1_rule { E : Value → Hp → Prop} {K : Int → Hp → Prop} (I : Int → Nat → Int → Hp → Prop) (μ : Int → Nat → Int → Hp → Nat)
    (h : ∀ h1 q2 i5 H, I h1 q2 i5 H → ∀ X : Fr → Hp → Prop, (∀ h1' q2' i5' H', I h1' q2' i5' H' → μ h1' q2' i5' H' < μ h1 q2 i5 H → X (compassref05_Find.f1 h1' q2' i5') H') → compassref05_Find.b1 h1 q2 i5  X E H K)
    {h1 : Int} {q2 : Nat} {i5 : Int} {H : Hp} (hI : I h1 q2 i5 H) : compassref05_Find.l1 h1 q2 i5  E H K :=
  loop_rule (S := Int × Nat × Int) (fun s => compassref05_Find.f1 (s.1) (s.2.1) (s.2.2)) (fun s H => I (s.1) (s.2.1) (s.2.2) H) (fun s H => μ (s.1) (s.2.1) (s.2.2) H) (fun s H hI X hX => h (s.1) (s.2.1) (s.2.2) H hI X fun h1' q2' i5' H' hI' hlt => hX (h1', q2', i5') H' hI' hlt) (s := (h1, q2, i5)) rfl hI
theorem compassref05_Find.nok : nodesOk compassref05_Find.code [[0, 1, 0, 1]] = true := by kernel_rfl
def compassref05_Find.run_t (l1 : Int → Nat → Int → Hp → Prop) (q0_Kind : Int) (q0_N : Int) (q0_Itemsp : Option Addr) (q0_Itemsn : Nat) (q0_Itemsc : Nat) (q0_Last : Int) (h1 : Int)  (E : Value → Hp → Prop) (H : Hp) (K : Int → Hp → Prop) : Prop :=
  nw H ⟨[.int .i64 q0_Kind, .int .i64 q0_N, .slice q0_Itemsp q0_Itemsn q0_Itemsc, .int .i64 q0_Last], 40⟩ fun b_1 H_1 =>
  l1 h1 b_1 0 H_1
theorem compassref05_Find.run_eq {q0_Kind : Int} {q0_N : Int} {q0_Itemsp : Option Addr} {q0_Itemsn : Nat} {q0_Itemsc : Nat} {q0_Last : Int} {h1 : Int} { E : Value → Hp → Prop} {H : Hp} {K : Int → Hp → Prop} (h : compassref05_Find.run_t (fun h1 q2 i5 H => compassref05_Find.l1 h1 q2 i5  E H K) q0_Kind q0_N q0_Itemsp q0_Itemsn q0_Itemsc q0_Last h1  E H K) : compassref05_Find.run q0_Kind q0_N q0_Itemsp q0_Itemsn q0_Itemsc q0_Last h1  E H K := by
  have k1 : ∀ G : List Nat → Fr → Hp → Prop, nodeR P0 T0 compassref05_Find.A [[0, 1, 0, 1]] G compassref05_Find.code [] [] (compassref05_Find.rq E K) (argF 0 [.agg ⟨[.int .i64 q0_Kind, .int .i64 q0_N, .slice q0_Itemsp q0_Itemsn q0_Itemsc, .int .i64 q0_Last]⟩, .int .i64 h1]) H = compassref05_Find.run_t (fun h1 q2 i5 H => G [0, 1, 0, 1] [(1, .int .i64 h1), (2, .pointer (some ⟨q2, 0, none⟩)), (5, .int .i64 i5)] H) q0_Kind q0_N q0_Itemsp q0_Itemsn q0_Itemsc q0_Last h1  E H K := fun G => by kernel_rfl
  have k2 : compassref05_Find.run_t (fun h1 q2 i5 H => compassref05_Find.l1 h1 q2 i5  E H K) q0_Kind q0_N q0_Itemsp q0_Itemsn q0_Itemsc q0_Last h1  E H K = compassref05_Find.run_t (fun h1 q2 i5 H => (fun q F H => nodeM P0 T0 compassref05_Find.A compassref05_Find.code q.reverse [] (compassref05_Find.rq E K) F H) [0, 1, 0, 1] [(1, .int .i64 h1), (2, .pointer (some ⟨q2, 0, none⟩)), (5, .int .i64 i5)] H) q0_Kind q0_N q0_Itemsp q0_Itemsn q0_Itemsc q0_Last h1  E H K := by kernel_rfl
  exact nodeR_imp compassref05_Find.nok rfl ((k1 _).mpr (k2.mp h))
def compassref05_Find.b1_t  (h1 : Int) (q2 : Nat) (i5 : Int) (X1 : Fr → Hp → Prop) (E : Value → Hp → Prop) (H : Hp) (K : Int → Hp → Prop) : Prop :=
  ldS (H.get q2 2) fun x_1p x_1n x_1c =>
  bcase (decide ((i5 : Int) < (x_1n : Int))) (
  ldS (H.get q2 2) fun x_2p x_2n x_2c =>
  ix x_2p x_2n i5 2 fun b_1 o_1 =>
  ldI .i64 (H.get b_1 o_1) fun x_3 =>
  bcase (decide ((x_3 : Int) = h1)) (
  K i5 H)
  (X1 (compassref05_Find.f1 h1 q2 (IntKind.wrap .i64 (i5 + 1))) H))
  (K (-1) H)
theorem compassref05_Find.b1_eq {h1 : Int} {q2 : Nat} {i5 : Int} {X1 : Fr → Hp → Prop} { E : Value → Hp → Prop} {H : Hp} {K : Int → Hp → Prop} (h : compassref05_Find.b1_t  h1 q2 i5 X1 E H K) : compassref05_Find.b1 h1 q2 i5 X1 E H K := by
  have k1 : ∀ G : List Nat → Fr → Hp → Prop, nodeR P0 T0 compassref05_Find.A [[0, 1, 0, 1]] G compassref05_Find.code [1, 0, 1, 0, 0] [X1] (compassref05_Find.rq E K) (compassref05_Find.f1 h1 q2 i5) H = compassref05_Find.b1_t  h1 q2 i5 X1 E H K := fun G => by kernel_rfl
  exact nodeR_imp compassref05_Find.nok rfl ((k1 _).mpr h)
/-! ### compass/compassref05.with (59) -/
noncomputable def compassref05_with.A : An := { live := [(0, [0, 1]), (1, [2, 3, 4]), (2, [2, 3, 4, 5]), (3, [2, 3, 4, 5]), (4, [2, 4])], ord := [], stb := [], pre := [] }
noncomputable def compassref05_with.code : Code := bodyOf Go.Proofs.Try.f59
theorem compassref05_with.ok : okCode compassref05_with.A 21 compassref05_with.code = true := by kernel_rfl
def compassref05_with.rq (E : Value → Hp → Prop) (K : Int → Int → (Option Addr) → Nat → Nat → Int → Hp → Prop) : Ex → Fr → Hp → Prop := retQ T0 [.cell 4 40] [40] (fun r H => ldR (.one true [.i .i64, .i .i64, .sl, .i .i64]) r fun u => K (asI (cellV u 0)) (asI (cellV u 1)) (asS1 (cellV u 2)) (asS2 (cellV u 2)) (asS3 (cellV u 2)) (asI (cellV u 3)) H) E
def compassref05_with.run (q0_Kind : Int) (q0_N : Int) (q0_Itemsp : Option Addr) (q0_Itemsn : Nat) (q0_Itemsc : Nat) (q0_Last : Int) (x1_Handle : Int) (x1_Key : Int) (E : Value → Hp → Prop) (H : Hp) (K : Int → Int → (Option Addr) → Nat → Nat → Int → Hp → Prop) : Prop := nodeM P0 T0 compassref05_with.A compassref05_with.code [] [] (compassref05_with.rq E K) (argF 0 [.agg ⟨[.int .i64 q0_Kind, .int .i64 q0_N, .slice q0_Itemsp q0_Itemsn q0_Itemsc, .int .i64 q0_Last]⟩, .agg ⟨[.int .i64 x1_Handle, .int .i64 x1_Key]⟩]) H
theorem compassref05_with.of {q0_Kind : Int} {q0_N : Int} {q0_Itemsp : Option Addr} {q0_Itemsn : Nat} {q0_Itemsc : Nat} {q0_Last : Int} {x1_Handle : Int} {x1_Key : Int} {E : Value → Hp → Prop} {H : Hp} {K : Int → Int → (Option Addr) → Nat → Nat → Int → Hp → Prop} (h : compassref05_with.run q0_Kind q0_N q0_Itemsp q0_Itemsn q0_Itemsc q0_Last x1_Handle x1_Key E H K) : compassref05_with.call q0_Kind q0_N q0_Itemsp q0_Itemsn q0_Itemsc q0_Last x1_Handle x1_Key E H K :=
  callW_of T0_ok P0_mixed (A := compassref05_with.A) (fn := Go.Proofs.Try.f59) Go.Proofs.Try.func59 rfl compassref05_with.ok rfl h
theorem compassref05_with.nok : nodesOk compassref05_with.code [] = true := by kernel_rfl
def compassref05_with.run_t  (q0_Kind : Int) (q0_N : Int) (q0_Itemsp : Option Addr) (q0_Itemsn : Nat) (q0_Itemsc : Nat) (q0_Last : Int) (x1_Handle : Int) (x1_Key : Int)  (E : Value → Hp → Prop) (H : Hp) (K : Int → Int → (Option Addr) → Nat → Nat → Int → Hp → Prop) : Prop :=
  nw H ⟨[.int .i64 q0_Kind, .int .i64 q0_N, .slice q0_Itemsp q0_Itemsn q0_Itemsc, .int .i64 q0_Last], 40⟩ fun b_1 H_1 =>
  nw H_1 ⟨[.int .i64 x1_Handle, .int .i64 x1_Key], 107⟩ fun b_2 H_2 =>
  nw H_2 ⟨[.int .i64 0, .int .i64 0, .slice none 0 0, .int .i64 0], 40⟩ fun b_3 H_3 =>
  ldS (H_3.get b_1 2) fun x_1p x_1n x_1c =>
  mkS 0 (IntKind.wrap .i64 ((x_1n : Int) + 1)) 107 [.i .i64, .i .i64] 16 H_3 fun b_4 H_4 =>
  ldS (H_4.get b_1 2) fun x_2p x_2n x_2c =>
  appM 107 [.i .i64, .i .i64] 16 (some ⟨b_4, 0, none⟩) 0 ((IntKind.wrap .i64 ((x_1n : Int) + 1)).toNat) x_2p x_2n H_4 fun a_1p a_1n a_1c H_5 =>
  ldI .i64 (H_5.get b_2 0) fun x_3 =>
  ldI .i64 (H_5.get b_2 1) fun x_4 =>
  nw H_5 ⟨[.int .i64 x_3, .int .i64 x_4], 107⟩ fun b_5 H_6 =>
  appM 107 [.i .i64, .i .i64] 16 a_1p a_1n a_1c (some ⟨b_5, 0, none⟩) 1 H_6 fun a_2p a_2n a_2c H_7 =>
  stC H_7 b_1 2 [.slice a_2p a_2n a_2c] fun H_8 =>
  ldI .i64 (H_8.get b_1 0) fun x_5 =>
  ldI .i64 (H_8.get b_1 1) fun x_6 =>
  ldS (H_8.get b_1 2) fun x_7p x_7n x_7c =>
  ldI .i64 (H_8.get b_1 3) fun x_8 =>
  stC H_8 b_3 0 [.int .i64 x_5, .int .i64 x_6, .slice x_7p x_7n x_7c, .int .i64 x_8] fun H_9 =>
  ldI .i64 (H_9.get b_3 0) fun x_9 =>
  ldI .i64 (H_9.get b_3 1) fun x_10 =>
  ldS (H_9.get b_3 2) fun x_11p x_11n x_11c =>
  ldI .i64 (H_9.get b_3 3) fun x_12 =>
  K x_9 x_10 x_11p x_11n x_11c x_12 H_9
theorem compassref05_with.run_eq {q0_Kind : Int} {q0_N : Int} {q0_Itemsp : Option Addr} {q0_Itemsn : Nat} {q0_Itemsc : Nat} {q0_Last : Int} {x1_Handle : Int} {x1_Key : Int} { E : Value → Hp → Prop} {H : Hp} {K : Int → Int → (Option Addr) → Nat → Nat → Int → Hp → Prop} (h : compassref05_with.run_t  q0_Kind q0_N q0_Itemsp q0_Itemsn q0_Itemsc q0_Last x1_Handle x1_Key  E H K) : compassref05_with.run q0_Kind q0_N q0_Itemsp q0_Itemsn q0_Itemsc q0_Last x1_Handle x1_Key  E H K := by
  have k1 : ∀ G : List Nat → Fr → Hp → Prop, nodeR P0 T0 compassref05_with.A [] G compassref05_with.code [] [] (compassref05_with.rq E K) (argF 0 [.agg ⟨[.int .i64 q0_Kind, .int .i64 q0_N, .slice q0_Itemsp q0_Itemsn q0_Itemsc, .int .i64 q0_Last]⟩, .agg ⟨[.int .i64 x1_Handle, .int .i64 x1_Key]⟩]) H = compassref05_with.run_t  q0_Kind q0_N q0_Itemsp q0_Itemsn q0_Itemsc q0_Last x1_Handle x1_Key  E H K := fun G => by kernel_rfl
  exact nodeR_imp compassref05_with.nok rfl ((k1 _).mpr h)
/-! ### compass/compassref05.without (60) -/
noncomputable def compassref05_without.A : An := { live := [(0, [0, 1]), (1, [1, 2, 4]), (2, [1, 2, 4, 5]), (3, [1, 2, 4, 5]), (4, [2, 4])], ord := [], stb := [], pre := [] }
noncomputable def compassref05_without.code : Code := bodyOf Go.Proofs.Try.f60
theorem compassref05_without.ok : okCode compassref05_without.A 25 compassref05_without.code = true := by kernel_rfl
def compassref05_without.rq (E : Value → Hp → Prop) (K : Int → Int → (Option Addr) → Nat → Nat → Int → Hp → Prop) : Ex → Fr → Hp → Prop := retQ T0 [.cell 4 40] [40] (fun r H => ldR (.one true [.i .i64, .i .i64, .sl, .i .i64]) r fun u => K (asI (cellV u 0)) (asI (cellV u 1)) (asS1 (cellV u 2)) (asS2 (cellV u 2)) (asS3 (cellV u 2)) (asI (cellV u 3)) H) E
def compassref05_without.run (q0_Kind : Int) (q0_N : Int) (q0_Itemsp : Option Addr) (q0_Itemsn : Nat) (q0_Itemsc : Nat) (q0_Last : Int) (at1 : Int) (E : Value → Hp → Prop) (H : Hp) (K : Int → Int → (Option Addr) → Nat → Nat → Int → Hp → Prop) : Prop := nodeM P0 T0 compassref05_without.A compassref05_without.code [] [] (compassref05_without.rq E K) (argF 0 [.agg ⟨[.int .i64 q0_Kind, .int .i64 q0_N, .slice q0_Itemsp q0_Itemsn q0_Itemsc, .int .i64 q0_Last]⟩, .int .i64 at1]) H
theorem compassref05_without.of {q0_Kind : Int} {q0_N : Int} {q0_Itemsp : Option Addr} {q0_Itemsn : Nat} {q0_Itemsc : Nat} {q0_Last : Int} {at1 : Int} {E : Value → Hp → Prop} {H : Hp} {K : Int → Int → (Option Addr) → Nat → Nat → Int → Hp → Prop} (h : compassref05_without.run q0_Kind q0_N q0_Itemsp q0_Itemsn q0_Itemsc q0_Last at1 E H K) : compassref05_without.call q0_Kind q0_N q0_Itemsp q0_Itemsn q0_Itemsc q0_Last at1 E H K :=
  callW_of T0_ok P0_mixed (A := compassref05_without.A) (fn := Go.Proofs.Try.f60) Go.Proofs.Try.func60 rfl compassref05_without.ok rfl h
theorem compassref05_without.nok : nodesOk compassref05_without.code [] = true := by kernel_rfl
def compassref05_without.run_t  (q0_Kind : Int) (q0_N : Int) (q0_Itemsp : Option Addr) (q0_Itemsn : Nat) (q0_Itemsc : Nat) (q0_Last : Int) (at1 : Int)  (E : Value → Hp → Prop) (H : Hp) (K : Int → Int → (Option Addr) → Nat → Nat → Int → Hp → Prop) : Prop :=
  nw H ⟨[.int .i64 q0_Kind, .int .i64 q0_N, .slice q0_Itemsp q0_Itemsn q0_Itemsc, .int .i64 q0_Last], 40⟩ fun b_1 H_1 =>
  nw H_1 ⟨[.int .i64 0, .int .i64 0, .slice none 0 0, .int .i64 0], 40⟩ fun b_2 H_2 =>
  ldS (H_2.get b_1 2) fun x_1p x_1n x_1c =>
  mkS 0 (x_1n : Int) 107 [.i .i64, .i .i64] 16 H_2 fun b_3 H_3 =>
  ldS (H_3.get b_1 2) fun x_2p x_2n x_2c =>
  ((0 : Int) ≤ at1 ∧ at1 ≤ (x_2c : Int)) ∧
  appM 107 [.i .i64, .i .i64] 16 (some ⟨b_3, 0, none⟩) 0 ((x_1n : Int).toNat) (slp x_2p 0 x_2c 2) at1.toNat H_3 fun a_1p a_1n a_1c H_4 =>
  ldS (H_4.get b_1 2) fun x_3p x_3n x_3c =>
  ((0 : Int) ≤ (IntKind.wrap .i64 (at1 + 1)) ∧ (IntKind.wrap .i64 (at1 + 1)) ≤ (x_3n : Int)) ∧
  appM 107 [.i .i64, .i .i64] 16 a_1p a_1n a_1c (slp x_3p ((IntKind.wrap .i64 (at1 + 1)).toNat) x_3c 2) (x_3n - (IntKind.wrap .i64 (at1 + 1)).toNat) H_4 fun a_2p a_2n a_2c H_5 =>
  stC H_5 b_1 2 [.slice a_2p a_2n a_2c] fun H_6 =>
  ldI .i64 (H_6.get b_1 0) fun x_4 =>
  ldI .i64 (H_6.get b_1 1) fun x_5 =>
  ldS (H_6.get b_1 2) fun x_6p x_6n x_6c =>
  ldI .i64 (H_6.get b_1 3) fun x_7 =>
  stC H_6 b_2 0 [.int .i64 x_4, .int .i64 x_5, .slice x_6p x_6n x_6c, .int .i64 x_7] fun H_7 =>
  ldI .i64 (H_7.get b_2 0) fun x_8 =>
  ldI .i64 (H_7.get b_2 1) fun x_9 =>
  ldS (H_7.get b_2 2) fun x_10p x_10n x_10c =>
  ldI .i64 (H_7.get b_2 3) fun x_11 =>
  K x_8 x_9 x_10p x_10n x_10c x_11 H_7
theorem compassref05_without.run_eq {q0_Kind : Int} {q0_N : Int} {q0_Itemsp : Option Addr} {q0_Itemsn : Nat} {q0_Itemsc : Nat} {q0_Last : Int} {at1 : Int} { E : Value → Hp → Prop} {H : Hp} {K : Int → Int → (Option Addr) → Nat → Nat → Int → Hp → Prop} (h : compassref05_without.run_t  q0_Kind q0_N q0_Itemsp q0_Itemsn q0_Itemsc q0_Last at1  E H K) : compassref05_without.run q0_Kind q0_N q0_Itemsp q0_Itemsn q0_Itemsc q0_Last at1  E H K := by
  have k1 : ∀ G : List Nat → Fr → Hp → Prop, nodeR P0 T0 compassref05_without.A [] G compassref05_without.code [] [] (compassref05_without.rq E K) (argF 0 [.agg ⟨[.int .i64 q0_Kind, .int .i64 q0_N, .slice q0_Itemsp q0_Itemsn q0_Itemsc, .int .i64 q0_Last]⟩, .int .i64 at1]) H = compassref05_without.run_t  q0_Kind q0_N q0_Itemsp q0_Itemsn q0_Itemsc q0_Last at1  E H K := fun G => by kernel_rfl
  exact nodeR_imp compassref05_without.nok rfl ((k1 _).mpr h)
end Go.Mz
