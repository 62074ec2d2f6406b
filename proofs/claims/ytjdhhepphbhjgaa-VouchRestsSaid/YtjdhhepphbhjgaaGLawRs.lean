/-
  The shallow texts of functions (LawRs), each with a kernel-checked equation to the translated code. It proves nothing of the program by itself.
-/
import Derived.Test.YtjdhhepphbhjgaaTab
set_option linter.unusedVariables false
set_option maxRecDepth 100000
namespace Go.Mz
/-! ### compass/compasslaw12.VouchRests (15) -/
noncomputable def compasslaw12_VouchRests.A : An := { live := [(0, [0, 1]), (1, [2, 3]), (2, []), (3, [2, 3]), (4, [2, 3, 5]), (5, [2]), (6, [2, 3, 5]), (7, [2, 3, 5, 8]), (8, [2, 3, 5, 8, 10]), (9, [2, 3, 5, 8, 10, 12]), (10, [2, 3, 5, 8, 10, 12, 14]), (11, [2, 3, 5, 8, 10, 12, 14, 16]), (12, [2, 3, 5, 8, 10, 12, 14, 16, 18]), (13, [5, 106, 107, 108]), (14, [5, 106, 107, 108]), (15, [5, 20, 106, 107, 108]), (16, []), (17, [5, 106, 107, 108]), (18, [])], ord := [(12, [0, 1, 2, 3, 4, 5, 6, 7, 8, 10, 11, 12, 16, 9, 13, 14, 15])], stb := [(12, [(9, [10, 12])])], pre := [(12, [[], [], [], [], [], [], [], [], [7], [6, 7, 8], [], [], [11], [6, 7, 8, 9, 10, 11, 12], [0, 1, 2, 3, 4, 5, 6, 7, 8, 9, 10, 11, 12, 13], [0, 1, 2, 3, 4, 5, 6, 7, 8, 9, 10, 11, 12, 13, 14], []])] }
noncomputable def compasslaw12_VouchRests.code : Code := bodyOf Go.Proofs.Try.f15
theorem compasslaw12_VouchRests.ok : okCode compasslaw12_VouchRests.A 116 compasslaw12_VouchRests.code = true := by kernel_rfl
def compasslaw12_VouchRests.rq (E : Value → Hp → Prop) (K : Bool → Hp → Prop) : Ex → Fr → Hp → Prop := retQ T0 [.tmp 4] [4] (fun r H => ldR (.one false [.bool]) r fun u => K (asB u) H) E
def compasslaw12_VouchRests.run (g0_Nodes : Int) (g0_Edgesp : Option Addr) (g0_Edgesn : Nat) (g0_Edgesc : Nat) (w1_Matchp : Option Addr) (w1_Matchn : Nat) (w1_Matchc : Nat) (w1_Nodesp : Option Addr) (w1_Nodesn : Nat) (w1_Nodesc : Nat) (w1_Potp : Option Addr) (w1_Potn : Nat) (w1_Potc : Nat) (E : Value → Hp → Prop) (H : Hp) (K : Bool → Hp → Prop) : Prop := nodeM P0 T0 compasslaw12_VouchRests.A compasslaw12_VouchRests.code [] [] (compasslaw12_VouchRests.rq E K) (argF 0 [.agg ⟨[.int .i64 g0_Nodes, .slice g0_Edgesp g0_Edgesn g0_Edgesc]⟩, .agg ⟨[.slice w1_Matchp w1_Matchn w1_Matchc, .slice w1_Nodesp w1_Nodesn w1_Nodesc, .slice w1_Potp w1_Potn w1_Potc]⟩]) H
theorem compasslaw12_VouchRests.of {g0_Nodes : Int} {g0_Edgesp : Option Addr} {g0_Edgesn : Nat} {g0_Edgesc : Nat} {w1_Matchp : Option Addr} {w1_Matchn : Nat} {w1_Matchc : Nat} {w1_Nodesp : Option Addr} {w1_Nodesn : Nat} {w1_Nodesc : Nat} {w1_Potp : Option Addr} {w1_Potn : Nat} {w1_Potc : Nat} {E : Value → Hp → Prop} {H : Hp} {K : Bool → Hp → Prop} (h : compasslaw12_VouchRests.run g0_Nodes g0_Edgesp g0_Edgesn g0_Edgesc w1_Matchp w1_Matchn w1_Matchc w1_Nodesp w1_Nodesn w1_Nodesc w1_Potp w1_Potn w1_Potc E H K) : compasslaw12_VouchRests.call g0_Nodes g0_Edgesp g0_Edgesn g0_Edgesc w1_Matchp w1_Matchn w1_Matchc w1_Nodesp w1_Nodesn w1_Nodesc w1_Potp w1_Potn w1_Potc E H K :=
  callW_of T0_ok P0_mixed (A := compasslaw12_VouchRests.A) (fn := Go.Proofs.Try.f15) Go.Proofs.Try.func15 rfl compasslaw12_VouchRests.ok rfl h
noncomputable def compasslaw12_VouchRests.f1 (code5 : Int) (t106p : Option Addr) (t106n : Nat) (t106c : Nat) (t107 : Int) (t108 : Int) : Fr := [(5, .int .i64 code5), (106, .slice t106p t106n t106c), (107, .int .i64 t107), (108, .int .i64 t108)]
def compasslaw12_VouchRests.l1 (code5 : Int) (t106p : Option Addr) (t106n : Nat) (t106c : Nat) (t107 : Int) (t108 : Int)  (E : Value → Hp → Prop) (H : Hp) (K : Bool → Hp → Prop) : Prop := nodeM P0 T0 compasslaw12_VouchRests.A compasslaw12_VouchRests.code [1, 1, 1, 1, 1, 1, 1, 1, 1, 1, 0, 1, 0] [] (compasslaw12_VouchRests.rq E K) (compasslaw12_VouchRests.f1 code5 t106p t106n t106c t107 t108) H
def compasslaw12_VouchRests.b1 (code5 : Int) (t106p : Option Addr) (t106n : Nat) (t106c : Nat) (t107 : Int) (t108 : Int)  (X1 : Fr → Hp → Prop) (E : Value → Hp → Prop) (H : Hp) (K : Bool → Hp → Prop) : Prop := nodeM P0 T0 compasslaw12_VouchRests.A compasslaw12_VouchRests.code [1, 1, 1, 1, 1, 1, 1, 1, 1, 1, 0, 1, 0, 0] [X1] (compasslaw12_VouchRests.rq E K) (compasslaw12_VouchRests.f1 code5 t106p t106n t106c t107 t108) H
theorem compasslaw12_VouchRests.l1_rule { E : Value → Hp → Prop} {K : Bool → Hp → Prop} (I : Int → (Option Addr) → Nat → Nat → Int → Int → Hp → Prop) (μ : Int → (Option Addr) → Nat → Nat → Int → Int → Hp → Nat)
    (h : ∀ code5 t106p t106n t106c t107 t108 H, I code5 t106p t106n t106c t107 t108 H → ∀ X : Fr → Hp → Prop, (∀ code5' t106p' t106n' t106c' t107' t108' H', I code5' t106p' t106n' t106c' t107' t108' H' → μ code5' t106p' t106n' t106c' t107' t108' H' < μ code5 t106p t106n t106c t107 t108 H → X (compasslaw12_VouchRests.f1 code5' t106p' t106n' t106c' t107' t108') H') → compasslaw12_VouchRests.b1 code5 t106p t106n t106c t107 t108  X E H K)
    {code5 : Int} {t106p : Option Addr} {t106n : Nat} {t106c : Nat} {t107 : Int} {t108 : Int} {H : Hp} (hI : I code5 t106p t106n t106c t107 t108 H) : compasslaw12_VouchRests.l1 code5 t106p t106n t106c t107 t108  E H K :=
  loop_rule (S := Int × (Option Addr) × Nat × Nat × Int × Int) (fun s => compasslaw12_VouchRests.f1 (s.1) (s.2.1) (s.2.2.1) (s.2.2.2.1) (s.2.2.2.2.1) (s.2.2.2.2.2)) (fun s H => I (s.1) (s.2.1) (s.2.2.1) (s.2.2.2.1) (s.2.2.2.2.1) (s.2.2.2.2.2) H) (fun s H => μ (s.1) (s.2.1) (s.2.2.1) (s.2.2.2.1) (s.2.2.2.2.1) (s.2.2.2.2.2) H) (fun s H hI X hX => h (s.1) (s.2.1) (s.2.2.1) (s.2.2.2.1) (s.2.2.2.2.1) (s.2.2.2.2.2) H hI X fun code5' t106p' t106n' t106c' t107' t108' H' hI' hlt => hX (code5', t106p', t106n', t106c', t107', t108') H' hI' hlt) (s := (code5, t106p, t106n, t106c, t107, t108)) rfl hI
theorem compasslaw12_VouchRests.nok : nodesOk compasslaw12_VouchRests.code [[0, 1, 0, 1, 1, 1, 1, 1, 1, 1, 1, 1, 1]] = true := by kernel_rfl
def compasslaw12_VouchRests.run_t (l1 : Int → (Option Addr) → Nat → Nat → Int → Int → Hp → Prop) (g0_Nodes : Int) (g0_Edgesp : Option Addr) (g0_Edgesn : Nat) (g0_Edgesc : Nat) (w1_Matchp : Option Addr) (w1_Matchn : Nat) (w1_Matchc : Nat) (w1_Nodesp : Option Addr) (w1_Nodesn : Nat) (w1_Nodesc : Nat) (w1_Potp : Option Addr) (w1_Potn : Nat) (w1_Potc : Nat)  (E : Value → Hp → Prop) (H : Hp) (K : Bool → Hp → Prop) : Prop :=
  nw H ⟨[.int .i64 g0_Nodes, .slice g0_Edgesp g0_Edgesn g0_Edgesc], 24⟩ fun b_1 H_1 =>
  nw H_1 ⟨[.slice w1_Matchp w1_Matchn w1_Matchc, .slice w1_Nodesp w1_Nodesn w1_Nodesc, .slice w1_Potp w1_Potn w1_Potc], 67⟩ fun b_2 H_2 =>
  compasslaw12_awake.call  E H_2 fun r_1 H_3 =>
  bcase ((!r_1)) (
  K false H_3)
  (ldI .i64 (H_3.get b_1 0) fun x_1 =>
  ldS (H_3.get b_1 1) fun x_2p x_2n x_2c =>
  compassref03_Check.call x_1 x_2p x_2n x_2c E H_3 fun r_2 r_3 H_4 =>
  bcase (decide ((r_2 : Int) = 0)) (
  ldI .i64 (H_4.get b_1 0) fun x_3 =>
  ldS (H_4.get b_1 1) fun x_4p x_4n x_4c =>
  compassref11_Costs.call x_3 x_4p x_4n x_4c E H_4 fun r_4 H_5 =>
  bcase (decide ((r_4 : Int) = 0)) (
  K true H_5)
  (ldI .i64 (H_5.get b_1 0) fun x_5 =>
  ldS (H_5.get b_1 1) fun x_6p x_6n x_6c =>
  compassref11_Costs.call x_5 x_6p x_6n x_6c E H_5 fun r_5 H_6 =>
  K (decide ((r_5 : Int) = 80)) H_6))
  (ldI .i64 (H_4.get b_1 0) fun x_7 =>
  ldS (H_4.get b_1 1) fun x_8p x_8n x_8c =>
  ldS (H_4.get b_2 0) fun x_9p x_9n x_9c =>
  ldS (H_4.get b_2 1) fun x_10p x_10n x_10c =>
  vouch_Covered.call x_7 x_8p x_8n x_8c x_9p x_9n x_9c x_10p x_10n x_10c E H_4 fun r_6 r_7 H_7 =>
  ldI .i64 (H_7.get b_1 0) fun x_11 =>
  ldS (H_7.get b_1 1) fun x_12p x_12n x_12c =>
  ldS (H_7.get b_2 0) fun x_13p x_13n x_13c =>
  ldS (H_7.get b_2 2) fun x_14p x_14n x_14c =>
  vouch_Heaviest.call x_11 x_12p x_12n x_12c x_13p x_13n x_13c x_14p x_14n x_14c E H_7 fun r_8 r_9 H_8 =>
  ldI .i64 (H_8.get b_1 0) fun x_15 =>
  ldS (H_8.get b_1 1) fun x_16p x_16n x_16c =>
  ldS (H_8.get b_2 0) fun x_17p x_17n x_17c =>
  ldS (H_8.get b_2 1) fun x_18p x_18n x_18c =>
  vouch_Largest.call x_15 x_16p x_16n x_16c x_17p x_17n x_17c x_18p x_18n x_18c E H_8 fun r_10 r_11 H_9 =>
  ldI .i64 (H_9.get b_1 0) fun x_19 =>
  ldS (H_9.get b_1 1) fun x_20p x_20n x_20c =>
  ldS (H_9.get b_2 0) fun x_21p x_21n x_21c =>
  ldS (H_9.get b_2 2) fun x_22p x_22n x_22c =>
  vouch_Cheapest.call x_19 x_20p x_20n x_20c x_21p x_21n x_21c x_22p x_22n x_22c none 0 0 E H_9 fun r_12 r_13 H_10 =>
  ldI .i64 (H_10.get b_1 0) fun x_23 =>
  ldS (H_10.get b_1 1) fun x_24p x_24n x_24c =>
  ldS (H_10.get b_2 1) fun x_25p x_25n x_25c =>
  ldS (H_10.get b_2 0) fun x_26p x_26n x_26c =>
  vouch_Many.call x_23 x_24p x_24n x_24c x_25p x_25n x_25c x_26p x_26n x_26c none 0 0 E H_10 fun r_14 r_15 H_11 =>
  ldI .i64 (H_11.get b_1 0) fun x_27 =>
  ldS (H_11.get b_1 1) fun x_28p x_28n x_28c =>
  ldS (H_11.get b_2 0) fun x_29p x_29n x_29c =>
  vouch_Doubled.call x_27 x_28p x_28n x_28c x_29p x_29n x_29c none 0 0 none 0 0 none 0 0 E H_11 fun r_16 r_17 H_12 =>
  ldI .i64 (H_12.get b_1 0) fun x_30 =>
  ldS (H_12.get b_1 1) fun x_31p x_31n x_31c =>
  ldS (H_12.get b_2 0) fun x_32p x_32n x_32c =>
  ldI .i64 (H_12.get b_1 0) fun x_33 =>
  ldS (H_12.get b_1 1) fun x_34p x_34n x_34c =>
  ldS (H_12.get b_2 1) fun x_35p x_35n x_35c =>
  vouch_Matching.call x_30 x_31p x_31n x_31c x_32p x_32n x_32c E H_12 fun r_18 H_13 =>
  (ldI .i64 (H_13.get b_1 0) fun x_37 =>
  ldS (H_13.get b_1 1) fun x_38p x_38n x_38c =>
  Value.agg ⟨[.int .i64 x_37, .slice x_38p x_38n x_38c]⟩ = Value.agg ⟨[.int .i64 x_33, .slice x_34p x_34n x_34c]⟩) ∧
  (ldS (H_13.get b_2 1) fun x_36p x_36n x_36c =>
  Value.slice x_36p x_36n x_36c = Value.slice x_35p x_35n x_35c) ∧
  vouch_NoPerfect.call x_33 x_34p x_34n x_34c x_35p x_35n x_35c E H_13 fun r_19 H_14 =>
  nw H_14 ⟨[.int .i64 r_7, .int .i64 r_9, .int .i64 r_11, .int .i64 r_13, .int .i64 r_15, .int .i64 r_17, .int .i64 r_18, .int .i64 r_19], 27⟩ fun b_3 H_15 =>
  l1 r_2 (some ⟨b_3, 0, none⟩) 8 8 (8 : Int) 0 H_15))
theorem compasslaw12_VouchRests.run_eq {g0_Nodes : Int} {g0_Edgesp : Option Addr} {g0_Edgesn : Nat} {g0_Edgesc : Nat} {w1_Matchp : Option Addr} {w1_Matchn : Nat} {w1_Matchc : Nat} {w1_Nodesp : Option Addr} {w1_Nodesn : Nat} {w1_Nodesc : Nat} {w1_Potp : Option Addr} {w1_Potn : Nat} {w1_Potc : Nat} { E : Value → Hp → Prop} {H : Hp} {K : Bool → Hp → Prop} (h : compasslaw12_VouchRests.run_t (fun code5 t106p t106n t106c t107 t108 H => compasslaw12_VouchRests.l1 code5 t106p t106n t106c t107 t108  E H K) g0_Nodes g0_Edgesp g0_Edgesn g0_Edgesc w1_Matchp w1_Matchn w1_Matchc w1_Nodesp w1_Nodesn w1_Nodesc w1_Potp w1_Potn w1_Potc  E H K) : compasslaw12_VouchRests.run g0_Nodes g0_Edgesp g0_Edgesn g0_Edgesc w1_Matchp w1_Matchn w1_Matchc w1_Nodesp w1_Nodesn w1_Nodesc w1_Potp w1_Potn w1_Potc  E H K := by
  have k1 : ∀ G : List Nat → Fr → Hp → Prop, nodeR P0 T0 compasslaw12_VouchRests.A [[0, 1, 0, 1, 1, 1, 1, 1, 1, 1, 1, 1, 1]] G compasslaw12_VouchRests.code [] [] (compasslaw12_VouchRests.rq E K) (argF 0 [.agg ⟨[.int .i64 g0_Nodes, .slice g0_Edgesp g0_Edgesn g0_Edgesc]⟩, .agg ⟨[.slice w1_Matchp w1_Matchn w1_Matchc, .slice w1_Nodesp w1_Nodesn w1_Nodesc, .slice w1_Potp w1_Potn w1_Potc]⟩]) H = compasslaw12_VouchRests.run_t (fun code5 t106p t106n t106c t107 t108 H => G [0, 1, 0, 1, 1, 1, 1, 1, 1, 1, 1, 1, 1] [(5, .int .i64 code5), (106, .slice t106p t106n t106c), (107, .int .i64 t107), (108, .int .i64 t108)] H) g0_Nodes g0_Edgesp g0_Edgesn g0_Edgesc w1_Matchp w1_Matchn w1_Matchc w1_Nodesp w1_Nodesn w1_Nodesc w1_Potp w1_Potn w1_Potc  E H K := fun G => by kernel_rfl
  have k2 : compasslaw12_VouchRests.run_t (fun code5 t106p t106n t106c t107 t108 H => compasslaw12_VouchRests.l1 code5 t106p t106n t106c t107 t108  E H K) g0_Nodes g0_Edgesp g0_Edgesn g0_Edgesc w1_Matchp w1_Matchn w1_Matchc w1_Nodesp w1_Nodesn w1_Nodesc w1_Potp w1_Potn w1_Potc  E H K = compasslaw12_VouchRests.run_t (fun code5 t106p t106n t106c t107 t108 H => (fun q F H => nodeM P0 T0 compasslaw12_VouchRests.A compasslaw12_VouchRests.code q.reverse [] (compasslaw12_VouchRests.rq E K) F H) [0, 1, 0, 1, 1, 1, 1, 1, 1, 1, 1, 1, 1] [(5, .int .i64 code5), (106, .slice t106p t106n t106c), (107, .int .i64 t107), (108, .int .i64 t108)] H) g0_Nodes g0_Edgesp g0_Edgesn g0_Edgesc w1_Matchp w1_Matchn w1_Matchc w1_Nodesp w1_Nodesn w1_Nodesc w1_Potp w1_Potn w1_Potc  E H K := by kernel_rfl
  exact nodeR_imp compasslaw12_VouchRests.nok rfl ((k1 _).mpr (k2.mp h))
def compasslaw12_VouchRests.b1_t  (code5 : Int) (t106p : Option Addr) (t106n : Nat) (t106c : Nat) (t107 : Int) (t108 : Int) (X1 : Fr → Hp → Prop) (E : Value → Hp → Prop) (H : Hp) (K : Bool → Hp → Prop) : Prop :=
  bcase (decide ((t108 : Int) < t107)) (
  ix t106p t106n t108 1 fun b_1 o_1 =>
  ldI .i64 (H.get b_1 o_1) fun x_1 =>
  bcase (!decide ((x_1 : Int) = code5)) (
  K false H)
  (X1 (compasslaw12_VouchRests.f1 code5 t106p t106n t106c t107 (IntKind.wrap .i64 (t108 + 1))) H))
  (K true H)
theorem compasslaw12_VouchRests.b1_eq {code5 : Int} {t106p : Option Addr} {t106n : Nat} {t106c : Nat} {t107 : Int} {t108 : Int} {X1 : Fr → Hp → Prop} { E : Value → Hp → Prop} {H : Hp} {K : Bool → Hp → Prop} (h : compasslaw12_VouchRests.b1_t  code5 t106p t106n t106c t107 t108 X1 E H K) : compasslaw12_VouchRests.b1 code5 t106p t106n t106c t107 t108 X1 E H K := by
  have k1 : ∀ G : List Nat → Fr → Hp → Prop, nodeR P0 T0 compasslaw12_VouchRests.A [[0, 1, 0, 1, 1, 1, 1, 1, 1, 1, 1, 1, 1]] G compasslaw12_VouchRests.code [1, 1, 1, 1, 1, 1, 1, 1, 1, 1, 0, 1, 0, 0] [X1] (compasslaw12_VouchRests.rq E K) (compasslaw12_VouchRests.f1 code5 t106p t106n t106c t107 t108) H = compasslaw12_VouchRests.b1_t  code5 t106p t106n t106c t107 t108 X1 E H K := fun G => by kernel_rfl
  exact nodeR_imp compasslaw12_VouchRests.nok rfl ((k1 _).mpr h)
end Go.Mz
