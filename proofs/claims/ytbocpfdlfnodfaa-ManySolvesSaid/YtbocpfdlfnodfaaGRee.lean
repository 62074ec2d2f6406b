/-
  The shallow texts of functions (Ree), each with a kernel-checked equation to the translated code. It proves nothing of the program by itself.
-/
import Derived.Test.YtbocpfdlfnodfaaTab
set_option linter.unusedVariables false
set_option maxRecDepth 100000
namespace Go.Mz
/-! ### compass/compassref12.Gadget (11) -/
noncomputable def compassref12_Gadget.A : An := { live := [(0, [0, 1]), (1, [1, 2, 4]), (2, [1, 2, 4, 7]), (3, [4, 7]), (4, [1, 2, 4]), (5, [1, 2, 4, 8]), (6, [1, 2, 4, 8, 9]), (7, [1, 2, 4, 8, 9]), (8, [1, 2, 4, 8, 9]), (9, [2, 4, 8]), (10, [2, 4, 8, 10]), (11, [2, 4, 8, 10, 11]), (12, [2, 4, 8, 10, 11, 12]), (13, [2, 4, 8, 10, 11, 12]), (14, [2, 4, 8, 10, 11, 12]), (15, [2, 4, 8, 10, 11, 12, 13]), (16, [2, 4, 8, 10, 11, 12, 13]), (17, [2, 4, 8, 10, 11, 12, 13]), (18, [2, 4, 8, 10, 11, 12, 13, 14]), (19, [2, 4, 8, 10, 11, 12, 13, 14, 15]), (20, [2, 4, 8, 10, 11, 12, 13, 14, 15]), (21, [2, 4, 8, 10, 11, 12, 13, 14, 15]), (22, [2, 4, 8, 10, 11, 12, 13, 14, 15, 16]), (23, [2, 4, 8, 10, 11, 12, 13, 14, 15, 16]), (24, [2, 4, 8, 10, 11, 12, 13, 14, 15, 16]), (25, [2, 4, 8, 10, 11, 12, 13, 15]), (26, [2, 4, 8, 10, 11, 12, 13, 15, 17]), (27, [2, 4, 8, 10, 11, 12, 13, 15, 17]), (28, [2, 4, 8, 10, 11, 12, 13, 15, 17]), (29, [2, 4, 8, 10, 11, 12]), (30, [4]), (31, [4, 10, 11]), (32, [4]), (33, [4, 10, 11])], ord := [(8, [0, 1, 2, 3, 4, 5, 6, 7, 8, 9, 10, 11, 12, 13])], stb := [(8, [(10, [6])])], pre := [(8, [[], [], [1], [], [], [3, 4], [3, 4, 5], [], [], [], [7, 8, 9], [3, 4, 5, 6, 7, 8, 9, 10], [0, 1, 2, 3, 4, 5, 6, 7, 8, 9, 10, 11], [0, 1, 2, 3, 4, 5, 6, 7, 8, 9, 10, 11, 12]])] }
noncomputable def compassref12_Gadget.code : Code := bodyOf Go.Proofs.Try.f11
theorem compassref12_Gadget.ok : okCode compassref12_Gadget.A 147 compassref12_Gadget.code = true := by kernel_rfl
def compassref12_Gadget.rq (E : Value → Hp → Prop) (K : Int → (Option Addr) → Nat → Nat → Int → Int → Hp → Prop) : Ex → Fr → Hp → Prop := retQ T0 [.cell 4 24, .tmp 5, .tmp 6] [24, 3, 3] (fun r H => ldR (.tup [(true, [.i .i64, .sl]), (false, [.i .i64]), (false, [.i .i64])]) r fun u => K (asI (cellV (tupV u 0) 0)) (asS1 (cellV (tupV u 0) 1)) (asS2 (cellV (tupV u 0) 1)) (asS3 (cellV (tupV u 0) 1)) (asI (tupV u 1)) (asI (tupV u 2)) H) E
def compassref12_Gadget.run (g0_Nodes : Int) (g0_Edgesp : Option Addr) (g0_Edgesn : Nat) (g0_Edgesc : Nat) (b1p : Option Addr) (b1n : Nat) (b1c : Nat) (E : Value → Hp → Prop) (H : Hp) (K : Int → (Option Addr) → Nat → Nat → Int → Int → Hp → Prop) : Prop := nodeM P0 T0 compassref12_Gadget.A compassref12_Gadget.code [] [] (compassref12_Gadget.rq E K) (argF 0 [.agg ⟨[.int .i64 g0_Nodes, .slice g0_Edgesp g0_Edgesn g0_Edgesc]⟩, .slice b1p b1n b1c]) H
theorem compassref12_Gadget.of {g0_Nodes : Int} {g0_Edgesp : Option Addr} {g0_Edgesn : Nat} {g0_Edgesc : Nat} {b1p : Option Addr} {b1n : Nat} {b1c : Nat} {E : Value → Hp → Prop} {H : Hp} {K : Int → (Option Addr) → Nat → Nat → Int → Int → Hp → Prop} (h : compassref12_Gadget.run g0_Nodes g0_Edgesp g0_Edgesn g0_Edgesc b1p b1n b1c E H K) : compassref12_Gadget.call g0_Nodes g0_Edgesp g0_Edgesn g0_Edgesc b1p b1n b1c E H K :=
  callW_of T0_ok P0_mixed (A := compassref12_Gadget.A) (fn := Go.Proofs.Try.f11) Go.Proofs.Try.func11 rfl compassref12_Gadget.ok rfl h
noncomputable def compassref12_Gadget.f1 (b1p : Option Addr) (b1n : Nat) (b1c : Nat) (g2 : Nat) (t4 : Nat) (fr8p : Option Addr) (fr8n : Nat) (fr8c : Nat) (v9 : Int) : Fr := [(1, .slice b1p b1n b1c), (2, .pointer (some ⟨g2, 0, none⟩)), (4, .pointer (some ⟨t4, 0, none⟩)), (8, .slice fr8p fr8n fr8c), (9, .int .i64 v9)]
noncomputable def compassref12_Gadget.f2 (g2 : Nat) (t4 : Nat) (fr8p : Option Addr) (fr8n : Nat) (fr8c : Nat) (ou10 : Nat) (co11 : Int) (i12 : Int) : Fr := [(2, .pointer (some ⟨g2, 0, none⟩)), (4, .pointer (some ⟨t4, 0, none⟩)), (8, .slice fr8p fr8n fr8c), (10, .pointer (some ⟨ou10, 0, none⟩)), (11, .int .i64 co11), (12, .int .i64 i12)]
noncomputable def compassref12_Gadget.f3 (g2 : Nat) (t4 : Nat) (fr8p : Option Addr) (fr8n : Nat) (fr8c : Nat) (ou10 : Nat) (co11 : Int) (i12 : Int) (e13 : Nat) (x14 : Int) (y15 : Int) (c16 : Int) : Fr := [(2, .pointer (some ⟨g2, 0, none⟩)), (4, .pointer (some ⟨t4, 0, none⟩)), (8, .slice fr8p fr8n fr8c), (10, .pointer (some ⟨ou10, 0, none⟩)), (11, .int .i64 co11), (12, .int .i64 i12), (13, .pointer (some ⟨e13, 0, none⟩)), (14, .int .i64 x14), (15, .int .i64 y15), (16, .int .i64 c16)]
noncomputable def compassref12_Gadget.f4 (g2 : Nat) (t4 : Nat) (fr8p : Option Addr) (fr8n : Nat) (fr8c : Nat) (ou10 : Nat) (co11 : Int) (i12 : Int) (e13 : Nat) (y15 : Int) (c17 : Int) : Fr := [(2, .pointer (some ⟨g2, 0, none⟩)), (4, .pointer (some ⟨t4, 0, none⟩)), (8, .slice fr8p fr8n fr8c), (10, .pointer (some ⟨ou10, 0, none⟩)), (11, .int .i64 co11), (12, .int .i64 i12), (13, .pointer (some ⟨e13, 0, none⟩)), (15, .int .i64 y15), (17, .int .i64 c17)]
def compassref12_Gadget.j1 (g2 : Nat) (t4 : Nat) (fr8p : Option Addr) (fr8n : Nat) (fr8c : Nat)  (E : Value → Hp → Prop) (H : Hp) (K : Int → (Option Addr) → Nat → Nat → Int → Int → Hp → Prop) : Prop := nodeM P0 T0 compassref12_Gadget.A compassref12_Gadget.code [1, 1, 1, 1, 1] [] (compassref12_Gadget.rq E K) [(2, .pointer (some ⟨g2, 0, none⟩)), (4, .pointer (some ⟨t4, 0, none⟩)), (8, .slice fr8p fr8n fr8c)] H
def compassref12_Gadget.j2 (g2 : Nat) (t4 : Nat) (fr8p : Option Addr) (fr8n : Nat) (fr8c : Nat) (ou10 : Nat) (co11 : Int) (i12 : Int) (e13 : Nat) (y15 : Int) (X1 : Fr → Hp → Prop) (E : Value → Hp → Prop) (H : Hp) (K : Int → (Option Addr) → Nat → Nat → Int → Int → Hp → Prop) : Prop := nodeM P0 T0 compassref12_Gadget.A compassref12_Gadget.code [1, 1, 1, 1, 1, 1, 1, 0, 1, 0, 0, 1, 0, 0, 1, 1, 1, 1, 1, 1, 1, 1] [X1] (compassref12_Gadget.rq E K) [(2, .pointer (some ⟨g2, 0, none⟩)), (4, .pointer (some ⟨t4, 0, none⟩)), (8, .slice fr8p fr8n fr8c), (10, .pointer (some ⟨ou10, 0, none⟩)), (11, .int .i64 co11), (12, .int .i64 i12), (13, .pointer (some ⟨e13, 0, none⟩)), (15, .int .i64 y15)] H
def compassref12_Gadget.j3 (g2 : Nat) (t4 : Nat) (fr8p : Option Addr) (fr8n : Nat) (fr8c : Nat) (ou10 : Nat) (co11 : Int) (i12 : Int) (X1 : Fr → Hp → Prop) (E : Value → Hp → Prop) (H : Hp) (K : Int → (Option Addr) → Nat → Nat → Int → Int → Hp → Prop) : Prop := nodeM P0 T0 compassref12_Gadget.A compassref12_Gadget.code [1, 1, 1, 1, 1, 1, 1, 0, 1, 0, 0, 1, 0, 0, 1, 1, 1, 1, 1, 1, 1, 1, 1] [X1] (compassref12_Gadget.rq E K) [(2, .pointer (some ⟨g2, 0, none⟩)), (4, .pointer (some ⟨t4, 0, none⟩)), (8, .slice fr8p fr8n fr8c), (10, .pointer (some ⟨ou10, 0, none⟩)), (11, .int .i64 co11), (12, .int .i64 i12)] H
def compassref12_Gadget.j4 (g2 : Nat) (t4 : Nat) (fr8p : Option Addr) (fr8n : Nat) (fr8c : Nat) (ou10 : Nat) (co11 : Int) (i12 : Int) (X1 : Fr → Hp → Prop) (E : Value → Hp → Prop) (H : Hp) (K : Int → (Option Addr) → Nat → Nat → Int → Int → Hp → Prop) : Prop := nodeM P0 T0 compassref12_Gadget.A compassref12_Gadget.code [1, 1, 1, 1, 1, 1, 1, 0, 1, 0, 0, 1, 1] [X1] (compassref12_Gadget.rq E K) [(2, .pointer (some ⟨g2, 0, none⟩)), (4, .pointer (some ⟨t4, 0, none⟩)), (8, .slice fr8p fr8n fr8c), (10, .pointer (some ⟨ou10, 0, none⟩)), (11, .int .i64 co11), (12, .int .i64 i12)] H
def compassref12_Gadget.j5 (t4 : Nat) (ou10 : Nat) (co11 : Int)  (E : Value → Hp → Prop) (H : Hp) (K : Int → (Option Addr) → Nat → Nat → Int → Int → Hp → Prop) : Prop := nodeM P0 T0 compassref12_Gadget.A compassref12_Gadget.code [1, 1, 1, 1, 1, 1, 1, 1] [] (compassref12_Gadget.rq E K) [(4, .pointer (some ⟨t4, 0, none⟩)), (10, .pointer (some ⟨ou10, 0, none⟩)), (11, .int .i64 co11)] H
def compassref12_Gadget.l1 (b1p : Option Addr) (b1n : Nat) (b1c : Nat) (g2 : Nat) (t4 : Nat) (fr8p : Option Addr) (fr8n : Nat) (fr8c : Nat) (v9 : Int)  (E : Value → Hp → Prop) (H : Hp) (K : Int → (Option Addr) → Nat → Nat → Int → Int → Hp → Prop) : Prop := nodeM P0 T0 compassref12_Gadget.A compassref12_Gadget.code [1, 1, 1, 1, 0, 1, 0] [] (compassref12_Gadget.rq E K) (compassref12_Gadget.f1 b1p b1n b1c g2 t4 fr8p fr8n fr8c v9) H
def compassref12_Gadget.b1 (b1p : Option Addr) (b1n : Nat) (b1c : Nat) (g2 : Nat) (t4 : Nat) (fr8p : Option Addr) (fr8n : Nat) (fr8c : Nat) (v9 : Int)  (X1 : Fr → Hp → Prop) (E : Value → Hp → Prop) (H : Hp) (K : Int → (Option Addr) → Nat → Nat → Int → Int → Hp → Prop) : Prop := nodeM P0 T0 compassref12_Gadget.A compassref12_Gadget.code [1, 1, 1, 1, 0, 1, 0, 0] [X1] (compassref12_Gadget.rq E K) (compassref12_Gadget.f1 b1p b1n b1c g2 t4 fr8p fr8n fr8c v9) H
theorem compassref12_Gadget.l1_rule { E : Value → Hp → Prop} {K : Int → (Option Addr) → Nat → Nat → Int → Int → Hp → Prop} (I : (Option Addr) → Nat → Nat → Nat → Nat → (Option Addr) → Nat → Nat → Int → Hp → Prop) (μ : (Option Addr) → Nat → Nat → Nat → Nat → (Option Addr) → Nat → Nat → Int → Hp → Nat)
    (h : ∀ b1p b1n b1c g2 t4 fr8p fr8n fr8c v9 H, I b1p b1n b1c g2 t4 fr8p fr8n fr8c v9 H → ∀ X : Fr → Hp → Prop, (∀ b1p' b1n' b1c' g2' t4' fr8p' fr8n' fr8c' v9' H', I b1p' b1n' b1c' g2' t4' fr8p' fr8n' fr8c' v9' H' → μ b1p' b1n' b1c' g2' t4' fr8p' fr8n' fr8c' v9' H' < μ b1p b1n b1c g2 t4 fr8p fr8n fr8c v9 H → X (compassref12_Gadget.f1 b1p' b1n' b1c' g2' t4' fr8p' fr8n' fr8c' v9') H') → compassref12_Gadget.b1 b1p b1n b1c g2 t4 fr8p fr8n fr8c v9  X E H K)
    {b1p : Option Addr} {b1n : Nat} {b1c : Nat} {g2 : Nat} {t4 : Nat} {fr8p : Option Addr} {fr8n : Nat} {fr8c : Nat} {v9 : Int} {H : Hp} (hI : I b1p b1n b1c g2 t4 fr8p fr8n fr8c v9 H) : compassref12_Gadget.l1 b1p b1n b1c g2 t4 fr8p fr8n fr8c v9  E H K :=
  loop_rule (S := (Option Addr) × Nat × Nat × Nat × Nat × (Option Addr) × Nat × Nat × Int) (fun s => compassref12_Gadget.f1 (s.1) (s.2.1) (s.2.2.1) (s.2.2.2.1) (s.2.2.2.2.1) (s.2.2.2.2.2.1) (s.2.2.2.2.2.2.1) (s.2.2.2.2.2.2.2.1) (s.2.2.2.2.2.2.2.2)) (fun s H => I (s.1) (s.2.1) (s.2.2.1) (s.2.2.2.1) (s.2.2.2.2.1) (s.2.2.2.2.2.1) (s.2.2.2.2.2.2.1) (s.2.2.2.2.2.2.2.1) (s.2.2.2.2.2.2.2.2) H) (fun s H => μ (s.1) (s.2.1) (s.2.2.1) (s.2.2.2.1) (s.2.2.2.2.1) (s.2.2.2.2.2.1) (s.2.2.2.2.2.2.1) (s.2.2.2.2.2.2.2.1) (s.2.2.2.2.2.2.2.2) H) (fun s H hI X hX => h (s.1) (s.2.1) (s.2.2.1) (s.2.2.2.1) (s.2.2.2.2.1) (s.2.2.2.2.2.1) (s.2.2.2.2.2.2.1) (s.2.2.2.2.2.2.2.1) (s.2.2.2.2.2.2.2.2) H hI X fun b1p' b1n' b1c' g2' t4' fr8p' fr8n' fr8c' v9' H' hI' hlt => hX (b1p', b1n', b1c', g2', t4', fr8p', fr8n', fr8c', v9') H' hI' hlt) (s := (b1p, b1n, b1c, g2, t4, fr8p, fr8n, fr8c, v9)) rfl hI
def compassref12_Gadget.l2 (g2 : Nat) (t4 : Nat) (fr8p : Option Addr) (fr8n : Nat) (fr8c : Nat) (ou10 : Nat) (co11 : Int) (i12 : Int)  (E : Value → Hp → Prop) (H : Hp) (K : Int → (Option Addr) → Nat → Nat → Int → Int → Hp → Prop) : Prop := nodeM P0 T0 compassref12_Gadget.A compassref12_Gadget.code [1, 1, 1, 1, 1, 1, 1, 0, 1, 0] [] (compassref12_Gadget.rq E K) (compassref12_Gadget.f2 g2 t4 fr8p fr8n fr8c ou10 co11 i12) H
def compassref12_Gadget.b2 (g2 : Nat) (t4 : Nat) (fr8p : Option Addr) (fr8n : Nat) (fr8c : Nat) (ou10 : Nat) (co11 : Int) (i12 : Int)  (X1 : Fr → Hp → Prop) (E : Value → Hp → Prop) (H : Hp) (K : Int → (Option Addr) → Nat → Nat → Int → Int → Hp → Prop) : Prop := nodeM P0 T0 compassref12_Gadget.A compassref12_Gadget.code [1, 1, 1, 1, 1, 1, 1, 0, 1, 0, 0] [X1] (compassref12_Gadget.rq E K) (compassref12_Gadget.f2 g2 t4 fr8p fr8n fr8c ou10 co11 i12) H
theorem compassref12_Gadget.l2_rule { E : Value → Hp → Prop} {K : Int → (Option Addr) → Nat → Nat → Int → Int → Hp → Prop} (I : Nat → Nat → (Option Addr) → Nat → Nat → Nat → Int → Int → Hp → Prop) (μ : Nat → Nat → (Option Addr) → Nat → Nat → Nat → Int → Int → Hp → Nat)
    (h : ∀ g2 t4 fr8p fr8n fr8c ou10 co11 i12 H, I g2 t4 fr8p fr8n fr8c ou10 co11 i12 H → ∀ X : Fr → Hp → Prop, (∀ g2' t4' fr8p' fr8n' fr8c' ou10' co11' i12' H', I g2' t4' fr8p' fr8n' fr8c' ou10' co11' i12' H' → μ g2' t4' fr8p' fr8n' fr8c' ou10' co11' i12' H' < μ g2 t4 fr8p fr8n fr8c ou10 co11 i12 H → X (compassref12_Gadget.f2 g2' t4' fr8p' fr8n' fr8c' ou10' co11' i12') H') → compassref12_Gadget.b2 g2 t4 fr8p fr8n fr8c ou10 co11 i12  X E H K)
    {g2 : Nat} {t4 : Nat} {fr8p : Option Addr} {fr8n : Nat} {fr8c : Nat} {ou10 : Nat} {co11 : Int} {i12 : Int} {H : Hp} (hI : I g2 t4 fr8p fr8n fr8c ou10 co11 i12 H) : compassref12_Gadget.l2 g2 t4 fr8p fr8n fr8c ou10 co11 i12  E H K :=
  loop_rule (S := Nat × Nat × (Option Addr) × Nat × Nat × Nat × Int × Int) (fun s => compassref12_Gadget.f2 (s.1) (s.2.1) (s.2.2.1) (s.2.2.2.1) (s.2.2.2.2.1) (s.2.2.2.2.2.1) (s.2.2.2.2.2.2.1) (s.2.2.2.2.2.2.2)) (fun s H => I (s.1) (s.2.1) (s.2.2.1) (s.2.2.2.1) (s.2.2.2.2.1) (s.2.2.2.2.2.1) (s.2.2.2.2.2.2.1) (s.2.2.2.2.2.2.2) H) (fun s H => μ (s.1) (s.2.1) (s.2.2.1) (s.2.2.2.1) (s.2.2.2.2.1) (s.2.2.2.2.2.1) (s.2.2.2.2.2.2.1) (s.2.2.2.2.2.2.2) H) (fun s H hI X hX => h (s.1) (s.2.1) (s.2.2.1) (s.2.2.2.1) (s.2.2.2.2.1) (s.2.2.2.2.2.1) (s.2.2.2.2.2.2.1) (s.2.2.2.2.2.2.2) H hI X fun g2' t4' fr8p' fr8n' fr8c' ou10' co11' i12' H' hI' hlt => hX (g2', t4', fr8p', fr8n', fr8c', ou10', co11', i12') H' hI' hlt) (s := (g2, t4, fr8p, fr8n, fr8c, ou10, co11, i12)) rfl hI
def compassref12_Gadget.l3 (g2 : Nat) (t4 : Nat) (fr8p : Option Addr) (fr8n : Nat) (fr8c : Nat) (ou10 : Nat) (co11 : Int) (i12 : Int) (e13 : Nat) (x14 : Int) (y15 : Int) (c16 : Int) (X1 : Fr → Hp → Prop) (E : Value → Hp → Prop) (H : Hp) (K : Int → (Option Addr) → Nat → Nat → Int → Int → Hp → Prop) : Prop := nodeM P0 T0 compassref12_Gadget.A compassref12_Gadget.code [1, 1, 1, 1, 1, 1, 1, 0, 1, 0, 0, 1, 0, 0, 1, 1, 1, 1, 1, 1, 1, 0, 1, 0] [X1] (compassref12_Gadget.rq E K) (compassref12_Gadget.f3 g2 t4 fr8p fr8n fr8c ou10 co11 i12 e13 x14 y15 c16) H
def compassref12_Gadget.b3 (g2 : Nat) (t4 : Nat) (fr8p : Option Addr) (fr8n : Nat) (fr8c : Nat) (ou10 : Nat) (co11 : Int) (i12 : Int) (e13 : Nat) (x14 : Int) (y15 : Int) (c16 : Int) (X1 : Fr → Hp → Prop) (X2 : Fr → Hp → Prop) (E : Value → Hp → Prop) (H : Hp) (K : Int → (Option Addr) → Nat → Nat → Int → Int → Hp → Prop) : Prop := nodeM P0 T0 compassref12_Gadget.A compassref12_Gadget.code [1, 1, 1, 1, 1, 1, 1, 0, 1, 0, 0, 1, 0, 0, 1, 1, 1, 1, 1, 1, 1, 0, 1, 0, 0] [X1, X2] (compassref12_Gadget.rq E K) (compassref12_Gadget.f3 g2 t4 fr8p fr8n fr8c ou10 co11 i12 e13 x14 y15 c16) H
theorem compassref12_Gadget.l3_rule {X1 : Fr → Hp → Prop} { E : Value → Hp → Prop} {K : Int → (Option Addr) → Nat → Nat → Int → Int → Hp → Prop} (I : Nat → Nat → (Option Addr) → Nat → Nat → Nat → Int → Int → Nat → Int → Int → Int → Hp → Prop) (μ : Nat → Nat → (Option Addr) → Nat → Nat → Nat → Int → Int → Nat → Int → Int → Int → Hp → Nat)
    (h : ∀ g2 t4 fr8p fr8n fr8c ou10 co11 i12 e13 x14 y15 c16 H, I g2 t4 fr8p fr8n fr8c ou10 co11 i12 e13 x14 y15 c16 H → ∀ X : Fr → Hp → Prop, (∀ g2' t4' fr8p' fr8n' fr8c' ou10' co11' i12' e13' x14' y15' c16' H', I g2' t4' fr8p' fr8n' fr8c' ou10' co11' i12' e13' x14' y15' c16' H' → μ g2' t4' fr8p' fr8n' fr8c' ou10' co11' i12' e13' x14' y15' c16' H' < μ g2 t4 fr8p fr8n fr8c ou10 co11 i12 e13 x14 y15 c16 H → X (compassref12_Gadget.f3 g2' t4' fr8p' fr8n' fr8c' ou10' co11' i12' e13' x14' y15' c16') H') → compassref12_Gadget.b3 g2 t4 fr8p fr8n fr8c ou10 co11 i12 e13 x14 y15 c16 X1 X E H K)
    {g2 : Nat} {t4 : Nat} {fr8p : Option Addr} {fr8n : Nat} {fr8c : Nat} {ou10 : Nat} {co11 : Int} {i12 : Int} {e13 : Nat} {x14 : Int} {y15 : Int} {c16 : Int} {H : Hp} (hI : I g2 t4 fr8p fr8n fr8c ou10 co11 i12 e13 x14 y15 c16 H) : compassref12_Gadget.l3 g2 t4 fr8p fr8n fr8c ou10 co11 i12 e13 x14 y15 c16 X1 E H K :=
  loop_rule (S := Nat × Nat × (Option Addr) × Nat × Nat × Nat × Int × Int × Nat × Int × Int × Int) (fun s => compassref12_Gadget.f3 (s.1) (s.2.1) (s.2.2.1) (s.2.2.2.1) (s.2.2.2.2.1) (s.2.2.2.2.2.1) (s.2.2.2.2.2.2.1) (s.2.2.2.2.2.2.2.1) (s.2.2.2.2.2.2.2.2.1) (s.2.2.2.2.2.2.2.2.2.1) (s.2.2.2.2.2.2.2.2.2.2.1) (s.2.2.2.2.2.2.2.2.2.2.2)) (fun s H => I (s.1) (s.2.1) (s.2.2.1) (s.2.2.2.1) (s.2.2.2.2.1) (s.2.2.2.2.2.1) (s.2.2.2.2.2.2.1) (s.2.2.2.2.2.2.2.1) (s.2.2.2.2.2.2.2.2.1) (s.2.2.2.2.2.2.2.2.2.1) (s.2.2.2.2.2.2.2.2.2.2.1) (s.2.2.2.2.2.2.2.2.2.2.2) H) (fun s H => μ (s.1) (s.2.1) (s.2.2.1) (s.2.2.2.1) (s.2.2.2.2.1) (s.2.2.2.2.2.1) (s.2.2.2.2.2.2.1) (s.2.2.2.2.2.2.2.1) (s.2.2.2.2.2.2.2.2.1) (s.2.2.2.2.2.2.2.2.2.1) (s.2.2.2.2.2.2.2.2.2.2.1) (s.2.2.2.2.2.2.2.2.2.2.2) H) (fun s H hI X hX => h (s.1) (s.2.1) (s.2.2.1) (s.2.2.2.1) (s.2.2.2.2.1) (s.2.2.2.2.2.1) (s.2.2.2.2.2.2.1) (s.2.2.2.2.2.2.2.1) (s.2.2.2.2.2.2.2.2.1) (s.2.2.2.2.2.2.2.2.2.1) (s.2.2.2.2.2.2.2.2.2.2.1) (s.2.2.2.2.2.2.2.2.2.2.2) H hI X fun g2' t4' fr8p' fr8n' fr8c' ou10' co11' i12' e13' x14' y15' c16' H' hI' hlt => hX (g2', t4', fr8p', fr8n', fr8c', ou10', co11', i12', e13', x14', y15', c16') H' hI' hlt) (s := (g2, t4, fr8p, fr8n, fr8c, ou10, co11, i12, e13, x14, y15, c16)) rfl hI
def compassref12_Gadget.l4 (g2 : Nat) (t4 : Nat) (fr8p : Option Addr) (fr8n : Nat) (fr8c : Nat) (ou10 : Nat) (co11 : Int) (i12 : Int) (e13 : Nat) (y15 : Int) (c17 : Int) (X1 : Fr → Hp → Prop) (E : Value → Hp → Prop) (H : Hp) (K : Int → (Option Addr) → Nat → Nat → Int → Int → Hp → Prop) : Prop := nodeM P0 T0 compassref12_Gadget.A compassref12_Gadget.code [1, 1, 1, 1, 1, 1, 1, 0, 1, 0, 0, 1, 0, 0, 1, 1, 1, 1, 1, 1, 1, 1, 0, 1, 0] [X1] (compassref12_Gadget.rq E K) (compassref12_Gadget.f4 g2 t4 fr8p fr8n fr8c ou10 co11 i12 e13 y15 c17) H
def compassref12_Gadget.b4 (g2 : Nat) (t4 : Nat) (fr8p : Option Addr) (fr8n : Nat) (fr8c : Nat) (ou10 : Nat) (co11 : Int) (i12 : Int) (e13 : Nat) (y15 : Int) (c17 : Int) (X1 : Fr → Hp → Prop) (X2 : Fr → Hp → Prop) (E : Value → Hp → Prop) (H : Hp) (K : Int → (Option Addr) → Nat → Nat → Int → Int → Hp → Prop) : Prop := nodeM P0 T0 compassref12_Gadget.A compassref12_Gadget.code [1, 1, 1, 1, 1, 1, 1, 0, 1, 0, 0, 1, 0, 0, 1, 1, 1, 1, 1, 1, 1, 1, 0, 1, 0, 0] [X1, X2] (compassref12_Gadget.rq E K) (compassref12_Gadget.f4 g2 t4 fr8p fr8n fr8c ou10 co11 i12 e13 y15 c17) H
theorem compassref12_Gadget.l4_rule {X1 : Fr → Hp → Prop} { E : Value → Hp → Prop} {K : Int → (Option Addr) → Nat → Nat → Int → Int → Hp → Prop} (I : Nat → Nat → (Option Addr) → Nat → Nat → Nat → Int → Int → Nat → Int → Int → Hp → Prop) (μ : Nat → Nat → (Option Addr) → Nat → Nat → Nat → Int → Int → Nat → Int → Int → Hp → Nat)
    (h : ∀ g2 t4 fr8p fr8n fr8c ou10 co11 i12 e13 y15 c17 H, I g2 t4 fr8p fr8n fr8c ou10 co11 i12 e13 y15 c17 H → ∀ X : Fr → Hp → Prop, (∀ g2' t4' fr8p' fr8n' fr8c' ou10' co11' i12' e13' y15' c17' H', I g2' t4' fr8p' fr8n' fr8c' ou10' co11' i12' e13' y15' c17' H' → μ g2' t4' fr8p' fr8n' fr8c' ou10' co11' i12' e13' y15' c17' H' < μ g2 t4 fr8p fr8n fr8c ou10 co11 i12 e13 y15 c17 H → X (compassref12_Gadget.f4 g2' t4' fr8p' fr8n' fr8c' ou10' co11' i12' e13' y15' c17') H') → compassref12_Gadget.b4 g2 t4 fr8p fr8n fr8c ou10 co11 i12 e13 y15 c17 X1 X E H K)
    {g2 : Nat} {t4 : Nat} {fr8p : Option Addr} {fr8n : Nat} {fr8c : Nat} {ou10 : Nat} {co11 : Int} {i12 : Int} {e13 : Nat} {y15 : Int} {c17 : Int} {H : Hp} (hI : I g2 t4 fr8p fr8n fr8c ou10 co11 i12 e13 y15 c17 H) : compassref12_Gadget.l4 g2 t4 fr8p fr8n fr8c ou10 co11 i12 e13 y15 c17 X1 E H K :=
  loop_rule (S := Nat × Nat × (Option Addr) × Nat × Nat × Nat × Int × Int × Nat × Int × Int) (fun s => compassref12_Gadget.f4 (s.1) (s.2.1) (s.2.2.1) (s.2.2.2.1) (s.2.2.2.2.1) (s.2.2.2.2.2.1) (s.2.2.2.2.2.2.1) (s.2.2.2.2.2.2.2.1) (s.2.2.2.2.2.2.2.2.1) (s.2.2.2.2.2.2.2.2.2.1) (s.2.2.2.2.2.2.2.2.2.2)) (fun s H => I (s.1) (s.2.1) (s.2.2.1) (s.2.2.2.1) (s.2.2.2.2.1) (s.2.2.2.2.2.1) (s.2.2.2.2.2.2.1) (s.2.2.2.2.2.2.2.1) (s.2.2.2.2.2.2.2.2.1) (s.2.2.2.2.2.2.2.2.2.1) (s.2.2.2.2.2.2.2.2.2.2) H) (fun s H => μ (s.1) (s.2.1) (s.2.2.1) (s.2.2.2.1) (s.2.2.2.2.1) (s.2.2.2.2.2.1) (s.2.2.2.2.2.2.1) (s.2.2.2.2.2.2.2.1) (s.2.2.2.2.2.2.2.2.1) (s.2.2.2.2.2.2.2.2.2.1) (s.2.2.2.2.2.2.2.2.2.2) H) (fun s H hI X hX => h (s.1) (s.2.1) (s.2.2.1) (s.2.2.2.1) (s.2.2.2.2.1) (s.2.2.2.2.2.1) (s.2.2.2.2.2.2.1) (s.2.2.2.2.2.2.2.1) (s.2.2.2.2.2.2.2.2.1) (s.2.2.2.2.2.2.2.2.2.1) (s.2.2.2.2.2.2.2.2.2.2) H hI X fun g2' t4' fr8p' fr8n' fr8c' ou10' co11' i12' e13' y15' c17' H' hI' hlt => hX (g2', t4', fr8p', fr8n', fr8c', ou10', co11', i12', e13', y15', c17') H' hI' hlt) (s := (g2, t4, fr8p, fr8n, fr8c, ou10, co11, i12, e13, y15, c17)) rfl hI
theorem compassref12_Gadget.nok : nodesOk compassref12_Gadget.code [[0, 1, 0, 1, 1, 1, 1], [1, 1, 1, 1, 1], [0, 1, 0, 1, 1, 1, 1, 1, 1, 1], [0, 1, 0, 1, 1, 1, 1, 1, 1, 1, 0, 0, 1, 0, 0, 1, 0, 1, 1, 1, 1, 1, 1, 1], [1, 1, 1, 1, 1, 1, 1, 1, 0, 0, 1, 0, 0, 1, 0, 1, 1, 1, 1, 1, 1, 1], [0, 1, 0, 1, 1, 1, 1, 1, 1, 1, 1, 0, 0, 1, 0, 0, 1, 0, 1, 1, 1, 1, 1, 1, 1], [1, 1, 1, 1, 1, 1, 1, 1, 1, 0, 0, 1, 0, 0, 1, 0, 1, 1, 1, 1, 1, 1, 1], [1, 1, 0, 0, 1, 0, 1, 1, 1, 1, 1, 1, 1], [1, 1, 1, 1, 1, 1, 1, 1]] = true := by kernel_rfl
def compassref12_Gadget.run_t (l1 : (Option Addr) → Nat → Nat → Nat → Nat → (Option Addr) → Nat → Nat → Int → Hp → Prop) (g0_Nodes : Int) (g0_Edgesp : Option Addr) (g0_Edgesn : Nat) (g0_Edgesc : Nat) (b1p : Option Addr) (b1n : Nat) (b1c : Nat)  (E : Value → Hp → Prop) (H : Hp) (K : Int → (Option Addr) → Nat → Nat → Int → Int → Hp → Prop) : Prop :=
  nw H ⟨[.int .i64 g0_Nodes, .slice g0_Edgesp g0_Edgesn g0_Edgesc], 24⟩ fun b_1 H_1 =>
  nw H_1 ⟨[.int .i64 0, .slice none 0 0], 24⟩ fun b_2 H_2 =>
  ldI .i64 (H_2.get b_1 0) fun x_1 =>
  ldS (H_2.get b_1 1) fun x_2p x_2n x_2c =>
  compassref12_Bounds.call x_1 x_2p x_2n x_2c b1p b1n b1c E H_2 fun r_1 H_3 =>
  bcase (!decide ((r_1 : Int) = 0)) (
  stC H_3 b_2 0 [.int .i64 0, .slice none 0 0] fun H_4 =>
  ldI .i64 (H_4.get b_2 0) fun x_3 =>
  ldS (H_4.get b_2 1) fun x_4p x_4n x_4c =>
  K x_3 x_4p x_4n x_4c 0 r_1 H_4)
  (ldI .i64 (H_3.get b_1 0) fun x_5 =>
  mkS (IntKind.wrap .i64 (x_5 + 1)) (IntKind.wrap .i64 (x_5 + 1)) 3 [.i .i64] 8 H_3 fun b_3 H_5 =>
  l1 b1p b1n b1c b_1 b_2 (some ⟨b_3, 0, none⟩) ((IntKind.wrap .i64 (x_5 + 1)).toNat) ((IntKind.wrap .i64 (x_5 + 1)).toNat) 0 H_5)
theorem compassref12_Gadget.run_eq {g0_Nodes : Int} {g0_Edgesp : Option Addr} {g0_Edgesn : Nat} {g0_Edgesc : Nat} {b1p : Option Addr} {b1n : Nat} {b1c : Nat} { E : Value → Hp → Prop} {H : Hp} {K : Int → (Option Addr) → Nat → Nat → Int → Int → Hp → Prop} (h : compassref12_Gadget.run_t (fun b1p b1n b1c g2 t4 fr8p fr8n fr8c v9 H => compassref12_Gadget.l1 b1p b1n b1c g2 t4 fr8p fr8n fr8c v9  E H K) g0_Nodes g0_Edgesp g0_Edgesn g0_Edgesc b1p b1n b1c  E H K) : compassref12_Gadget.run g0_Nodes g0_Edgesp g0_Edgesn g0_Edgesc b1p b1n b1c  E H K := by
  exact nodeR_imp2 (fun G => compassref12_Gadget.run_t (fun b1p b1n b1c g2 t4 fr8p fr8n fr8c v9 H => G [0, 1, 0, 1, 1, 1, 1] [(1, .slice b1p b1n b1c), (2, .pointer (some ⟨g2, 0, none⟩)), (4, .pointer (some ⟨t4, 0, none⟩)), (8, .slice fr8p fr8n fr8c), (9, .int .i64 v9)] H) g0_Nodes g0_Edgesp g0_Edgesn g0_Edgesc b1p b1n b1c  E H K) compassref12_Gadget.nok rfl (fun G => by kernel_rfl) (Eq.mp (by kernel_rfl) h)
def compassref12_Gadget.j1_t (l2 : Nat → Nat → (Option Addr) → Nat → Nat → Nat → Int → Int → Hp → Prop) (g2 : Nat) (t4 : Nat) (fr8p : Option Addr) (fr8n : Nat) (fr8c : Nat)  (E : Value → Hp → Prop) (H : Hp) (K : Int → (Option Addr) → Nat → Nat → Int → Int → Hp → Prop) : Prop :=
  ldI .i64 (H.get g2 0) fun x_1 =>
  ix fr8p fr8n x_1 1 fun b_1 o_1 =>
  ldI .i64 (H.get b_1 o_1) fun x_2 =>
  nw H ⟨[.int .i64 0, .slice none 0 0], 24⟩ fun b_2 H_1 =>
  stC H_1 b_2 0 [.int .i64 x_2, .slice none 0 0] fun H_2 =>
  l2 g2 t4 fr8p fr8n fr8c b_2 0 0 H_2
theorem compassref12_Gadget.j1_eq {g2 : Nat} {t4 : Nat} {fr8p : Option Addr} {fr8n : Nat} {fr8c : Nat} { E : Value → Hp → Prop} {H : Hp} {K : Int → (Option Addr) → Nat → Nat → Int → Int → Hp → Prop} (h : compassref12_Gadget.j1_t (fun g2 t4 fr8p fr8n fr8c ou10 co11 i12 H => compassref12_Gadget.l2 g2 t4 fr8p fr8n fr8c ou10 co11 i12  E H K) g2 t4 fr8p fr8n fr8c  E H K) : compassref12_Gadget.j1 g2 t4 fr8p fr8n fr8c  E H K := by
  exact nodeR_imp2 (fun G => compassref12_Gadget.j1_t (fun g2 t4 fr8p fr8n fr8c ou10 co11 i12 H => G [0, 1, 0, 1, 1, 1, 1, 1, 1, 1] [(2, .pointer (some ⟨g2, 0, none⟩)), (4, .pointer (some ⟨t4, 0, none⟩)), (8, .slice fr8p fr8n fr8c), (10, .pointer (some ⟨ou10, 0, none⟩)), (11, .int .i64 co11), (12, .int .i64 i12)] H) g2 t4 fr8p fr8n fr8c  E H K) compassref12_Gadget.nok rfl (fun G => by kernel_rfl) (Eq.mp (by kernel_rfl) h)
def compassref12_Gadget.j2_t (l4 : Nat → Nat → (Option Addr) → Nat → Nat → Nat → Int → Int → Nat → Int → Int → Hp → Prop) (g2 : Nat) (t4 : Nat) (fr8p : Option Addr) (fr8n : Nat) (fr8c : Nat) (ou10 : Nat) (co11 : Int) (i12 : Int) (e13 : Nat) (y15 : Int) (X1 : Fr → Hp → Prop) (E : Value → Hp → Prop) (H : Hp) (K : Int → (Option Addr) → Nat → Nat → Int → Int → Hp → Prop) : Prop :=
  ldI .i64 (H.get e13 1) fun x_1 =>
  ix fr8p fr8n x_1 1 fun b_1 o_1 =>
  ldI .i64 (H.get b_1 o_1) fun x_2 =>
  l4 g2 t4 fr8p fr8n fr8c ou10 co11 i12 e13 y15 x_2 H
theorem compassref12_Gadget.j2_eq {g2 : Nat} {t4 : Nat} {fr8p : Option Addr} {fr8n : Nat} {fr8c : Nat} {ou10 : Nat} {co11 : Int} {i12 : Int} {e13 : Nat} {y15 : Int} {X1 : Fr → Hp → Prop} { E : Value → Hp → Prop} {H : Hp} {K : Int → (Option Addr) → Nat → Nat → Int → Int → Hp → Prop} (h : compassref12_Gadget.j2_t (fun g2 t4 fr8p fr8n fr8c ou10 co11 i12 e13 y15 c17 H => compassref12_Gadget.l4 g2 t4 fr8p fr8n fr8c ou10 co11 i12 e13 y15 c17 X1 E H K) g2 t4 fr8p fr8n fr8c ou10 co11 i12 e13 y15 X1 E H K) : compassref12_Gadget.j2 g2 t4 fr8p fr8n fr8c ou10 co11 i12 e13 y15 X1 E H K := by
  exact nodeR_imp2 (fun G => compassref12_Gadget.j2_t (fun g2 t4 fr8p fr8n fr8c ou10 co11 i12 e13 y15 c17 H => G [0, 1, 0, 1, 1, 1, 1, 1, 1, 1, 1, 0, 0, 1, 0, 0, 1, 0, 1, 1, 1, 1, 1, 1, 1] [(2, .pointer (some ⟨g2, 0, none⟩)), (4, .pointer (some ⟨t4, 0, none⟩)), (8, .slice fr8p fr8n fr8c), (10, .pointer (some ⟨ou10, 0, none⟩)), (11, .int .i64 co11), (12, .int .i64 i12), (13, .pointer (some ⟨e13, 0, none⟩)), (15, .int .i64 y15), (17, .int .i64 c17)] H) g2 t4 fr8p fr8n fr8c ou10 co11 i12 e13 y15 X1 E H K) compassref12_Gadget.nok rfl (fun G => by kernel_rfl) (Eq.mp (by kernel_rfl) h)
def compassref12_Gadget.j3_t (j4 : Nat → Nat → (Option Addr) → Nat → Nat → Nat → Int → Int → Hp → Prop) (g2 : Nat) (t4 : Nat) (fr8p : Option Addr) (fr8n : Nat) (fr8c : Nat) (ou10 : Nat) (co11 : Int) (i12 : Int) (X1 : Fr → Hp → Prop) (E : Value → Hp → Prop) (H : Hp) (K : Int → (Option Addr) → Nat → Nat → Int → Int → Hp → Prop) : Prop :=
  ldS (H.get ou10 1) fun x_1p x_1n x_1c =>
  bcase (decide ((4096 : Int) < (x_1n : Int))) (
  stC H t4 0 [.int .i64 0, .slice none 0 0] fun H_1 =>
  ldI .i64 (H_1.get t4 0) fun x_2 =>
  ldS (H_1.get t4 1) fun x_3p x_3n x_3c =>
  K x_2 x_3p x_3n x_3c 0 3 H_1)
  (j4 g2 t4 fr8p fr8n fr8c ou10 co11 i12 H)
theorem compassref12_Gadget.j3_eq {g2 : Nat} {t4 : Nat} {fr8p : Option Addr} {fr8n : Nat} {fr8c : Nat} {ou10 : Nat} {co11 : Int} {i12 : Int} {X1 : Fr → Hp → Prop} { E : Value → Hp → Prop} {H : Hp} {K : Int → (Option Addr) → Nat → Nat → Int → Int → Hp → Prop} (h : compassref12_Gadget.j3_t (fun g2 t4 fr8p fr8n fr8c ou10 co11 i12 H => compassref12_Gadget.j4 g2 t4 fr8p fr8n fr8c ou10 co11 i12 X1 E H K) g2 t4 fr8p fr8n fr8c ou10 co11 i12 X1 E H K) : compassref12_Gadget.j3 g2 t4 fr8p fr8n fr8c ou10 co11 i12 X1 E H K := by
  exact nodeR_imp2 (fun G => compassref12_Gadget.j3_t (fun g2 t4 fr8p fr8n fr8c ou10 co11 i12 H => G [1, 1, 0, 0, 1, 0, 1, 1, 1, 1, 1, 1, 1] [(2, .pointer (some ⟨g2, 0, none⟩)), (4, .pointer (some ⟨t4, 0, none⟩)), (8, .slice fr8p fr8n fr8c), (10, .pointer (some ⟨ou10, 0, none⟩)), (11, .int .i64 co11), (12, .int .i64 i12)] H) g2 t4 fr8p fr8n fr8c ou10 co11 i12 X1 E H K) compassref12_Gadget.nok rfl (fun G => by kernel_rfl) (Eq.mp (by kernel_rfl) h)
def compassref12_Gadget.j4_t  (g2 : Nat) (t4 : Nat) (fr8p : Option Addr) (fr8n : Nat) (fr8c : Nat) (ou10 : Nat) (co11 : Int) (i12 : Int) (X1 : Fr → Hp → Prop) (E : Value → Hp → Prop) (H : Hp) (K : Int → (Option Addr) → Nat → Nat → Int → Int → Hp → Prop) : Prop :=
  X1 (compassref12_Gadget.f2 g2 t4 fr8p fr8n fr8c ou10 co11 (IntKind.wrap .i64 (i12 + 1))) H
theorem compassref12_Gadget.j4_eq {g2 : Nat} {t4 : Nat} {fr8p : Option Addr} {fr8n : Nat} {fr8c : Nat} {ou10 : Nat} {co11 : Int} {i12 : Int} {X1 : Fr → Hp → Prop} { E : Value → Hp → Prop} {H : Hp} {K : Int → (Option Addr) → Nat → Nat → Int → Int → Hp → Prop} (h : compassref12_Gadget.j4_t  g2 t4 fr8p fr8n fr8c ou10 co11 i12 X1 E H K) : compassref12_Gadget.j4 g2 t4 fr8p fr8n fr8c ou10 co11 i12 X1 E H K := by
  exact nodeR_imp2 (fun _ => compassref12_Gadget.j4_t  g2 t4 fr8p fr8n fr8c ou10 co11 i12 X1 E H K) compassref12_Gadget.nok rfl (fun G => by kernel_rfl) h
def compassref12_Gadget.j5_t  (t4 : Nat) (ou10 : Nat) (co11 : Int)  (E : Value → Hp → Prop) (H : Hp) (K : Int → (Option Addr) → Nat → Nat → Int → Int → Hp → Prop) : Prop :=
  ldI .i64 (H.get ou10 0) fun x_1 =>
  bcase (decide ((1024 : Int) < x_1)) (
  stC H t4 0 [.int .i64 0, .slice none 0 0] fun H_1 =>
  ldI .i64 (H_1.get t4 0) fun x_2 =>
  ldS (H_1.get t4 1) fun x_3p x_3n x_3c =>
  K x_2 x_3p x_3n x_3c 0 3 H_1)
  (ldI .i64 (H.get ou10 0) fun x_4 =>
  ldS (H.get ou10 1) fun x_5p x_5n x_5c =>
  stC H t4 0 [.int .i64 x_4, .slice x_5p x_5n x_5c] fun H_2 =>
  ldI .i64 (H_2.get t4 0) fun x_6 =>
  ldS (H_2.get t4 1) fun x_7p x_7n x_7c =>
  K x_6 x_7p x_7n x_7c co11 0 H_2)
theorem compassref12_Gadget.j5_eq {t4 : Nat} {ou10 : Nat} {co11 : Int} { E : Value → Hp → Prop} {H : Hp} {K : Int → (Option Addr) → Nat → Nat → Int → Int → Hp → Prop} (h : compassref12_Gadget.j5_t  t4 ou10 co11  E H K) : compassref12_Gadget.j5 t4 ou10 co11  E H K := by
  exact nodeR_imp2 (fun _ => compassref12_Gadget.j5_t  t4 ou10 co11  E H K) compassref12_Gadget.nok rfl (fun G => by kernel_rfl) h
def compassref12_Gadget.b1_t (j1 : Nat → Nat → (Option Addr) → Nat → Nat → Hp → Prop) (b1p : Option Addr) (b1n : Nat) (b1c : Nat) (g2 : Nat) (t4 : Nat) (fr8p : Option Addr) (fr8n : Nat) (fr8c : Nat) (v9 : Int) (X1 : Fr → Hp → Prop) (E : Value → Hp → Prop) (H : Hp) (K : Int → (Option Addr) → Nat → Nat → Int → Int → Hp → Prop) : Prop :=
  ldI .i64 (H.get g2 0) fun x_1 =>
  bcase (decide ((v9 : Int) < x_1)) (
  ix fr8p fr8n v9 1 fun b_1 o_1 =>
  ldI .i64 (H.get b_1 o_1) fun x_2 =>
  ldI .i64 (H.get g2 0) fun x_3 =>
  ldS (H.get g2 1) fun x_4p x_4n x_4c =>
  compassref12_Copies.call x_3 x_4p x_4n x_4c b1p b1n b1c v9 E H fun r_1 H_1 =>
  (ldI .i64 (H_1.get b_1 o_1) fun x_5 =>
  Value.int .i64 x_5 = Value.int .i64 x_2) ∧
  ix fr8p fr8n (IntKind.wrap .i64 (v9 + 1)) 1 fun b_2 o_2 =>
  stC H_1 b_2 o_2 [.int .i64 (IntKind.wrap .i64 (x_2 + r_1))] fun H_2 =>
  X1 (compassref12_Gadget.f1 b1p b1n b1c g2 t4 fr8p fr8n fr8c (IntKind.wrap .i64 (v9 + 1))) H_2)
  (j1 g2 t4 fr8p fr8n fr8c H)
theorem compassref12_Gadget.b1_eq {b1p : Option Addr} {b1n : Nat} {b1c : Nat} {g2 : Nat} {t4 : Nat} {fr8p : Option Addr} {fr8n : Nat} {fr8c : Nat} {v9 : Int} {X1 : Fr → Hp → Prop} { E : Value → Hp → Prop} {H : Hp} {K : Int → (Option Addr) → Nat → Nat → Int → Int → Hp → Prop} (h : compassref12_Gadget.b1_t (fun g2 t4 fr8p fr8n fr8c H => compassref12_Gadget.j1 g2 t4 fr8p fr8n fr8c  E H K) b1p b1n b1c g2 t4 fr8p fr8n fr8c v9 X1 E H K) : compassref12_Gadget.b1 b1p b1n b1c g2 t4 fr8p fr8n fr8c v9 X1 E H K := by
  exact nodeR_imp2 (fun G => compassref12_Gadget.b1_t (fun g2 t4 fr8p fr8n fr8c H => G [1, 1, 1, 1, 1] [(2, .pointer (some ⟨g2, 0, none⟩)), (4, .pointer (some ⟨t4, 0, none⟩)), (8, .slice fr8p fr8n fr8c)] H) b1p b1n b1c g2 t4 fr8p fr8n fr8c v9 X1 E H K) compassref12_Gadget.nok rfl (fun G => by kernel_rfl) (Eq.mp (by kernel_rfl) h)
def compassref12_Gadget.b2_t (l3 : Nat → Nat → (Option Addr) → Nat → Nat → Nat → Int → Int → Nat → Int → Int → Int → Hp → Prop) (j4 : Nat → Nat → (Option Addr) → Nat → Nat → Nat → Int → Int → Hp → Prop) (j5 : Nat → Nat → Int → Hp → Prop) (g2 : Nat) (t4 : Nat) (fr8p : Option Addr) (fr8n : Nat) (fr8c : Nat) (ou10 : Nat) (co11 : Int) (i12 : Int) (X1 : Fr → Hp → Prop) (E : Value → Hp → Prop) (H : Hp) (K : Int → (Option Addr) → Nat → Nat → Int → Int → Hp → Prop) : Prop :=
  ldS (H.get g2 1) fun x_1p x_1n x_1c =>
  bcase (decide ((i12 : Int) < (x_1n : Int))) (
  ldS (H.get g2 1) fun x_2p x_2n x_2c =>
  ix x_2p x_2n i12 4 fun b_1 o_1 =>
  ldI .i64 (H.get b_1 o_1) fun x_3 =>
  ldI .i64 (H.get b_1 (o_1 + 1)) fun x_4 =>
  ldI .i64 (H.get b_1 (o_1 + 2)) fun x_5 =>
  ldI .i64 (H.get b_1 (o_1 + 3)) fun x_6 =>
  nw H ⟨[.int .i64 0, .int .i64 0, .int .i64 0, .int .i64 0], 44⟩ fun b_2 H_1 =>
  stC H_1 b_2 0 [.int .i64 x_3, .int .i64 x_4, .int .i64 x_5, .int .i64 x_6] fun H_2 =>
  ldI .i64 (H_2.get b_2 0) fun x_7 =>
  ldI .i64 (H_2.get b_2 1) fun x_8 =>
  bcase (decide ((x_7 : Int) = x_8)) (
  j4 g2 t4 fr8p fr8n fr8c ou10 co11 i12 H_2)
  (ldI .i64 (H_2.get ou10 0) fun x_9 =>
  ldI .i64 (H_2.get ou10 0) fun x_10 =>
  ldI .i64 (H_2.get ou10 0) fun x_11 =>
  stC H_2 ou10 0 [.int .i64 (IntKind.wrap .i64 (x_11 + 2))] fun H_3 =>
  ldS (H_3.get ou10 1) fun x_12p x_12n x_12c =>
  nw H_3 ⟨[.int .i64 x_9, .int .i64 (IntKind.wrap .i64 (x_10 + 1)), .int .i64 0, .int .i64 0], 44⟩ fun b_3 H_4 =>
  appM 44 [.i .i64, .i .i64, .i .i64, .i .i64] 32 x_12p x_12n x_12c (some ⟨b_3, 0, none⟩) 1 H_4 fun a_1p a_1n a_1c H_5 =>
  stC H_5 ou10 1 [.slice a_1p a_1n a_1c] fun H_6 =>
  ldI .i64 (H_6.get b_2 0) fun x_13 =>
  ix fr8p fr8n x_13 1 fun b_4 o_2 =>
  ldI .i64 (H_6.get b_4 o_2) fun x_14 =>
  l3 g2 t4 fr8p fr8n fr8c ou10 (IntKind.wrap .i64 (co11 + 1)) i12 b_2 x_9 (IntKind.wrap .i64 (x_10 + 1)) x_14 H_6))
  (j5 t4 ou10 co11 H)
theorem compassref12_Gadget.b2_eq {g2 : Nat} {t4 : Nat} {fr8p : Option Addr} {fr8n : Nat} {fr8c : Nat} {ou10 : Nat} {co11 : Int} {i12 : Int} {X1 : Fr → Hp → Prop} { E : Value → Hp → Prop} {H : Hp} {K : Int → (Option Addr) → Nat → Nat → Int → Int → Hp → Prop} (h : compassref12_Gadget.b2_t (fun g2 t4 fr8p fr8n fr8c ou10 co11 i12 e13 x14 y15 c16 H => compassref12_Gadget.l3 g2 t4 fr8p fr8n fr8c ou10 co11 i12 e13 x14 y15 c16 X1 E H K) (fun g2 t4 fr8p fr8n fr8c ou10 co11 i12 H => compassref12_Gadget.j4 g2 t4 fr8p fr8n fr8c ou10 co11 i12 X1 E H K) (fun t4 ou10 co11 H => compassref12_Gadget.j5 t4 ou10 co11  E H K) g2 t4 fr8p fr8n fr8c ou10 co11 i12 X1 E H K) : compassref12_Gadget.b2 g2 t4 fr8p fr8n fr8c ou10 co11 i12 X1 E H K := by
  exact nodeR_imp2 (fun G => compassref12_Gadget.b2_t (fun g2 t4 fr8p fr8n fr8c ou10 co11 i12 e13 x14 y15 c16 H => G [0, 1, 0, 1, 1, 1, 1, 1, 1, 1, 0, 0, 1, 0, 0, 1, 0, 1, 1, 1, 1, 1, 1, 1] [(2, .pointer (some ⟨g2, 0, none⟩)), (4, .pointer (some ⟨t4, 0, none⟩)), (8, .slice fr8p fr8n fr8c), (10, .pointer (some ⟨ou10, 0, none⟩)), (11, .int .i64 co11), (12, .int .i64 i12), (13, .pointer (some ⟨e13, 0, none⟩)), (14, .int .i64 x14), (15, .int .i64 y15), (16, .int .i64 c16)] H) (fun g2 t4 fr8p fr8n fr8c ou10 co11 i12 H => G [1, 1, 0, 0, 1, 0, 1, 1, 1, 1, 1, 1, 1] [(2, .pointer (some ⟨g2, 0, none⟩)), (4, .pointer (some ⟨t4, 0, none⟩)), (8, .slice fr8p fr8n fr8c), (10, .pointer (some ⟨ou10, 0, none⟩)), (11, .int .i64 co11), (12, .int .i64 i12)] H) (fun t4 ou10 co11 H => G [1, 1, 1, 1, 1, 1, 1, 1] [(4, .pointer (some ⟨t4, 0, none⟩)), (10, .pointer (some ⟨ou10, 0, none⟩)), (11, .int .i64 co11)] H) g2 t4 fr8p fr8n fr8c ou10 co11 i12 X1 E H K) compassref12_Gadget.nok rfl (fun G => by kernel_rfl) (Eq.mp (by kernel_rfl) h)
def compassref12_Gadget.b3_t (j2 : Nat → Nat → (Option Addr) → Nat → Nat → Nat → Int → Int → Nat → Int → Hp → Prop) (g2 : Nat) (t4 : Nat) (fr8p : Option Addr) (fr8n : Nat) (fr8c : Nat) (ou10 : Nat) (co11 : Int) (i12 : Int) (e13 : Nat) (x14 : Int) (y15 : Int) (c16 : Int) (X1 : Fr → Hp → Prop) (X2 : Fr → Hp → Prop) (E : Value → Hp → Prop) (H : Hp) (K : Int → (Option Addr) → Nat → Nat → Int → Int → Hp → Prop) : Prop :=
  ldI .i64 (H.get e13 0) fun x_1 =>
  ix fr8p fr8n (IntKind.wrap .i64 (x_1 + 1)) 1 fun b_1 o_1 =>
  ldI .i64 (H.get b_1 o_1) fun x_2 =>
  bcase (decide ((c16 : Int) < x_2)) (
  ldS (H.get ou10 1) fun x_3p x_3n x_3c =>
  nw H ⟨[.int .i64 c16, .int .i64 x14, .int .i64 0, .int .i64 0], 44⟩ fun b_2 H_1 =>
  appM 44 [.i .i64, .i .i64, .i .i64, .i .i64] 32 x_3p x_3n x_3c (some ⟨b_2, 0, none⟩) 1 H_1 fun a_1p a_1n a_1c H_2 =>
  stC H_2 ou10 1 [.slice a_1p a_1n a_1c] fun H_3 =>
  X2 (compassref12_Gadget.f3 g2 t4 fr8p fr8n fr8c ou10 co11 i12 e13 x14 y15 (IntKind.wrap .i64 (c16 + 1))) H_3)
  (j2 g2 t4 fr8p fr8n fr8c ou10 co11 i12 e13 y15 H)
theorem compassref12_Gadget.b3_eq {g2 : Nat} {t4 : Nat} {fr8p : Option Addr} {fr8n : Nat} {fr8c : Nat} {ou10 : Nat} {co11 : Int} {i12 : Int} {e13 : Nat} {x14 : Int} {y15 : Int} {c16 : Int} {X1 X2 : Fr → Hp → Prop} { E : Value → Hp → Prop} {H : Hp} {K : Int → (Option Addr) → Nat → Nat → Int → Int → Hp → Prop} (h : compassref12_Gadget.b3_t (fun g2 t4 fr8p fr8n fr8c ou10 co11 i12 e13 y15 H => compassref12_Gadget.j2 g2 t4 fr8p fr8n fr8c ou10 co11 i12 e13 y15 X1 E H K) g2 t4 fr8p fr8n fr8c ou10 co11 i12 e13 x14 y15 c16 X1 X2 E H K) : compassref12_Gadget.b3 g2 t4 fr8p fr8n fr8c ou10 co11 i12 e13 x14 y15 c16 X1 X2 E H K := by
  exact nodeR_imp2 (fun G => compassref12_Gadget.b3_t (fun g2 t4 fr8p fr8n fr8c ou10 co11 i12 e13 y15 H => G [1, 1, 1, 1, 1, 1, 1, 1, 0, 0, 1, 0, 0, 1, 0, 1, 1, 1, 1, 1, 1, 1] [(2, .pointer (some ⟨g2, 0, none⟩)), (4, .pointer (some ⟨t4, 0, none⟩)), (8, .slice fr8p fr8n fr8c), (10, .pointer (some ⟨ou10, 0, none⟩)), (11, .int .i64 co11), (12, .int .i64 i12), (13, .pointer (some ⟨e13, 0, none⟩)), (15, .int .i64 y15)] H) g2 t4 fr8p fr8n fr8c ou10 co11 i12 e13 x14 y15 c16 X1 X2 E H K) compassref12_Gadget.nok rfl (fun G => by kernel_rfl) (Eq.mp (by kernel_rfl) h)
def compassref12_Gadget.b4_t (j3 : Nat → Nat → (Option Addr) → Nat → Nat → Nat → Int → Int → Hp → Prop) (g2 : Nat) (t4 : Nat) (fr8p : Option Addr) (fr8n : Nat) (fr8c : Nat) (ou10 : Nat) (co11 : Int) (i12 : Int) (e13 : Nat) (y15 : Int) (c17 : Int) (X1 : Fr → Hp → Prop) (X2 : Fr → Hp → Prop) (E : Value → Hp → Prop) (H : Hp) (K : Int → (Option Addr) → Nat → Nat → Int → Int → Hp → Prop) : Prop :=
  ldI .i64 (H.get e13 1) fun x_1 =>
  ix fr8p fr8n (IntKind.wrap .i64 (x_1 + 1)) 1 fun b_1 o_1 =>
  ldI .i64 (H.get b_1 o_1) fun x_2 =>
  bcase (decide ((c17 : Int) < x_2)) (
  ldS (H.get ou10 1) fun x_3p x_3n x_3c =>
  nw H ⟨[.int .i64 y15, .int .i64 c17, .int .i64 0, .int .i64 0], 44⟩ fun b_2 H_1 =>
  appM 44 [.i .i64, .i .i64, .i .i64, .i .i64] 32 x_3p x_3n x_3c (some ⟨b_2, 0, none⟩) 1 H_1 fun a_1p a_1n a_1c H_2 =>
  stC H_2 ou10 1 [.slice a_1p a_1n a_1c] fun H_3 =>
  X2 (compassref12_Gadget.f4 g2 t4 fr8p fr8n fr8c ou10 co11 i12 e13 y15 (IntKind.wrap .i64 (c17 + 1))) H_3)
  (j3 g2 t4 fr8p fr8n fr8c ou10 co11 i12 H)
theorem compassref12_Gadget.b4_eq {g2 : Nat} {t4 : Nat} {fr8p : Option Addr} {fr8n : Nat} {fr8c : Nat} {ou10 : Nat} {co11 : Int} {i12 : Int} {e13 : Nat} {y15 : Int} {c17 : Int} {X1 X2 : Fr → Hp → Prop} { E : Value → Hp → Prop} {H : Hp} {K : Int → (Option Addr) → Nat → Nat → Int → Int → Hp → Prop} (h : compassref12_Gadget.b4_t (fun g2 t4 fr8p fr8n fr8c ou10 co11 i12 H => compassref12_Gadget.j3 g2 t4 fr8p fr8n fr8c ou10 co11 i12 X1 E H K) g2 t4 fr8p fr8n fr8c ou10 co11 i12 e13 y15 c17 X1 X2 E H K) : compassref12_Gadget.b4 g2 t4 fr8p fr8n fr8c ou10 co11 i12 e13 y15 c17 X1 X2 E H K := by
  exact nodeR_imp2 (fun G => compassref12_Gadget.b4_t (fun g2 t4 fr8p fr8n fr8c ou10 co11 i12 H => G [1, 1, 1, 1, 1, 1, 1, 1, 1, 0, 0, 1, 0, 0, 1, 0, 1, 1, 1, 1, 1, 1, 1] [(2, .pointer (some ⟨g2, 0, none⟩)), (4, .pointer (some ⟨t4, 0, none⟩)), (8, .slice fr8p fr8n fr8c), (10, .pointer (some ⟨ou10, 0, none⟩)), (11, .int .i64 co11), (12, .int .i64 i12)] H) g2 t4 fr8p fr8n fr8c ou10 co11 i12 e13 y15 c17 X1 X2 E H K) compassref12_Gadget.nok rfl (fun G => by kernel_rfl) (Eq.mp (by kernel_rfl) h)
/-! ### compass/compassref12.Many (12) -/
noncomputable def compassref12_Many.A : An := { live := [(0, [0, 1, 2, 3]), (1, [1, 2, 3, 4]), (2, [1, 2, 3, 4, 10, 11, 12]), (3, [12]), (4, [1, 2, 3, 4, 10, 11]), (5, []), (6, [2])], ord := [(4, [0, 1, 2, 3, 4, 5, 6, 7, 8, 9, 10, 11, 12, 13, 14, 15, 16, 17, 18, 19, 22, 23, 24, 25, 26, 20, 21, 27, 28])], stb := [(4, [(20, [23])])], pre := [(4, [[], [], [], [0, 1, 2], [0, 1, 2, 3], [0, 1, 2, 3, 4], [0, 1, 2, 3, 4, 5], [0, 1, 2, 3, 4, 5], [0, 1, 2, 3, 4, 5, 7], [0, 1, 2, 3, 4, 5, 6, 7, 8], [0, 1, 2, 3, 4, 5, 6, 7, 8, 9], [0, 1, 2, 3, 4, 5, 6, 7, 8, 9, 10], [0, 1, 2, 3, 4, 5, 6, 7, 8, 9, 10, 11], [0, 1, 2, 3, 4, 5, 6, 7, 8, 9, 10, 11, 12], [0, 1, 2, 3, 4, 5, 6, 7, 8, 9, 10, 11, 12], [0, 1, 2, 3, 4, 5, 6, 7, 8, 9, 10, 11, 12, 14], [0, 1, 2, 3, 4, 5, 6, 7, 8, 9, 10, 11, 12, 13, 14, 15], [0, 1, 2, 3, 4, 5, 6, 7, 8, 9, 10, 11, 12, 13, 14, 15, 16], [0, 1, 2, 3, 4, 5, 6, 7, 8, 9, 10, 11, 12], [0, 1, 2, 3, 4, 5, 6, 7, 8, 9, 10, 11, 12], [0, 1, 2, 3, 4, 5, 6, 7, 8, 9, 10, 11, 12, 18, 19], [0, 1, 2, 3, 4, 5, 6, 7, 8, 9, 10, 11, 12, 13, 14, 15, 16, 17, 18, 19, 20], [0, 1, 2, 3, 4, 5, 6, 7, 8, 9, 10, 11, 12], [0, 1, 2, 3, 4, 5, 6, 7, 8, 9, 10, 11, 12, 22], [0, 1, 2, 3, 4, 5, 6, 7, 8, 9, 10, 11, 12], [0, 1, 2, 3, 4, 5, 6, 7, 8, 9, 10, 11, 12, 24], [0, 1, 2, 3, 4, 5, 6, 7, 8, 9, 10, 11, 12, 22, 23, 24, 25], [0, 1, 2, 3, 4, 5, 6, 7, 8, 9, 10, 11, 12, 13, 14, 15, 16, 17, 18, 19, 20, 21, 22, 23, 24, 25, 26], [0, 1, 2, 3, 4, 5, 6, 7, 8, 9, 10, 11, 12, 13, 14, 15, 16, 17, 18, 19, 20, 21, 22, 23, 24, 25, 26, 27]])] }
noncomputable def compassref12_Many.code : Code := bodyOf Go.Proofs.Try.f12
theorem compassref12_Many.ok : okCode compassref12_Many.A 54 compassref12_Many.code = true := by kernel_rfl
def compassref12_Many.rq (E : Value → Hp → Prop) (K : Int → Int → Hp → Prop) : Ex → Fr → Hp → Prop := retQ T0 [.tmp 8, .tmp 9] [3, 3] (fun r H => ldR (.tup [(false, [.i .i64]), (false, [.i .i64])]) r fun u => K (asI (tupV u 0)) (asI (tupV u 1)) H) E
def compassref12_Many.run (g0_Nodes : Int) (g0_Edgesp : Option Addr) (g0_Edgesn : Nat) (g0_Edgesc : Nat) (b1p : Option Addr) (b1n : Nat) (b1c : Nat) (m2p : Option Addr) (m2n : Nat) (m2c : Nat) (se3p : Option Addr) (se3n : Nat) (se3c : Nat) (E : Value → Hp → Prop) (H : Hp) (K : Int → Int → Hp → Prop) : Prop := nodeM P0 T0 compassref12_Many.A compassref12_Many.code [] [] (compassref12_Many.rq E K) (argF 0 [.agg ⟨[.int .i64 g0_Nodes, .slice g0_Edgesp g0_Edgesn g0_Edgesc]⟩, .slice b1p b1n b1c, .slice m2p m2n m2c, .slice se3p se3n se3c]) H
theorem compassref12_Many.of {g0_Nodes : Int} {g0_Edgesp : Option Addr} {g0_Edgesn : Nat} {g0_Edgesc : Nat} {b1p : Option Addr} {b1n : Nat} {b1c : Nat} {m2p : Option Addr} {m2n : Nat} {m2c : Nat} {se3p : Option Addr} {se3n : Nat} {se3c : Nat} {E : Value → Hp → Prop} {H : Hp} {K : Int → Int → Hp → Prop} (h : compassref12_Many.run g0_Nodes g0_Edgesp g0_Edgesn g0_Edgesc b1p b1n b1c m2p m2n m2c se3p se3n se3c E H K) : compassref12_Many.call g0_Nodes g0_Edgesp g0_Edgesn g0_Edgesc b1p b1n b1c m2p m2n m2c se3p se3n se3c E H K :=
  callW_of T0_ok P0_mixed (A := compassref12_Many.A) (fn := Go.Proofs.Try.f12) Go.Proofs.Try.func12 rfl compassref12_Many.ok rfl h
theorem compassref12_Many.nok : nodesOk compassref12_Many.code [] = true := by kernel_rfl
def compassref12_Many.run_t  (g0_Nodes : Int) (g0_Edgesp : Option Addr) (g0_Edgesn : Nat) (g0_Edgesc : Nat) (b1p : Option Addr) (b1n : Nat) (b1c : Nat) (m2p : Option Addr) (m2n : Nat) (m2c : Nat) (se3p : Option Addr) (se3n : Nat) (se3c : Nat)  (E : Value → Hp → Prop) (H : Hp) (K : Int → Int → Hp → Prop) : Prop :=
  nw H ⟨[.int .i64 g0_Nodes, .slice g0_Edgesp g0_Edgesn g0_Edgesc], 24⟩ fun b_1 H_1 =>
  ldI .i64 (H_1.get b_1 0) fun x_1 =>
  ldS (H_1.get b_1 1) fun x_2p x_2n x_2c =>
  compassref12_Gadget.call x_1 x_2p x_2n x_2c b1p b1n b1c E H_1 fun r_1_Nodes r_1_Edgesp r_1_Edgesn r_1_Edgesc r_2 r_3 H_2 =>
  nw H_2 ⟨[.int .i64 0, .slice none 0 0], 24⟩ fun b_2 H_3 =>
  stC H_3 b_2 0 [.int .i64 r_1_Nodes, .slice r_1_Edgesp r_1_Edgesn r_1_Edgesc] fun H_4 =>
  bcase (!decide ((r_3 : Int) = 0)) (
  K 0 r_3 H_4)
  (ldI .i64 (H_4.get b_1 0) fun x_3 =>
  ldS (H_4.get b_1 1) fun x_4p x_4n x_4c =>
  compassref12_Taken.call x_3 x_4p x_4n x_4c m2p m2n m2c b1p b1n b1c E H_4 fun r_4 H_5 =>
  bcase ((!r_4)) (
  K 0 221 H_5)
  (ldI .i64 (H_5.get b_2 0) fun x_5 =>
  compassref12_Rising.call se3p se3n se3c x_5 E H_5 fun r_5 H_6 =>
  bcase ((!r_5)) (
  K 0 221 H_6)
  (ldI .i64 (H_6.get b_2 0) fun x_6 =>
  ldS (H_6.get b_2 1) fun x_7p x_7n x_7c =>
  ldI .i64 (H_6.get b_2 0) fun x_8 =>
  compassref12_Odd.call x_6 x_7p x_7n x_7c se3p se3n se3c E H_6 fun r_6 H_7 =>
  (ldI .i64 (H_7.get b_2 0) fun x_9 =>
  Value.int .i64 x_9 = Value.int .i64 x_8) ∧
  bcase (!decide (((IntKind.wrap .i64 ((IntKind.wrap .i64 (2 * (IntKind.wrap .i64 (r_2 + (m2n : Int))))) + r_6)) : Int) = (IntKind.wrap .i64 (x_8 + (se3n : Int))))) (
  K 0 221 H_7)
  (K (m2n : Int) 0 H_7))))
theorem compassref12_Many.run_eq {g0_Nodes : Int} {g0_Edgesp : Option Addr} {g0_Edgesn : Nat} {g0_Edgesc : Nat} {b1p : Option Addr} {b1n : Nat} {b1c : Nat} {m2p : Option Addr} {m2n : Nat} {m2c : Nat} {se3p : Option Addr} {se3n : Nat} {se3c : Nat} { E : Value → Hp → Prop} {H : Hp} {K : Int → Int → Hp → Prop} (h : compassref12_Many.run_t  g0_Nodes g0_Edgesp g0_Edgesn g0_Edgesc b1p b1n b1c m2p m2n m2c se3p se3n se3c  E H K) : compassref12_Many.run g0_Nodes g0_Edgesp g0_Edgesn g0_Edgesc b1p b1n b1c m2p m2n m2c se3p se3n se3c  E H K := by
  exact nodeR_imp2 (fun _ => compassref12_Many.run_t  g0_Nodes g0_Edgesp g0_Edgesn g0_Edgesc b1p b1n b1c m2p m2n m2c se3p se3n se3c  E H K) compassref12_Many.nok rfl (fun G => by kernel_rfl) h
/-! ### compass/compassref12.Bounds (23) -/
noncomputable def compassref12_Bounds.A : An := { live := [(0, [0, 1]), (1, [1, 2]), (2, [1, 2, 5]), (3, [5]), (4, [1, 2]), (5, []), (6, [1, 2]), (7, [1, 2, 7]), (8, [1, 2, 7]), (9, [1, 2, 7]), (10, []), (11, [])], ord := [], stb := [], pre := [] }
noncomputable def compassref12_Bounds.code : Code := bodyOf Go.Proofs.Try.f23
theorem compassref12_Bounds.ok : okCode compassref12_Bounds.A 39 compassref12_Bounds.code = true := by kernel_rfl
def compassref12_Bounds.rq (E : Value → Hp → Prop) (K : Int → Hp → Prop) : Ex → Fr → Hp → Prop := retQ T0 [.tmp 4] [3] (fun r H => ldR (.one false [.i .i64]) r fun u => K (asI u) H) E
def compassref12_Bounds.run (g0_Nodes : Int) (g0_Edgesp : Option Addr) (g0_Edgesn : Nat) (g0_Edgesc : Nat) (b1p : Option Addr) (b1n : Nat) (b1c : Nat) (E : Value → Hp → Prop) (H : Hp) (K : Int → Hp → Prop) : Prop := nodeM P0 T0 compassref12_Bounds.A compassref12_Bounds.code [] [] (compassref12_Bounds.rq E K) (argF 0 [.agg ⟨[.int .i64 g0_Nodes, .slice g0_Edgesp g0_Edgesn g0_Edgesc]⟩, .slice b1p b1n b1c]) H
theorem compassref12_Bounds.of {g0_Nodes : Int} {g0_Edgesp : Option Addr} {g0_Edgesn : Nat} {g0_Edgesc : Nat} {b1p : Option Addr} {b1n : Nat} {b1c : Nat} {E : Value → Hp → Prop} {H : Hp} {K : Int → Hp → Prop} (h : compassref12_Bounds.run g0_Nodes g0_Edgesp g0_Edgesn g0_Edgesc b1p b1n b1c E H K) : compassref12_Bounds.call g0_Nodes g0_Edgesp g0_Edgesn g0_Edgesc b1p b1n b1c E H K :=
  callW_of T0_ok P0_mixed (A := compassref12_Bounds.A) (fn := Go.Proofs.Try.f23) Go.Proofs.Try.func23 rfl compassref12_Bounds.ok rfl h
noncomputable def compassref12_Bounds.f1 (b1p : Option Addr) (b1n : Nat) (b1c : Nat) (g2 : Nat) (v7 : Int) : Fr := [(1, .slice b1p b1n b1c), (2, .pointer (some ⟨g2, 0, none⟩)), (7, .int .i64 v7)]
def compassref12_Bounds.l1 (b1p : Option Addr) (b1n : Nat) (b1c : Nat) (g2 : Nat) (v7 : Int)  (E : Value → Hp → Prop) (H : Hp) (K : Int → Hp → Prop) : Prop := nodeM P0 T0 compassref12_Bounds.A compassref12_Bounds.code [1, 1, 1, 1, 0, 1, 0] [] (compassref12_Bounds.rq E K) (compassref12_Bounds.f1 b1p b1n b1c g2 v7) H
def compassref12_Bounds.b1 (b1p : Option Addr) (b1n : Nat) (b1c : Nat) (g2 : Nat) (v7 : Int)  (X1 : Fr → Hp → Prop) (E : Value → Hp → Prop) (H : Hp) (K : Int → Hp → Prop) : Prop := nodeM P0 T0 compassref12_Bounds.A compassref12_Bounds.code [1, 1, 1, 1, 0, 1, 0, 0] [X1] (compassref12_Bounds.rq E K) (compassref12_Bounds.f1 b1p b1n b1c g2 v7) H
theorem compassref12_Bounds.l1_rule { E : Value → Hp → Prop} {K : Int → Hp → Prop} (I : (Option Addr) → Nat → Nat → Nat → Int → Hp → Prop) (μ : (Option Addr) → Nat → Nat → Nat → Int → Hp → Nat)
    (h : ∀ b1p b1n b1c g2 v7 H, I b1p b1n b1c g2 v7 H → ∀ X : Fr → Hp → Prop, (∀ b1p' b1n' b1c' g2' v7' H', I b1p' b1n' b1c' g2' v7' H' → μ b1p' b1n' b1c' g2' v7' H' < μ b1p b1n b1c g2 v7 H → X (compassref12_Bounds.f1 b1p' b1n' b1c' g2' v7') H') → compassref12_Bounds.b1 b1p b1n b1c g2 v7  X E H K)
    {b1p : Option Addr} {b1n : Nat} {b1c : Nat} {g2 : Nat} {v7 : Int} {H : Hp} (hI : I b1p b1n b1c g2 v7 H) : compassref12_Bounds.l1 b1p b1n b1c g2 v7  E H K :=
  loop_rule (S := (Option Addr) × Nat × Nat × Nat × Int) (fun s => compassref12_Bounds.f1 (s.1) (s.2.1) (s.2.2.1) (s.2.2.2.1) (s.2.2.2.2)) (fun s H => I (s.1) (s.2.1) (s.2.2.1) (s.2.2.2.1) (s.2.2.2.2) H) (fun s H => μ (s.1) (s.2.1) (s.2.2.1) (s.2.2.2.1) (s.2.2.2.2) H) (fun s H hI X hX => h (s.1) (s.2.1) (s.2.2.1) (s.2.2.2.1) (s.2.2.2.2) H hI X fun b1p' b1n' b1c' g2' v7' H' hI' hlt => hX (b1p', b1n', b1c', g2', v7') H' hI' hlt) (s := (b1p, b1n, b1c, g2, v7)) rfl hI
theorem compassref12_Bounds.nok : nodesOk compassref12_Bounds.code [[0, 1, 0, 1, 1, 1, 1]] = true := by kernel_rfl
def compassref12_Bounds.run_t (l1 : (Option Addr) → Nat → Nat → Nat → Int → Hp → Prop) (g0_Nodes : Int) (g0_Edgesp : Option Addr) (g0_Edgesn : Nat) (g0_Edgesc : Nat) (b1p : Option Addr) (b1n : Nat) (b1c : Nat)  (E : Value → Hp → Prop) (H : Hp) (K : Int → Hp → Prop) : Prop :=
  nw H ⟨[.int .i64 g0_Nodes, .slice g0_Edgesp g0_Edgesn g0_Edgesc], 24⟩ fun b_1 H_1 =>
  ldI .i64 (H_1.get b_1 0) fun x_1 =>
  ldS (H_1.get b_1 1) fun x_2p x_2n x_2c =>
  compassref03_Check.call x_1 x_2p x_2n x_2c E H_1 fun r_1 r_2 H_2 =>
  bcase (!decide ((r_1 : Int) = 0)) (
  K r_1 H_2)
  (ldI .i64 (H_2.get b_1 0) fun x_3 =>
  bcase (!decide (((b1n : Int) : Int) = x_3)) (
  K 130 H_2)
  (l1 b1p b1n b1c b_1 0 H_2))
theorem compassref12_Bounds.run_eq {g0_Nodes : Int} {g0_Edgesp : Option Addr} {g0_Edgesn : Nat} {g0_Edgesc : Nat} {b1p : Option Addr} {b1n : Nat} {b1c : Nat} { E : Value → Hp → Prop} {H : Hp} {K : Int → Hp → Prop} (h : compassref12_Bounds.run_t (fun b1p b1n b1c g2 v7 H => compassref12_Bounds.l1 b1p b1n b1c g2 v7  E H K) g0_Nodes g0_Edgesp g0_Edgesn g0_Edgesc b1p b1n b1c  E H K) : compassref12_Bounds.run g0_Nodes g0_Edgesp g0_Edgesn g0_Edgesc b1p b1n b1c  E H K := by
  exact nodeR_imp2 (fun G => compassref12_Bounds.run_t (fun b1p b1n b1c g2 v7 H => G [0, 1, 0, 1, 1, 1, 1] [(1, .slice b1p b1n b1c), (2, .pointer (some ⟨g2, 0, none⟩)), (7, .int .i64 v7)] H) g0_Nodes g0_Edgesp g0_Edgesn g0_Edgesc b1p b1n b1c  E H K) compassref12_Bounds.nok rfl (fun G => by kernel_rfl) (Eq.mp (by kernel_rfl) h)
def compassref12_Bounds.b1_t  (b1p : Option Addr) (b1n : Nat) (b1c : Nat) (g2 : Nat) (v7 : Int) (X1 : Fr → Hp → Prop) (E : Value → Hp → Prop) (H : Hp) (K : Int → Hp → Prop) : Prop :=
  ldI .i64 (H.get g2 0) fun x_1 =>
  bcase (decide ((v7 : Int) < x_1)) (
  ix b1p b1n v7 1 fun b_1 o_1 =>
  ldI .i64 (H.get b_1 o_1) fun x_2 =>
  bcase (decide ((x_2 : Int) < 0)) (
  K 130 H)
  (ix b1p b1n v7 1 fun b_2 o_2 =>
  ldI .i64 (H.get b_2 o_2) fun x_3 =>
  bcase (decide ((4096 : Int) < x_3)) (
  K 130 H)
  (X1 (compassref12_Bounds.f1 b1p b1n b1c g2 (IntKind.wrap .i64 (v7 + 1))) H)))
  (K 0 H)
theorem compassref12_Bounds.b1_eq {b1p : Option Addr} {b1n : Nat} {b1c : Nat} {g2 : Nat} {v7 : Int} {X1 : Fr → Hp → Prop} { E : Value → Hp → Prop} {H : Hp} {K : Int → Hp → Prop} (h : compassref12_Bounds.b1_t  b1p b1n b1c g2 v7 X1 E H K) : compassref12_Bounds.b1 b1p b1n b1c g2 v7 X1 E H K := by
  exact nodeR_imp2 (fun _ => compassref12_Bounds.b1_t  b1p b1n b1c g2 v7 X1 E H K) compassref12_Bounds.nok rfl (fun G => by kernel_rfl) h
/-! ### compass/compassref12.Copies (24) -/
noncomputable def compassref12_Copies.A : An := { live := [(0, [0, 1, 2]), (1, [1, 2, 3]), (2, [1, 2, 3, 7]), (3, [1, 2, 3, 7, 8]), (4, [1, 2, 3, 7, 8]), (5, [1, 2, 3, 7, 8]), (6, [1, 2, 3, 7, 8, 9]), (7, [1, 2, 3, 7, 8]), (8, [1, 2, 7]), (9, [1, 2]), (10, [7])], ord := [], stb := [], pre := [] }
noncomputable def compassref12_Copies.code : Code := bodyOf Go.Proofs.Try.f24
theorem compassref12_Copies.ok : okCode compassref12_Copies.A 52 compassref12_Copies.code = true := by kernel_rfl
def compassref12_Copies.rq (E : Value → Hp → Prop) (K : Int → Hp → Prop) : Ex → Fr → Hp → Prop := retQ T0 [.tmp 6] [3] (fun r H => ldR (.one false [.i .i64]) r fun u => K (asI u) H) E
def compassref12_Copies.run (g0_Nodes : Int) (g0_Edgesp : Option Addr) (g0_Edgesn : Nat) (g0_Edgesc : Nat) (b1p : Option Addr) (b1n : Nat) (b1c : Nat) (v2 : Int) (E : Value → Hp → Prop) (H : Hp) (K : Int → Hp → Prop) : Prop := nodeM P0 T0 compassref12_Copies.A compassref12_Copies.code [] [] (compassref12_Copies.rq E K) (argF 0 [.agg ⟨[.int .i64 g0_Nodes, .slice g0_Edgesp g0_Edgesn g0_Edgesc]⟩, .slice b1p b1n b1c, .int .i64 v2]) H
theorem compassref12_Copies.of {g0_Nodes : Int} {g0_Edgesp : Option Addr} {g0_Edgesn : Nat} {g0_Edgesc : Nat} {b1p : Option Addr} {b1n : Nat} {b1c : Nat} {v2 : Int} {E : Value → Hp → Prop} {H : Hp} {K : Int → Hp → Prop} (h : compassref12_Copies.run g0_Nodes g0_Edgesp g0_Edgesn g0_Edgesc b1p b1n b1c v2 E H K) : compassref12_Copies.call g0_Nodes g0_Edgesp g0_Edgesn g0_Edgesc b1p b1n b1c v2 E H K :=
  callW_of T0_ok P0_mixed (A := compassref12_Copies.A) (fn := Go.Proofs.Try.f24) Go.Proofs.Try.func24 rfl compassref12_Copies.ok rfl h
noncomputable def compassref12_Copies.f1 (b1p : Option Addr) (b1n : Nat) (b1c : Nat) (v2 : Int) (g3 : Nat) (en7 : Int) (i8 : Int) : Fr := [(1, .slice b1p b1n b1c), (2, .int .i64 v2), (3, .pointer (some ⟨g3, 0, none⟩)), (7, .int .i64 en7), (8, .int .i64 i8)]
def compassref12_Copies.j1 (b1p : Option Addr) (b1n : Nat) (b1c : Nat) (v2 : Int) (g3 : Nat) (en7 : Int) (i8 : Int) (X1 : Fr → Hp → Prop) (E : Value → Hp → Prop) (H : Hp) (K : Int → Hp → Prop) : Prop := nodeM P0 T0 compassref12_Copies.A compassref12_Copies.code [1, 1, 0, 1, 0, 0, 1, 0, 0, 1, 1, 0] [X1] (compassref12_Copies.rq E K) [(1, .slice b1p b1n b1c), (2, .int .i64 v2), (3, .pointer (some ⟨g3, 0, none⟩)), (7, .int .i64 en7), (8, .int .i64 i8)] H
def compassref12_Copies.j2 (b1p : Option Addr) (b1n : Nat) (b1c : Nat) (v2 : Int) (g3 : Nat) (en7 : Int) (i8 : Int) (X1 : Fr → Hp → Prop) (E : Value → Hp → Prop) (H : Hp) (K : Int → Hp → Prop) : Prop := nodeM P0 T0 compassref12_Copies.A compassref12_Copies.code [1, 1, 0, 1, 0, 0, 1, 1] [X1] (compassref12_Copies.rq E K) [(1, .slice b1p b1n b1c), (2, .int .i64 v2), (3, .pointer (some ⟨g3, 0, none⟩)), (7, .int .i64 en7), (8, .int .i64 i8)] H
def compassref12_Copies.j3 (b1p : Option Addr) (b1n : Nat) (b1c : Nat) (v2 : Int) (en7 : Int)  (E : Value → Hp → Prop) (H : Hp) (K : Int → Hp → Prop) : Prop := nodeM P0 T0 compassref12_Copies.A compassref12_Copies.code [1, 1, 1] [] (compassref12_Copies.rq E K) [(1, .slice b1p b1n b1c), (2, .int .i64 v2), (7, .int .i64 en7)] H
def compassref12_Copies.l1 (b1p : Option Addr) (b1n : Nat) (b1c : Nat) (v2 : Int) (g3 : Nat) (en7 : Int) (i8 : Int)  (E : Value → Hp → Prop) (H : Hp) (K : Int → Hp → Prop) : Prop := nodeM P0 T0 compassref12_Copies.A compassref12_Copies.code [1, 1, 0, 1, 0] [] (compassref12_Copies.rq E K) (compassref12_Copies.f1 b1p b1n b1c v2 g3 en7 i8) H
def compassref12_Copies.b1 (b1p : Option Addr) (b1n : Nat) (b1c : Nat) (v2 : Int) (g3 : Nat) (en7 : Int) (i8 : Int)  (X1 : Fr → Hp → Prop) (E : Value → Hp → Prop) (H : Hp) (K : Int → Hp → Prop) : Prop := nodeM P0 T0 compassref12_Copies.A compassref12_Copies.code [1, 1, 0, 1, 0, 0] [X1] (compassref12_Copies.rq E K) (compassref12_Copies.f1 b1p b1n b1c v2 g3 en7 i8) H
theorem compassref12_Copies.l1_rule { E : Value → Hp → Prop} {K : Int → Hp → Prop} (I : (Option Addr) → Nat → Nat → Int → Nat → Int → Int → Hp → Prop) (μ : (Option Addr) → Nat → Nat → Int → Nat → Int → Int → Hp → Nat)
    (h : ∀ b1p b1n b1c v2 g3 en7 i8 H, I b1p b1n b1c v2 g3 en7 i8 H → ∀ X : Fr → Hp → Prop, (∀ b1p' b1n' b1c' v2' g3' en7' i8' H', I b1p' b1n' b1c' v2' g3' en7' i8' H' → μ b1p' b1n' b1c' v2' g3' en7' i8' H' < μ b1p b1n b1c v2 g3 en7 i8 H → X (compassref12_Copies.f1 b1p' b1n' b1c' v2' g3' en7' i8') H') → compassref12_Copies.b1 b1p b1n b1c v2 g3 en7 i8  X E H K)
    {b1p : Option Addr} {b1n : Nat} {b1c : Nat} {v2 : Int} {g3 : Nat} {en7 : Int} {i8 : Int} {H : Hp} (hI : I b1p b1n b1c v2 g3 en7 i8 H) : compassref12_Copies.l1 b1p b1n b1c v2 g3 en7 i8  E H K :=
  loop_rule (S := (Option Addr) × Nat × Nat × Int × Nat × Int × Int) (fun s => compassref12_Copies.f1 (s.1) (s.2.1) (s.2.2.1) (s.2.2.2.1) (s.2.2.2.2.1) (s.2.2.2.2.2.1) (s.2.2.2.2.2.2)) (fun s H => I (s.1) (s.2.1) (s.2.2.1) (s.2.2.2.1) (s.2.2.2.2.1) (s.2.2.2.2.2.1) (s.2.2.2.2.2.2) H) (fun s H => μ (s.1) (s.2.1) (s.2.2.1) (s.2.2.2.1) (s.2.2.2.2.1) (s.2.2.2.2.2.1) (s.2.2.2.2.2.2) H) (fun s H hI X hX => h (s.1) (s.2.1) (s.2.2.1) (s.2.2.2.1) (s.2.2.2.2.1) (s.2.2.2.2.2.1) (s.2.2.2.2.2.2) H hI X fun b1p' b1n' b1c' v2' g3' en7' i8' H' hI' hlt => hX (b1p', b1n', b1c', v2', g3', en7', i8') H' hI' hlt) (s := (b1p, b1n, b1c, v2, g3, en7, i8)) rfl hI
theorem compassref12_Copies.nok : nodesOk compassref12_Copies.code [[0, 1, 0, 1, 1], [0, 1, 1, 0, 0, 1, 0, 0, 1, 0, 1, 1], [1, 1, 0, 0, 1, 0, 1, 1], [1, 1, 1]] = true := by kernel_rfl
def compassref12_Copies.run_t (l1 : (Option Addr) → Nat → Nat → Int → Nat → Int → Int → Hp → Prop) (g0_Nodes : Int) (g0_Edgesp : Option Addr) (g0_Edgesn : Nat) (g0_Edgesc : Nat) (b1p : Option Addr) (b1n : Nat) (b1c : Nat) (v2 : Int)  (E : Value → Hp → Prop) (H : Hp) (K : Int → Hp → Prop) : Prop :=
  nw H ⟨[.int .i64 g0_Nodes, .slice g0_Edgesp g0_Edgesn g0_Edgesc], 24⟩ fun b_1 H_1 =>
  l1 b1p b1n b1c v2 b_1 0 0 H_1
theorem compassref12_Copies.run_eq {g0_Nodes : Int} {g0_Edgesp : Option Addr} {g0_Edgesn : Nat} {g0_Edgesc : Nat} {b1p : Option Addr} {b1n : Nat} {b1c : Nat} {v2 : Int} { E : Value → Hp → Prop} {H : Hp} {K : Int → Hp → Prop} (h : compassref12_Copies.run_t (fun b1p b1n b1c v2 g3 en7 i8 H => compassref12_Copies.l1 b1p b1n b1c v2 g3 en7 i8  E H K) g0_Nodes g0_Edgesp g0_Edgesn g0_Edgesc b1p b1n b1c v2  E H K) : compassref12_Copies.run g0_Nodes g0_Edgesp g0_Edgesn g0_Edgesc b1p b1n b1c v2  E H K := by
  exact nodeR_imp2 (fun G => compassref12_Copies.run_t (fun b1p b1n b1c v2 g3 en7 i8 H => G [0, 1, 0, 1, 1] [(1, .slice b1p b1n b1c), (2, .int .i64 v2), (3, .pointer (some ⟨g3, 0, none⟩)), (7, .int .i64 en7), (8, .int .i64 i8)] H) g0_Nodes g0_Edgesp g0_Edgesn g0_Edgesc b1p b1n b1c v2  E H K) compassref12_Copies.nok rfl (fun G => by kernel_rfl) (Eq.mp (by kernel_rfl) h)
def compassref12_Copies.j1_t (j2 : (Option Addr) → Nat → Nat → Int → Nat → Int → Int → Hp → Prop) (b1p : Option Addr) (b1n : Nat) (b1c : Nat) (v2 : Int) (g3 : Nat) (en7 : Int) (i8 : Int) (X1 : Fr → Hp → Prop) (E : Value → Hp → Prop) (H : Hp) (K : Int → Hp → Prop) : Prop :=
  j2 b1p b1n b1c v2 g3 (IntKind.wrap .i64 (en7 + 1)) i8 H
theorem compassref12_Copies.j1_eq {b1p : Option Addr} {b1n : Nat} {b1c : Nat} {v2 : Int} {g3 : Nat} {en7 : Int} {i8 : Int} {X1 : Fr → Hp → Prop} { E : Value → Hp → Prop} {H : Hp} {K : Int → Hp → Prop} (h : compassref12_Copies.j1_t (fun b1p b1n b1c v2 g3 en7 i8 H => compassref12_Copies.j2 b1p b1n b1c v2 g3 en7 i8 X1 E H K) b1p b1n b1c v2 g3 en7 i8 X1 E H K) : compassref12_Copies.j1 b1p b1n b1c v2 g3 en7 i8 X1 E H K := by
  exact nodeR_imp2 (fun G => compassref12_Copies.j1_t (fun b1p b1n b1c v2 g3 en7 i8 H => G [1, 1, 0, 0, 1, 0, 1, 1] [(1, .slice b1p b1n b1c), (2, .int .i64 v2), (3, .pointer (some ⟨g3, 0, none⟩)), (7, .int .i64 en7), (8, .int .i64 i8)] H) b1p b1n b1c v2 g3 en7 i8 X1 E H K) compassref12_Copies.nok rfl (fun G => by kernel_rfl) (Eq.mp (by kernel_rfl) h)
def compassref12_Copies.j2_t  (b1p : Option Addr) (b1n : Nat) (b1c : Nat) (v2 : Int) (g3 : Nat) (en7 : Int) (i8 : Int) (X1 : Fr → Hp → Prop) (E : Value → Hp → Prop) (H : Hp) (K : Int → Hp → Prop) : Prop :=
  X1 (compassref12_Copies.f1 b1p b1n b1c v2 g3 en7 (IntKind.wrap .i64 (i8 + 1))) H
theorem compassref12_Copies.j2_eq {b1p : Option Addr} {b1n : Nat} {b1c : Nat} {v2 : Int} {g3 : Nat} {en7 : Int} {i8 : Int} {X1 : Fr → Hp → Prop} { E : Value → Hp → Prop} {H : Hp} {K : Int → Hp → Prop} (h : compassref12_Copies.j2_t  b1p b1n b1c v2 g3 en7 i8 X1 E H K) : compassref12_Copies.j2 b1p b1n b1c v2 g3 en7 i8 X1 E H K := by
  exact nodeR_imp2 (fun _ => compassref12_Copies.j2_t  b1p b1n b1c v2 g3 en7 i8 X1 E H K) compassref12_Copies.nok rfl (fun G => by kernel_rfl) h
def compassref12_Copies.j3_t  (b1p : Option Addr) (b1n : Nat) (b1c : Nat) (v2 : Int) (en7 : Int)  (E : Value → Hp → Prop) (H : Hp) (K : Int → Hp → Prop) : Prop :=
  ix b1p b1n v2 1 fun b_1 o_1 =>
  ldI .i64 (H.get b_1 o_1) fun x_1 =>
  bcase (decide ((x_1 : Int) < en7)) (
  ix b1p b1n v2 1 fun b_2 o_2 =>
  ldI .i64 (H.get b_2 o_2) fun x_2 =>
  K x_2 H)
  (K en7 H)
theorem compassref12_Copies.j3_eq {b1p : Option Addr} {b1n : Nat} {b1c : Nat} {v2 : Int} {en7 : Int} { E : Value → Hp → Prop} {H : Hp} {K : Int → Hp → Prop} (h : compassref12_Copies.j3_t  b1p b1n b1c v2 en7  E H K) : compassref12_Copies.j3 b1p b1n b1c v2 en7  E H K := by
  exact nodeR_imp2 (fun _ => compassref12_Copies.j3_t  b1p b1n b1c v2 en7  E H K) compassref12_Copies.nok rfl (fun G => by kernel_rfl) h
def compassref12_Copies.b1_t (j1 : (Option Addr) → Nat → Nat → Int → Nat → Int → Int → Hp → Prop) (j2 : (Option Addr) → Nat → Nat → Int → Nat → Int → Int → Hp → Prop) (j3 : (Option Addr) → Nat → Nat → Int → Int → Hp → Prop) (b1p : Option Addr) (b1n : Nat) (b1c : Nat) (v2 : Int) (g3 : Nat) (en7 : Int) (i8 : Int) (X1 : Fr → Hp → Prop) (E : Value → Hp → Prop) (H : Hp) (K : Int → Hp → Prop) : Prop :=
  ldS (H.get g3 1) fun x_1p x_1n x_1c =>
  bcase (decide ((i8 : Int) < (x_1n : Int))) (
  ldS (H.get g3 1) fun x_2p x_2n x_2c =>
  ix x_2p x_2n i8 4 fun b_1 o_1 =>
  ldI .i64 (H.get b_1 o_1) fun x_3 =>
  ldI .i64 (H.get b_1 (o_1 + 1)) fun x_4 =>
  ldI .i64 (H.get b_1 (o_1 + 2)) fun x_5 =>
  ldI .i64 (H.get b_1 (o_1 + 3)) fun x_6 =>
  nw H ⟨[.int .i64 0, .int .i64 0, .int .i64 0, .int .i64 0], 44⟩ fun b_2 H_1 =>
  stC H_1 b_2 0 [.int .i64 x_3, .int .i64 x_4, .int .i64 x_5, .int .i64 x_6] fun H_2 =>
  ldI .i64 (H_2.get b_2 0) fun x_7 =>
  ldI .i64 (H_2.get b_2 1) fun x_8 =>
  bcase (!decide ((x_7 : Int) = x_8)) (
  ldI .i64 (H_2.get b_2 0) fun x_9 =>
  bcase (decide ((x_9 : Int) = v2)) (
  j1 b1p b1n b1c v2 g3 en7 i8 H_2)
  (ldI .i64 (H_2.get b_2 1) fun x_10 =>
  bcase (decide ((x_10 : Int) = v2)) (
  j1 b1p b1n b1c v2 g3 en7 i8 H_2)
  (j2 b1p b1n b1c v2 g3 en7 i8 H_2)))
  (j2 b1p b1n b1c v2 g3 en7 i8 H_2))
  (j3 b1p b1n b1c v2 en7 H)
theorem compassref12_Copies.b1_eq {b1p : Option Addr} {b1n : Nat} {b1c : Nat} {v2 : Int} {g3 : Nat} {en7 : Int} {i8 : Int} {X1 : Fr → Hp → Prop} { E : Value → Hp → Prop} {H : Hp} {K : Int → Hp → Prop} (h : compassref12_Copies.b1_t (fun b1p b1n b1c v2 g3 en7 i8 H => compassref12_Copies.j1 b1p b1n b1c v2 g3 en7 i8 X1 E H K) (fun b1p b1n b1c v2 g3 en7 i8 H => compassref12_Copies.j2 b1p b1n b1c v2 g3 en7 i8 X1 E H K) (fun b1p b1n b1c v2 en7 H => compassref12_Copies.j3 b1p b1n b1c v2 en7  E H K) b1p b1n b1c v2 g3 en7 i8 X1 E H K) : compassref12_Copies.b1 b1p b1n b1c v2 g3 en7 i8 X1 E H K := by
  exact nodeR_imp2 (fun G => compassref12_Copies.b1_t (fun b1p b1n b1c v2 g3 en7 i8 H => G [0, 1, 1, 0, 0, 1, 0, 0, 1, 0, 1, 1] [(1, .slice b1p b1n b1c), (2, .int .i64 v2), (3, .pointer (some ⟨g3, 0, none⟩)), (7, .int .i64 en7), (8, .int .i64 i8)] H) (fun b1p b1n b1c v2 g3 en7 i8 H => G [1, 1, 0, 0, 1, 0, 1, 1] [(1, .slice b1p b1n b1c), (2, .int .i64 v2), (3, .pointer (some ⟨g3, 0, none⟩)), (7, .int .i64 en7), (8, .int .i64 i8)] H) (fun b1p b1n b1c v2 en7 H => G [1, 1, 1] [(1, .slice b1p b1n b1c), (2, .int .i64 v2), (7, .int .i64 en7)] H) b1p b1n b1c v2 g3 en7 i8 X1 E H K) compassref12_Copies.nok rfl (fun G => by kernel_rfl) (Eq.mp (by kernel_rfl) h)
end Go.Mz
