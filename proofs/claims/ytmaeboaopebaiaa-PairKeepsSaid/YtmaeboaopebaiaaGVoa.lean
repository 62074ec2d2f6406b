/-
  The shallow texts of functions (Voa), each with a kernel-checked equation to the translated code. It proves nothing of the program by itself.
-/
import Derived.Test.YtmaeboaopebaiaaTab
set_option linter.unusedVariables false
set_option maxRecDepth 100000
namespace Go.Mz
/-! ### compass/vouch.Covered (34) -/
noncomputable def vouch_Covered.A : An := { live := [(0, [0, 1, 2]), (1, [3, 4, 5]), (2, [3, 4, 5, 8]), (3, [8, 9])], ord := [], stb := [], pre := [] }
noncomputable def vouch_Covered.code : Code := bodyOf Go.Proofs.Try.f34
theorem vouch_Covered.ok : okCode vouch_Covered.A 14 vouch_Covered.code = true := by kernel_rfl
def vouch_Covered.rq (E : Value → Hp → Prop) (K : Int → Int → Hp → Prop) : Ex → Fr → Hp → Prop := retQ T0 [.tmp 6, .tmp 7] [3, 27] (fun r H => ldR (.tup [(false, [.i .i64]), (false, [.i .i64])]) r fun u => K (asI (tupV u 0)) (asI (tupV u 1)) H) E
def vouch_Covered.run (g0_Nodes : Int) (g0_Edgesp : Option Addr) (g0_Edgesn : Nat) (g0_Edgesc : Nat) (m1p : Option Addr) (m1n : Nat) (m1c : Nat) (cover2p : Option Addr) (cover2n : Nat) (cover2c : Nat) (E : Value → Hp → Prop) (H : Hp) (K : Int → Int → Hp → Prop) : Prop := nodeM P0 T0 vouch_Covered.A vouch_Covered.code [] [] (vouch_Covered.rq E K) (argF 0 [.agg ⟨[.int .i64 g0_Nodes, .slice g0_Edgesp g0_Edgesn g0_Edgesc]⟩, .slice m1p m1n m1c, .slice cover2p cover2n cover2c]) H
theorem vouch_Covered.of {g0_Nodes : Int} {g0_Edgesp : Option Addr} {g0_Edgesn : Nat} {g0_Edgesc : Nat} {m1p : Option Addr} {m1n : Nat} {m1c : Nat} {cover2p : Option Addr} {cover2n : Nat} {cover2c : Nat} {E : Value → Hp → Prop} {H : Hp} {K : Int → Int → Hp → Prop} (h : vouch_Covered.run g0_Nodes g0_Edgesp g0_Edgesn g0_Edgesc m1p m1n m1c cover2p cover2n cover2c E H K) : vouch_Covered.call g0_Nodes g0_Edgesp g0_Edgesn g0_Edgesc m1p m1n m1c cover2p cover2n cover2c E H K :=
  callW_of T0_ok P0_mixed (A := vouch_Covered.A) (fn := Go.Proofs.Try.f34) Go.Proofs.Try.func34 rfl vouch_Covered.ok rfl h
theorem vouch_Covered.nok : nodesOk vouch_Covered.code [] = true := by kernel_rfl
def vouch_Covered.run_t  (g0_Nodes : Int) (g0_Edgesp : Option Addr) (g0_Edgesn : Nat) (g0_Edgesc : Nat) (m1p : Option Addr) (m1n : Nat) (m1c : Nat) (cover2p : Option Addr) (cover2n : Nat) (cover2c : Nat)  (E : Value → Hp → Prop) (H : Hp) (K : Int → Int → Hp → Prop) : Prop :=
  nw H ⟨[.int .i64 g0_Nodes, .slice g0_Edgesp g0_Edgesn g0_Edgesc], 24⟩ fun b_1 H_1 =>
  nw H_1 ⟨[.slice m1p m1n m1c], 26⟩ fun b_2 H_2 =>
  nw H_2 ⟨[.slice cover2p cover2n cover2c], 26⟩ fun b_3 H_3 =>
  nw H_3 ⟨[.int .i64 0], 3⟩ fun b_4 H_4 =>
  stC H_4 b_4 0 [.int .i64 0] fun H_5 =>
  vouch_look.call 62 [Value.pointer (some ⟨b_1, 0, none⟩), Value.pointer (some ⟨b_2, 0, none⟩), Value.pointer (some ⟨b_3, 0, none⟩), Value.pointer (some ⟨b_4, 0, none⟩)] E H_5 fun r_1 H_6 =>
  ldI .i64 (H_6.get b_4 0) fun x_1 =>
  K x_1 r_1 H_6
theorem vouch_Covered.run_eq {g0_Nodes : Int} {g0_Edgesp : Option Addr} {g0_Edgesn : Nat} {g0_Edgesc : Nat} {m1p : Option Addr} {m1n : Nat} {m1c : Nat} {cover2p : Option Addr} {cover2n : Nat} {cover2c : Nat} { E : Value → Hp → Prop} {H : Hp} {K : Int → Int → Hp → Prop} (h : vouch_Covered.run_t  g0_Nodes g0_Edgesp g0_Edgesn g0_Edgesc m1p m1n m1c cover2p cover2n cover2c  E H K) : vouch_Covered.run g0_Nodes g0_Edgesp g0_Edgesn g0_Edgesc m1p m1n m1c cover2p cover2n cover2c  E H K := by
  have k1 : ∀ G : List Nat → Fr → Hp → Prop, nodeR P0 T0 vouch_Covered.A [] G vouch_Covered.code [] [] (vouch_Covered.rq E K) (argF 0 [.agg ⟨[.int .i64 g0_Nodes, .slice g0_Edgesp g0_Edgesn g0_Edgesc]⟩, .slice m1p m1n m1c, .slice cover2p cover2n cover2c]) H = vouch_Covered.run_t  g0_Nodes g0_Edgesp g0_Edgesn g0_Edgesc m1p m1n m1c cover2p cover2n cover2c  E H K := fun G => by kernel_rfl
  exact nodeR_imp vouch_Covered.nok rfl ((k1 _).mpr h)
/-! ### compass/vouch.Largest (36) -/
/-! ### compass/vouch.NoPerfect (37) -/
/-! ### compass/vouch.Covered$1 (62) -/
noncomputable def vouch_Covered_1.A : An := { live := [(0, [0, 1, 2, 3]), (1, [0, 1, 2, 3]), (2, [0, 1, 2, 3]), (3, [0, 1, 2, 3, 4]), (4, [1, 2, 3, 4, 17, 18, 19]), (5, [1, 2, 3, 4, 17, 18, 19]), (6, [1, 2, 3, 4, 6, 17, 18, 19]), (7, [1, 2, 3, 4, 17, 18, 19]), (8, [1, 2, 3]), (9, [1, 3])], ord := [], stb := [], pre := [] }
noncomputable def vouch_Covered_1.code : Code := bodyOf Go.Proofs.Try.f62
theorem vouch_Covered_1.ok : okCode vouch_Covered_1.A 49 vouch_Covered_1.code = true := by kernel_rfl
def vouch_Covered_1.rq (E : Value → Hp → Prop) (K : Hp → Prop) : Ex → Fr → Hp → Prop := retQ T0 [] [] (fun r H => ldR (.tup []) r fun u => K  H) E
def vouch_Covered_1.run (c0b : Nat) (c0o : Nat) (c1b : Nat) (c1o : Nat) (c2b : Nat) (c2o : Nat) (c3b : Nat) (c3o : Nat) (E : Value → Hp → Prop) (H : Hp) (K : Hp → Prop) : Prop := nodeM P0 T0 vouch_Covered_1.A vouch_Covered_1.code [] [] (vouch_Covered_1.rq E K) (argF 0 [.pointer (some ⟨c0b, c0o, none⟩), .pointer (some ⟨c1b, c1o, none⟩), .pointer (some ⟨c2b, c2o, none⟩), .pointer (some ⟨c3b, c3o, none⟩)]) H
theorem vouch_Covered_1.of {c0b : Nat} {c0o : Nat} {c1b : Nat} {c1o : Nat} {c2b : Nat} {c2o : Nat} {c3b : Nat} {c3o : Nat} {E : Value → Hp → Prop} {H : Hp} {K : Hp → Prop} (h : vouch_Covered_1.run c0b c0o c1b c1o c2b c2o c3b c3o E H K) : vouch_Covered_1.call c0b c0o c1b c1o c2b c2o c3b c3o E H K :=
  callW_of T0_ok P0_mixed (A := vouch_Covered_1.A) (fn := Go.Proofs.Try.f62) Go.Proofs.Try.func62 rfl vouch_Covered_1.ok rfl h
noncomputable def vouch_Covered_1.f1 (t1b : Nat) (t1o : Nat) (t2b : Nat) (t2o : Nat) (t3b : Nat) (t3o : Nat) (in4p : Option Addr) (in4n : Nat) (in4c : Nat) (t17p : Option Addr) (t17n : Nat) (t17c : Nat) (t18 : Int) (t19 : Int) : Fr := [(1, .pointer (some ⟨t1b, t1o, none⟩)), (2, .pointer (some ⟨t2b, t2o, none⟩)), (3, .pointer (some ⟨t3b, t3o, none⟩)), (4, .slice in4p in4n in4c), (17, .slice t17p t17n t17c), (18, .int .i64 t18), (19, .int .i64 t19)]
def vouch_Covered_1.j1 (t1b : Nat) (t1o : Nat) (t2b : Nat) (t2o : Nat) (t3b : Nat) (t3o : Nat) (in4p : Option Addr) (in4n : Nat) (in4c : Nat) (t17p : Option Addr) (t17n : Nat) (t17c : Nat) (t18 : Int) (t19 : Int) (X1 : Fr → Hp → Prop) (E : Value → Hp → Prop) (H : Hp) (K : Hp → Prop) : Prop := nodeM P0 T0 vouch_Covered_1.A vouch_Covered_1.code [1, 1, 1, 0, 1, 0, 0, 1, 1, 1] [X1] (vouch_Covered_1.rq E K) [(1, .pointer (some ⟨t1b, t1o, none⟩)), (2, .pointer (some ⟨t2b, t2o, none⟩)), (3, .pointer (some ⟨t3b, t3o, none⟩)), (4, .slice in4p in4n in4c), (17, .slice t17p t17n t17c), (18, .int .i64 t18), (19, .int .i64 t19)] H
def vouch_Covered_1.j2 (t1b : Nat) (t1o : Nat) (t2b : Nat) (t2o : Nat) (t3b : Nat) (t3o : Nat)  (E : Value → Hp → Prop) (H : Hp) (K : Hp → Prop) : Prop := nodeM P0 T0 vouch_Covered_1.A vouch_Covered_1.code [1, 1, 1, 1] [] (vouch_Covered_1.rq E K) [(1, .pointer (some ⟨t1b, t1o, none⟩)), (2, .pointer (some ⟨t2b, t2o, none⟩)), (3, .pointer (some ⟨t3b, t3o, none⟩))] H
def vouch_Covered_1.l1 (t1b : Nat) (t1o : Nat) (t2b : Nat) (t2o : Nat) (t3b : Nat) (t3o : Nat) (in4p : Option Addr) (in4n : Nat) (in4c : Nat) (t17p : Option Addr) (t17n : Nat) (t17c : Nat) (t18 : Int) (t19 : Int)  (E : Value → Hp → Prop) (H : Hp) (K : Hp → Prop) : Prop := nodeM P0 T0 vouch_Covered_1.A vouch_Covered_1.code [1, 1, 1, 0, 1, 0] [] (vouch_Covered_1.rq E K) (vouch_Covered_1.f1 t1b t1o t2b t2o t3b t3o in4p in4n in4c t17p t17n t17c t18 t19) H
def vouch_Covered_1.b1 (t1b : Nat) (t1o : Nat) (t2b : Nat) (t2o : Nat) (t3b : Nat) (t3o : Nat) (in4p : Option Addr) (in4n : Nat) (in4c : Nat) (t17p : Option Addr) (t17n : Nat) (t17c : Nat) (t18 : Int) (t19 : Int)  (X1 : Fr → Hp → Prop) (E : Value → Hp → Prop) (H : Hp) (K : Hp → Prop) : Prop := nodeM P0 T0 vouch_Covered_1.A vouch_Covered_1.code [1, 1, 1, 0, 1, 0, 0] [X1] (vouch_Covered_1.rq E K) (vouch_Covered_1.f1 t1b t1o t2b t2o t3b t3o in4p in4n in4c t17p t17n t17c t18 t19) H
theorem vouch_Covered_1.l1_rule { E : Value → Hp → Prop} {K : Hp → Prop} (I : Nat → Nat → Nat → Nat → Nat → Nat → (Option Addr) → Nat → Nat → (Option Addr) → Nat → Nat → Int → Int → Hp → Prop) (μ : Nat → Nat → Nat → Nat → Nat → Nat → (Option Addr) → Nat → Nat → (Option Addr) → Nat → Nat → Int → Int → Hp → Nat)
    (h : ∀ t1b t1o t2b t2o t3b t3o in4p in4n in4c t17p t17n t17c t18 t19 H, I t1b t1o t2b t2o t3b t3o in4p in4n in4c t17p t17n t17c t18 t19 H → ∀ X : Fr → Hp → Prop, (∀ t1b' t1o' t2b' t2o' t3b' t3o' in4p' in4n' in4c' t17p' t17n' t17c' t18' t19' H', I t1b' t1o' t2b' t2o' t3b' t3o' in4p' in4n' in4c' t17p' t17n' t17c' t18' t19' H' → μ t1b' t1o' t2b' t2o' t3b' t3o' in4p' in4n' in4c' t17p' t17n' t17c' t18' t19' H' < μ t1b t1o t2b t2o t3b t3o in4p in4n in4c t17p t17n t17c t18 t19 H → X (vouch_Covered_1.f1 t1b' t1o' t2b' t2o' t3b' t3o' in4p' in4n' in4c' t17p' t17n' t17c' t18' t19') H') → vouch_Covered_1.b1 t1b t1o t2b t2o t3b t3o in4p in4n in4c t17p t17n t17c t18 t19  X E H K)
    {t1b : Nat} {t1o : Nat} {t2b : Nat} {t2o : Nat} {t3b : Nat} {t3o : Nat} {in4p : Option Addr} {in4n : Nat} {in4c : Nat} {t17p : Option Addr} {t17n : Nat} {t17c : Nat} {t18 : Int} {t19 : Int} {H : Hp} (hI : I t1b t1o t2b t2o t3b t3o in4p in4n in4c t17p t17n t17c t18 t19 H) : vouch_Covered_1.l1 t1b t1o t2b t2o t3b t3o in4p in4n in4c t17p t17n t17c t18 t19  E H K :=
  loop_rule (S := Nat × Nat × Nat × Nat × Nat × Nat × (Option Addr) × Nat × Nat × (Option Addr) × Nat × Nat × Int × Int) (fun s => vouch_Covered_1.f1 (s.1) (s.2.1) (s.2.2.1) (s.2.2.2.1) (s.2.2.2.2.1) (s.2.2.2.2.2.1) (s.2.2.2.2.2.2.1) (s.2.2.2.2.2.2.2.1) (s.2.2.2.2.2.2.2.2.1) (s.2.2.2.2.2.2.2.2.2.1) (s.2.2.2.2.2.2.2.2.2.2.1) (s.2.2.2.2.2.2.2.2.2.2.2.1) (s.2.2.2.2.2.2.2.2.2.2.2.2.1) (s.2.2.2.2.2.2.2.2.2.2.2.2.2)) (fun s H => I (s.1) (s.2.1) (s.2.2.1) (s.2.2.2.1) (s.2.2.2.2.1) (s.2.2.2.2.2.1) (s.2.2.2.2.2.2.1) (s.2.2.2.2.2.2.2.1) (s.2.2.2.2.2.2.2.2.1) (s.2.2.2.2.2.2.2.2.2.1) (s.2.2.2.2.2.2.2.2.2.2.1) (s.2.2.2.2.2.2.2.2.2.2.2.1) (s.2.2.2.2.2.2.2.2.2.2.2.2.1) (s.2.2.2.2.2.2.2.2.2.2.2.2.2) H) (fun s H => μ (s.1) (s.2.1) (s.2.2.1) (s.2.2.2.1) (s.2.2.2.2.1) (s.2.2.2.2.2.1) (s.2.2.2.2.2.2.1) (s.2.2.2.2.2.2.2.1) (s.2.2.2.2.2.2.2.2.1) (s.2.2.2.2.2.2.2.2.2.1) (s.2.2.2.2.2.2.2.2.2.2.1) (s.2.2.2.2.2.2.2.2.2.2.2.1) (s.2.2.2.2.2.2.2.2.2.2.2.2.1) (s.2.2.2.2.2.2.2.2.2.2.2.2.2) H) (fun s H hI X hX => h (s.1) (s.2.1) (s.2.2.1) (s.2.2.2.1) (s.2.2.2.2.1) (s.2.2.2.2.2.1) (s.2.2.2.2.2.2.1) (s.2.2.2.2.2.2.2.1) (s.2.2.2.2.2.2.2.2.1) (s.2.2.2.2.2.2.2.2.2.1) (s.2.2.2.2.2.2.2.2.2.2.1) (s.2.2.2.2.2.2.2.2.2.2.2.1) (s.2.2.2.2.2.2.2.2.2.2.2.2.1) (s.2.2.2.2.2.2.2.2.2.2.2.2.2) H hI X fun t1b' t1o' t2b' t2o' t3b' t3o' in4p' in4n' in4c' t17p' t17n' t17c' t18' t19' H' hI' hlt => hX (t1b', t1o', t2b', t2o', t3b', t3o', in4p', in4n', in4c', t17p', t17n', t17c', t18', t19') H' hI' hlt) (s := (t1b, t1o, t2b, t2o, t3b, t3o, in4p, in4n, in4c, t17p, t17n, t17c, t18, t19)) rfl hI
theorem vouch_Covered_1.nok : nodesOk vouch_Covered_1.code [[0, 1, 0, 1, 1, 1], [1, 1, 1, 0, 0, 1, 0, 1, 1, 1], [1, 1, 1, 1]] = true := by kernel_rfl
def vouch_Covered_1.run_t (l1 : Nat → Nat → Nat → Nat → Nat → Nat → (Option Addr) → Nat → Nat → (Option Addr) → Nat → Nat → Int → Int → Hp → Prop) (c0b : Nat) (c0o : Nat) (c1b : Nat) (c1o : Nat) (c2b : Nat) (c2o : Nat) (c3b : Nat) (c3o : Nat)  (E : Value → Hp → Prop) (H : Hp) (K : Hp → Prop) : Prop :=
  ldI .i64 (H.get c0b c0o) fun x_1 =>
  ldS (H.get c0b (c0o + 1)) fun x_2p x_2n x_2c =>
  vouch_right.call x_1 x_2p x_2n x_2c E H fun H_1 =>
  ldI .i64 (H_1.get c0b c0o) fun x_3 =>
  ldS (H_1.get c0b (c0o + 1)) fun x_4p x_4n x_4c =>
  ldS (H_1.get c1b c1o) fun x_5p x_5n x_5c =>
  vouch_matched.call x_3 x_4p x_4n x_4c x_5p x_5n x_5c 65 [] E H_1 fun H_2 =>
  ldS (H_2.get c2b c2o) fun x_6p x_6n x_6c =>
  ldI .i64 (H_2.get c0b c0o) fun x_7 =>
  vouch_marked.call x_6p x_6n x_6c x_7 E H_2 fun r_1p r_1n r_1c H_3 =>
  ldS (H_3.get c0b (c0o + 1)) fun x_8p x_8n x_8c =>
  l1 c1b c1o c2b c2o c3b c3o r_1p r_1n r_1c x_8p x_8n x_8c (x_8n : Int) 0 H_3
theorem vouch_Covered_1.run_eq {c0b : Nat} {c0o : Nat} {c1b : Nat} {c1o : Nat} {c2b : Nat} {c2o : Nat} {c3b : Nat} {c3o : Nat} { E : Value → Hp → Prop} {H : Hp} {K : Hp → Prop} (h : vouch_Covered_1.run_t (fun t1b t1o t2b t2o t3b t3o in4p in4n in4c t17p t17n t17c t18 t19 H => vouch_Covered_1.l1 t1b t1o t2b t2o t3b t3o in4p in4n in4c t17p t17n t17c t18 t19  E H K) c0b c0o c1b c1o c2b c2o c3b c3o  E H K) : vouch_Covered_1.run c0b c0o c1b c1o c2b c2o c3b c3o  E H K := by
  have k1 : ∀ G : List Nat → Fr → Hp → Prop, nodeR P0 T0 vouch_Covered_1.A [[0, 1, 0, 1, 1, 1], [1, 1, 1, 0, 0, 1, 0, 1, 1, 1], [1, 1, 1, 1]] G vouch_Covered_1.code [] [] (vouch_Covered_1.rq E K) (argF 0 [.pointer (some ⟨c0b, c0o, none⟩), .pointer (some ⟨c1b, c1o, none⟩), .pointer (some ⟨c2b, c2o, none⟩), .pointer (some ⟨c3b, c3o, none⟩)]) H = vouch_Covered_1.run_t (fun t1b t1o t2b t2o t3b t3o in4p in4n in4c t17p t17n t17c t18 t19 H => G [0, 1, 0, 1, 1, 1] [(1, .pointer (some ⟨t1b, t1o, none⟩)), (2, .pointer (some ⟨t2b, t2o, none⟩)), (3, .pointer (some ⟨t3b, t3o, none⟩)), (4, .slice in4p in4n in4c), (17, .slice t17p t17n t17c), (18, .int .i64 t18), (19, .int .i64 t19)] H) c0b c0o c1b c1o c2b c2o c3b c3o  E H K := fun G => by kernel_rfl
  have k2 : vouch_Covered_1.run_t (fun t1b t1o t2b t2o t3b t3o in4p in4n in4c t17p t17n t17c t18 t19 H => vouch_Covered_1.l1 t1b t1o t2b t2o t3b t3o in4p in4n in4c t17p t17n t17c t18 t19  E H K) c0b c0o c1b c1o c2b c2o c3b c3o  E H K = vouch_Covered_1.run_t (fun t1b t1o t2b t2o t3b t3o in4p in4n in4c t17p t17n t17c t18 t19 H => (fun q F H => nodeM P0 T0 vouch_Covered_1.A vouch_Covered_1.code q.reverse [] (vouch_Covered_1.rq E K) F H) [0, 1, 0, 1, 1, 1] [(1, .pointer (some ⟨t1b, t1o, none⟩)), (2, .pointer (some ⟨t2b, t2o, none⟩)), (3, .pointer (some ⟨t3b, t3o, none⟩)), (4, .slice in4p in4n in4c), (17, .slice t17p t17n t17c), (18, .int .i64 t18), (19, .int .i64 t19)] H) c0b c0o c1b c1o c2b c2o c3b c3o  E H K := by kernel_rfl
  exact nodeR_imp vouch_Covered_1.nok rfl ((k1 _).mpr (k2.mp h))
def vouch_Covered_1.j1_t  (t1b : Nat) (t1o : Nat) (t2b : Nat) (t2o : Nat) (t3b : Nat) (t3o : Nat) (in4p : Option Addr) (in4n : Nat) (in4c : Nat) (t17p : Option Addr) (t17n : Nat) (t17c : Nat) (t18 : Int) (t19 : Int) (X1 : Fr → Hp → Prop) (E : Value → Hp → Prop) (H : Hp) (K : Hp → Prop) : Prop :=
  X1 (vouch_Covered_1.f1 t1b t1o t2b t2o t3b t3o in4p in4n in4c t17p t17n t17c t18 (IntKind.wrap .i64 (t19 + 1))) H
theorem vouch_Covered_1.j1_eq {t1b : Nat} {t1o : Nat} {t2b : Nat} {t2o : Nat} {t3b : Nat} {t3o : Nat} {in4p : Option Addr} {in4n : Nat} {in4c : Nat} {t17p : Option Addr} {t17n : Nat} {t17c : Nat} {t18 : Int} {t19 : Int} {X1 : Fr → Hp → Prop} { E : Value → Hp → Prop} {H : Hp} {K : Hp → Prop} (h : vouch_Covered_1.j1_t  t1b t1o t2b t2o t3b t3o in4p in4n in4c t17p t17n t17c t18 t19 X1 E H K) : vouch_Covered_1.j1 t1b t1o t2b t2o t3b t3o in4p in4n in4c t17p t17n t17c t18 t19 X1 E H K := by
  have k1 : ∀ G : List Nat → Fr → Hp → Prop, nodeR P0 T0 vouch_Covered_1.A [[0, 1, 0, 1, 1, 1], [1, 1, 1, 0, 0, 1, 0, 1, 1, 1], [1, 1, 1, 1]] G vouch_Covered_1.code [1, 1, 1, 0, 1, 0, 0, 1, 1, 1] [X1] (vouch_Covered_1.rq E K) [(1, .pointer (some ⟨t1b, t1o, none⟩)), (2, .pointer (some ⟨t2b, t2o, none⟩)), (3, .pointer (some ⟨t3b, t3o, none⟩)), (4, .slice in4p in4n in4c), (17, .slice t17p t17n t17c), (18, .int .i64 t18), (19, .int .i64 t19)] H = vouch_Covered_1.j1_t  t1b t1o t2b t2o t3b t3o in4p in4n in4c t17p t17n t17c t18 t19 X1 E H K := fun G => by kernel_rfl
  exact nodeR_imp vouch_Covered_1.nok rfl ((k1 _).mpr h)
def vouch_Covered_1.j2_t  (t1b : Nat) (t1o : Nat) (t2b : Nat) (t2o : Nat) (t3b : Nat) (t3o : Nat)  (E : Value → Hp → Prop) (H : Hp) (K : Hp → Prop) : Prop :=
  ldS (H.get t1b t1o) fun x_1p x_1n x_1c =>
  ldS (H.get t2b t2o) fun x_2p x_2n x_2c =>
  vouch_need.call (decide (((x_1n : Int) : Int) = (x_2n : Int))) 221 E H fun H_1 =>
  ldS (H_1.get t1b t1o) fun x_3p x_3n x_3c =>
  stC H_1 t3b t3o [.int .i64 (x_3n : Int)] fun H_2 =>
  K H_2
theorem vouch_Covered_1.j2_eq {t1b : Nat} {t1o : Nat} {t2b : Nat} {t2o : Nat} {t3b : Nat} {t3o : Nat} { E : Value → Hp → Prop} {H : Hp} {K : Hp → Prop} (h : vouch_Covered_1.j2_t  t1b t1o t2b t2o t3b t3o  E H K) : vouch_Covered_1.j2 t1b t1o t2b t2o t3b t3o  E H K := by
  have k1 : ∀ G : List Nat → Fr → Hp → Prop, nodeR P0 T0 vouch_Covered_1.A [[0, 1, 0, 1, 1, 1], [1, 1, 1, 0, 0, 1, 0, 1, 1, 1], [1, 1, 1, 1]] G vouch_Covered_1.code [1, 1, 1, 1] [] (vouch_Covered_1.rq E K) [(1, .pointer (some ⟨t1b, t1o, none⟩)), (2, .pointer (some ⟨t2b, t2o, none⟩)), (3, .pointer (some ⟨t3b, t3o, none⟩))] H = vouch_Covered_1.j2_t  t1b t1o t2b t2o t3b t3o  E H K := fun G => by kernel_rfl
  exact nodeR_imp vouch_Covered_1.nok rfl ((k1 _).mpr h)
def vouch_Covered_1.b1_t (j1 : Nat → Nat → Nat → Nat → Nat → Nat → (Option Addr) → Nat → Nat → (Option Addr) → Nat → Nat → Int → Int → Hp → Prop) (j2 : Nat → Nat → Nat → Nat → Nat → Nat → Hp → Prop) (t1b : Nat) (t1o : Nat) (t2b : Nat) (t2o : Nat) (t3b : Nat) (t3o : Nat) (in4p : Option Addr) (in4n : Nat) (in4c : Nat) (t17p : Option Addr) (t17n : Nat) (t17c : Nat) (t18 : Int) (t19 : Int) (X1 : Fr → Hp → Prop) (E : Value → Hp → Prop) (H : Hp) (K : Hp → Prop) : Prop :=
  bcase (decide ((t19 : Int) < t18)) (
  ix t17p t17n t19 4 fun b_1 o_1 =>
  ldI .i64 (H.get b_1 o_1) fun x_1 =>
  ldI .i64 (H.get b_1 (o_1 + 1)) fun x_2 =>
  ldI .i64 (H.get b_1 (o_1 + 2)) fun x_3 =>
  ldI .i64 (H.get b_1 (o_1 + 3)) fun x_4 =>
  nw H ⟨[.int .i64 0, .int .i64 0, .int .i64 0, .int .i64 0], 37⟩ fun b_2 H_1 =>
  stC H_1 b_2 0 [.int .i64 x_1, .int .i64 x_2, .int .i64 x_3, .int .i64 x_4] fun H_2 =>
  ldI .i64 (H_2.get b_2 0) fun x_5 =>
  ldI .i64 (H_2.get b_2 1) fun x_6 =>
  ldI .i64 (H_2.get b_2 2) fun x_7 =>
  ldI .i64 (H_2.get b_2 3) fun x_8 =>
  vouch_loop.call x_5 x_6 x_7 x_8 E H_2 fun r_1 H_3 =>
  bcase (r_1) (
  vouch_need.call true 221 E H_3 fun H_4 =>
  j1 t1b t1o t2b t2o t3b t3o in4p in4n in4c t17p t17n t17c t18 t19 H_4)
  (ldI .i64 (H_3.get b_2 0) fun x_9 =>
  ix in4p in4n x_9 1 fun b_3 o_2 =>
  ldB (H_3.get b_3 o_2) fun x_10 =>
  bcase (x_10) (
  vouch_need.call true 221 E H_3 fun H_5 =>
  j1 t1b t1o t2b t2o t3b t3o in4p in4n in4c t17p t17n t17c t18 t19 H_5)
  (ldI .i64 (H_3.get b_2 1) fun x_11 =>
  ix in4p in4n x_11 1 fun b_4 o_3 =>
  ldB (H_3.get b_4 o_3) fun x_12 =>
  vouch_need.call x_12 221 E H_3 fun H_6 =>
  j1 t1b t1o t2b t2o t3b t3o in4p in4n in4c t17p t17n t17c t18 t19 H_6)))
  (j2 t1b t1o t2b t2o t3b t3o H)
theorem vouch_Covered_1.b1_eq {t1b : Nat} {t1o : Nat} {t2b : Nat} {t2o : Nat} {t3b : Nat} {t3o : Nat} {in4p : Option Addr} {in4n : Nat} {in4c : Nat} {t17p : Option Addr} {t17n : Nat} {t17c : Nat} {t18 : Int} {t19 : Int} {X1 : Fr → Hp → Prop} { E : Value → Hp → Prop} {H : Hp} {K : Hp → Prop} (h : vouch_Covered_1.b1_t (fun t1b t1o t2b t2o t3b t3o in4p in4n in4c t17p t17n t17c t18 t19 H => vouch_Covered_1.j1 t1b t1o t2b t2o t3b t3o in4p in4n in4c t17p t17n t17c t18 t19 X1 E H K) (fun t1b t1o t2b t2o t3b t3o H => vouch_Covered_1.j2 t1b t1o t2b t2o t3b t3o  E H K) t1b t1o t2b t2o t3b t3o in4p in4n in4c t17p t17n t17c t18 t19 X1 E H K) : vouch_Covered_1.b1 t1b t1o t2b t2o t3b t3o in4p in4n in4c t17p t17n t17c t18 t19 X1 E H K := by
  have k1 : ∀ G : List Nat → Fr → Hp → Prop, nodeR P0 T0 vouch_Covered_1.A [[0, 1, 0, 1, 1, 1], [1, 1, 1, 0, 0, 1, 0, 1, 1, 1], [1, 1, 1, 1]] G vouch_Covered_1.code [1, 1, 1, 0, 1, 0, 0] [X1] (vouch_Covered_1.rq E K) (vouch_Covered_1.f1 t1b t1o t2b t2o t3b t3o in4p in4n in4c t17p t17n t17c t18 t19) H = vouch_Covered_1.b1_t (fun t1b t1o t2b t2o t3b t3o in4p in4n in4c t17p t17n t17c t18 t19 H => G [1, 1, 1, 0, 0, 1, 0, 1, 1, 1] [(1, .pointer (some ⟨t1b, t1o, none⟩)), (2, .pointer (some ⟨t2b, t2o, none⟩)), (3, .pointer (some ⟨t3b, t3o, none⟩)), (4, .slice in4p in4n in4c), (17, .slice t17p t17n t17c), (18, .int .i64 t18), (19, .int .i64 t19)] H) (fun t1b t1o t2b t2o t3b t3o H => G [1, 1, 1, 1] [(1, .pointer (some ⟨t1b, t1o, none⟩)), (2, .pointer (some ⟨t2b, t2o, none⟩)), (3, .pointer (some ⟨t3b, t3o, none⟩))] H) t1b t1o t2b t2o t3b t3o in4p in4n in4c t17p t17n t17c t18 t19 X1 E H K := fun G => by kernel_rfl
  have k2 : vouch_Covered_1.b1_t (fun t1b t1o t2b t2o t3b t3o in4p in4n in4c t17p t17n t17c t18 t19 H => vouch_Covered_1.j1 t1b t1o t2b t2o t3b t3o in4p in4n in4c t17p t17n t17c t18 t19 X1 E H K) (fun t1b t1o t2b t2o t3b t3o H => vouch_Covered_1.j2 t1b t1o t2b t2o t3b t3o  E H K) t1b t1o t2b t2o t3b t3o in4p in4n in4c t17p t17n t17c t18 t19 X1 E H K = vouch_Covered_1.b1_t (fun t1b t1o t2b t2o t3b t3o in4p in4n in4c t17p t17n t17c t18 t19 H => (fun q F H => nodeM P0 T0 vouch_Covered_1.A vouch_Covered_1.code q.reverse [X1] (vouch_Covered_1.rq E K) F H) [1, 1, 1, 0, 0, 1, 0, 1, 1, 1] [(1, .pointer (some ⟨t1b, t1o, none⟩)), (2, .pointer (some ⟨t2b, t2o, none⟩)), (3, .pointer (some ⟨t3b, t3o, none⟩)), (4, .slice in4p in4n in4c), (17, .slice t17p t17n t17c), (18, .int .i64 t18), (19, .int .i64 t19)] H) (fun t1b t1o t2b t2o t3b t3o H => (fun q F H => nodeM P0 T0 vouch_Covered_1.A vouch_Covered_1.code q.reverse [X1] (vouch_Covered_1.rq E K) F H) [1, 1, 1, 1] [(1, .pointer (some ⟨t1b, t1o, none⟩)), (2, .pointer (some ⟨t2b, t2o, none⟩)), (3, .pointer (some ⟨t3b, t3o, none⟩))] H) t1b t1o t2b t2o t3b t3o in4p in4n in4c t17p t17n t17c t18 t19 X1 E H K := by kernel_rfl
  exact nodeR_imp vouch_Covered_1.nok rfl ((k1 _).mpr (k2.mp h))
/-! ### compass/vouch.right (63) -/
noncomputable def vouch_right.A : An := { live := [(0, [0]), (1, [1]), (2, [2])], ord := [], stb := [], pre := [] }
noncomputable def vouch_right.code : Code := bodyOf Go.Proofs.Try.f63
theorem vouch_right.ok : okCode vouch_right.A 11 vouch_right.code = true := by kernel_rfl
def vouch_right.rq (E : Value → Hp → Prop) (K : Hp → Prop) : Ex → Fr → Hp → Prop := retQ T0 [] [] (fun r H => ldR (.tup []) r fun u => K  H) E
def vouch_right.run (g0_Nodes : Int) (g0_Edgesp : Option Addr) (g0_Edgesn : Nat) (g0_Edgesc : Nat) (E : Value → Hp → Prop) (H : Hp) (K : Hp → Prop) : Prop := nodeM P0 T0 vouch_right.A vouch_right.code [] [] (vouch_right.rq E K) (argF 0 [.agg ⟨[.int .i64 g0_Nodes, .slice g0_Edgesp g0_Edgesn g0_Edgesc]⟩]) H
theorem vouch_right.of {g0_Nodes : Int} {g0_Edgesp : Option Addr} {g0_Edgesn : Nat} {g0_Edgesc : Nat} {E : Value → Hp → Prop} {H : Hp} {K : Hp → Prop} (h : vouch_right.run g0_Nodes g0_Edgesp g0_Edgesn g0_Edgesc E H K) : vouch_right.call g0_Nodes g0_Edgesp g0_Edgesn g0_Edgesc E H K :=
  callW_of T0_ok P0_mixed (A := vouch_right.A) (fn := Go.Proofs.Try.f63) Go.Proofs.Try.func63 rfl vouch_right.ok rfl h
theorem vouch_right.nok : nodesOk vouch_right.code [] = true := by kernel_rfl
def vouch_right.run_t  (g0_Nodes : Int) (g0_Edgesp : Option Addr) (g0_Edgesn : Nat) (g0_Edgesc : Nat)  (E : Value → Hp → Prop) (H : Hp) (K : Hp → Prop) : Prop :=
  nw H ⟨[.int .i64 g0_Nodes, .slice g0_Edgesp g0_Edgesn g0_Edgesc], 24⟩ fun b_1 H_1 =>
  ldI .i64 (H_1.get b_1 0) fun x_1 =>
  ldS (H_1.get b_1 1) fun x_2p x_2n x_2c =>
  graph_Check.call x_1 x_2p x_2n x_2c E H_1 fun r_1_Code r_1_At H_2 =>
  nw H_2 ⟨[.int .i64 0, .int .i64 0], 42⟩ fun b_2 H_3 =>
  stC H_3 b_2 0 [.int .i64 r_1_Code, .int .i64 r_1_At] fun H_4 =>
  ldI .i64 (H_4.get b_2 0) fun x_3 =>
  ldI .i64 (H_4.get b_2 0) fun x_4 =>
  vouch_need.call (decide ((x_3 : Int) = 0)) x_4 E H_4 fun H_5 =>
  K H_5
theorem vouch_right.run_eq {g0_Nodes : Int} {g0_Edgesp : Option Addr} {g0_Edgesn : Nat} {g0_Edgesc : Nat} { E : Value → Hp → Prop} {H : Hp} {K : Hp → Prop} (h : vouch_right.run_t  g0_Nodes g0_Edgesp g0_Edgesn g0_Edgesc  E H K) : vouch_right.run g0_Nodes g0_Edgesp g0_Edgesn g0_Edgesc  E H K := by
  have k1 : ∀ G : List Nat → Fr → Hp → Prop, nodeR P0 T0 vouch_right.A [] G vouch_right.code [] [] (vouch_right.rq E K) (argF 0 [.agg ⟨[.int .i64 g0_Nodes, .slice g0_Edgesp g0_Edgesn g0_Edgesc]⟩]) H = vouch_right.run_t  g0_Nodes g0_Edgesp g0_Edgesn g0_Edgesc  E H K := fun G => by kernel_rfl
  exact nodeR_imp vouch_right.nok rfl ((k1 _).mpr h)
/-! ### compass/vouch.matched (64) -/
noncomputable def vouch_matched.A : An := { live := [(0, [0, 1, 2]), (1, [1, 2, 3]), (2, [1, 2, 3]), (3, [1, 2, 3, 6]), (4, [2, 3, 6, 20, 21, 22]), (5, [2, 3, 6, 20, 21, 22]), (6, [2, 3, 6, 8, 20, 21, 22]), (7, [2, 3, 6, 9, 20, 21, 22]), (8, [2, 3, 6, 9, 20, 21, 22]), (9, [2, 3, 6, 20, 21, 22, 39, 40]), (10, [2, 3, 6, 20, 21, 22, 39, 40]), (11, [2, 3, 6, 11, 20, 21, 22, 39, 40]), (12, [2, 3, 6, 11, 20, 21, 22, 39, 40]), (13, [2, 3, 6, 20, 21, 22, 39, 40]), (14, [2, 3, 6, 20, 21, 22])], ord := [(12, [0, 1, 2, 3, 4, 5, 6, 7, 8])], stb := [(12, [(6, [3])])], pre := [(12, [[], [], [0, 1], [0, 1, 2], [], [], [4, 5], [0, 1, 2, 3, 4, 5, 6], [0, 1, 2, 3, 4, 5, 6, 7]])] }
noncomputable def vouch_matched.code : Code := bodyOf Go.Proofs.Try.f64
theorem vouch_matched.ok : okCode vouch_matched.A 60 vouch_matched.code = true := by kernel_rfl
def vouch_matched.rq (E : Value → Hp → Prop) (K : Hp → Prop) : Ex → Fr → Hp → Prop := retQ T0 [] [] (fun r H => ldR (.tup []) r fun u => K  H) E
def vouch_matched.run (g0_Nodes : Int) (g0_Edgesp : Option Addr) (g0_Edgesn : Nat) (g0_Edgesc : Nat) (m1p : Option Addr) (m1n : Nat) (m1c : Nat) (most2g : Nat) (most2k : List Value) (E : Value → Hp → Prop) (H : Hp) (K : Hp → Prop) : Prop := nodeM P0 T0 vouch_matched.A vouch_matched.code [] [] (vouch_matched.rq E K) (argF 0 [.agg ⟨[.int .i64 g0_Nodes, .slice g0_Edgesp g0_Edgesn g0_Edgesc]⟩, .slice m1p m1n m1c, .func (.func most2g) ⟨[]⟩ ⟨most2k⟩]) H
theorem vouch_matched.of {g0_Nodes : Int} {g0_Edgesp : Option Addr} {g0_Edgesn : Nat} {g0_Edgesc : Nat} {m1p : Option Addr} {m1n : Nat} {m1c : Nat} {most2g : Nat} {most2k : List Value} {E : Value → Hp → Prop} {H : Hp} {K : Hp → Prop} (h : vouch_matched.run g0_Nodes g0_Edgesp g0_Edgesn g0_Edgesc m1p m1n m1c most2g most2k E H K) : vouch_matched.call g0_Nodes g0_Edgesp g0_Edgesn g0_Edgesc m1p m1n m1c most2g most2k E H K :=
  callW_of T0_ok P0_mixed (A := vouch_matched.A) (fn := Go.Proofs.Try.f64) Go.Proofs.Try.func64 rfl vouch_matched.ok rfl h
noncomputable def vouch_matched.f1 (most2g : Nat) (most2k : List Value) (g3 : Nat) (at6p : Option Addr) (at6n : Nat) (at6c : Nat) (t20p : Option Addr) (t20n : Nat) (t20c : Nat) (t21 : Int) (t22 : Int) : Fr := [(2, .func (.func most2g) ⟨[]⟩ ⟨most2k⟩), (3, .pointer (some ⟨g3, 0, none⟩)), (6, .slice at6p at6n at6c), (20, .slice t20p t20n t20c), (21, .int .i64 t21), (22, .int .i64 t22)]
noncomputable def vouch_matched.f2 (most2g : Nat) (most2k : List Value) (g3 : Nat) (at6p : Option Addr) (at6n : Nat) (at6c : Nat) (t20p : Option Addr) (t20n : Nat) (t20c : Nat) (t21 : Int) (t22 : Int) (t39_0 : Int) (t39_1 : Int) (t40 : Int) : Fr := [(2, .func (.func most2g) ⟨[]⟩ ⟨most2k⟩), (3, .pointer (some ⟨g3, 0, none⟩)), (6, .slice at6p at6n at6c), (20, .slice t20p t20n t20c), (21, .int .i64 t21), (22, .int .i64 t22), (39, .agg ⟨[.int .i64 t39_0, .int .i64 t39_1]⟩), (40, .int .i64 t40)]
def vouch_matched.j1 (most2g : Nat) (most2k : List Value) (g3 : Nat) (at6p : Option Addr) (at6n : Nat) (at6c : Nat) (t20p : Option Addr) (t20n : Nat) (t20c : Nat) (t21 : Int) (t22 : Int) (X1 : Fr → Hp → Prop) (E : Value → Hp → Prop) (H : Hp) (K : Hp → Prop) : Prop := nodeM P0 T0 vouch_matched.A vouch_matched.code [1, 1, 1, 1, 0, 0, 1, 1, 1] [X1] (vouch_matched.rq E K) [(2, .func (.func most2g) ⟨[]⟩ ⟨most2k⟩), (3, .pointer (some ⟨g3, 0, none⟩)), (6, .slice at6p at6n at6c), (20, .slice t20p t20n t20c), (21, .int .i64 t21), (22, .int .i64 t22)] H
def vouch_matched.l1 (most2g : Nat) (most2k : List Value) (g3 : Nat) (at6p : Option Addr) (at6n : Nat) (at6c : Nat) (t20p : Option Addr) (t20n : Nat) (t20c : Nat) (t21 : Int) (t22 : Int)  (E : Value → Hp → Prop) (H : Hp) (K : Hp → Prop) : Prop := nodeM P0 T0 vouch_matched.A vouch_matched.code [1, 1, 1, 1, 0] [] (vouch_matched.rq E K) (vouch_matched.f1 most2g most2k g3 at6p at6n at6c t20p t20n t20c t21 t22) H
def vouch_matched.b1 (most2g : Nat) (most2k : List Value) (g3 : Nat) (at6p : Option Addr) (at6n : Nat) (at6c : Nat) (t20p : Option Addr) (t20n : Nat) (t20c : Nat) (t21 : Int) (t22 : Int)  (X1 : Fr → Hp → Prop) (E : Value → Hp → Prop) (H : Hp) (K : Hp → Prop) : Prop := nodeM P0 T0 vouch_matched.A vouch_matched.code [1, 1, 1, 1, 0, 0] [X1] (vouch_matched.rq E K) (vouch_matched.f1 most2g most2k g3 at6p at6n at6c t20p t20n t20c t21 t22) H
theorem vouch_matched.l1_rule { E : Value → Hp → Prop} {K : Hp → Prop} (I : Nat → (List Value) → Nat → (Option Addr) → Nat → Nat → (Option Addr) → Nat → Nat → Int → Int → Hp → Prop) (μ : Nat → (List Value) → Nat → (Option Addr) → Nat → Nat → (Option Addr) → Nat → Nat → Int → Int → Hp → Nat)
    (h : ∀ most2g most2k g3 at6p at6n at6c t20p t20n t20c t21 t22 H, I most2g most2k g3 at6p at6n at6c t20p t20n t20c t21 t22 H → ∀ X : Fr → Hp → Prop, (∀ most2g' most2k' g3' at6p' at6n' at6c' t20p' t20n' t20c' t21' t22' H', I most2g' most2k' g3' at6p' at6n' at6c' t20p' t20n' t20c' t21' t22' H' → μ most2g' most2k' g3' at6p' at6n' at6c' t20p' t20n' t20c' t21' t22' H' < μ most2g most2k g3 at6p at6n at6c t20p t20n t20c t21 t22 H → X (vouch_matched.f1 most2g' most2k' g3' at6p' at6n' at6c' t20p' t20n' t20c' t21' t22') H') → vouch_matched.b1 most2g most2k g3 at6p at6n at6c t20p t20n t20c t21 t22  X E H K)
    {most2g : Nat} {most2k : List Value} {g3 : Nat} {at6p : Option Addr} {at6n : Nat} {at6c : Nat} {t20p : Option Addr} {t20n : Nat} {t20c : Nat} {t21 : Int} {t22 : Int} {H : Hp} (hI : I most2g most2k g3 at6p at6n at6c t20p t20n t20c t21 t22 H) : vouch_matched.l1 most2g most2k g3 at6p at6n at6c t20p t20n t20c t21 t22  E H K :=
  loop_rule (S := Nat × (List Value) × Nat × (Option Addr) × Nat × Nat × (Option Addr) × Nat × Nat × Int × Int) (fun s => vouch_matched.f1 (s.1) (s.2.1) (s.2.2.1) (s.2.2.2.1) (s.2.2.2.2.1) (s.2.2.2.2.2.1) (s.2.2.2.2.2.2.1) (s.2.2.2.2.2.2.2.1) (s.2.2.2.2.2.2.2.2.1) (s.2.2.2.2.2.2.2.2.2.1) (s.2.2.2.2.2.2.2.2.2.2)) (fun s H => I (s.1) (s.2.1) (s.2.2.1) (s.2.2.2.1) (s.2.2.2.2.1) (s.2.2.2.2.2.1) (s.2.2.2.2.2.2.1) (s.2.2.2.2.2.2.2.1) (s.2.2.2.2.2.2.2.2.1) (s.2.2.2.2.2.2.2.2.2.1) (s.2.2.2.2.2.2.2.2.2.2) H) (fun s H => μ (s.1) (s.2.1) (s.2.2.1) (s.2.2.2.1) (s.2.2.2.2.1) (s.2.2.2.2.2.1) (s.2.2.2.2.2.2.1) (s.2.2.2.2.2.2.2.1) (s.2.2.2.2.2.2.2.2.1) (s.2.2.2.2.2.2.2.2.2.1) (s.2.2.2.2.2.2.2.2.2.2) H) (fun s H hI X hX => h (s.1) (s.2.1) (s.2.2.1) (s.2.2.2.1) (s.2.2.2.2.1) (s.2.2.2.2.2.1) (s.2.2.2.2.2.2.1) (s.2.2.2.2.2.2.2.1) (s.2.2.2.2.2.2.2.2.1) (s.2.2.2.2.2.2.2.2.2.1) (s.2.2.2.2.2.2.2.2.2.2) H hI X fun most2g' most2k' g3' at6p' at6n' at6c' t20p' t20n' t20c' t21' t22' H' hI' hlt => hX (most2g', most2k', g3', at6p', at6n', at6c', t20p', t20n', t20c', t21', t22') H' hI' hlt) (s := (most2g, most2k, g3, at6p, at6n, at6c, t20p, t20n, t20c, t21, t22)) rfl hI
def vouch_matched.l2 (most2g : Nat) (most2k : List Value) (g3 : Nat) (at6p : Option Addr) (at6n : Nat) (at6c : Nat) (t20p : Option Addr) (t20n : Nat) (t20c : Nat) (t21 : Int) (t22 : Int) (t39_0 : Int) (t39_1 : Int) (t40 : Int) (X1 : Fr → Hp → Prop) (E : Value → Hp → Prop) (H : Hp) (K : Hp → Prop) : Prop := nodeM P0 T0 vouch_matched.A vouch_matched.code [1, 1, 1, 1, 0, 0, 1, 1, 0, 0, 1, 1, 1, 1, 0] [X1] (vouch_matched.rq E K) (vouch_matched.f2 most2g most2k g3 at6p at6n at6c t20p t20n t20c t21 t22 t39_0 t39_1 t40) H
def vouch_matched.b2 (most2g : Nat) (most2k : List Value) (g3 : Nat) (at6p : Option Addr) (at6n : Nat) (at6c : Nat) (t20p : Option Addr) (t20n : Nat) (t20c : Nat) (t21 : Int) (t22 : Int) (t39_0 : Int) (t39_1 : Int) (t40 : Int) (X1 : Fr → Hp → Prop) (X2 : Fr → Hp → Prop) (E : Value → Hp → Prop) (H : Hp) (K : Hp → Prop) : Prop := nodeM P0 T0 vouch_matched.A vouch_matched.code [1, 1, 1, 1, 0, 0, 1, 1, 0, 0, 1, 1, 1, 1, 0, 0] [X1, X2] (vouch_matched.rq E K) (vouch_matched.f2 most2g most2k g3 at6p at6n at6c t20p t20n t20c t21 t22 t39_0 t39_1 t40) H
theorem vouch_matched.l2_rule {X1 : Fr → Hp → Prop} { E : Value → Hp → Prop} {K : Hp → Prop} (I : Nat → (List Value) → Nat → (Option Addr) → Nat → Nat → (Option Addr) → Nat → Nat → Int → Int → Int → Int → Int → Hp → Prop) (μ : Nat → (List Value) → Nat → (Option Addr) → Nat → Nat → (Option Addr) → Nat → Nat → Int → Int → Int → Int → Int → Hp → Nat)
    (h : ∀ most2g most2k g3 at6p at6n at6c t20p t20n t20c t21 t22 t39_0 t39_1 t40 H, I most2g most2k g3 at6p at6n at6c t20p t20n t20c t21 t22 t39_0 t39_1 t40 H → ∀ X : Fr → Hp → Prop, (∀ most2g' most2k' g3' at6p' at6n' at6c' t20p' t20n' t20c' t21' t22' t39_0' t39_1' t40' H', I most2g' most2k' g3' at6p' at6n' at6c' t20p' t20n' t20c' t21' t22' t39_0' t39_1' t40' H' → μ most2g' most2k' g3' at6p' at6n' at6c' t20p' t20n' t20c' t21' t22' t39_0' t39_1' t40' H' < μ most2g most2k g3 at6p at6n at6c t20p t20n t20c t21 t22 t39_0 t39_1 t40 H → X (vouch_matched.f2 most2g' most2k' g3' at6p' at6n' at6c' t20p' t20n' t20c' t21' t22' t39_0' t39_1' t40') H') → vouch_matched.b2 most2g most2k g3 at6p at6n at6c t20p t20n t20c t21 t22 t39_0 t39_1 t40 X1 X E H K)
    {most2g : Nat} {most2k : List Value} {g3 : Nat} {at6p : Option Addr} {at6n : Nat} {at6c : Nat} {t20p : Option Addr} {t20n : Nat} {t20c : Nat} {t21 : Int} {t22 : Int} {t39_0 : Int} {t39_1 : Int} {t40 : Int} {H : Hp} (hI : I most2g most2k g3 at6p at6n at6c t20p t20n t20c t21 t22 t39_0 t39_1 t40 H) : vouch_matched.l2 most2g most2k g3 at6p at6n at6c t20p t20n t20c t21 t22 t39_0 t39_1 t40 X1 E H K :=
  loop_rule (S := Nat × (List Value) × Nat × (Option Addr) × Nat × Nat × (Option Addr) × Nat × Nat × Int × Int × Int × Int × Int) (fun s => vouch_matched.f2 (s.1) (s.2.1) (s.2.2.1) (s.2.2.2.1) (s.2.2.2.2.1) (s.2.2.2.2.2.1) (s.2.2.2.2.2.2.1) (s.2.2.2.2.2.2.2.1) (s.2.2.2.2.2.2.2.2.1) (s.2.2.2.2.2.2.2.2.2.1) (s.2.2.2.2.2.2.2.2.2.2.1) (s.2.2.2.2.2.2.2.2.2.2.2.1) (s.2.2.2.2.2.2.2.2.2.2.2.2.1) (s.2.2.2.2.2.2.2.2.2.2.2.2.2)) (fun s H => I (s.1) (s.2.1) (s.2.2.1) (s.2.2.2.1) (s.2.2.2.2.1) (s.2.2.2.2.2.1) (s.2.2.2.2.2.2.1) (s.2.2.2.2.2.2.2.1) (s.2.2.2.2.2.2.2.2.1) (s.2.2.2.2.2.2.2.2.2.1) (s.2.2.2.2.2.2.2.2.2.2.1) (s.2.2.2.2.2.2.2.2.2.2.2.1) (s.2.2.2.2.2.2.2.2.2.2.2.2.1) (s.2.2.2.2.2.2.2.2.2.2.2.2.2) H) (fun s H => μ (s.1) (s.2.1) (s.2.2.1) (s.2.2.2.1) (s.2.2.2.2.1) (s.2.2.2.2.2.1) (s.2.2.2.2.2.2.1) (s.2.2.2.2.2.2.2.1) (s.2.2.2.2.2.2.2.2.1) (s.2.2.2.2.2.2.2.2.2.1) (s.2.2.2.2.2.2.2.2.2.2.1) (s.2.2.2.2.2.2.2.2.2.2.2.1) (s.2.2.2.2.2.2.2.2.2.2.2.2.1) (s.2.2.2.2.2.2.2.2.2.2.2.2.2) H) (fun s H hI X hX => h (s.1) (s.2.1) (s.2.2.1) (s.2.2.2.1) (s.2.2.2.2.1) (s.2.2.2.2.2.1) (s.2.2.2.2.2.2.1) (s.2.2.2.2.2.2.2.1) (s.2.2.2.2.2.2.2.2.1) (s.2.2.2.2.2.2.2.2.2.1) (s.2.2.2.2.2.2.2.2.2.2.1) (s.2.2.2.2.2.2.2.2.2.2.2.1) (s.2.2.2.2.2.2.2.2.2.2.2.2.1) (s.2.2.2.2.2.2.2.2.2.2.2.2.2) H hI X fun most2g' most2k' g3' at6p' at6n' at6c' t20p' t20n' t20c' t21' t22' t39_0' t39_1' t40' H' hI' hlt => hX (most2g', most2k', g3', at6p', at6n', at6c', t20p', t20n', t20c', t21', t22', t39_0', t39_1', t40') H' hI' hlt) (s := (most2g, most2k, g3, at6p, at6n, at6c, t20p, t20n, t20c, t21, t22, t39_0, t39_1, t40)) rfl hI
theorem vouch_matched.nok : nodesOk vouch_matched.code [[0, 1, 1, 1, 1], [0, 1, 1, 1, 1, 0, 0, 1, 1, 0, 0, 1, 1, 1, 1], [1, 1, 1, 0, 0, 1, 1, 1, 1]] = true := by kernel_rfl
def vouch_matched.run_t (l1 : Nat → (List Value) → Nat → (Option Addr) → Nat → Nat → (Option Addr) → Nat → Nat → Int → Int → Hp → Prop) (g0_Nodes : Int) (g0_Edgesp : Option Addr) (g0_Edgesn : Nat) (g0_Edgesc : Nat) (m1p : Option Addr) (m1n : Nat) (m1c : Nat) (most2g : Nat) (most2k : List Value)  (E : Value → Hp → Prop) (H : Hp) (K : Hp → Prop) : Prop :=
  nw H ⟨[.int .i64 g0_Nodes, .slice g0_Edgesp g0_Edgesn g0_Edgesc], 24⟩ fun b_1 H_1 =>
  ldS (H_1.get b_1 1) fun x_1p x_1n x_1c =>
  vouch_rising.call m1p m1n m1c (x_1n : Int) E H_1 fun H_2 =>
  ldI .i64 (H_2.get b_1 0) fun x_2 =>
  mkS x_2 x_2 3 [.i .i64] 8 H_2 fun b_2 H_3 =>
  l1 most2g most2k b_1 (some ⟨b_2, 0, none⟩) x_2.toNat x_2.toNat m1p m1n m1c (m1n : Int) 0 H_3
theorem vouch_matched.run_eq {g0_Nodes : Int} {g0_Edgesp : Option Addr} {g0_Edgesn : Nat} {g0_Edgesc : Nat} {m1p : Option Addr} {m1n : Nat} {m1c : Nat} {most2g : Nat} {most2k : List Value} { E : Value → Hp → Prop} {H : Hp} {K : Hp → Prop} (h : vouch_matched.run_t (fun most2g most2k g3 at6p at6n at6c t20p t20n t20c t21 t22 H => vouch_matched.l1 most2g most2k g3 at6p at6n at6c t20p t20n t20c t21 t22  E H K) g0_Nodes g0_Edgesp g0_Edgesn g0_Edgesc m1p m1n m1c most2g most2k  E H K) : vouch_matched.run g0_Nodes g0_Edgesp g0_Edgesn g0_Edgesc m1p m1n m1c most2g most2k  E H K := by
  have k1 : ∀ G : List Nat → Fr → Hp → Prop, nodeR P0 T0 vouch_matched.A [[0, 1, 1, 1, 1], [0, 1, 1, 1, 1, 0, 0, 1, 1, 0, 0, 1, 1, 1, 1], [1, 1, 1, 0, 0, 1, 1, 1, 1]] G vouch_matched.code [] [] (vouch_matched.rq E K) (argF 0 [.agg ⟨[.int .i64 g0_Nodes, .slice g0_Edgesp g0_Edgesn g0_Edgesc]⟩, .slice m1p m1n m1c, .func (.func most2g) ⟨[]⟩ ⟨most2k⟩]) H = vouch_matched.run_t (fun most2g most2k g3 at6p at6n at6c t20p t20n t20c t21 t22 H => G [0, 1, 1, 1, 1] [(2, .func (.func most2g) ⟨[]⟩ ⟨most2k⟩), (3, .pointer (some ⟨g3, 0, none⟩)), (6, .slice at6p at6n at6c), (20, .slice t20p t20n t20c), (21, .int .i64 t21), (22, .int .i64 t22)] H) g0_Nodes g0_Edgesp g0_Edgesn g0_Edgesc m1p m1n m1c most2g most2k  E H K := fun G => by kernel_rfl
  have k2 : vouch_matched.run_t (fun most2g most2k g3 at6p at6n at6c t20p t20n t20c t21 t22 H => vouch_matched.l1 most2g most2k g3 at6p at6n at6c t20p t20n t20c t21 t22  E H K) g0_Nodes g0_Edgesp g0_Edgesn g0_Edgesc m1p m1n m1c most2g most2k  E H K = vouch_matched.run_t (fun most2g most2k g3 at6p at6n at6c t20p t20n t20c t21 t22 H => (fun q F H => nodeM P0 T0 vouch_matched.A vouch_matched.code q.reverse [] (vouch_matched.rq E K) F H) [0, 1, 1, 1, 1] [(2, .func (.func most2g) ⟨[]⟩ ⟨most2k⟩), (3, .pointer (some ⟨g3, 0, none⟩)), (6, .slice at6p at6n at6c), (20, .slice t20p t20n t20c), (21, .int .i64 t21), (22, .int .i64 t22)] H) g0_Nodes g0_Edgesp g0_Edgesn g0_Edgesc m1p m1n m1c most2g most2k  E H K := by kernel_rfl
  exact nodeR_imp vouch_matched.nok rfl ((k1 _).mpr (k2.mp h))
def vouch_matched.j1_t  (most2g : Nat) (most2k : List Value) (g3 : Nat) (at6p : Option Addr) (at6n : Nat) (at6c : Nat) (t20p : Option Addr) (t20n : Nat) (t20c : Nat) (t21 : Int) (t22 : Int) (X1 : Fr → Hp → Prop) (E : Value → Hp → Prop) (H : Hp) (K : Hp → Prop) : Prop :=
  X1 (vouch_matched.f1 most2g most2k g3 at6p at6n at6c t20p t20n t20c t21 (IntKind.wrap .i64 (t22 + 1))) H
theorem vouch_matched.j1_eq {most2g : Nat} {most2k : List Value} {g3 : Nat} {at6p : Option Addr} {at6n : Nat} {at6c : Nat} {t20p : Option Addr} {t20n : Nat} {t20c : Nat} {t21 : Int} {t22 : Int} {X1 : Fr → Hp → Prop} { E : Value → Hp → Prop} {H : Hp} {K : Hp → Prop} (h : vouch_matched.j1_t  most2g most2k g3 at6p at6n at6c t20p t20n t20c t21 t22 X1 E H K) : vouch_matched.j1 most2g most2k g3 at6p at6n at6c t20p t20n t20c t21 t22 X1 E H K := by
  have k1 : ∀ G : List Nat → Fr → Hp → Prop, nodeR P0 T0 vouch_matched.A [[0, 1, 1, 1, 1], [0, 1, 1, 1, 1, 0, 0, 1, 1, 0, 0, 1, 1, 1, 1], [1, 1, 1, 0, 0, 1, 1, 1, 1]] G vouch_matched.code [1, 1, 1, 1, 0, 0, 1, 1, 1] [X1] (vouch_matched.rq E K) [(2, .func (.func most2g) ⟨[]⟩ ⟨most2k⟩), (3, .pointer (some ⟨g3, 0, none⟩)), (6, .slice at6p at6n at6c), (20, .slice t20p t20n t20c), (21, .int .i64 t21), (22, .int .i64 t22)] H = vouch_matched.j1_t  most2g most2k g3 at6p at6n at6c t20p t20n t20c t21 t22 X1 E H K := fun G => by kernel_rfl
  exact nodeR_imp vouch_matched.nok rfl ((k1 _).mpr h)
def vouch_matched.b1_t (l2 : Nat → (List Value) → Nat → (Option Addr) → Nat → Nat → (Option Addr) → Nat → Nat → Int → Int → Int → Int → Int → Hp → Prop) (most2g : Nat) (most2k : List Value) (g3 : Nat) (at6p : Option Addr) (at6n : Nat) (at6c : Nat) (t20p : Option Addr) (t20n : Nat) (t20c : Nat) (t21 : Int) (t22 : Int) (X1 : Fr → Hp → Prop) (E : Value → Hp → Prop) (H : Hp) (K : Hp → Prop) : Prop :=
  bcase (decide ((t22 : Int) < t21)) (
  ix t20p t20n t22 1 fun b_1 o_1 =>
  ldI .i64 (H.get b_1 o_1) fun x_1 =>
  ldS (H.get g3 1) fun x_2p x_2n x_2c =>
  ix x_2p x_2n x_1 4 fun b_2 o_2 =>
  ldI .i64 (H.get b_2 o_2) fun x_3 =>
  ldI .i64 (H.get b_2 (o_2 + 1)) fun x_4 =>
  ldI .i64 (H.get b_2 (o_2 + 2)) fun x_5 =>
  ldI .i64 (H.get b_2 (o_2 + 3)) fun x_6 =>
  nw H ⟨[.int .i64 0, .int .i64 0, .int .i64 0, .int .i64 0], 37⟩ fun b_3 H_1 =>
  stC H_1 b_3 0 [.int .i64 x_3, .int .i64 x_4, .int .i64 x_5, .int .i64 x_6] fun H_2 =>
  ldI .i64 (H_2.get b_3 0) fun x_7 =>
  ldI .i64 (H_2.get b_3 1) fun x_8 =>
  ldI .i64 (H_2.get b_3 2) fun x_9 =>
  ldI .i64 (H_2.get b_3 3) fun x_10 =>
  vouch_loop.call x_7 x_8 x_9 x_10 E H_2 fun r_1 H_3 =>
  vouch_need.call (!r_1) 221 E H_3 fun H_4 =>
  ldI .i64 (H_4.get b_3 0) fun x_11 =>
  ldI .i64 (H_4.get b_3 1) fun x_12 =>
  l2 most2g most2k g3 at6p at6n at6c t20p t20n t20c t21 t22 x_11 x_12 0 H_4)
  (K H)
theorem vouch_matched.b1_eq {most2g : Nat} {most2k : List Value} {g3 : Nat} {at6p : Option Addr} {at6n : Nat} {at6c : Nat} {t20p : Option Addr} {t20n : Nat} {t20c : Nat} {t21 : Int} {t22 : Int} {X1 : Fr → Hp → Prop} { E : Value → Hp → Prop} {H : Hp} {K : Hp → Prop} (h : vouch_matched.b1_t (fun most2g most2k g3 at6p at6n at6c t20p t20n t20c t21 t22 t39_0 t39_1 t40 H => vouch_matched.l2 most2g most2k g3 at6p at6n at6c t20p t20n t20c t21 t22 t39_0 t39_1 t40 X1 E H K) most2g most2k g3 at6p at6n at6c t20p t20n t20c t21 t22 X1 E H K) : vouch_matched.b1 most2g most2k g3 at6p at6n at6c t20p t20n t20c t21 t22 X1 E H K := by
  have k1 : ∀ G : List Nat → Fr → Hp → Prop, nodeR P0 T0 vouch_matched.A [[0, 1, 1, 1, 1], [0, 1, 1, 1, 1, 0, 0, 1, 1, 0, 0, 1, 1, 1, 1], [1, 1, 1, 0, 0, 1, 1, 1, 1]] G vouch_matched.code [1, 1, 1, 1, 0, 0] [X1] (vouch_matched.rq E K) (vouch_matched.f1 most2g most2k g3 at6p at6n at6c t20p t20n t20c t21 t22) H = vouch_matched.b1_t (fun most2g most2k g3 at6p at6n at6c t20p t20n t20c t21 t22 t39_0 t39_1 t40 H => G [0, 1, 1, 1, 1, 0, 0, 1, 1, 0, 0, 1, 1, 1, 1] [(2, .func (.func most2g) ⟨[]⟩ ⟨most2k⟩), (3, .pointer (some ⟨g3, 0, none⟩)), (6, .slice at6p at6n at6c), (20, .slice t20p t20n t20c), (21, .int .i64 t21), (22, .int .i64 t22), (39, .agg ⟨[.int .i64 t39_0, .int .i64 t39_1]⟩), (40, .int .i64 t40)] H) most2g most2k g3 at6p at6n at6c t20p t20n t20c t21 t22 X1 E H K := fun G => by kernel_rfl
  have k2 : vouch_matched.b1_t (fun most2g most2k g3 at6p at6n at6c t20p t20n t20c t21 t22 t39_0 t39_1 t40 H => vouch_matched.l2 most2g most2k g3 at6p at6n at6c t20p t20n t20c t21 t22 t39_0 t39_1 t40 X1 E H K) most2g most2k g3 at6p at6n at6c t20p t20n t20c t21 t22 X1 E H K = vouch_matched.b1_t (fun most2g most2k g3 at6p at6n at6c t20p t20n t20c t21 t22 t39_0 t39_1 t40 H => (fun q F H => nodeM P0 T0 vouch_matched.A vouch_matched.code q.reverse [X1] (vouch_matched.rq E K) F H) [0, 1, 1, 1, 1, 0, 0, 1, 1, 0, 0, 1, 1, 1, 1] [(2, .func (.func most2g) ⟨[]⟩ ⟨most2k⟩), (3, .pointer (some ⟨g3, 0, none⟩)), (6, .slice at6p at6n at6c), (20, .slice t20p t20n t20c), (21, .int .i64 t21), (22, .int .i64 t22), (39, .agg ⟨[.int .i64 t39_0, .int .i64 t39_1]⟩), (40, .int .i64 t40)] H) most2g most2k g3 at6p at6n at6c t20p t20n t20c t21 t22 X1 E H K := by kernel_rfl
  exact nodeR_imp vouch_matched.nok rfl ((k1 _).mpr (k2.mp h))
def vouch_matched.b2_t (j1 : Nat → (List Value) → Nat → (Option Addr) → Nat → Nat → (Option Addr) → Nat → Nat → Int → Int → Hp → Prop) (most2g : Nat) (most2k : List Value) (g3 : Nat) (at6p : Option Addr) (at6n : Nat) (at6c : Nat) (t20p : Option Addr) (t20n : Nat) (t20c : Nat) (t21 : Int) (t22 : Int) (t39_0 : Int) (t39_1 : Int) (t40 : Int) (X1 : Fr → Hp → Prop) (X2 : Fr → Hp → Prop) (E : Value → Hp → Prop) (H : Hp) (K : Hp → Prop) : Prop :=
  bcase (decide ((t40 : Int) < 2)) (
  ((0 : Int) ≤ t40 ∧ t40 < (2 : Int)) ∧
  ldI .i64 ([Value.int .i64 t39_0, Value.int .i64 t39_1][t40.toNat]?) fun x_1 =>
  ix at6p at6n x_1 1 fun b_1 o_1 =>
  ldI .i64 (H.get b_1 o_1) fun x_2 =>
  ix at6p at6n x_1 1 fun b_2 o_2 =>
  stC H b_2 o_2 [.int .i64 (IntKind.wrap .i64 (x_2 + 1))] fun H_1 =>
  ix at6p at6n x_1 1 fun b_3 o_3 =>
  ldI .i64 (H_1.get b_3 o_3) fun x_3 =>
  dcall P0 T0 most2g ([Value.int .i64 x_1] ++ most2k) (.one false [.i .i64]) E H_1 fun u_1 H_2 =>
  (ldI .i64 (H_2.get b_3 o_3) fun x_4 =>
  Value.int .i64 x_4 = Value.int .i64 x_3) ∧
  vouch_need.call (decide ((x_3 : Int) ≤ (asI u_1))) 221 E H_2 fun H_3 =>
  X2 (vouch_matched.f2 most2g most2k g3 at6p at6n at6c t20p t20n t20c t21 t22 t39_0 t39_1 (IntKind.wrap .i64 (t40 + 1))) H_3)
  (j1 most2g most2k g3 at6p at6n at6c t20p t20n t20c t21 t22 H)
theorem vouch_matched.b2_eq {most2g : Nat} {most2k : List Value} {g3 : Nat} {at6p : Option Addr} {at6n : Nat} {at6c : Nat} {t20p : Option Addr} {t20n : Nat} {t20c : Nat} {t21 : Int} {t22 : Int} {t39_0 : Int} {t39_1 : Int} {t40 : Int} {X1 X2 : Fr → Hp → Prop} { E : Value → Hp → Prop} {H : Hp} {K : Hp → Prop} (h : vouch_matched.b2_t (fun most2g most2k g3 at6p at6n at6c t20p t20n t20c t21 t22 H => vouch_matched.j1 most2g most2k g3 at6p at6n at6c t20p t20n t20c t21 t22 X1 E H K) most2g most2k g3 at6p at6n at6c t20p t20n t20c t21 t22 t39_0 t39_1 t40 X1 X2 E H K) : vouch_matched.b2 most2g most2k g3 at6p at6n at6c t20p t20n t20c t21 t22 t39_0 t39_1 t40 X1 X2 E H K := by
  have k1 : ∀ G : List Nat → Fr → Hp → Prop, nodeR P0 T0 vouch_matched.A [[0, 1, 1, 1, 1], [0, 1, 1, 1, 1, 0, 0, 1, 1, 0, 0, 1, 1, 1, 1], [1, 1, 1, 0, 0, 1, 1, 1, 1]] G vouch_matched.code [1, 1, 1, 1, 0, 0, 1, 1, 0, 0, 1, 1, 1, 1, 0, 0] [X1, X2] (vouch_matched.rq E K) (vouch_matched.f2 most2g most2k g3 at6p at6n at6c t20p t20n t20c t21 t22 t39_0 t39_1 t40) H = vouch_matched.b2_t (fun most2g most2k g3 at6p at6n at6c t20p t20n t20c t21 t22 H => G [1, 1, 1, 0, 0, 1, 1, 1, 1] [(2, .func (.func most2g) ⟨[]⟩ ⟨most2k⟩), (3, .pointer (some ⟨g3, 0, none⟩)), (6, .slice at6p at6n at6c), (20, .slice t20p t20n t20c), (21, .int .i64 t21), (22, .int .i64 t22)] H) most2g most2k g3 at6p at6n at6c t20p t20n t20c t21 t22 t39_0 t39_1 t40 X1 X2 E H K := fun G => by kernel_rfl
  have k2 : vouch_matched.b2_t (fun most2g most2k g3 at6p at6n at6c t20p t20n t20c t21 t22 H => vouch_matched.j1 most2g most2k g3 at6p at6n at6c t20p t20n t20c t21 t22 X1 E H K) most2g most2k g3 at6p at6n at6c t20p t20n t20c t21 t22 t39_0 t39_1 t40 X1 X2 E H K = vouch_matched.b2_t (fun most2g most2k g3 at6p at6n at6c t20p t20n t20c t21 t22 H => (fun q F H => nodeM P0 T0 vouch_matched.A vouch_matched.code q.reverse [X1, X2] (vouch_matched.rq E K) F H) [1, 1, 1, 0, 0, 1, 1, 1, 1] [(2, .func (.func most2g) ⟨[]⟩ ⟨most2k⟩), (3, .pointer (some ⟨g3, 0, none⟩)), (6, .slice at6p at6n at6c), (20, .slice t20p t20n t20c), (21, .int .i64 t21), (22, .int .i64 t22)] H) most2g most2k g3 at6p at6n at6c t20p t20n t20c t21 t22 t39_0 t39_1 t40 X1 X2 E H K := by kernel_rfl
  exact nodeR_imp vouch_matched.nok rfl ((k1 _).mpr (k2.mp h))
/-! ### compass/vouch.one (65) -/
noncomputable def vouch_one.A : An := { live := [(0, []), (1, [])], ord := [], stb := [], pre := [] }
noncomputable def vouch_one.code : Code := bodyOf Go.Proofs.Try.f65
theorem vouch_one.ok : okCode vouch_one.A 3 vouch_one.code = true := by kernel_rfl
def vouch_one.rq (E : Value → Hp → Prop) (K : Int → Hp → Prop) : Ex → Fr → Hp → Prop := retQ T0 [.tmp 2] [3] (fun r H => ldR (.one false [.i .i64]) r fun u => K (asI u) H) E
def vouch_one.run (a0 : Int) (E : Value → Hp → Prop) (H : Hp) (K : Int → Hp → Prop) : Prop := nodeM P0 T0 vouch_one.A vouch_one.code [] [] (vouch_one.rq E K) (argF 0 [.int .i64 a0]) H
theorem vouch_one.of {a0 : Int} {E : Value → Hp → Prop} {H : Hp} {K : Int → Hp → Prop} (h : vouch_one.run a0 E H K) : vouch_one.call a0 E H K :=
  callW_of T0_ok P0_mixed (A := vouch_one.A) (fn := Go.Proofs.Try.f65) Go.Proofs.Try.func65 rfl vouch_one.ok rfl h
theorem vouch_one.nok : nodesOk vouch_one.code [] = true := by kernel_rfl
def vouch_one.run_t  (a0 : Int)  (E : Value → Hp → Prop) (H : Hp) (K : Int → Hp → Prop) : Prop :=
  K 1 H
theorem vouch_one.run_eq {a0 : Int} { E : Value → Hp → Prop} {H : Hp} {K : Int → Hp → Prop} (h : vouch_one.run_t  a0  E H K) : vouch_one.run a0  E H K := by
  have k1 : ∀ G : List Nat → Fr → Hp → Prop, nodeR P0 T0 vouch_one.A [] G vouch_one.code [] [] (vouch_one.rq E K) (argF 0 [.int .i64 a0]) H = vouch_one.run_t  a0  E H K := fun G => by kernel_rfl
  exact nodeR_imp vouch_one.nok rfl ((k1 _).mpr h)
/-! ### compass/vouch.marked (66) -/
noncomputable def vouch_marked.A : An := { live := [(0, [0, 1]), (1, [0, 1]), (2, [0, 1]), (3, [0, 5]), (4, [5, 13, 14, 15]), (5, [5, 13, 14, 15]), (6, [5, 7, 13, 14, 15]), (7, [5, 13, 14, 15]), (8, [5])], ord := [], stb := [], pre := [] }
noncomputable def vouch_marked.code : Code := bodyOf Go.Proofs.Try.f66
theorem vouch_marked.ok : okCode vouch_marked.A 24 vouch_marked.code = true := by kernel_rfl
def vouch_marked.rq (E : Value → Hp → Prop) (K : (Option Addr) → Nat → Nat → Hp → Prop) : Ex → Fr → Hp → Prop := retQ T0 [.tmp 4] [63] (fun r H => ldR (.one false [.sl]) r fun u => K (asS1 u) (asS2 u) (asS3 u) H) E
def vouch_marked.run (list0p : Option Addr) (list0n : Nat) (list0c : Nat) (n1 : Int) (E : Value → Hp → Prop) (H : Hp) (K : (Option Addr) → Nat → Nat → Hp → Prop) : Prop := nodeM P0 T0 vouch_marked.A vouch_marked.code [] [] (vouch_marked.rq E K) (argF 0 [.slice list0p list0n list0c, .int .i64 n1]) H
theorem vouch_marked.of {list0p : Option Addr} {list0n : Nat} {list0c : Nat} {n1 : Int} {E : Value → Hp → Prop} {H : Hp} {K : (Option Addr) → Nat → Nat → Hp → Prop} (h : vouch_marked.run list0p list0n list0c n1 E H K) : vouch_marked.call list0p list0n list0c n1 E H K :=
  callW_of T0_ok P0_mixed (A := vouch_marked.A) (fn := Go.Proofs.Try.f66) Go.Proofs.Try.func66 rfl vouch_marked.ok rfl h
noncomputable def vouch_marked.f1 (in5p : Option Addr) (in5n : Nat) (in5c : Nat) (t13p : Option Addr) (t13n : Nat) (t13c : Nat) (t14 : Int) (t15 : Int) : Fr := [(5, .slice in5p in5n in5c), (13, .slice t13p t13n t13c), (14, .int .i64 t14), (15, .int .i64 t15)]
def vouch_marked.l1 (in5p : Option Addr) (in5n : Nat) (in5c : Nat) (t13p : Option Addr) (t13n : Nat) (t13c : Nat) (t14 : Int) (t15 : Int)  (E : Value → Hp → Prop) (H : Hp) (K : (Option Addr) → Nat → Nat → Hp → Prop) : Prop := nodeM P0 T0 vouch_marked.A vouch_marked.code [1, 1, 1, 0, 1, 0] [] (vouch_marked.rq E K) (vouch_marked.f1 in5p in5n in5c t13p t13n t13c t14 t15) H
def vouch_marked.b1 (in5p : Option Addr) (in5n : Nat) (in5c : Nat) (t13p : Option Addr) (t13n : Nat) (t13c : Nat) (t14 : Int) (t15 : Int)  (X1 : Fr → Hp → Prop) (E : Value → Hp → Prop) (H : Hp) (K : (Option Addr) → Nat → Nat → Hp → Prop) : Prop := nodeM P0 T0 vouch_marked.A vouch_marked.code [1, 1, 1, 0, 1, 0, 0] [X1] (vouch_marked.rq E K) (vouch_marked.f1 in5p in5n in5c t13p t13n t13c t14 t15) H
theorem vouch_marked.l1_rule { E : Value → Hp → Prop} {K : (Option Addr) → Nat → Nat → Hp → Prop} (I : (Option Addr) → Nat → Nat → (Option Addr) → Nat → Nat → Int → Int → Hp → Prop) (μ : (Option Addr) → Nat → Nat → (Option Addr) → Nat → Nat → Int → Int → Hp → Nat)
    (h : ∀ in5p in5n in5c t13p t13n t13c t14 t15 H, I in5p in5n in5c t13p t13n t13c t14 t15 H → ∀ X : Fr → Hp → Prop, (∀ in5p' in5n' in5c' t13p' t13n' t13c' t14' t15' H', I in5p' in5n' in5c' t13p' t13n' t13c' t14' t15' H' → μ in5p' in5n' in5c' t13p' t13n' t13c' t14' t15' H' < μ in5p in5n in5c t13p t13n t13c t14 t15 H → X (vouch_marked.f1 in5p' in5n' in5c' t13p' t13n' t13c' t14' t15') H') → vouch_marked.b1 in5p in5n in5c t13p t13n t13c t14 t15  X E H K)
    {in5p : Option Addr} {in5n : Nat} {in5c : Nat} {t13p : Option Addr} {t13n : Nat} {t13c : Nat} {t14 : Int} {t15 : Int} {H : Hp} (hI : I in5p in5n in5c t13p t13n t13c t14 t15 H) : vouch_marked.l1 in5p in5n in5c t13p t13n t13c t14 t15  E H K :=
  loop_rule (S := (Option Addr) × Nat × Nat × (Option Addr) × Nat × Nat × Int × Int) (fun s => vouch_marked.f1 (s.1) (s.2.1) (s.2.2.1) (s.2.2.2.1) (s.2.2.2.2.1) (s.2.2.2.2.2.1) (s.2.2.2.2.2.2.1) (s.2.2.2.2.2.2.2)) (fun s H => I (s.1) (s.2.1) (s.2.2.1) (s.2.2.2.1) (s.2.2.2.2.1) (s.2.2.2.2.2.1) (s.2.2.2.2.2.2.1) (s.2.2.2.2.2.2.2) H) (fun s H => μ (s.1) (s.2.1) (s.2.2.1) (s.2.2.2.1) (s.2.2.2.2.1) (s.2.2.2.2.2.1) (s.2.2.2.2.2.2.1) (s.2.2.2.2.2.2.2) H) (fun s H hI X hX => h (s.1) (s.2.1) (s.2.2.1) (s.2.2.2.1) (s.2.2.2.2.1) (s.2.2.2.2.2.1) (s.2.2.2.2.2.2.1) (s.2.2.2.2.2.2.2) H hI X fun in5p' in5n' in5c' t13p' t13n' t13c' t14' t15' H' hI' hlt => hX (in5p', in5n', in5c', t13p', t13n', t13c', t14', t15') H' hI' hlt) (s := (in5p, in5n, in5c, t13p, t13n, t13c, t14, t15)) rfl hI
theorem vouch_marked.nok : nodesOk vouch_marked.code [[0, 1, 0, 1, 1, 1]] = true := by kernel_rfl
def vouch_marked.run_t (l1 : (Option Addr) → Nat → Nat → (Option Addr) → Nat → Nat → Int → Int → Hp → Prop) (list0p : Option Addr) (list0n : Nat) (list0c : Nat) (n1 : Int)  (E : Value → Hp → Prop) (H : Hp) (K : (Option Addr) → Nat → Nat → Hp → Prop) : Prop :=
  vouch_rising.call list0p list0n list0c n1 E H fun H_1 =>
  mkS n1 n1 4 [.bool] 1 H_1 fun b_1 H_2 =>
  l1 (some ⟨b_1, 0, none⟩) n1.toNat n1.toNat list0p list0n list0c (list0n : Int) 0 H_2
theorem vouch_marked.run_eq {list0p : Option Addr} {list0n : Nat} {list0c : Nat} {n1 : Int} { E : Value → Hp → Prop} {H : Hp} {K : (Option Addr) → Nat → Nat → Hp → Prop} (h : vouch_marked.run_t (fun in5p in5n in5c t13p t13n t13c t14 t15 H => vouch_marked.l1 in5p in5n in5c t13p t13n t13c t14 t15  E H K) list0p list0n list0c n1  E H K) : vouch_marked.run list0p list0n list0c n1  E H K := by
  have k1 : ∀ G : List Nat → Fr → Hp → Prop, nodeR P0 T0 vouch_marked.A [[0, 1, 0, 1, 1, 1]] G vouch_marked.code [] [] (vouch_marked.rq E K) (argF 0 [.slice list0p list0n list0c, .int .i64 n1]) H = vouch_marked.run_t (fun in5p in5n in5c t13p t13n t13c t14 t15 H => G [0, 1, 0, 1, 1, 1] [(5, .slice in5p in5n in5c), (13, .slice t13p t13n t13c), (14, .int .i64 t14), (15, .int .i64 t15)] H) list0p list0n list0c n1  E H K := fun G => by kernel_rfl
  have k2 : vouch_marked.run_t (fun in5p in5n in5c t13p t13n t13c t14 t15 H => vouch_marked.l1 in5p in5n in5c t13p t13n t13c t14 t15  E H K) list0p list0n list0c n1  E H K = vouch_marked.run_t (fun in5p in5n in5c t13p t13n t13c t14 t15 H => (fun q F H => nodeM P0 T0 vouch_marked.A vouch_marked.code q.reverse [] (vouch_marked.rq E K) F H) [0, 1, 0, 1, 1, 1] [(5, .slice in5p in5n in5c), (13, .slice t13p t13n t13c), (14, .int .i64 t14), (15, .int .i64 t15)] H) list0p list0n list0c n1  E H K := by kernel_rfl
  exact nodeR_imp vouch_marked.nok rfl ((k1 _).mpr (k2.mp h))
def vouch_marked.b1_t  (in5p : Option Addr) (in5n : Nat) (in5c : Nat) (t13p : Option Addr) (t13n : Nat) (t13c : Nat) (t14 : Int) (t15 : Int) (X1 : Fr → Hp → Prop) (E : Value → Hp → Prop) (H : Hp) (K : (Option Addr) → Nat → Nat → Hp → Prop) : Prop :=
  bcase (decide ((t15 : Int) < t14)) (
  ix t13p t13n t15 1 fun b_1 o_1 =>
  ldI .i64 (H.get b_1 o_1) fun x_1 =>
  ix in5p in5n x_1 1 fun b_2 o_2 =>
  stC H b_2 o_2 [.bool true] fun H_1 =>
  X1 (vouch_marked.f1 in5p in5n in5c t13p t13n t13c t14 (IntKind.wrap .i64 (t15 + 1))) H_1)
  (K in5p in5n in5c H)
theorem vouch_marked.b1_eq {in5p : Option Addr} {in5n : Nat} {in5c : Nat} {t13p : Option Addr} {t13n : Nat} {t13c : Nat} {t14 : Int} {t15 : Int} {X1 : Fr → Hp → Prop} { E : Value → Hp → Prop} {H : Hp} {K : (Option Addr) → Nat → Nat → Hp → Prop} (h : vouch_marked.b1_t  in5p in5n in5c t13p t13n t13c t14 t15 X1 E H K) : vouch_marked.b1 in5p in5n in5c t13p t13n t13c t14 t15 X1 E H K := by
  have k1 : ∀ G : List Nat → Fr → Hp → Prop, nodeR P0 T0 vouch_marked.A [[0, 1, 0, 1, 1, 1]] G vouch_marked.code [1, 1, 1, 0, 1, 0, 0] [X1] (vouch_marked.rq E K) (vouch_marked.f1 in5p in5n in5c t13p t13n t13c t14 t15) H = vouch_marked.b1_t  in5p in5n in5c t13p t13n t13c t14 t15 X1 E H K := fun G => by kernel_rfl
  exact nodeR_imp vouch_marked.nok rfl ((k1 _).mpr h)
/-! ### compass/vouch.need (67) -/
noncomputable def vouch_need.A : An := { live := [(0, [0, 1]), (1, [1])], ord := [], stb := [], pre := [] }
noncomputable def vouch_need.code : Code := bodyOf Go.Proofs.Try.f67
theorem vouch_need.ok : okCode vouch_need.A 9 vouch_need.code = true := by kernel_rfl
def vouch_need.rq (E : Value → Hp → Prop) (K : Hp → Prop) : Ex → Fr → Hp → Prop := retQ T0 [] [] (fun r H => ldR (.tup []) r fun u => K  H) E
def vouch_need.run (ok0 : Bool) (code1 : Int) (E : Value → Hp → Prop) (H : Hp) (K : Hp → Prop) : Prop := nodeM P0 T0 vouch_need.A vouch_need.code [] [] (vouch_need.rq E K) (argF 0 [.bool ok0, .int .i64 code1]) H
theorem vouch_need.of {ok0 : Bool} {code1 : Int} {E : Value → Hp → Prop} {H : Hp} {K : Hp → Prop} (h : vouch_need.run ok0 code1 E H K) : vouch_need.call ok0 code1 E H K :=
  callW_of T0_ok P0_mixed (A := vouch_need.A) (fn := Go.Proofs.Try.f67) Go.Proofs.Try.func67 rfl vouch_need.ok rfl h
theorem vouch_need.nok : nodesOk vouch_need.code [] = true := by kernel_rfl
def vouch_need.run_t  (ok0 : Bool) (code1 : Int)  (E : Value → Hp → Prop) (H : Hp) (K : Hp → Prop) : Prop :=
  bcase ((!ok0)) (
  E (Value.iface 112 (.agg ⟨[.int .i64 code1]⟩)) H)
  (K H)
theorem vouch_need.run_eq {ok0 : Bool} {code1 : Int} { E : Value → Hp → Prop} {H : Hp} {K : Hp → Prop} (h : vouch_need.run_t  ok0 code1  E H K) : vouch_need.run ok0 code1  E H K := by
  have k1 : ∀ G : List Nat → Fr → Hp → Prop, nodeR P0 T0 vouch_need.A [] G vouch_need.code [] [] (vouch_need.rq E K) (argF 0 [.bool ok0, .int .i64 code1]) H = vouch_need.run_t  ok0 code1  E H K := fun G => by kernel_rfl
  exact nodeR_imp vouch_need.nok rfl ((k1 _).mpr h)
/-! ### compass/vouch.loop (68) -/
noncomputable def vouch_loop.A : An := { live := [(0, [0]), (1, [1])], ord := [], stb := [], pre := [] }
noncomputable def vouch_loop.code : Code := bodyOf Go.Proofs.Try.f68
theorem vouch_loop.ok : okCode vouch_loop.A 8 vouch_loop.code = true := by kernel_rfl
def vouch_loop.rq (E : Value → Hp → Prop) (K : Bool → Hp → Prop) : Ex → Fr → Hp → Prop := retQ T0 [.tmp 2] [4] (fun r H => ldR (.one false [.bool]) r fun u => K (asB u) H) E
def vouch_loop.run (e0_From : Int) (e0_To : Int) (e0_Cap : Int) (e0_Cost : Int) (E : Value → Hp → Prop) (H : Hp) (K : Bool → Hp → Prop) : Prop := nodeM P0 T0 vouch_loop.A vouch_loop.code [] [] (vouch_loop.rq E K) (argF 0 [.agg ⟨[.int .i64 e0_From, .int .i64 e0_To, .int .i64 e0_Cap, .int .i64 e0_Cost]⟩]) H
theorem vouch_loop.of {e0_From : Int} {e0_To : Int} {e0_Cap : Int} {e0_Cost : Int} {E : Value → Hp → Prop} {H : Hp} {K : Bool → Hp → Prop} (h : vouch_loop.run e0_From e0_To e0_Cap e0_Cost E H K) : vouch_loop.call e0_From e0_To e0_Cap e0_Cost E H K :=
  callW_of T0_ok P0_mixed (A := vouch_loop.A) (fn := Go.Proofs.Try.f68) Go.Proofs.Try.func68 rfl vouch_loop.ok rfl h
theorem vouch_loop.nok : nodesOk vouch_loop.code [] = true := by kernel_rfl
def vouch_loop.run_t  (e0_From : Int) (e0_To : Int) (e0_Cap : Int) (e0_Cost : Int)  (E : Value → Hp → Prop) (H : Hp) (K : Bool → Hp → Prop) : Prop :=
  nw H ⟨[.int .i64 e0_From, .int .i64 e0_To, .int .i64 e0_Cap, .int .i64 e0_Cost], 37⟩ fun b_1 H_1 =>
  ldI .i64 (H_1.get b_1 0) fun x_1 =>
  ldI .i64 (H_1.get b_1 1) fun x_2 =>
  K (decide ((x_1 : Int) = x_2)) H_1
theorem vouch_loop.run_eq {e0_From : Int} {e0_To : Int} {e0_Cap : Int} {e0_Cost : Int} { E : Value → Hp → Prop} {H : Hp} {K : Bool → Hp → Prop} (h : vouch_loop.run_t  e0_From e0_To e0_Cap e0_Cost  E H K) : vouch_loop.run e0_From e0_To e0_Cap e0_Cost  E H K := by
  have k1 : ∀ G : List Nat → Fr → Hp → Prop, nodeR P0 T0 vouch_loop.A [] G vouch_loop.code [] [] (vouch_loop.rq E K) (argF 0 [.agg ⟨[.int .i64 e0_From, .int .i64 e0_To, .int .i64 e0_Cap, .int .i64 e0_Cost]⟩]) H = vouch_loop.run_t  e0_From e0_To e0_Cap e0_Cost  E H K := fun G => by kernel_rfl
  exact nodeR_imp vouch_loop.nok rfl ((k1 _).mpr h)
/-! ### compass/vouch.Largest$1 (69) -/
/-! ### compass/vouch.odd (70) -/
/-! ### compass/vouch.NoPerfect$1 (71) -/
/-! ### compass/vouch.rising (86) -/
noncomputable def vouch_rising.A : An := { live := [(0, [0, 1]), (1, [0, 1, 4]), (2, [1, 4, 7, 8, 9]), (3, [1, 4, 7, 8, 9]), (4, [1, 4, 6, 7, 8, 9]), (5, [1, 6, 7, 8, 9]), (6, [1, 4, 7, 8, 9])], ord := [], stb := [], pre := [] }
noncomputable def vouch_rising.code : Code := bodyOf Go.Proofs.Try.f86
theorem vouch_rising.ok : okCode vouch_rising.A 24 vouch_rising.code = true := by kernel_rfl
def vouch_rising.rq (E : Value → Hp → Prop) (K : Hp → Prop) : Ex → Fr → Hp → Prop := retQ T0 [] [] (fun r H => ldR (.tup []) r fun u => K  H) E
def vouch_rising.run (list0p : Option Addr) (list0n : Nat) (list0c : Nat) (n1 : Int) (E : Value → Hp → Prop) (H : Hp) (K : Hp → Prop) : Prop := nodeM P0 T0 vouch_rising.A vouch_rising.code [] [] (vouch_rising.rq E K) (argF 0 [.slice list0p list0n list0c, .int .i64 n1]) H
theorem vouch_rising.of {list0p : Option Addr} {list0n : Nat} {list0c : Nat} {n1 : Int} {E : Value → Hp → Prop} {H : Hp} {K : Hp → Prop} (h : vouch_rising.run list0p list0n list0c n1 E H K) : vouch_rising.call list0p list0n list0c n1 E H K :=
  callW_of T0_ok P0_mixed (A := vouch_rising.A) (fn := Go.Proofs.Try.f86) Go.Proofs.Try.func86 rfl vouch_rising.ok rfl h
noncomputable def vouch_rising.f1 (n1 : Int) (last4 : Int) (t7p : Option Addr) (t7n : Nat) (t7c : Nat) (t8 : Int) (t9 : Int) : Fr := [(1, .int .i64 n1), (4, .int .i64 last4), (7, .slice t7p t7n t7c), (8, .int .i64 t8), (9, .int .i64 t9)]
def vouch_rising.j1 (n1 : Int) (last4 : Int) (t7p : Option Addr) (t7n : Nat) (t7c : Nat) (t8 : Int) (t9 : Int) (X1 : Fr → Hp → Prop) (E : Value → Hp → Prop) (H : Hp) (K : Hp → Prop) : Prop := nodeM P0 T0 vouch_rising.A vouch_rising.code [1, 1, 0, 0, 1, 1, 1] [X1] (vouch_rising.rq E K) [(1, .int .i64 n1), (4, .int .i64 last4), (7, .slice t7p t7n t7c), (8, .int .i64 t8), (9, .int .i64 t9)] H
def vouch_rising.l1 (n1 : Int) (last4 : Int) (t7p : Option Addr) (t7n : Nat) (t7c : Nat) (t8 : Int) (t9 : Int)  (E : Value → Hp → Prop) (H : Hp) (K : Hp → Prop) : Prop := nodeM P0 T0 vouch_rising.A vouch_rising.code [1, 1, 0] [] (vouch_rising.rq E K) (vouch_rising.f1 n1 last4 t7p t7n t7c t8 t9) H
def vouch_rising.b1 (n1 : Int) (last4 : Int) (t7p : Option Addr) (t7n : Nat) (t7c : Nat) (t8 : Int) (t9 : Int)  (X1 : Fr → Hp → Prop) (E : Value → Hp → Prop) (H : Hp) (K : Hp → Prop) : Prop := nodeM P0 T0 vouch_rising.A vouch_rising.code [1, 1, 0, 0] [X1] (vouch_rising.rq E K) (vouch_rising.f1 n1 last4 t7p t7n t7c t8 t9) H
theorem vouch_rising.l1_rule { E : Value → Hp → Prop} {K : Hp → Prop} (I : Int → Int → (Option Addr) → Nat → Nat → Int → Int → Hp → Prop) (μ : Int → Int → (Option Addr) → Nat → Nat → Int → Int → Hp → Nat)
    (h : ∀ n1 last4 t7p t7n t7c t8 t9 H, I n1 last4 t7p t7n t7c t8 t9 H → ∀ X : Fr → Hp → Prop, (∀ n1' last4' t7p' t7n' t7c' t8' t9' H', I n1' last4' t7p' t7n' t7c' t8' t9' H' → μ n1' last4' t7p' t7n' t7c' t8' t9' H' < μ n1 last4 t7p t7n t7c t8 t9 H → X (vouch_rising.f1 n1' last4' t7p' t7n' t7c' t8' t9') H') → vouch_rising.b1 n1 last4 t7p t7n t7c t8 t9  X E H K)
    {n1 : Int} {last4 : Int} {t7p : Option Addr} {t7n : Nat} {t7c : Nat} {t8 : Int} {t9 : Int} {H : Hp} (hI : I n1 last4 t7p t7n t7c t8 t9 H) : vouch_rising.l1 n1 last4 t7p t7n t7c t8 t9  E H K :=
  loop_rule (S := Int × Int × (Option Addr) × Nat × Nat × Int × Int) (fun s => vouch_rising.f1 (s.1) (s.2.1) (s.2.2.1) (s.2.2.2.1) (s.2.2.2.2.1) (s.2.2.2.2.2.1) (s.2.2.2.2.2.2)) (fun s H => I (s.1) (s.2.1) (s.2.2.1) (s.2.2.2.1) (s.2.2.2.2.1) (s.2.2.2.2.2.1) (s.2.2.2.2.2.2) H) (fun s H => μ (s.1) (s.2.1) (s.2.2.1) (s.2.2.2.1) (s.2.2.2.2.1) (s.2.2.2.2.2.1) (s.2.2.2.2.2.2) H) (fun s H hI X hX => h (s.1) (s.2.1) (s.2.2.1) (s.2.2.2.1) (s.2.2.2.2.1) (s.2.2.2.2.2.1) (s.2.2.2.2.2.2) H hI X fun n1' last4' t7p' t7n' t7c' t8' t9' H' hI' hlt => hX (n1', last4', t7p', t7n', t7c', t8', t9') H' hI' hlt) (s := (n1, last4, t7p, t7n, t7c, t8, t9)) rfl hI
theorem vouch_rising.nok : nodesOk vouch_rising.code [[0, 1, 1], [1, 1, 1, 0, 0, 1, 1]] = true := by kernel_rfl
def vouch_rising.run_t (l1 : Int → Int → (Option Addr) → Nat → Nat → Int → Int → Hp → Prop) (list0p : Option Addr) (list0n : Nat) (list0c : Nat) (n1 : Int)  (E : Value → Hp → Prop) (H : Hp) (K : Hp → Prop) : Prop :=
  l1 n1 (-1) list0p list0n list0c (list0n : Int) 0 H
theorem vouch_rising.run_eq {list0p : Option Addr} {list0n : Nat} {list0c : Nat} {n1 : Int} { E : Value → Hp → Prop} {H : Hp} {K : Hp → Prop} (h : vouch_rising.run_t (fun n1 last4 t7p t7n t7c t8 t9 H => vouch_rising.l1 n1 last4 t7p t7n t7c t8 t9  E H K) list0p list0n list0c n1  E H K) : vouch_rising.run list0p list0n list0c n1  E H K := by
  have k1 : ∀ G : List Nat → Fr → Hp → Prop, nodeR P0 T0 vouch_rising.A [[0, 1, 1], [1, 1, 1, 0, 0, 1, 1]] G vouch_rising.code [] [] (vouch_rising.rq E K) (argF 0 [.slice list0p list0n list0c, .int .i64 n1]) H = vouch_rising.run_t (fun n1 last4 t7p t7n t7c t8 t9 H => G [0, 1, 1] [(1, .int .i64 n1), (4, .int .i64 last4), (7, .slice t7p t7n t7c), (8, .int .i64 t8), (9, .int .i64 t9)] H) list0p list0n list0c n1  E H K := fun G => by kernel_rfl
  have k2 : vouch_rising.run_t (fun n1 last4 t7p t7n t7c t8 t9 H => vouch_rising.l1 n1 last4 t7p t7n t7c t8 t9  E H K) list0p list0n list0c n1  E H K = vouch_rising.run_t (fun n1 last4 t7p t7n t7c t8 t9 H => (fun q F H => nodeM P0 T0 vouch_rising.A vouch_rising.code q.reverse [] (vouch_rising.rq E K) F H) [0, 1, 1] [(1, .int .i64 n1), (4, .int .i64 last4), (7, .slice t7p t7n t7c), (8, .int .i64 t8), (9, .int .i64 t9)] H) list0p list0n list0c n1  E H K := by kernel_rfl
  exact nodeR_imp vouch_rising.nok rfl ((k1 _).mpr (k2.mp h))
def vouch_rising.j1_t  (n1 : Int) (last4 : Int) (t7p : Option Addr) (t7n : Nat) (t7c : Nat) (t8 : Int) (t9 : Int) (X1 : Fr → Hp → Prop) (E : Value → Hp → Prop) (H : Hp) (K : Hp → Prop) : Prop :=
  X1 (vouch_rising.f1 n1 last4 t7p t7n t7c t8 (IntKind.wrap .i64 (t9 + 1))) H
theorem vouch_rising.j1_eq {n1 : Int} {last4 : Int} {t7p : Option Addr} {t7n : Nat} {t7c : Nat} {t8 : Int} {t9 : Int} {X1 : Fr → Hp → Prop} { E : Value → Hp → Prop} {H : Hp} {K : Hp → Prop} (h : vouch_rising.j1_t  n1 last4 t7p t7n t7c t8 t9 X1 E H K) : vouch_rising.j1 n1 last4 t7p t7n t7c t8 t9 X1 E H K := by
  have k1 : ∀ G : List Nat → Fr → Hp → Prop, nodeR P0 T0 vouch_rising.A [[0, 1, 1], [1, 1, 1, 0, 0, 1, 1]] G vouch_rising.code [1, 1, 0, 0, 1, 1, 1] [X1] (vouch_rising.rq E K) [(1, .int .i64 n1), (4, .int .i64 last4), (7, .slice t7p t7n t7c), (8, .int .i64 t8), (9, .int .i64 t9)] H = vouch_rising.j1_t  n1 last4 t7p t7n t7c t8 t9 X1 E H K := fun G => by kernel_rfl
  exact nodeR_imp vouch_rising.nok rfl ((k1 _).mpr h)
def vouch_rising.b1_t (j1 : Int → Int → (Option Addr) → Nat → Nat → Int → Int → Hp → Prop) (n1 : Int) (last4 : Int) (t7p : Option Addr) (t7n : Nat) (t7c : Nat) (t8 : Int) (t9 : Int) (X1 : Fr → Hp → Prop) (E : Value → Hp → Prop) (H : Hp) (K : Hp → Prop) : Prop :=
  bcase (decide ((t9 : Int) < t8)) (
  ix t7p t7n t9 1 fun b_1 o_1 =>
  ldI .i64 (H.get b_1 o_1) fun x_1 =>
  bcase (decide ((last4 : Int) < x_1)) (
  vouch_need.call (decide ((x_1 : Int) < n1)) 221 E H fun H_1 =>
  j1 n1 x_1 t7p t7n t7c t8 t9 H_1)
  (vouch_need.call false 221 E H fun H_2 =>
  j1 n1 x_1 t7p t7n t7c t8 t9 H_2))
  (K H)
theorem vouch_rising.b1_eq {n1 : Int} {last4 : Int} {t7p : Option Addr} {t7n : Nat} {t7c : Nat} {t8 : Int} {t9 : Int} {X1 : Fr → Hp → Prop} { E : Value → Hp → Prop} {H : Hp} {K : Hp → Prop} (h : vouch_rising.b1_t (fun n1 last4 t7p t7n t7c t8 t9 H => vouch_rising.j1 n1 last4 t7p t7n t7c t8 t9 X1 E H K) n1 last4 t7p t7n t7c t8 t9 X1 E H K) : vouch_rising.b1 n1 last4 t7p t7n t7c t8 t9 X1 E H K := by
  have k1 : ∀ G : List Nat → Fr → Hp → Prop, nodeR P0 T0 vouch_rising.A [[0, 1, 1], [1, 1, 1, 0, 0, 1, 1]] G vouch_rising.code [1, 1, 0, 0] [X1] (vouch_rising.rq E K) (vouch_rising.f1 n1 last4 t7p t7n t7c t8 t9) H = vouch_rising.b1_t (fun n1 last4 t7p t7n t7c t8 t9 H => G [1, 1, 1, 0, 0, 1, 1] [(1, .int .i64 n1), (4, .int .i64 last4), (7, .slice t7p t7n t7c), (8, .int .i64 t8), (9, .int .i64 t9)] H) n1 last4 t7p t7n t7c t8 t9 X1 E H K := fun G => by kernel_rfl
  have k2 : vouch_rising.b1_t (fun n1 last4 t7p t7n t7c t8 t9 H => vouch_rising.j1 n1 last4 t7p t7n t7c t8 t9 X1 E H K) n1 last4 t7p t7n t7c t8 t9 X1 E H K = vouch_rising.b1_t (fun n1 last4 t7p t7n t7c t8 t9 H => (fun q F H => nodeM P0 T0 vouch_rising.A vouch_rising.code q.reverse [X1] (vouch_rising.rq E K) F H) [1, 1, 1, 0, 0, 1, 1] [(1, .int .i64 n1), (4, .int .i64 last4), (7, .slice t7p t7n t7c), (8, .int .i64 t8), (9, .int .i64 t9)] H) n1 last4 t7p t7n t7c t8 t9 X1 E H K := by kernel_rfl
  exact nodeR_imp vouch_rising.nok rfl ((k1 _).mpr (k2.mp h))
end Go.Mz
