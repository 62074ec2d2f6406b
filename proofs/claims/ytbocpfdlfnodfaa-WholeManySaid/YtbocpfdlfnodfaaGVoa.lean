/-
  The shallow texts of functions (Voa), each with a kernel-checked equation to the translated code. It proves nothing of the program by itself.
-/
import Derived.Test.YtbocpfdlfnodfaaTab
set_option linter.unusedVariables false
set_option maxRecDepth 100000
namespace Go.Mz
/-! ### compass/vouch.right (30) -/
noncomputable def vouch_right.A : An := { live := [(0, [0]), (1, [1]), (2, [2])], ord := [], stb := [], pre := [] }
noncomputable def vouch_right.code : Code := bodyOf Go.Proofs.Try.f30
theorem vouch_right.ok : okCode vouch_right.A 11 vouch_right.code = true := by kernel_rfl
def vouch_right.rq (E : Value → Hp → Prop) (K : Hp → Prop) : Ex → Fr → Hp → Prop := retQ T0 [] [] (fun r H => ldR (.tup []) r fun u => K  H) E
def vouch_right.run (g0_Nodes : Int) (g0_Edgesp : Option Addr) (g0_Edgesn : Nat) (g0_Edgesc : Nat) (E : Value → Hp → Prop) (H : Hp) (K : Hp → Prop) : Prop := nodeM P0 T0 vouch_right.A vouch_right.code [] [] (vouch_right.rq E K) (argF 0 [.agg ⟨[.int .i64 g0_Nodes, .slice g0_Edgesp g0_Edgesn g0_Edgesc]⟩]) H
theorem vouch_right.of {g0_Nodes : Int} {g0_Edgesp : Option Addr} {g0_Edgesn : Nat} {g0_Edgesc : Nat} {E : Value → Hp → Prop} {H : Hp} {K : Hp → Prop} (h : vouch_right.run g0_Nodes g0_Edgesp g0_Edgesn g0_Edgesc E H K) : vouch_right.call g0_Nodes g0_Edgesp g0_Edgesn g0_Edgesc E H K :=
  callW_of T0_ok P0_mixed (A := vouch_right.A) (fn := Go.Proofs.Try.f30) Go.Proofs.Try.func30 rfl vouch_right.ok rfl h
theorem vouch_right.nok : nodesOk vouch_right.code [] = true := by kernel_rfl
def vouch_right.run_t  (g0_Nodes : Int) (g0_Edgesp : Option Addr) (g0_Edgesn : Nat) (g0_Edgesc : Nat)  (E : Value → Hp → Prop) (H : Hp) (K : Hp → Prop) : Prop :=
  nw H ⟨[.int .i64 g0_Nodes, .slice g0_Edgesp g0_Edgesn g0_Edgesc], 24⟩ fun b_1 H_1 =>
  ldI .i64 (H_1.get b_1 0) fun x_1 =>
  ldS (H_1.get b_1 1) fun x_2p x_2n x_2c =>
  graph_Check.call x_1 x_2p x_2n x_2c E H_1 fun r_1_Code r_1_At H_2 =>
  nw H_2 ⟨[.int .i64 0, .int .i64 0], 65⟩ fun b_2 H_3 =>
  stC H_3 b_2 0 [.int .i64 r_1_Code, .int .i64 r_1_At] fun H_4 =>
  ldI .i64 (H_4.get b_2 0) fun x_3 =>
  ldI .i64 (H_4.get b_2 0) fun x_4 =>
  vouch_need.call (decide ((x_3 : Int) = 0)) x_4 E H_4 fun H_5 =>
  K H_5
theorem vouch_right.run_eq {g0_Nodes : Int} {g0_Edgesp : Option Addr} {g0_Edgesn : Nat} {g0_Edgesc : Nat} { E : Value → Hp → Prop} {H : Hp} {K : Hp → Prop} (h : vouch_right.run_t  g0_Nodes g0_Edgesp g0_Edgesn g0_Edgesc  E H K) : vouch_right.run g0_Nodes g0_Edgesp g0_Edgesn g0_Edgesc  E H K := by
  exact nodeR_imp2 (fun _ => vouch_right.run_t  g0_Nodes g0_Edgesp g0_Edgesn g0_Edgesc  E H K) vouch_right.nok rfl (fun G => by kernel_rfl) h
/-! ### compass/vouch.matched (32) -/
/-! ### compass/vouch.need (34) -/
noncomputable def vouch_need.A : An := { live := [(0, [0, 1]), (1, [1])], ord := [], stb := [], pre := [] }
noncomputable def vouch_need.code : Code := bodyOf Go.Proofs.Try.f34
theorem vouch_need.ok : okCode vouch_need.A 9 vouch_need.code = true := by kernel_rfl
def vouch_need.rq (E : Value → Hp → Prop) (K : Hp → Prop) : Ex → Fr → Hp → Prop := retQ T0 [] [] (fun r H => ldR (.tup []) r fun u => K  H) E
def vouch_need.run (ok0 : Bool) (co1 : Int) (E : Value → Hp → Prop) (H : Hp) (K : Hp → Prop) : Prop := nodeM P0 T0 vouch_need.A vouch_need.code [] [] (vouch_need.rq E K) (argF 0 [.bool ok0, .int .i64 co1]) H
theorem vouch_need.of {ok0 : Bool} {co1 : Int} {E : Value → Hp → Prop} {H : Hp} {K : Hp → Prop} (h : vouch_need.run ok0 co1 E H K) : vouch_need.call ok0 co1 E H K :=
  callW_of T0_ok P0_mixed (A := vouch_need.A) (fn := Go.Proofs.Try.f34) Go.Proofs.Try.func34 rfl vouch_need.ok rfl h
theorem vouch_need.nok : nodesOk vouch_need.code [] = true := by kernel_rfl
def vouch_need.run_t  (ok0 : Bool) (co1 : Int)  (E : Value → Hp → Prop) (H : Hp) (K : Hp → Prop) : Prop :=
  bcase ((!ok0)) (
  E (Value.iface 81 (.agg ⟨[.int .i64 co1]⟩)) H)
  (K H)
theorem vouch_need.run_eq {ok0 : Bool} {co1 : Int} { E : Value → Hp → Prop} {H : Hp} {K : Hp → Prop} (h : vouch_need.run_t  ok0 co1  E H K) : vouch_need.run ok0 co1  E H K := by
  exact nodeR_imp2 (fun _ => vouch_need.run_t  ok0 co1  E H K) vouch_need.nok rfl (fun G => by kernel_rfl) h
/-! ### compass/vouch.odd (35) -/
/-! ### compass/vouch.marked (36) -/
/-! ### compass/vouch.loop (51) -/
noncomputable def vouch_loop.A : An := { live := [(0, [0]), (1, [1])], ord := [], stb := [], pre := [] }
noncomputable def vouch_loop.code : Code := bodyOf Go.Proofs.Try.f51
theorem vouch_loop.ok : okCode vouch_loop.A 8 vouch_loop.code = true := by kernel_rfl
def vouch_loop.rq (E : Value → Hp → Prop) (K : Bool → Hp → Prop) : Ex → Fr → Hp → Prop := retQ T0 [.tmp 2] [4] (fun r H => ldR (.one false [.bool]) r fun u => K (asB u) H) E
def vouch_loop.run (e0_From : Int) (e0_To : Int) (e0_Cap : Int) (e0_Cost : Int) (E : Value → Hp → Prop) (H : Hp) (K : Bool → Hp → Prop) : Prop := nodeM P0 T0 vouch_loop.A vouch_loop.code [] [] (vouch_loop.rq E K) (argF 0 [.agg ⟨[.int .i64 e0_From, .int .i64 e0_To, .int .i64 e0_Cap, .int .i64 e0_Cost]⟩]) H
theorem vouch_loop.of {e0_From : Int} {e0_To : Int} {e0_Cap : Int} {e0_Cost : Int} {E : Value → Hp → Prop} {H : Hp} {K : Bool → Hp → Prop} (h : vouch_loop.run e0_From e0_To e0_Cap e0_Cost E H K) : vouch_loop.call e0_From e0_To e0_Cap e0_Cost E H K :=
  callW_of T0_ok P0_mixed (A := vouch_loop.A) (fn := Go.Proofs.Try.f51) Go.Proofs.Try.func51 rfl vouch_loop.ok rfl h
theorem vouch_loop.nok : nodesOk vouch_loop.code [] = true := by kernel_rfl
def vouch_loop.run_t  (e0_From : Int) (e0_To : Int) (e0_Cap : Int) (e0_Cost : Int)  (E : Value → Hp → Prop) (H : Hp) (K : Bool → Hp → Prop) : Prop :=
  nw H ⟨[.int .i64 e0_From, .int .i64 e0_To, .int .i64 e0_Cap, .int .i64 e0_Cost], 44⟩ fun b_1 H_1 =>
  ldI .i64 (H_1.get b_1 0) fun x_1 =>
  ldI .i64 (H_1.get b_1 1) fun x_2 =>
  K (decide ((x_1 : Int) = x_2)) H_1
theorem vouch_loop.run_eq {e0_From : Int} {e0_To : Int} {e0_Cap : Int} {e0_Cost : Int} { E : Value → Hp → Prop} {H : Hp} {K : Bool → Hp → Prop} (h : vouch_loop.run_t  e0_From e0_To e0_Cap e0_Cost  E H K) : vouch_loop.run e0_From e0_To e0_Cap e0_Cost  E H K := by
  exact nodeR_imp2 (fun _ => vouch_loop.run_t  e0_From e0_To e0_Cap e0_Cost  E H K) vouch_loop.nok rfl (fun G => by kernel_rfl) h
/-! ### compass/vouch.rising (52) -/
end Go.Mz
