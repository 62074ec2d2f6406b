/-
  The table of the types of this seat's translation, checked against it; the contracts' shapes of its functions. It proves nothing of the program by itself.
-/
import Derived.Test.YteobpjjocfbdgaaMzQ
import Derived.Test.YteobpjjocfbdgaaProg
set_option linter.unusedVariables false
namespace Go.Mz
noncomputable abbrev P0 : Program := Go.Proofs.Try.prog
noncomputable def T0ty : List TI := [
  ⟨3, [.i .i64], 8, .int .i64, false⟩,
  ⟨4, [.bool], 1, .bool, false⟩,
  ⟨22, [.sl], 24, .sl 32, false⟩,
  ⟨24, [.ptr], 8, .ptr, false⟩,
  ⟨25, [.i .i64], 8, .int .i64, false⟩,
  ⟨28, [.sl], 24, .sl 3, false⟩,
  ⟨30, [.sl], 24, .sl 28, false⟩,
  ⟨32, [.i .i64, .i .i64, .i .i64], 24, .st [(0, 3), (1, 3), (2, 3)], false⟩,
  ⟨43, [.sl], 24, .sl 67, false⟩,
  ⟨45, [.i .i64, .sl], 32, .st [(0, 3), (1, 43)], false⟩,
  ⟨51, [.sl], 24, .sl 56, false⟩,
  ⟨53, [.sl, .sl, .sl, .sl], 96, .st [(0, 28), (1, 28), (2, 28), (3, 51)], false⟩,
  ⟨56, [.i .i64, .i .i64, .i .i64], 24, .st [(0, 3), (1, 3), (2, 3)], false⟩,
  ⟨67, [.i .i64, .i .i64], 16, .st [(0, 3), (1, 3)], false⟩]
noncomputable def T0 : Tab := { tys := T0ty, tups := [(26, [24, 25]), (33, [4, 25]), (39, [28, 25]), (46, [45, 4]), (49, [3, 25]), (57, [45, 4, 3]), (59, [3, 3]), (61, [45, 3]), (63, [28, 3])], fns := 42, bad := [0, 1, 25, 26, 27, 28, 29, 30, 31, 32, 33, 34, 35, 36, 37, 38, 39, 40, 41], eqs := [], meths := [] }
theorem T0_tys : allT P0 T0ty = true := by kernel_rfl
theorem T0_eqs : allN (eqOk P0) T0.eqs = true := by kernel_rfl
theorem T0_fns : fnsOk P0 T0 = true := by kernel_rfl
theorem P0_mixed : P0.follows .mixedOrders = true := by kernel_rfl
theorem T0_ok : TabOk P0 T0 := tabOk_of T0_tys T0_eqs T0_fns rfl
def compasslaw06_UnionBack.call (pairs0p : Option Addr) (pairs0n : Nat) (pairs0c : Nat) (back1 : Int) (E : Value → Hp → Prop) (H : Hp) (K : Bool → Hp → Prop) : Prop := callW P0 3 [.slice pairs0p pairs0n pairs0c, .int .i64 back1] (fun r H => ldR (.one false [.bool]) r fun u => K (asB u) H) E H
def compasslaw06_UnionTurns.call (pairs0p : Option Addr) (pairs0n : Nat) (pairs0c : Nat) (E : Value → Hp → Prop) (H : Hp) (K : Bool → Hp → Prop) : Prop := callW P0 4 [.slice pairs0p pairs0n pairs0c] (fun r H => ldR (.one false [.bool]) r fun u => K (asB u) H) E H
def compasslaw06_UnionPlays.call (n0 : Int) (script1p : Option Addr) (script1n : Nat) (script1c : Nat) (E : Value → Hp → Prop) (H : Hp) (K : Bool → Hp → Prop) : Prop := callW P0 5 [.int .i64 n0, .slice script1p script1n script1c] (fun r H => ldR (.one false [.bool]) r fun u => K (asB u) H) E H
def compasslaw06_awake.call  (E : Value → Hp → Prop) (H : Hp) (K : Bool → Hp → Prop) : Prop := callW P0 6 [] (fun r H => ldR (.one false [.bool]) r fun u => K (asB u) H) E H
def unions_New.call (n0 : Int) (E : Value → Hp → Prop) (H : Hp) (K : (Option Addr) → Int → Hp → Prop) : Prop := callW P0 7 [.int .i64 n0] (fun r H => ldR (.tup [(false, [.ptr]), (false, [.i .i64])]) r fun u => K (asP (tupV u 0)) (asI (tupV u 1)) H) E H
def compasslaw06_names.call (s0 : Option Addr) (n1 : Int) (E : Value → Hp → Prop) (H : Hp) (K : (Option Addr) → Nat → Nat → Hp → Prop) : Prop := callW P0 8 [.pointer s0, .int .i64 n1] (fun r H => ldR (.one false [.sl]) r fun u => K (asS1 u) (asS2 u) (asS3 u) H) E H
def unions_Sets_Join.call (s0 : Option Addr) (u1 : Int) (v2 : Int) (E : Value → Hp → Prop) (H : Hp) (K : Bool → Int → Hp → Prop) : Prop := callW P0 9 [.pointer s0, .int .i64 u1, .int .i64 v2] (fun r H => ldR (.tup [(false, [.bool]), (false, [.i .i64])]) r fun u => K (asB (tupV u 0)) (asI (tupV u 1)) H) E H
def compasslaw06_ints.call (a0p : Option Addr) (a0n : Nat) (a0c : Nat) (b1p : Option Addr) (b1n : Nat) (b1c : Nat) (E : Value → Hp → Prop) (H : Hp) (K : Bool → Hp → Prop) : Prop := callW P0 10 [.slice a0p a0n a0c, .slice b1p b1n b1c] (fun r H => ldR (.one false [.bool]) r fun u => K (asB u) H) E H
def unions_Sets_Joins.call (s0 : Option Addr) (E : Value → Hp → Prop) (H : Hp) (K : Int → Hp → Prop) : Prop := callW P0 11 [.pointer s0] (fun r H => ldR (.one false [.i .i64]) r fun u => K (asI u) H) E H
def unions_Sets_Count.call (s0 : Option Addr) (E : Value → Hp → Prop) (H : Hp) (K : Int → Hp → Prop) : Prop := callW P0 12 [.pointer s0] (fun r H => ldR (.one false [.i .i64]) r fun u => K (asI u) H) E H
def unions_Sets_Undo.call (s0 : Option Addr) (E : Value → Hp → Prop) (H : Hp) (K : Int → Hp → Prop) : Prop := callW P0 13 [.pointer s0] (fun r H => ldR (.one false [.i .i64]) r fun u => K (asI u) H) E H
def unions_Sets_Members.call (s0 : Option Addr) (v1 : Int) (E : Value → Hp → Prop) (H : Hp) (K : (Option Addr) → Nat → Nat → Int → Hp → Prop) : Prop := callW P0 14 [.pointer s0, .int .i64 v1] (fun r H => ldR (.tup [(false, [.sl]), (false, [.i .i64])]) r fun u => K (asS1 (tupV u 0)) (asS2 (tupV u 0)) (asS3 (tupV u 0)) (asI (tupV u 1)) H) E H
def compassref06_Wrong.call (n0 : Int) (E : Value → Hp → Prop) (H : Hp) (K : Int → Hp → Prop) : Prop := callW P0 15 [.int .i64 n0] (fun r H => ldR (.one false [.i .i64]) r fun u => K (asI u) H) E H
def compasslaw06_step.call (s0 : Option Addr) (w1_N : Int) (w1_Joinsp : Option Addr) (w1_Joinsn : Nat) (w1_Joinsc : Nat) (o2_Kind : Int) (o2_U : Int) (o2_V : Int) (E : Value → Hp → Prop) (H : Hp) (K : Int → (Option Addr) → Nat → Nat → Bool → Hp → Prop) : Prop := callW P0 16 [.pointer s0, .agg ⟨[.int .i64 w1_N, .slice w1_Joinsp w1_Joinsn w1_Joinsc]⟩, .agg ⟨[.int .i64 o2_Kind, .int .i64 o2_U, .int .i64 o2_V]⟩] (fun r H => ldR (.tup [(true, [.i .i64, .sl]), (false, [.bool])]) r fun u => K (asI (cellV (tupV u 0) 0)) (asS1 (cellV (tupV u 0) 1)) (asS2 (cellV (tupV u 0) 1)) (asS3 (cellV (tupV u 0) 1)) (asB (tupV u 1)) H) E H
def unions_Sets_Find.call (s0 : Option Addr) (v1 : Int) (E : Value → Hp → Prop) (H : Hp) (K : Int → Int → Hp → Prop) : Prop := callW P0 17 [.pointer s0, .int .i64 v1] (fun r H => ldR (.tup [(false, [.i .i64]), (false, [.i .i64])]) r fun u => K (asI (tupV u 0)) (asI (tupV u 1)) H) E H
def unions_Sets_node.call (s0 : Option Addr) (v1 : Int) (E : Value → Hp → Prop) (H : Hp) (K : Bool → Hp → Prop) : Prop := callW P0 18 [.pointer s0, .int .i64 v1] (fun r H => ldR (.one false [.bool]) r fun u => K (asB u) H) E H
def unions_Sets_root.call (s0 : Option Addr) (v1 : Int) (E : Value → Hp → Prop) (H : Hp) (K : Int → Hp → Prop) : Prop := callW P0 19 [.pointer s0, .int .i64 v1] (fun r H => ldR (.one false [.i .i64]) r fun u => K (asI u) H) E H
def compassref06_Join.call (s0_N : Int) (s0_Joinsp : Option Addr) (s0_Joinsn : Nat) (s0_Joinsc : Nat) (u1 : Int) (v2 : Int) (E : Value → Hp → Prop) (H : Hp) (K : Int → (Option Addr) → Nat → Nat → Bool → Int → Hp → Prop) : Prop := callW P0 20 [.agg ⟨[.int .i64 s0_N, .slice s0_Joinsp s0_Joinsn s0_Joinsc]⟩, .int .i64 u1, .int .i64 v2] (fun r H => ldR (.tup [(true, [.i .i64, .sl]), (false, [.bool]), (false, [.i .i64])]) r fun u => K (asI (cellV (tupV u 0) 0)) (asS1 (cellV (tupV u 0) 1)) (asS2 (cellV (tupV u 0) 1)) (asS3 (cellV (tupV u 0) 1)) (asB (tupV u 1)) (asI (tupV u 2)) H) E H
def compassref06_Find.call (s0_N : Int) (s0_Joinsp : Option Addr) (s0_Joinsn : Nat) (s0_Joinsc : Nat) (v1 : Int) (E : Value → Hp → Prop) (H : Hp) (K : Int → Int → Hp → Prop) : Prop := callW P0 21 [.agg ⟨[.int .i64 s0_N, .slice s0_Joinsp s0_Joinsn s0_Joinsc]⟩, .int .i64 v1] (fun r H => ldR (.tup [(false, [.i .i64]), (false, [.i .i64])]) r fun u => K (asI (tupV u 0)) (asI (tupV u 1)) H) E H
def compassref06_Undo.call (s0_N : Int) (s0_Joinsp : Option Addr) (s0_Joinsn : Nat) (s0_Joinsc : Nat) (E : Value → Hp → Prop) (H : Hp) (K : Int → (Option Addr) → Nat → Nat → Int → Hp → Prop) : Prop := callW P0 22 [.agg ⟨[.int .i64 s0_N, .slice s0_Joinsp s0_Joinsn s0_Joinsc]⟩] (fun r H => ldR (.tup [(true, [.i .i64, .sl]), (false, [.i .i64])]) r fun u => K (asI (cellV (tupV u 0) 0)) (asS1 (cellV (tupV u 0) 1)) (asS2 (cellV (tupV u 0) 1)) (asS3 (cellV (tupV u 0) 1)) (asI (tupV u 1)) H) E H
def compassref06_Members.call (s0_N : Int) (s0_Joinsp : Option Addr) (s0_Joinsn : Nat) (s0_Joinsc : Nat) (v1 : Int) (E : Value → Hp → Prop) (H : Hp) (K : (Option Addr) → Nat → Nat → Int → Hp → Prop) : Prop := callW P0 23 [.agg ⟨[.int .i64 s0_N, .slice s0_Joinsp s0_Joinsn s0_Joinsc]⟩, .int .i64 v1] (fun r H => ldR (.tup [(false, [.sl]), (false, [.i .i64])]) r fun u => K (asS1 (tupV u 0)) (asS2 (tupV u 0)) (asS3 (tupV u 0)) (asI (tupV u 1)) H) E H
def compassref06_Names.call (s0_N : Int) (s0_Joinsp : Option Addr) (s0_Joinsn : Nat) (s0_Joinsc : Nat) (E : Value → Hp → Prop) (H : Hp) (K : (Option Addr) → Nat → Nat → Hp → Prop) : Prop := callW P0 24 [.agg ⟨[.int .i64 s0_N, .slice s0_Joinsp s0_Joinsn s0_Joinsc]⟩] (fun r H => ldR (.one false [.sl]) r fun u => K (asS1 u) (asS2 u) (asS3 u) H) E H
end Go.Mz
