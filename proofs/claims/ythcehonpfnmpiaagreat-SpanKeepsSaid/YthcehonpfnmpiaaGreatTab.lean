/-
  The table of the types of this seat's translation, checked against it; the contracts' shapes of its functions. It proves nothing of the program by itself.
-/
import Derived.Test.YthcehonpfnmpiaaGreatMzR
import Derived.Test.YthcehonpfnmpiaaGreatProg
set_option linter.unusedVariables false
namespace Go.Mz
noncomputable abbrev P0 : Program := Go.Proofs.Tryz.prog
noncomputable def T0ty : List TI := [
  ⟨2, [.i .i64], 8, .int .i64, false⟩,
  ⟨3, [.i .i64], 8, .int .i64, false⟩,
  ⟨4, [.bool], 1, .bool, false⟩,
  ⟨22, [.sl], 24, .sl 44, false⟩,
  ⟨24, [.i .i64, .sl], 32, .st [(0, 3), (1, 22)], false⟩,
  ⟨26, [.sl], 24, .sl 3, false⟩,
  ⟨27, [.i .i64], 8, .int .i64, false⟩,
  ⟨44, [.i .i64, .i .i64, .i .i64, .i .i64], 32, .st [(0, 3), (1, 3), (2, 2), (3, 2)], false⟩,
  ⟨47, [.i .i64, .i .i64], 16, .st [(0, 27), (1, 3)], false⟩,
  ⟨54, [.fn], 8, .other, false⟩,
  ⟨55, [.ptr], 8, .ptr, false⟩,
  ⟨59, [.ptr], 8, .ptr, false⟩,
  ⟨61, [.ptr, .i .i64, .sl, .sl], 64, .st [(0, 59), (1, 24), (3, 26)], false⟩,
  ⟨65, [.sl], 24, .sl 26, false⟩,
  ⟨66, [.sl], 24, .sl 4, false⟩,
  ⟨67, [.ptr], 8, .ptr, false⟩,
  ⟨76, [.i .i64, .i .i64], 16, .arr 2 3, false⟩,
  ⟨88, [.sl], 24, .sl 136, false⟩,
  ⟨90, [.sl, .sl, .sl, .sl], 96, .st [(0, 26), (1, 26), (2, 26), (3, 88)], false⟩,
  ⟨92, [.sl], 24, .sl 2, false⟩,
  ⟨94, [.sl, .sl], 48, .st [(0, 92), (1, 66)], false⟩,
  ⟨96, [.ifc], 16, .other, true⟩,
  ⟨98, [.sl, .sl, .ifc, .i .i64, .i .i64, .i .i64], 88, .st [(0, 94), (2, 96), (3, 3), (4, 3), (5, 2)], false⟩,
  ⟨99, [.ptr], 8, .ptr, false⟩,
  ⟨100, [.ptr], 8, .ptr, false⟩,
  ⟨102, [.ptr, .sl, .sl], 56, .st [(0, 100), (1, 26), (2, 26)], false⟩,
  ⟨103, [.ptr], 8, .ptr, false⟩,
  ⟨104, [.sl], 24, .sl 165, false⟩,
  ⟨106, [.ptr, .i .i64, .sl], 40, .st [(0, 100), (1, 3), (2, 104)], false⟩,
  ⟨107, [.ptr], 8, .ptr, false⟩,
  ⟨108, [.sl], 24, .sl 167, false⟩,
  ⟨110, [.ptr, .i .i64, .sl], 40, .st [(0, 100), (1, 3), (2, 108)], false⟩,
  ⟨111, [.ptr], 8, .ptr, false⟩,
  ⟨112, (List.replicate 65 (.sl)), 1560, .arr 65 26, false⟩,
  ⟨114, [.ptr, .i .i64, .sl, .sl, .sl, .sl, .sl, .sl, .sl, .sl, .sl, .sl, .sl, .sl, .sl, .sl, .sl, .sl, .sl, .sl, .sl, .sl, .sl, .sl, .sl, .sl, .sl, .sl, .sl, .sl, .sl, .sl, .sl, .sl, .sl, .sl, .sl, .sl, .sl, .sl, .sl, .sl, .sl, .sl, .sl, .sl, .sl, .sl, .sl, .sl, .sl, .sl, .sl, .sl, .sl, .sl, .sl, .sl, .sl, .sl, .sl, .sl, .sl, .sl, .sl, .sl, .sl], 1576, .st [(0, 67), (1, 2), (2, 112)], false⟩,
  ⟨136, [.i .i64, .i .i64, .i .i64], 24, .st [(0, 3), (1, 3), (2, 3)], false⟩,
  ⟨165, [.i .i64, .i .i64, .i .i64], 24, .st [(0, 3), (1, 3), (2, 3)], false⟩,
  ⟨167, [.i .i64, .i .i64, .i .i64, .i .i64, .i .i64, .bool], 48, .st [(0, 3), (1, 3), (2, 3), (3, 3), (4, 3), (5, 4)], false⟩]
noncomputable def T0 : Tab := { tys := T0ty, tups := [(0, []), (28, [26, 2, 27]), (30, [26, 2, 3]), (34, [3, 27]), (36, [3, 3]), (39, [26, 3]), (68, [67, 27]), (72, [3, 2, 27]), (74, [2, 27]), (84, [59, 27]), (86, [4, 27])], fns := 129, bad := [0, 1, 84, 85, 86, 87, 88, 89, 90, 91, 92, 93, 94, 95, 96, 97, 98, 99, 100, 128], eqs := [44], meths := [(99, "compass/heaps.lower", 101), (99, "compass/heaps.pop", 102), (99, "compass/heaps.push", 103), (99, "compass/heaps.top", 104), (103, "compass/heaps.lower", 107), (103, "compass/heaps.pop", 108), (103, "compass/heaps.push", 109), (103, "compass/heaps.top", 110), (107, "compass/heaps.lower", 112), (107, "compass/heaps.pop", 113), (107, "compass/heaps.push", 114), (107, "compass/heaps.top", 115), (111, "compass/heaps.lower", 122), (111, "compass/heaps.pop", 123), (111, "compass/heaps.push", 124), (111, "compass/heaps.top", 125)] }
theorem T0_tys : allT P0 T0ty = true := by kernel_rfl
theorem T0_eqs : allN (eqOk P0) T0.eqs = true := by kernel_rfl
theorem T0_fns : fnsOk P0 T0 = true := by kernel_rfl
theorem P0_mixed : P0.follows .mixedOrders = true := by kernel_rfl
theorem T0_meths : allM (methOk P0) T0.meths = true := by kernel_rfl
theorem T0_mfns : allM (fun x => T0.fok x.2.2) T0.meths = true := by kernel_rfl
theorem T0_ok : TabOk P0 T0 := tabOk_ofM T0_tys T0_eqs T0_fns T0_meths T0_mfns
def compasslaw10_SpanForests.call (g0_Nodes : Int) (g0_Edgesp : Option Addr) (g0_Edgesn : Nat) (g0_Edgesc : Nat) (ki1 : Int) (E : Value → Hp → Prop) (H : Hp) (K : Bool → Hp → Prop) : Prop := callW P0 3 [.agg ⟨[.int .i64 g0_Nodes, .slice g0_Edgesp g0_Edgesn g0_Edgesc]⟩, .int .i64 ki1] (fun r H => ldR (.one false [.bool]) r fun u => K (asB u) H) E H
def compasslaw10_SpanNecks.call (g0_Nodes : Int) (g0_Edgesp : Option Addr) (g0_Edgesn : Nat) (g0_Edgesc : Nat) (u1 : Int) (v2 : Int) (E : Value → Hp → Prop) (H : Hp) (K : Bool → Hp → Prop) : Prop := callW P0 4 [.agg ⟨[.int .i64 g0_Nodes, .slice g0_Edgesp g0_Edgesn g0_Edgesc]⟩, .int .i64 u1, .int .i64 v2] (fun r H => ldR (.one false [.bool]) r fun u => K (asB u) H) E H
def compasslaw10_SpanNeckCuts.call (g0_Nodes : Int) (g0_Edgesp : Option Addr) (g0_Edgesn : Nat) (g0_Edgesc : Nat) (u1 : Int) (v2 : Int) (E : Value → Hp → Prop) (H : Hp) (K : Bool → Hp → Prop) : Prop := callW P0 5 [.agg ⟨[.int .i64 g0_Nodes, .slice g0_Edgesp g0_Edgesn g0_Edgesc]⟩, .int .i64 u1, .int .i64 v2] (fun r H => ldR (.one false [.bool]) r fun u => K (asB u) H) E H
def compasslaw10_SpanKeeps.call (g0_Nodes : Int) (g0_Edgesp : Option Addr) (g0_Edgesn : Nat) (g0_Edgesc : Nat) (ki1 : Int) (E : Value → Hp → Prop) (H : Hp) (K : Bool → Hp → Prop) : Prop := callW P0 6 [.agg ⟨[.int .i64 g0_Nodes, .slice g0_Edgesp g0_Edgesn g0_Edgesc]⟩, .int .i64 ki1] (fun r H => ldR (.one false [.bool]) r fun u => K (asB u) H) E H
def compasslaw10_awake.call  (E : Value → Hp → Prop) (H : Hp) (K : Bool → Hp → Prop) : Prop := callW P0 7 [] (fun r H => ldR (.one false [.bool]) r fun u => K (asB u) H) E H
def span_Forest.call (g0_Nodes : Int) (g0_Edgesp : Option Addr) (g0_Edgesn : Nat) (g0_Edgesc : Nat) (ki1 : Int) (E : Value → Hp → Prop) (H : Hp) (K : (Option Addr) → Nat → Nat → Int → Int → Hp → Prop) : Prop := callW P0 8 [.agg ⟨[.int .i64 g0_Nodes, .slice g0_Edgesp g0_Edgesn g0_Edgesc]⟩, .int .i64 ki1] (fun r H => ldR (.tup [(false, [.sl]), (false, [.i .i64]), (false, [.i .i64])]) r fun u => K (asS1 (tupV u 0)) (asS2 (tupV u 0)) (asS3 (tupV u 0)) (asI (tupV u 1)) (asI (tupV u 2)) H) E H
def compassref10_Forest.call (g0_Nodes : Int) (g0_Edgesp : Option Addr) (g0_Edgesn : Nat) (g0_Edgesc : Nat) (ki1 : Int) (E : Value → Hp → Prop) (H : Hp) (K : (Option Addr) → Nat → Nat → Int → Int → Hp → Prop) : Prop := callW P0 9 [.agg ⟨[.int .i64 g0_Nodes, .slice g0_Edgesp g0_Edgesn g0_Edgesc]⟩, .int .i64 ki1] (fun r H => ldR (.tup [(false, [.sl]), (false, [.i .i64]), (false, [.i .i64])]) r fun u => K (asS1 (tupV u 0)) (asS2 (tupV u 0)) (asS3 (tupV u 0)) (asI (tupV u 1)) (asI (tupV u 2)) H) E H
def compasslaw10_ints.call (a0p : Option Addr) (a0n : Nat) (a0c : Nat) (bb1p : Option Addr) (bb1n : Nat) (bb1c : Nat) (E : Value → Hp → Prop) (H : Hp) (K : Bool → Hp → Prop) : Prop := callW P0 10 [.slice a0p a0n a0c, .slice bb1p bb1n bb1c] (fun r H => ldR (.one false [.bool]) r fun u => K (asB u) H) E H
def span_Neck.call (g0_Nodes : Int) (g0_Edgesp : Option Addr) (g0_Edgesn : Nat) (g0_Edgesc : Nat) (u1 : Int) (v2 : Int) (E : Value → Hp → Prop) (H : Hp) (K : Int → Int → Hp → Prop) : Prop := callW P0 11 [.agg ⟨[.int .i64 g0_Nodes, .slice g0_Edgesp g0_Edgesn g0_Edgesc]⟩, .int .i64 u1, .int .i64 v2] (fun r H => ldR (.tup [(false, [.i .i64]), (false, [.i .i64])]) r fun u => K (asI (tupV u 0)) (asI (tupV u 1)) H) E H
def compassref10_Neck.call (g0_Nodes : Int) (g0_Edgesp : Option Addr) (g0_Edgesn : Nat) (g0_Edgesc : Nat) (u1 : Int) (v2 : Int) (E : Value → Hp → Prop) (H : Hp) (K : Int → Int → Hp → Prop) : Prop := callW P0 12 [.agg ⟨[.int .i64 g0_Nodes, .slice g0_Edgesp g0_Edgesn g0_Edgesc]⟩, .int .i64 u1, .int .i64 v2] (fun r H => ldR (.tup [(false, [.i .i64]), (false, [.i .i64])]) r fun u => K (asI (tupV u 0)) (asI (tupV u 1)) H) E H
def compassref04_Parts.call (g0_Nodes : Int) (g0_Edgesp : Option Addr) (g0_Edgesn : Nat) (g0_Edgesc : Nat) (E : Value → Hp → Prop) (H : Hp) (K : (Option Addr) → Nat → Nat → Int → Hp → Prop) : Prop := callW P0 13 [.agg ⟨[.int .i64 g0_Nodes, .slice g0_Edgesp g0_Edgesn g0_Edgesc]⟩] (fun r H => ldR (.tup [(false, [.sl]), (false, [.i .i64])]) r fun u => K (asS1 (tupV u 0)) (asS2 (tupV u 0)) (asS3 (tupV u 0)) (asI (tupV u 1)) H) E H
def compassref10_Upto.call (g0_Nodes : Int) (g0_Edgesp : Option Addr) (g0_Edgesn : Nat) (g0_Edgesc : Nat) (k1 : Int) (wi2 : Bool) (E : Value → Hp → Prop) (H : Hp) (K : Int → (Option Addr) → Nat → Nat → Hp → Prop) : Prop := callW P0 14 [.agg ⟨[.int .i64 g0_Nodes, .slice g0_Edgesp g0_Edgesn g0_Edgesc]⟩, .int .i64 k1, .bool wi2] (fun r H => ldR (.one true [.i .i64, .sl]) r fun u => K (asI (cellV u 0)) (asS1 (cellV u 1)) (asS2 (cellV u 1)) (asS3 (cellV u 1)) H) E H
def compassref03_Copy.call (g0_Nodes : Int) (g0_Edgesp : Option Addr) (g0_Edgesn : Nat) (g0_Edgesc : Nat) (E : Value → Hp → Prop) (H : Hp) (K : Int → (Option Addr) → Nat → Nat → Hp → Prop) : Prop := callW P0 15 [.agg ⟨[.int .i64 g0_Nodes, .slice g0_Edgesp g0_Edgesn g0_Edgesc]⟩] (fun r H => ldR (.one true [.i .i64, .sl]) r fun u => K (asI (cellV u 0)) (asS1 (cellV u 1)) (asS2 (cellV u 1)) (asS3 (cellV u 1)) H) E H
def compassref03_Same.call (a0_Nodes : Int) (a0_Edgesp : Option Addr) (a0_Edgesn : Nat) (a0_Edgesc : Nat) (bb1_Nodes : Int) (bb1_Edgesp : Option Addr) (bb1_Edgesn : Nat) (bb1_Edgesc : Nat) (E : Value → Hp → Prop) (H : Hp) (K : Bool → Hp → Prop) : Prop := callW P0 16 [.agg ⟨[.int .i64 a0_Nodes, .slice a0_Edgesp a0_Edgesn a0_Edgesc]⟩, .agg ⟨[.int .i64 bb1_Nodes, .slice bb1_Edgesp bb1_Edgesn bb1_Edgesc]⟩] (fun r H => ldR (.one false [.bool]) r fun u => K (asB u) H) E H
def graph_Check.call (g0_Nodes : Int) (g0_Edgesp : Option Addr) (g0_Edgesn : Nat) (g0_Edgesc : Nat) (E : Value → Hp → Prop) (H : Hp) (K : Int → Int → Hp → Prop) : Prop := callW P0 17 [.agg ⟨[.int .i64 g0_Nodes, .slice g0_Edgesp g0_Edgesn g0_Edgesc]⟩] (fun r H => ldR (.one true [.i .i64, .i .i64]) r fun u => K (asI (cellV u 0)) (asI (cellV u 1)) H) E H
def span_kruskal.call (g0_Nodes : Int) (g0_Edgesp : Option Addr) (g0_Edgesn : Nat) (g0_Edgesc : Nat) (E : Value → Hp → Prop) (H : Hp) (K : (Option Addr) → Nat → Nat → Hp → Prop) : Prop := callW P0 18 [.agg ⟨[.int .i64 g0_Nodes, .slice g0_Edgesp g0_Edgesn g0_Edgesc]⟩] (fun r H => ldR (.one false [.sl]) r fun u => K (asS1 u) (asS2 u) (asS3 u) H) E H
def span_prim.call (g0_Nodes : Int) (g0_Edgesp : Option Addr) (g0_Edgesn : Nat) (g0_Edgesc : Nat) (E : Value → Hp → Prop) (H : Hp) (K : (Option Addr) → Nat → Nat → Hp → Prop) : Prop := callW P0 19 [.agg ⟨[.int .i64 g0_Nodes, .slice g0_Edgesp g0_Edgesn g0_Edgesc]⟩] (fun r H => ldR (.one false [.sl]) r fun u => K (asS1 u) (asS2 u) (asS3 u) H) E H
def span_boruvka.call (g0_Nodes : Int) (g0_Edgesp : Option Addr) (g0_Edgesn : Nat) (g0_Edgesc : Nat) (E : Value → Hp → Prop) (H : Hp) (K : (Option Addr) → Nat → Nat → Hp → Prop) : Prop := callW P0 20 [.agg ⟨[.int .i64 g0_Nodes, .slice g0_Edgesp g0_Edgesn g0_Edgesc]⟩] (fun r H => ldR (.one false [.sl]) r fun u => K (asS1 u) (asS2 u) (asS3 u) H) E H
def slices_Sort.call (x0p : Option Addr) (x0n : Nat) (x0c : Nat) (E : Value → Hp → Prop) (H : Hp) (K : Hp → Prop) : Prop := callW P0 21 [.slice x0p x0n x0c] (fun r H => ldR (.tup []) r fun u => K  H) E H
def compassref03_Check.call (g0_Nodes : Int) (g0_Edgesp : Option Addr) (g0_Edgesn : Nat) (g0_Edgesc : Nat) (E : Value → Hp → Prop) (H : Hp) (K : Int → Int → Hp → Prop) : Prop := callW P0 22 [.agg ⟨[.int .i64 g0_Nodes, .slice g0_Edgesp g0_Edgesn g0_Edgesc]⟩] (fun r H => ldR (.tup [(false, [.i .i64]), (false, [.i .i64])]) r fun u => K (asI (tupV u 0)) (asI (tupV u 1)) H) E H
def slices_SortFunc.call (x0p : Option Addr) (x0n : Nat) (x0c : Nat) (cm1g : Nat) (cm1k : List Value) (E : Value → Hp → Prop) (H : Hp) (K : Hp → Prop) : Prop := callW P0 23 [.slice x0p x0n x0c, .func (.func cm1g) ⟨[]⟩ ⟨cm1k⟩] (fun r H => ldR (.tup []) r fun u => K  H) E H
def span_Neck_1.call (a0 : Int) (bb1 : Int) (c2b : Nat) (c2o : Nat) (E : Value → Hp → Prop) (H : Hp) (K : Int → Hp → Prop) : Prop := callW P0 24 [.int .i64 a0, .int .i64 bb1, .pointer (some ⟨c2b, c2o, none⟩)] (fun r H => ldR (.one false [.i .i64]) r fun u => K (asI u) H) E H
def span_ahead.call (g0_Nodes : Int) (g0_Edgesp : Option Addr) (g0_Edgesn : Nat) (g0_Edgesc : Nat) (a1 : Int) (bb2 : Int) (E : Value → Hp → Prop) (H : Hp) (K : Int → Hp → Prop) : Prop := callW P0 25 [.agg ⟨[.int .i64 g0_Nodes, .slice g0_Edgesp g0_Edgesn g0_Edgesc]⟩, .int .i64 a1, .int .i64 bb2] (fun r H => ldR (.one false [.i .i64]) r fun u => K (asI u) H) E H
def span_newJoiner.call (g0_Nodes : Int) (g0_Edgesp : Option Addr) (g0_Edgesn : Nat) (g0_Edgesc : Nat) (E : Value → Hp → Prop) (H : Hp) (K : (Option Addr) → Hp → Prop) : Prop := callW P0 26 [.agg ⟨[.int .i64 g0_Nodes, .slice g0_Edgesp g0_Edgesn g0_Edgesc]⟩] (fun r H => ldR (.one false [.ptr]) r fun u => K (asP u) H) E H
def span_joiner_take.call (jj0 : Option Addr) (i1 : Int) (E : Value → Hp → Prop) (H : Hp) (K : Bool → Hp → Prop) : Prop := callW P0 27 [.pointer jj0, .int .i64 i1] (fun r H => ldR (.one false [.bool]) r fun u => K (asB u) H) E H
def unions_Sets_Find.call (s0 : Option Addr) (v1 : Int) (E : Value → Hp → Prop) (H : Hp) (K : Int → Int → Hp → Prop) : Prop := callW P0 28 [.pointer s0, .int .i64 v1] (fun r H => ldR (.tup [(false, [.i .i64]), (false, [.i .i64])]) r fun u => K (asI (tupV u 0)) (asI (tupV u 1)) H) E H
def compassref04_Wrong.call (g0_Nodes : Int) (g0_Edgesp : Option Addr) (g0_Edgesn : Nat) (g0_Edgesc : Nat) (s1 : Int) (E : Value → Hp → Prop) (H : Hp) (K : Int → Hp → Prop) : Prop := callW P0 29 [.agg ⟨[.int .i64 g0_Nodes, .slice g0_Edgesp g0_Edgesn g0_Edgesc]⟩, .int .i64 s1] (fun r H => ldR (.one false [.i .i64]) r fun u => K (asI u) H) E H
def compassref04_Numbered.call (le0p : Option Addr) (le0n : Nat) (le0c : Nat) (E : Value → Hp → Prop) (H : Hp) (K : (Option Addr) → Nat → Nat → Hp → Prop) : Prop := callW P0 30 [.slice le0p le0n le0c] (fun r H => ldR (.one false [.sl]) r fun u => K (asS1 u) (asS2 u) (asS3 u) H) E H
def compassref10_Ahead.call (g0_Nodes : Int) (g0_Edgesp : Option Addr) (g0_Edgesn : Nat) (g0_Edgesc : Nat) (a1 : Int) (bb2 : Int) (E : Value → Hp → Prop) (H : Hp) (K : Bool → Hp → Prop) : Prop := callW P0 31 [.agg ⟨[.int .i64 g0_Nodes, .slice g0_Edgesp g0_Edgesn g0_Edgesc]⟩, .int .i64 a1, .int .i64 bb2] (fun r H => ldR (.one false [.bool]) r fun u => K (asB u) H) E H
def graph_label.call (e0_From : Int) (e0_To : Int) (e0_Cap : Int) (e0_Cost : Int) (E : Value → Hp → Prop) (H : Hp) (K : Bool → Hp → Prop) : Prop := callW P0 32 [.agg ⟨[.int .i64 e0_From, .int .i64 e0_To, .int .i64 e0_Cap, .int .i64 e0_Cost]⟩] (fun r H => ldR (.one false [.bool]) r fun u => K (asB u) H) E H
def span_kruskal_1.call (a0 : Int) (bb1 : Int) (c2b : Nat) (c2o : Nat) (E : Value → Hp → Prop) (H : Hp) (K : Int → Hp → Prop) : Prop := callW P0 33 [.int .i64 a0, .int .i64 bb1, .pointer (some ⟨c2b, c2o, none⟩)] (fun r H => ldR (.one false [.i .i64]) r fun u => K (asI u) H) E H
def heaps_New.call (ki0 : Int) (n1 : Int) (E : Value → Hp → Prop) (H : Hp) (K : (Option Addr) → Int → Hp → Prop) : Prop := callW P0 34 [.int .i64 ki0, .int .i64 n1] (fun r H => ldR (.tup [(false, [.ptr]), (false, [.i .i64])]) r fun u => K (asP (tupV u 0)) (asI (tupV u 1)) H) E H
def heaps_Queue_Push.call (q0 : Option Addr) (h1 : Int) (ke2 : Int) (E : Value → Hp → Prop) (H : Hp) (K : Int → Hp → Prop) : Prop := callW P0 35 [.pointer q0, .int .i64 h1, .int .i64 ke2] (fun r H => ldR (.one false [.i .i64]) r fun u => K (asI u) H) E H
def heaps_Queue_Len.call (q0 : Option Addr) (E : Value → Hp → Prop) (H : Hp) (K : Int → Hp → Prop) : Prop := callW P0 36 [.pointer q0] (fun r H => ldR (.one false [.i .i64]) r fun u => K (asI u) H) E H
def heaps_Queue_Pop.call (q0 : Option Addr) (E : Value → Hp → Prop) (H : Hp) (K : Int → Int → Int → Hp → Prop) : Prop := callW P0 37 [.pointer q0] (fun r H => ldR (.tup [(false, [.i .i64]), (false, [.i .i64]), (false, [.i .i64])]) r fun u => K (asI (tupV u 0)) (asI (tupV u 1)) (asI (tupV u 2)) H) E H
def heaps_Queue_Key.call (q0 : Option Addr) (h1 : Int) (E : Value → Hp → Prop) (H : Hp) (K : Int → Int → Hp → Prop) : Prop := callW P0 38 [.pointer q0, .int .i64 h1] (fun r H => ldR (.tup [(false, [.i .i64]), (false, [.i .i64])]) r fun u => K (asI (tupV u 0)) (asI (tupV u 1)) H) E H
def heaps_Queue_Lower.call (q0 : Option Addr) (h1 : Int) (ke2 : Int) (E : Value → Hp → Prop) (H : Hp) (K : Int → Hp → Prop) : Prop := callW P0 39 [.pointer q0, .int .i64 h1, .int .i64 ke2] (fun r H => ldR (.one false [.i .i64]) r fun u => K (asI u) H) E H
def compassref03_Bad.call (no0 : Int) (e1_From : Int) (e1_To : Int) (e1_Cap : Int) (e1_Cost : Int) (E : Value → Hp → Prop) (H : Hp) (K : Int → Hp → Prop) : Prop := callW P0 42 [.int .i64 no0, .agg ⟨[.int .i64 e1_From, .int .i64 e1_To, .int .i64 e1_Cap, .int .i64 e1_Cost]⟩] (fun r H => ldR (.one false [.i .i64]) r fun u => K (asI u) H) E H
def cmp_Or.call (va0p : Option Addr) (va0n : Nat) (va0c : Nat) (E : Value → Hp → Prop) (H : Hp) (K : Int → Hp → Prop) : Prop := callW P0 44 [.slice va0p va0n va0c] (fun r H => ldR (.one false [.i .i64]) r fun u => K (asI u) H) E H
def cmp_Compare.call (x0 : Int) (y1 : Int) (E : Value → Hp → Prop) (H : Hp) (K : Int → Hp → Prop) : Prop := callW P0 45 [.int .i64 x0, .int .i64 y1] (fun r H => ldR (.one false [.i .i64]) r fun u => K (asI u) H) E H
def cmp_Compare_int.call (x0 : Int) (y1 : Int) (E : Value → Hp → Prop) (H : Hp) (K : Int → Hp → Prop) : Prop := callW P0 46 [.int .i64 x0, .int .i64 y1] (fun r H => ldR (.one false [.i .i64]) r fun u => K (asI u) H) E H
def unions_New.call (n0 : Int) (E : Value → Hp → Prop) (H : Hp) (K : (Option Addr) → Int → Hp → Prop) : Prop := callW P0 47 [.int .i64 n0] (fun r H => ldR (.tup [(false, [.ptr]), (false, [.i .i64])]) r fun u => K (asP (tupV u 0)) (asI (tupV u 1)) H) E H
def unions_Sets_Join.call (s0 : Option Addr) (u1 : Int) (v2 : Int) (E : Value → Hp → Prop) (H : Hp) (K : Bool → Int → Hp → Prop) : Prop := callW P0 48 [.pointer s0, .int .i64 u1, .int .i64 v2] (fun r H => ldR (.tup [(false, [.bool]), (false, [.i .i64])]) r fun u => K (asB (tupV u 0)) (asI (tupV u 1)) H) E H
def unions_Sets_node.call (s0 : Option Addr) (v1 : Int) (E : Value → Hp → Prop) (H : Hp) (K : Bool → Hp → Prop) : Prop := callW P0 49 [.pointer s0, .int .i64 v1] (fun r H => ldR (.one false [.bool]) r fun u => K (asB u) H) E H
def unions_Sets_root.call (s0 : Option Addr) (v1 : Int) (E : Value → Hp → Prop) (H : Hp) (K : Int → Hp → Prop) : Prop := callW P0 50 [.pointer s0, .int .i64 v1] (fun r H => ldR (.one false [.i .i64]) r fun u => K (asI u) H) E H
def heaps_Queue_low.call (q0 : Option Addr) (ke1 : Int) (E : Value → Hp → Prop) (H : Hp) (K : Bool → Hp → Prop) : Prop := callW P0 51 [.pointer q0, .int .i64 ke1] (fun r H => ldR (.one false [.bool]) r fun u => K (asB u) H) E H
def heaps_Queue_Top.call (q0 : Option Addr) (E : Value → Hp → Prop) (H : Hp) (K : Int → Int → Int → Hp → Prop) : Prop := callW P0 52 [.pointer q0] (fun r H => ldR (.tup [(false, [.i .i64]), (false, [.i .i64]), (false, [.i .i64])]) r fun u => K (asI (tupV u 0)) (asI (tupV u 1)) (asI (tupV u 2)) H) E H
def cmp_Less.call (x0 : Int) (y1 : Int) (E : Value → Hp → Prop) (H : Hp) (K : Bool → Hp → Prop) : Prop := callW P0 59 [.int .i64 x0, .int .i64 y1] (fun r H => ldR (.one false [.bool]) r fun u => K (asB u) H) E H
def cmp_isNaN.call (x0 : Int) (E : Value → Hp → Prop) (H : Hp) (K : Bool → Hp → Prop) : Prop := callW P0 72 [.int .i64 x0] (fun r H => ldR (.one false [.bool]) r fun u => K (asB u) H) E H
def cmp_isNaN_int.call (x0 : Int) (E : Value → Hp → Prop) (H : Hp) (K : Bool → Hp → Prop) : Prop := callW P0 73 [.int .i64 x0] (fun r H => ldR (.one false [.bool]) r fun u => K (asB u) H) E H
def unions_Sets_Count.call (a0 : Option Addr) (E : Value → Hp → Prop) (H : Hp) (K : Int → Hp → Prop) : Prop := callW P0 100 [.pointer a0] (fun r H => ldR (.one false [.i .i64]) r fun u => K (asI u) H) E H
def heaps_binary_lower.call (bb0 : Option Addr) (h1 : Int) (E : Value → Hp → Prop) (H : Hp) (K : Hp → Prop) : Prop := callW P0 101 [.pointer bb0, .int .i64 h1] (fun r H => ldR (.tup []) r fun u => K  H) E H
def heaps_binary_pop.call (bb0 : Option Addr) (E : Value → Hp → Prop) (H : Hp) (K : Hp → Prop) : Prop := callW P0 102 [.pointer bb0] (fun r H => ldR (.tup []) r fun u => K  H) E H
def heaps_binary_push.call (bb0 : Option Addr) (h1 : Int) (E : Value → Hp → Prop) (H : Hp) (K : Hp → Prop) : Prop := callW P0 103 [.pointer bb0, .int .i64 h1] (fun r H => ldR (.tup []) r fun u => K  H) E H
def heaps_binary_top.call (bb0 : Option Addr) (E : Value → Hp → Prop) (H : Hp) (K : Int → Hp → Prop) : Prop := callW P0 104 [.pointer bb0] (fun r H => ldR (.one false [.i .i64]) r fun u => K (asI u) H) E H
def heaps_keyed_ahead.call (k0 : Option Addr) (a1 : Int) (bb2 : Int) (E : Value → Hp → Prop) (H : Hp) (K : Bool → Hp → Prop) : Prop := callW P0 105 [.pointer k0, .int .i64 a1, .int .i64 bb2] (fun r H => ldR (.one false [.bool]) r fun u => K (asB u) H) E H
def heaps_binary_put.call (bb0 : Option Addr) (i1 : Int) (h2 : Int) (E : Value → Hp → Prop) (H : Hp) (K : Hp → Prop) : Prop := callW P0 106 [.pointer bb0, .int .i64 i1, .int .i64 h2] (fun r H => ldR (.tup []) r fun u => K  H) E H
def heaps_pairing_lower.call (p0 : Option Addr) (h1 : Int) (E : Value → Hp → Prop) (H : Hp) (K : Hp → Prop) : Prop := callW P0 107 [.pointer p0, .int .i64 h1] (fun r H => ldR (.tup []) r fun u => K  H) E H
def heaps_pairing_pop.call (p0 : Option Addr) (E : Value → Hp → Prop) (H : Hp) (K : Hp → Prop) : Prop := callW P0 108 [.pointer p0] (fun r H => ldR (.tup []) r fun u => K  H) E H
def heaps_pairing_push.call (p0 : Option Addr) (h1 : Int) (E : Value → Hp → Prop) (H : Hp) (K : Hp → Prop) : Prop := callW P0 109 [.pointer p0, .int .i64 h1] (fun r H => ldR (.tup []) r fun u => K  H) E H
def heaps_pairing_top.call (p0 : Option Addr) (E : Value → Hp → Prop) (H : Hp) (K : Int → Hp → Prop) : Prop := callW P0 110 [.pointer p0] (fun r H => ldR (.one false [.i .i64]) r fun u => K (asI u) H) E H
def heaps_pairing_meld.call (p0 : Option Addr) (a1 : Int) (bb2 : Int) (E : Value → Hp → Prop) (H : Hp) (K : Int → Hp → Prop) : Prop := callW P0 111 [.pointer p0, .int .i64 a1, .int .i64 bb2] (fun r H => ldR (.one false [.i .i64]) r fun u => K (asI u) H) E H
end Go.Mz
