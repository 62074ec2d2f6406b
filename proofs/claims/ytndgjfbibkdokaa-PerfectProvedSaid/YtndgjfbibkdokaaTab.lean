/-
  The table of the types of this seat's translation, checked against it; the contracts' shapes of its functions. It proves nothing of the program by itself.
-/
import Derived.Test.YtndgjfbibkdokaaMzQ
import Derived.Test.YtndgjfbibkdokaaProg
set_option linter.unusedVariables false
namespace Go.Mz
noncomputable abbrev P0:Program:=Go.Proofs.Try.prog
noncomputable def T0ty:List TI:=[
  ⟨1,[.fn],8,.other,false⟩,
  ⟨2,[.i .i64],8,.int .i64,false⟩,
  ⟨3,[.i .i64],8,.int .i64,false⟩,
  ⟨4,[.bool],1,.bool,false⟩,
  ⟨9,[.str],16,.str,false⟩,
  ⟨22,[.sl],24,.sl 49,false⟩,
  ⟨24,[.i .i64,.sl],32,.st [(0,3),(1,22)],false⟩,
  ⟨26,[.sl],24,.sl 3,false⟩,
  ⟨27,[.sl],24,.sl 2,false⟩,
  ⟨28,[.sl],24,.sl 65,false⟩,
  ⟨30,[.sl,.sl],48,.st [(0,27),(1,28)],false⟩,
  ⟨31,[.i .i64],8,.int .i64,false⟩,
  ⟨39,[.sl],24,.sl 86,false⟩,
  ⟨41,[.sl,.sl],48,.st [(0,27),(1,39)],false⟩,
  ⟨45,[.bool,.i .i64],16,.st [(0,4),(1,2)],false⟩,
  ⟨47,[.sl],24,.sl 4,false⟩,
  ⟨49,[.i .i64,.i .i64,.i .i64,.i .i64],32,.st [(0,3),(1,3),(2,2),(3,2)],false⟩,
  ⟨55,[.sl],24,.sl 27,false⟩,
  ⟨65,[.sl,.i .i64],32,.st [(0,26),(1,2)],false⟩,
  ⟨73,[.sl],24,.sl 75,false⟩,
  ⟨75,[.i .i64,.i .i64,.i .i64],24,.st [(0,3),(1,3),(2,2)],false⟩,
  ⟨77,[.ptr],8,.ptr,false⟩,
  ⟨86,[.sl,.i .i64],32,.st [(0,26),(1,2)],false⟩,
  ⟨90,[.fn],8,.other,false⟩,
  ⟨92,[.fn],8,.other,false⟩,
  ⟨97,[.i .i64,.i .i64],16,.st [(0,31),(1,3)],false⟩,
  ⟨99,[.ptr],8,.ptr,false⟩,
  ⟨101,[.sl],24,.sl 26,false⟩,
  ⟨103,[.i .i64,.sl,.sl,.sl,.sl,.sl,.sl,.sl],176,.st [(0,24),(2,101),(3,26),(4,26),(5,26),(6,47),(7,26)],false⟩,
  ⟨106,[.fn],8,.other,false⟩,
  ⟨110,[.sl],24,.sl 117,false⟩,
  ⟨112,[.i .i64,.sl,.sl,.sl,.sl,.sl],128,.st [(0,3),(1,73),(2,27),(3,26),(4,110),(5,26)],false⟩,
  ⟨113,[.sl],24,.sl 115,false⟩,
  ⟨115,[.i .i64,.i .i64,.i .i64],24,.st [(0,3),(1,3),(2,3)],false⟩,
  ⟨117,[.sl,.sl,.i .i64,.i .i64,.i .i64,.i .i64,.i .i64,.i .i64,.i .i64],104,.st [(0,26),(1,113),(2,3),(3,2),(4,3),(5,115),(8,3)],false⟩,
  ⟨119,[.fn],8,.other,false⟩,
  ⟨130,[.i .i64],8,.st [(0,31)],false⟩,
  ⟨133,[.i .i64,.i .i64],16,.arr 2 3,false⟩,
  ⟨134,[.sl],24,.sl 47,false⟩]
noncomputable def T0:Tab:={ tys:=T0ty,tups:=[(0,[]),(32,[26,30,26,2,31]),(34,[3,3]),(37,[2,3]),(56,[26,30,2,31]),(59,[2,4]),(66,[2,31]),(69,[26,26,31]),(76,[26,30]),(93,[2,92]),(124,[26,3]),(137,[4,4])],fns:=131,bad:=[0,1,114,115,116,117,118,119,120,121,122,123,124,125,126,127,128,129,130],eqs:=[49],meths:=[] }
theorem T0_tys:allT P0 T0ty=true:=by kernel_rfl
theorem T0_eqs:allN (eqOk P0) T0.eqs=true:=by kernel_rfl
theorem T0_fns:fnsOk P0 T0=true:=by kernel_rfl
theorem P0_mixed:P0.follows .mixedOrders=true:=by kernel_rfl
theorem T0_ok:TabOk P0 T0:=tabOk_of T0_tys T0_eqs T0_fns rfl
def compasslaw18_PerfectSolves.call (g0_Nodes:Int) (g0_Edgesp:OA) (g0_Edgesn:Nat) (g0_Edgesc:Nat) (E:VP) (H:Hp) (K:Bool→Hp→Prop):Prop:=callW P0 3 [.agg ⟨[.int .i64 g0_Nodes,.slice g0_Edgesp g0_Edgesn g0_Edgesc]⟩] (fun r H=>ldR (.one false [.bool]) r fun u=>K (asB u) H) E H
def compasslaw18_PerfectSmall.call (g0_Nodes:Int) (g0_Edgesp:OA) (g0_Edgesn:Nat) (g0_Edgesc:Nat) (E:VP) (H:Hp) (K:Bool→Hp→Prop):Prop:=callW P0 4 [.agg ⟨[.int .i64 g0_Nodes,.slice g0_Edgesp g0_Edgesn g0_Edgesc]⟩] (fun r H=>ldR (.one false [.bool]) r fun u=>K (asB u) H) E H
def compasslaw18_PerfectTurns.call (g0_Nodes:Int) (g0_Edgesp:OA) (g0_Edgesn:Nat) (g0_Edgesc:Nat) (v1:Int) (by2:Int) (E:VP) (H:Hp) (K:Bool→Hp→Prop):Prop:=callW P0 5 [.agg ⟨[.int .i64 g0_Nodes,.slice g0_Edgesp g0_Edgesn g0_Edgesc]⟩,.int .i64 v1,.int .i64 by2] (fun r H=>ldR (.one false [.bool]) r fun u=>K (asB u) H) E H
def compasslaw18_PerfectBeats.call (g0_Nodes:Int) (g0_Edgesp:OA) (g0_Edgesn:Nat) (g0_Edgesc:Nat) (ot1p:OA) (ot1n:Nat) (ot1c:Nat) (E:VP) (H:Hp) (K:Bool→Hp→Prop):Prop:=callW P0 6 [.agg ⟨[.int .i64 g0_Nodes,.slice g0_Edgesp g0_Edgesn g0_Edgesc]⟩,.slice ot1p ot1n ot1c] (fun r H=>ldR (.one false [.bool]) r fun u=>K (asB u) H) E H
def compasslaw18_PerfectTables.call (di0p:OA) (di0n:Nat) (di0c:Nat) (E:VP) (H:Hp) (K:Bool→Hp→Prop):Prop:=callW P0 7 [.slice di0p di0n di0c] (fun r H=>ldR (.one false [.bool]) r fun u=>K (asB u) H) E H
def compasslaw18_PerfectAlike.call (di0p:OA) (di0n:Nat) (di0c:Nat) (E:VP) (H:Hp) (K:Bool→Hp→Prop):Prop:=callW P0 8 [.slice di0p di0n di0c] (fun r H=>ldR (.one false [.bool]) r fun u=>K (asB u) H) E H
def compasslaw18_PerfectKeeps.call (g0_Nodes:Int) (g0_Edgesp:OA) (g0_Edgesn:Nat) (g0_Edgesc:Nat) (di1p:OA) (di1n:Nat) (di1c:Nat) (E:VP) (H:Hp) (K:Bool→Hp→Prop):Prop:=callW P0 9 [.agg ⟨[.int .i64 g0_Nodes,.slice g0_Edgesp g0_Edgesn g0_Edgesc]⟩,.slice di1p di1n di1c] (fun r H=>ldR (.one false [.bool]) r fun u=>K (asB u) H) E H
def compasslaw18_PerfectProved.call (g0_Nodes:Int) (g0_Edgesp:OA) (g0_Edgesn:Nat) (g0_Edgesc:Nat) (E:VP) (H:Hp) (K:Bool→Hp→Prop):Prop:=callW P0 10 [.agg ⟨[.int .i64 g0_Nodes,.slice g0_Edgesp g0_Edgesn g0_Edgesc]⟩] (fun r H=>ldR (.one false [.bool]) r fun u=>K (asB u) H) E H
def compasslaw18_awake.call (E:VP) (H:Hp) (K:Bool→Hp→Prop):Prop:=callW P0 11 [] (fun r H=>ldR (.one false [.bool]) r fun u=>K (asB u) H) E H
def perfect_Solve.call (g0_Nodes:Int) (g0_Edgesp:OA) (g0_Edgesn:Nat) (g0_Edgesc:Nat) (E:VP) (H:Hp) (K:OA→Nat→Nat→OA→Nat→Nat→OA→Nat→Nat→OA→Nat→Nat→Int→Int→Hp→Prop):Prop:=callW P0 12 [.agg ⟨[.int .i64 g0_Nodes,.slice g0_Edgesp g0_Edgesn g0_Edgesc]⟩] (fun r H=>ldR (.tup [(false,[.sl]),(true,[.sl,.sl]),(false,[.sl]),(false,[.i .i64]),(false,[.i .i64])]) r fun u=>K (asS1 (tupV u 0)) (asS2 (tupV u 0)) (asS3 (tupV u 0)) (asS1 (cellV (tupV u 1) 0)) (asS2 (cellV (tupV u 1) 0)) (asS3 (cellV (tupV u 1) 0)) (asS1 (cellV (tupV u 1) 1)) (asS2 (cellV (tupV u 1) 1)) (asS3 (cellV (tupV u 1) 1)) (asS1 (tupV u 2)) (asS2 (tupV u 2)) (asS3 (tupV u 2)) (asI (tupV u 3)) (asI (tupV u 4)) H) E H
def compassref03_Check.call (g0_Nodes:Int) (g0_Edgesp:OA) (g0_Edgesn:Nat) (g0_Edgesc:Nat) (E:VP) (H:Hp) (K:Int→Int→Hp→Prop):Prop:=callW P0 13 [.agg ⟨[.int .i64 g0_Nodes,.slice g0_Edgesp g0_Edgesn g0_Edgesc]⟩] (fun r H=>ldR (.tup [(false,[.i .i64]),(false,[.i .i64])]) r fun u=>K (asI (tupV u 0)) (asI (tupV u 1)) H) E H
def compassref12_NoPerfect.call (g0_Nodes:Int) (g0_Edgesp:OA) (g0_Edgesn:Nat) (g0_Edgesc:Nat) (se1p:OA) (se1n:Nat) (se1c:Nat) (E:VP) (H:Hp) (K:Int→Hp→Prop):Prop:=callW P0 14 [.agg ⟨[.int .i64 g0_Nodes,.slice g0_Edgesp g0_Edgesn g0_Edgesc]⟩,.slice se1p se1n se1c] (fun r H=>ldR (.one false [.i .i64]) r fun u=>K (asI u) H) E H
def compassref12_Cheapest.call (g0_Nodes:Int) (g0_Edgesp:OA) (g0_Edgesn:Nat) (g0_Edgesc:Nat) (m1p:OA) (m1n:Nat) (m1c:Nat) (d2_Yp:OA) (d2_Yn:Nat) (d2_Yc:Nat) (d2_Setsp:OA) (d2_Setsn:Nat) (d2_Setsc:Nat) (E:VP) (H:Hp) (K:Int→Int→Hp→Prop):Prop:=callW P0 15 [.agg ⟨[.int .i64 g0_Nodes,.slice g0_Edgesp g0_Edgesn g0_Edgesc]⟩,.slice m1p m1n m1c,.agg ⟨[.slice d2_Yp d2_Yn d2_Yc,.slice d2_Setsp d2_Setsn d2_Setsc]⟩] (fun r H=>ldR (.tup [(false,[.i .i64]),(false,[.i .i64])]) r fun u=>K (asI (tupV u 0)) (asI (tupV u 1)) H) E H
def compasslaw18_plain.call (d0_Yp:OA) (d0_Yn:Nat) (d0_Yc:Nat) (d0_Setsp:OA) (d0_Setsn:Nat) (d0_Setsc:Nat) (E:VP) (H:Hp) (K:OA→Nat→Nat→OA→Nat→Nat→Hp→Prop):Prop:=callW P0 16 [.agg ⟨[.slice d0_Yp d0_Yn d0_Yc,.slice d0_Setsp d0_Setsn d0_Setsc]⟩] (fun r H=>ldR (.one true [.sl,.sl]) r fun u=>K (asS1 (cellV u 0)) (asS2 (cellV u 0)) (asS3 (cellV u 0)) (asS1 (cellV u 1)) (asS2 (cellV u 1)) (asS3 (cellV u 1)) H) E H
def compassref18_Best.call (g0_Nodes:Int) (g0_Edgesp:OA) (g0_Edgesn:Nat) (g0_Edgesc:Nat) (us1p:OA) (us1n:Nat) (us1c:Nat) (E:VP) (H:Hp) (K:Bool→Int→Hp→Prop):Prop:=callW P0 17 [.agg ⟨[.int .i64 g0_Nodes,.slice g0_Edgesp g0_Edgesn g0_Edgesc]⟩,.slice us1p us1n us1c] (fun r H=>ldR (.one true [.bool,.i .i64]) r fun u=>K (asB (cellV u 0)) (asI (cellV u 1)) H) E H
def compassref03_Copy.call (g0_Nodes:Int) (g0_Edgesp:OA) (g0_Edgesn:Nat) (g0_Edgesc:Nat) (E:VP) (H:Hp) (K:Int→OA→Nat→Nat→Hp→Prop):Prop:=callW P0 18 [.agg ⟨[.int .i64 g0_Nodes,.slice g0_Edgesp g0_Edgesn g0_Edgesc]⟩] (fun r H=>ldR (.one true [.i .i64,.sl]) r fun u=>K (asI (cellV u 0)) (asS1 (cellV u 1)) (asS2 (cellV u 1)) (asS3 (cellV u 1)) H) E H
def compassref12_Matching.call (g0_Nodes:Int) (g0_Edgesp:OA) (g0_Edgesn:Nat) (g0_Edgesc:Nat) (m1p:OA) (m1n:Nat) (m1c:Nat) (E:VP) (H:Hp) (K:Int→Hp→Prop):Prop:=callW P0 19 [.agg ⟨[.int .i64 g0_Nodes,.slice g0_Edgesp g0_Edgesn g0_Edgesc]⟩,.slice m1p m1n m1c] (fun r H=>ldR (.one false [.i .i64]) r fun u=>K (asI u) H) E H
def compassref12_Cost.call (g0_Nodes:Int) (g0_Edgesp:OA) (g0_Edgesn:Nat) (g0_Edgesc:Nat) (m1p:OA) (m1n:Nat) (m1c:Nat) (E:VP) (H:Hp) (K:Int→Hp→Prop):Prop:=callW P0 20 [.agg ⟨[.int .i64 g0_Nodes,.slice g0_Edgesp g0_Edgesn g0_Edgesc]⟩,.slice m1p m1n m1c] (fun r H=>ldR (.one false [.i .i64]) r fun u=>K (asI u) H) E H
def perfect_Dense.call (di0p:OA) (di0n:Nat) (di0c:Nat) (E:VP) (H:Hp) (K:OA→Nat→Nat→OA→Nat→Nat→OA→Nat→Nat→Int→Int→Hp→Prop):Prop:=callW P0 21 [.slice di0p di0n di0c] (fun r H=>ldR (.tup [(false,[.sl]),(true,[.sl,.sl]),(false,[.i .i64]),(false,[.i .i64])]) r fun u=>K (asS1 (tupV u 0)) (asS2 (tupV u 0)) (asS3 (tupV u 0)) (asS1 (cellV (tupV u 1) 0)) (asS2 (cellV (tupV u 1) 0)) (asS3 (cellV (tupV u 1) 0)) (asS1 (cellV (tupV u 1) 1)) (asS2 (cellV (tupV u 1) 1)) (asS3 (cellV (tupV u 1) 1)) (asI (tupV u 2)) (asI (tupV u 3)) H) E H
def compassref18_Table.call (di0p:OA) (di0n:Nat) (di0c:Nat) (E:VP) (H:Hp) (K:Int→Hp→Prop):Prop:=callW P0 22 [.slice di0p di0n di0c] (fun r H=>ldR (.one false [.i .i64]) r fun u=>K (asI u) H) E H
def compassref18_Mates.call (di0p:OA) (di0n:Nat) (di0c:Nat) (ma1p:OA) (ma1n:Nat) (ma1c:Nat) (E:VP) (H:Hp) (K:Int→Bool→Hp→Prop):Prop:=callW P0 23 [.slice di0p di0n di0c,.slice ma1p ma1n ma1c] (fun r H=>ldR (.tup [(false,[.i .i64]),(false,[.bool])]) r fun u=>K (asI (tupV u 0)) (asB (tupV u 1)) H) E H
def compassref18_Dense.call (di0p:OA) (di0n:Nat) (di0c:Nat) (d1_Yp:OA) (d1_Yn:Nat) (d1_Yc:Nat) (d1_Setsp:OA) (d1_Setsn:Nat) (d1_Setsc:Nat) (to2:Int) (E:VP) (H:Hp) (K:Bool→Hp→Prop):Prop:=callW P0 24 [.slice di0p di0n di0c,.agg ⟨[.slice d1_Yp d1_Yn d1_Yc,.slice d1_Setsp d1_Setsn d1_Setsc]⟩,.int .i64 to2] (fun r H=>ldR (.one false [.bool]) r fun u=>K (asB u) H) E H
def compassref03_Same.call (a0_Nodes:Int) (a0_Edgesp:OA) (a0_Edgesn:Nat) (a0_Edgesc:Nat) (bb1_Nodes:Int) (bb1_Edgesp:OA) (bb1_Edgesn:Nat) (bb1_Edgesc:Nat) (E:VP) (H:Hp) (K:Bool→Hp→Prop):Prop:=callW P0 25 [.agg ⟨[.int .i64 a0_Nodes,.slice a0_Edgesp a0_Edgesn a0_Edgesc]⟩,.agg ⟨[.int .i64 bb1_Nodes,.slice bb1_Edgesp bb1_Edgesn bb1_Edgesc]⟩] (fun r H=>ldR (.one false [.bool]) r fun u=>K (asB u) H) E H
def vouch_Cheapest.call (g0_Nodes:Int) (g0_Edgesp:OA) (g0_Edgesn:Nat) (g0_Edgesc:Nat) (m1p:OA) (m1n:Nat) (m1c:Nat) (d2_Yp:OA) (d2_Yn:Nat) (d2_Yc:Nat) (d2_Setsp:OA) (d2_Setsn:Nat) (d2_Setsc:Nat) (E:VP) (H:Hp) (K:Int→Int→Hp→Prop):Prop:=callW P0 26 [.agg ⟨[.int .i64 g0_Nodes,.slice g0_Edgesp g0_Edgesn g0_Edgesc]⟩,.slice m1p m1n m1c,.agg ⟨[.slice d2_Yp d2_Yn d2_Yc,.slice d2_Setsp d2_Setsn d2_Setsc]⟩] (fun r H=>ldR (.tup [(false,[.i .i64]),(false,[.i .i64])]) r fun u=>K (asI (tupV u 0)) (asI (tupV u 1)) H) E H
def blossom_Solve.call (g0_Nodes:Int) (g0_Edgesp:OA) (g0_Edgesn:Nat) (g0_Edgesc:Nat) (E:VP) (H:Hp) (K:OA→Nat→Nat→OA→Nat→Nat→Int→Hp→Prop):Prop:=callW P0 27 [.agg ⟨[.int .i64 g0_Nodes,.slice g0_Edgesp g0_Edgesn g0_Edgesc]⟩] (fun r H=>ldR (.tup [(false,[.sl]),(false,[.sl]),(false,[.i .i64])]) r fun u=>K (asS1 (tupV u 0)) (asS2 (tupV u 0)) (asS3 (tupV u 0)) (asS1 (tupV u 1)) (asS2 (tupV u 1)) (asS3 (tupV u 1)) (asI (tupV u 2)) H) E H
def vouch_NoPerfect.call (g0_Nodes:Int) (g0_Edgesp:OA) (g0_Edgesn:Nat) (g0_Edgesc:Nat) (se1p:OA) (se1n:Nat) (se1c:Nat) (E:VP) (H:Hp) (K:Int→Hp→Prop):Prop:=callW P0 28 [.agg ⟨[.int .i64 g0_Nodes,.slice g0_Edgesp g0_Edgesn g0_Edgesc]⟩,.slice se1p se1n se1c] (fun r H=>ldR (.one false [.i .i64]) r fun u=>K (asI u) H) E H
def compasslaw18_square.call (E:VP) (H:Hp) (K:Int→OA→Nat→Nat→Hp→Prop):Prop:=callW P0 29 [] (fun r H=>ldR (.one true [.i .i64,.sl]) r fun u=>K (asI (cellV u 0)) (asS1 (cellV u 1)) (asS2 (cellV u 1)) (asS3 (cellV u 1)) H) E H
def perfect_newSearch.call (n0:Int) (ed1p:OA) (ed1n:Nat) (ed1c:Nat) (E:VP) (H:Hp) (K:OA→Hp→Prop):Prop:=callW P0 30 [.int .i64 n0,.slice ed1p ed1n ed1c] (fun r H=>ldR (.one false [.ptr]) r fun u=>K (asP u) H) E H
def perfect_search_solve.call (s0:OA) (E:VP) (H:Hp) (K:OA→Nat→Nat→OA→Nat→Nat→OA→Nat→Nat→Hp→Prop):Prop:=callW P0 31 [.pointer s0] (fun r H=>ldR (.tup [(false,[.sl]),(true,[.sl,.sl])]) r fun u=>K (asS1 (tupV u 0)) (asS2 (tupV u 0)) (asS3 (tupV u 0)) (asS1 (cellV (tupV u 1) 0)) (asS2 (cellV (tupV u 1) 0)) (asS3 (cellV (tupV u 1) 0)) (asS1 (cellV (tupV u 1) 1)) (asS2 (cellV (tupV u 1) 1)) (asS3 (cellV (tupV u 1) 1)) H) E H
def slices_Sort.call (x0p:OA) (x0n:Nat) (x0c:Nat) (E:VP) (H:Hp) (K:Hp→Prop):Prop:=callW P0 32 [.slice x0p x0n x0c] (fun r H=>ldR (.tup []) r fun u=>K H) E H
def compassref03_Bad.call (no0:Int) (e1_From:Int) (e1_To:Int) (e1_Cap:Int) (e1_Cost:Int) (E:VP) (H:Hp) (K:Int→Hp→Prop):Prop:=callW P0 33 [.int .i64 no0,.agg ⟨[.int .i64 e1_From,.int .i64 e1_To,.int .i64 e1_Cap,.int .i64 e1_Cost]⟩] (fun r H=>ldR (.one false [.i .i64]) r fun u=>K (asI u) H) E H
def compassref12_Rising.call (li0p:OA) (li0n:Nat) (li0c:Nat) (n1:Int) (E:VP) (H:Hp) (K:Bool→Hp→Prop):Prop:=callW P0 34 [.slice li0p li0n li0c,.int .i64 n1] (fun r H=>ldR (.one false [.bool]) r fun u=>K (asB u) H) E H
def compassref12_Odd.call (g0_Nodes:Int) (g0_Edgesp:OA) (g0_Edgesn:Nat) (g0_Edgesc:Nat) (se1p:OA) (se1n:Nat) (se1c:Nat) (E:VP) (H:Hp) (K:Int→Hp→Prop):Prop:=callW P0 35 [.agg ⟨[.int .i64 g0_Nodes,.slice g0_Edgesp g0_Edgesn g0_Edgesc]⟩,.slice se1p se1n se1c] (fun r H=>ldR (.one false [.i .i64]) r fun u=>K (asI u) H) E H
def compassref12_Weights.call (n0:Int) (d1_Yp:OA) (d1_Yn:Nat) (d1_Yc:Nat) (d1_Setsp:OA) (d1_Setsn:Nat) (d1_Setsc:Nat) (E:VP) (H:Hp) (K:Bool→Hp→Prop):Prop:=callW P0 36 [.int .i64 n0,.agg ⟨[.slice d1_Yp d1_Yn d1_Yc,.slice d1_Setsp d1_Setsn d1_Setsc]⟩] (fun r H=>ldR (.one false [.bool]) r fun u=>K (asB u) H) E H
def compassref12_Pair.call (d0_Yp:OA) (d0_Yn:Nat) (d0_Yc:Nat) (d0_Setsp:OA) (d0_Setsn:Nat) (d0_Setsc:Nat) (u1:Int) (v2:Int) (E:VP) (H:Hp) (K:Int→Hp→Prop):Prop:=callW P0 37 [.agg ⟨[.slice d0_Yp d0_Yn d0_Yc,.slice d0_Setsp d0_Setsn d0_Setsc]⟩,.int .i64 u1,.int .i64 v2] (fun r H=>ldR (.one false [.i .i64]) r fun u=>K (asI u) H) E H
def compassref12_Worth.call (d0_Yp:OA) (d0_Yn:Nat) (d0_Yc:Nat) (d0_Setsp:OA) (d0_Setsn:Nat) (d0_Setsc:Nat) (E:VP) (H:Hp) (K:Int→Hp→Prop):Prop:=callW P0 38 [.agg ⟨[.slice d0_Yp d0_Yn d0_Yc,.slice d0_Setsp d0_Setsn d0_Setsc]⟩] (fun r H=>ldR (.one false [.i .i64]) r fun u=>K (asI u) H) E H
def compassref12_Matches.call (g0_Nodes:Int) (g0_Edgesp:OA) (g0_Edgesn:Nat) (g0_Edgesc:Nat) (m1p:OA) (m1n:Nat) (m1c:Nat) (E:VP) (H:Hp) (K:Bool→Hp→Prop):Prop:=callW P0 39 [.agg ⟨[.int .i64 g0_Nodes,.slice g0_Edgesp g0_Edgesn g0_Edgesc]⟩,.slice m1p m1n m1c] (fun r H=>ldR (.one false [.bool]) r fun u=>K (asB u) H) E H
def vouch_look.call (ff0g:Nat) (ff0k:List Value) (E:VP) (H:Hp) (K:Int→Hp→Prop):Prop:=callW P0 40 [.func (.func ff0g) ⟨[]⟩ ⟨ff0k⟩] (fun r H=>ldR (.one false [.i .i64]) r fun u=>K (asI u) H) E H
def vouch_Cheapest_1.call (c0b:Nat) (c0o:Nat) (c1b:Nat) (c1o:Nat) (c2b:Nat) (c2o:Nat) (c3b:Nat) (c3o:Nat) (E:VP) (H:Hp) (K:Hp→Prop):Prop:=callW P0 41 [.pointer (some ⟨c0b,c0o,none⟩),.pointer (some ⟨c1b,c1o,none⟩),.pointer (some ⟨c2b,c2o,none⟩),.pointer (some ⟨c3b,c3o,none⟩)] (fun r H=>ldR (.tup []) r fun u=>K H) E H
def vouch_right.call (g0_Nodes:Int) (g0_Edgesp:OA) (g0_Edgesn:Nat) (g0_Edgesc:Nat) (E:VP) (H:Hp) (K:Hp→Prop):Prop:=callW P0 42 [.agg ⟨[.int .i64 g0_Nodes,.slice g0_Edgesp g0_Edgesn g0_Edgesc]⟩] (fun r H=>ldR (.tup []) r fun u=>K H) E H
def vouch_matched.call (g0_Nodes:Int) (g0_Edgesp:OA) (g0_Edgesn:Nat) (g0_Edgesc:Nat) (m1p:OA) (m1n:Nat) (m1c:Nat) (mo2g:Nat) (mo2k:List Value) (E:VP) (H:Hp) (K:Hp→Prop):Prop:=callW P0 43 [.agg ⟨[.int .i64 g0_Nodes,.slice g0_Edgesp g0_Edgesn g0_Edgesc]⟩,.slice m1p m1n m1c,.func (.func mo2g) ⟨[]⟩ ⟨mo2k⟩] (fun r H=>ldR (.tup []) r fun u=>K H) E H
def vouch_one.call (a0:Int) (E:VP) (H:Hp) (K:Int→Hp→Prop):Prop:=callW P0 44 [.int .i64 a0] (fun r H=>ldR (.one false [.i .i64]) r fun u=>K (asI u) H) E H
def vouch_need.call (ok0:Bool) (co1:Int) (E:VP) (H:Hp) (K:Hp→Prop):Prop:=callW P0 45 [.bool ok0,.int .i64 co1] (fun r H=>ldR (.tup []) r fun u=>K H) E H
def vouch_weigh.call (n0:Int) (d1_Yp:OA) (d1_Yn:Nat) (d1_Yc:Nat) (d1_Setsp:OA) (d1_Setsn:Nat) (d1_Setsc:Nat) (E:VP) (H:Hp) (K:Int→Nat→(List Value)→Hp→Prop):Prop:=callW P0 46 [.int .i64 n0,.agg ⟨[.slice d1_Yp d1_Yn d1_Yc,.slice d1_Setsp d1_Setsn d1_Setsc]⟩] (fun r H=>ldR (.tup [(false,[.i .i64]),(false,[.fn])]) r fun u=>K (asI (tupV u 0)) (asF1 (tupV u 1)) (asF2 (tupV u 1)) H) E H
def vouch_loop.call (e0_From:Int) (e0_To:Int) (e0_Cap:Int) (e0_Cost:Int) (E:VP) (H:Hp) (K:Bool→Hp→Prop):Prop:=callW P0 47 [.agg ⟨[.int .i64 e0_From,.int .i64 e0_To,.int .i64 e0_Cap,.int .i64 e0_Cost]⟩] (fun r H=>ldR (.one false [.bool]) r fun u=>K (asB u) H) E H
def vouch_cost.call (g0_Nodes:Int) (g0_Edgesp:OA) (g0_Edgesn:Nat) (g0_Edgesc:Nat) (m1p:OA) (m1n:Nat) (m1c:Nat) (E:VP) (H:Hp) (K:Int→Hp→Prop):Prop:=callW P0 48 [.agg ⟨[.int .i64 g0_Nodes,.slice g0_Edgesp g0_Edgesn g0_Edgesc]⟩,.slice m1p m1n m1c] (fun r H=>ldR (.one false [.i .i64]) r fun u=>K (asI u) H) E H
def graph_Check.call (g0_Nodes:Int) (g0_Edgesp:OA) (g0_Edgesn:Nat) (g0_Edgesc:Nat) (E:VP) (H:Hp) (K:Int→Int→Hp→Prop):Prop:=callW P0 49 [.agg ⟨[.int .i64 g0_Nodes,.slice g0_Edgesp g0_Edgesn g0_Edgesc]⟩] (fun r H=>ldR (.one true [.i .i64,.i .i64]) r fun u=>K (asI (cellV u 0)) (asI (cellV u 1)) H) E H
def blossom_newSearch.call (g0_Nodes:Int) (g0_Edgesp:OA) (g0_Edgesn:Nat) (g0_Edgesc:Nat) (E:VP) (H:Hp) (K:OA→Hp→Prop):Prop:=callW P0 50 [.agg ⟨[.int .i64 g0_Nodes,.slice g0_Edgesp g0_Edgesn g0_Edgesc]⟩] (fun r H=>ldR (.one false [.ptr]) r fun u=>K (asP u) H) E H
def blossom_search_turn.call (s0:OA) (w1:Int) (E:VP) (H:Hp) (K:Hp→Prop):Prop:=callW P0 51 [.pointer s0,.int .i64 w1] (fun r H=>ldR (.tup []) r fun u=>K H) E H
def blossom_search_grow.call (s0:OA) (ro1:Int) (E:VP) (H:Hp) (K:Int→Hp→Prop):Prop:=callW P0 52 [.pointer s0,.int .i64 ro1] (fun r H=>ldR (.one false [.i .i64]) r fun u=>K (asI u) H) E H
def blossom_search_mate.call (s0:OA) (v1:Int) (E:VP) (H:Hp) (K:Int→Hp→Prop):Prop:=callW P0 53 [.pointer s0,.int .i64 v1] (fun r H=>ldR (.one false [.i .i64]) r fun u=>K (asI u) H) E H
def blossom_Solve_1.call (i0:Int) (c1b:Nat) (c1o:Nat) (c2b:Nat) (c2o:Nat) (c3b:Nat) (c3o:Nat) (E:VP) (H:Hp) (K:Bool→Hp→Prop):Prop:=callW P0 54 [.int .i64 i0,.pointer (some ⟨c1b,c1o,none⟩),.pointer (some ⟨c2b,c2o,none⟩),.pointer (some ⟨c3b,c3o,none⟩)] (fun r H=>ldR (.one false [.bool]) r fun u=>K (asB u) H) E H
def blossom_search_other.call (s0:OA) (i1:Int) (v2:Int) (E:VP) (H:Hp) (K:Int→Hp→Prop):Prop:=callW P0 55 [.pointer s0,.int .i64 i1,.int .i64 v2] (fun r H=>ldR (.one false [.i .i64]) r fun u=>K (asI u) H) E H
def slices_ContainsFunc.call (s0p:OA) (s0n:Nat) (s0c:Nat) (ff1g:Nat) (ff1k:List Value) (E:VP) (H:Hp) (K:Bool→Hp→Prop):Prop:=callW P0 56 [.slice s0p s0n s0c,.func (.func ff1g) ⟨[]⟩ ⟨ff1k⟩] (fun r H=>ldR (.one false [.bool]) r fun u=>K (asB u) H) E H
def vouch_NoPerfect_1.call (c0b:Nat) (c0o:Nat) (c1b:Nat) (c1o:Nat) (E:VP) (H:Hp) (K:Hp→Prop):Prop:=callW P0 57 [.pointer (some ⟨c0b,c0o,none⟩),.pointer (some ⟨c1b,c1o,none⟩)] (fun r H=>ldR (.tup []) r fun u=>K H) E H
def vouch_odd.call (g0_Nodes:Int) (g0_Edgesp:OA) (g0_Edgesn:Nat) (g0_Edgesc:Nat) (wi1p:OA) (wi1n:Nat) (wi1c:Nat) (E:VP) (H:Hp) (K:Int→Hp→Prop):Prop:=callW P0 58 [.agg ⟨[.int .i64 g0_Nodes,.slice g0_Edgesp g0_Edgesn g0_Edgesc]⟩,.slice wi1p wi1n wi1c] (fun r H=>ldR (.one false [.i .i64]) r fun u=>K (asI u) H) E H
def vouch_marked.call (li0p:OA) (li0n:Nat) (li0c:Nat) (n1:Int) (E:VP) (H:Hp) (K:OA→Nat→Nat→Hp→Prop):Prop:=callW P0 59 [.slice li0p li0n li0c,.int .i64 n1] (fun r H=>ldR (.one false [.sl]) r fun u=>K (asS1 u) (asS2 u) (asS3 u) H) E H
def slices_MinFunc.call (x0p:OA) (x0n:Nat) (x0c:Nat) (cm1g:Nat) (cm1k:List Value) (E:VP) (H:Hp) (K:Int→Int→Int→Hp→Prop):Prop:=callW P0 60 [.slice x0p x0n x0c,.func (.func cm1g) ⟨[]⟩ ⟨cm1k⟩] (fun r H=>ldR (.one true [.i .i64,.i .i64,.i .i64]) r fun u=>K (asI (cellV u 0)) (asI (cellV u 1)) (asI (cellV u 2)) H) E H
def perfect_newSearch_1.call (a0_u:Int) (a0_v:Int) (a0_twice:Int) (bb1_u:Int) (bb1_v:Int) (bb1_twice:Int) (E:VP) (H:Hp) (K:Int→Hp→Prop):Prop:=callW P0 61 [.agg ⟨[.int .i64 a0_u,.int .i64 a0_v,.int .i64 a0_twice]⟩,.agg ⟨[.int .i64 bb1_u,.int .i64 bb1_v,.int .i64 bb1_twice]⟩] (fun r H=>ldR (.one false [.i .i64]) r fun u=>K (asI u) H) E H
def perfect_search_stage.call (s0:OA) (E:VP) (H:Hp) (K:Hp→Prop):Prop:=callW P0 62 [.pointer s0] (fun r H=>ldR (.tup []) r fun u=>K H) E H
def perfect_search_nodes.call (s0:OA) (bb1:Int) (E:VP) (H:Hp) (K:OA→Nat→Nat→Hp→Prop):Prop:=callW P0 63 [.pointer s0,.int .i64 bb1] (fun r H=>ldR (.one false [.sl]) r fun u=>K (asS1 u) (asS2 u) (asS3 u) H) E H
def compassref12_Has.call (li0p:OA) (li0n:Nat) (li0c:Nat) (x1:Int) (E:VP) (H:Hp) (K:Bool→Hp→Prop):Prop:=callW P0 66 [.slice li0p li0n li0c,.int .i64 x1] (fun r H=>ldR (.one false [.bool]) r fun u=>K (asB u) H) E H
def compassref04_Parts.call (g0_Nodes:Int) (g0_Edgesp:OA) (g0_Edgesn:Nat) (g0_Edgesc:Nat) (E:VP) (H:Hp) (K:OA→Nat→Nat→Int→Hp→Prop):Prop:=callW P0 67 [.agg ⟨[.int .i64 g0_Nodes,.slice g0_Edgesp g0_Edgesn g0_Edgesc]⟩] (fun r H=>ldR (.tup [(false,[.sl]),(false,[.i .i64])]) r fun u=>K (asS1 (tupV u 0)) (asS2 (tupV u 0)) (asS3 (tupV u 0)) (asI (tupV u 1)) H) E H
def compassref11_Pots.call (g0_Nodes:Int) (g0_Edgesp:OA) (g0_Edgesn:Nat) (g0_Edgesc:Nat) (po1p:OA) (po1n:Nat) (po1c:Nat) (E:VP) (H:Hp) (K:Bool→Hp→Prop):Prop:=callW P0 68 [.agg ⟨[.int .i64 g0_Nodes,.slice g0_Edgesp g0_Edgesn g0_Edgesc]⟩,.slice po1p po1n po1c] (fun r H=>ldR (.one false [.bool]) r fun u=>K (asB u) H) E H
def compassref12_Taken.call (g0_Nodes:Int) (g0_Edgesp:OA) (g0_Edgesn:Nat) (g0_Edgesc:Nat) (m1p:OA) (m1n:Nat) (m1c:Nat) (mo2p:OA) (mo2n:Nat) (mo2c:Nat) (E:VP) (H:Hp) (K:Bool→Hp→Prop):Prop:=callW P0 69 [.agg ⟨[.int .i64 g0_Nodes,.slice g0_Edgesp g0_Edgesn g0_Edgesc]⟩,.slice m1p m1n m1c,.slice mo2p mo2n mo2c] (fun r H=>ldR (.one false [.bool]) r fun u=>K (asB u) H) E H
def compassref12_ones.call (g0_Nodes:Int) (g0_Edgesp:OA) (g0_Edgesn:Nat) (g0_Edgesc:Nat) (E:VP) (H:Hp) (K:OA→Nat→Nat→Hp→Prop):Prop:=callW P0 70 [.agg ⟨[.int .i64 g0_Nodes,.slice g0_Edgesp g0_Edgesn g0_Edgesc]⟩] (fun r H=>ldR (.one false [.sl]) r fun u=>K (asS1 u) (asS2 u) (asS3 u) H) E H
def vouch_look_1.call (c0b:Nat) (c0o:Nat) (E:VP) (H:Hp) (K:Hp→Prop):Prop:=callW P0 71 [.pointer (some ⟨c0b,c0o,none⟩)] (fun r H=>ldR (.tup []) r fun u=>K H) E H
def vouch_rising.call (li0p:OA) (li0n:Nat) (li0c:Nat) (n1:Int) (E:VP) (H:Hp) (K:Hp→Prop):Prop:=callW P0 72 [.slice li0p li0n li0c,.int .i64 n1] (fun r H=>ldR (.tup []) r fun u=>K H) E H
def vouch_weigh_1.call (u0:Int) (v1:Int) (c2b:Nat) (c2o:Nat) (c3b:Nat) (c3o:Nat) (E:VP) (H:Hp) (K:Int→Hp→Prop):Prop:=callW P0 73 [.int .i64 u0,.int .i64 v1,.pointer (some ⟨c2b,c2o,none⟩),.pointer (some ⟨c3b,c3o,none⟩)] (fun r H=>ldR (.one false [.i .i64]) r fun u=>K (asI u) H) E H
def graph_label.call (e0_From:Int) (e0_To:Int) (e0_Cap:Int) (e0_Cost:Int) (E:VP) (H:Hp) (K:Bool→Hp→Prop):Prop:=callW P0 74 [.agg ⟨[.int .i64 e0_From,.int .i64 e0_To,.int .i64 e0_Cap,.int .i64 e0_Cost]⟩] (fun r H=>ldR (.one false [.bool]) r fun u=>K (asB u) H) E H
def blossom_search_begin.call (s0:OA) (ro1:Int) (E:VP) (H:Hp) (K:Hp→Prop):Prop:=callW P0 75 [.pointer s0,.int .i64 ro1] (fun r H=>ldR (.tup []) r fun u=>K H) E H
def blossom_search_shrink.call (s0:OA) (i1:Int) (E:VP) (H:Hp) (K:Hp→Prop):Prop:=callW P0 76 [.pointer s0,.int .i64 i1] (fun r H=>ldR (.tup []) r fun u=>K H) E H
def slices_IndexFunc.call (s0p:OA) (s0n:Nat) (s0c:Nat) (ff1g:Nat) (ff1k:List Value) (E:VP) (H:Hp) (K:Int→Hp→Prop):Prop:=callW P0 77 [.slice s0p s0n s0c,.func (.func ff1g) ⟨[]⟩ ⟨ff1k⟩] (fun r H=>ldR (.one false [.i .i64]) r fun u=>K (asI u) H) E H
def perfect_search_mark.call (s0:OA) (bb1:Int) (la2:Int) (vi3_edge:Int) (vi3_in:Int) (vi3_out:Int) (E:VP) (H:Hp) (K:Hp→Prop):Prop:=callW P0 78 [.pointer s0,.int .i64 bb1,.int .i64 la2,.agg ⟨[.int .i64 vi3_edge,.int .i64 vi3_in,.int .i64 vi3_out]⟩] (fun r H=>ldR (.tup []) r fun u=>K H) E H
def perfect_search_step.call (s0:OA) (E:VP) (H:Hp) (K:Bool→Bool→Hp→Prop):Prop:=callW P0 79 [.pointer s0] (fun r H=>ldR (.tup [(false,[.bool]),(false,[.bool])]) r fun u=>K (asB (tupV u 0)) (asB (tupV u 1)) H) E H
def perfect_search_change.call (s0:OA) (E:VP) (H:Hp) (K:Hp→Prop):Prop:=callW P0 80 [.pointer s0] (fun r H=>ldR (.tup []) r fun u=>K H) E H
def compassref04_Numbered.call (le0p:OA) (le0n:Nat) (le0c:Nat) (E:VP) (H:Hp) (K:OA→Nat→Nat→Hp→Prop):Prop:=callW P0 92 [.slice le0p le0n le0c] (fun r H=>ldR (.one false [.sl]) r fun u=>K (asS1 u) (asS2 u) (asS3 u) H) E H
def compassref12_At.call (g0_Nodes:Int) (g0_Edgesp:OA) (g0_Edgesn:Nat) (g0_Edgesc:Nat) (li1p:OA) (li1n:Nat) (li1c:Nat) (v2:Int) (E:VP) (H:Hp) (K:Int→Hp→Prop):Prop:=callW P0 93 [.agg ⟨[.int .i64 g0_Nodes,.slice g0_Edgesp g0_Edgesn g0_Edgesc]⟩,.slice li1p li1n li1c,.int .i64 v2] (fun r H=>ldR (.one false [.i .i64]) r fun u=>K (asI u) H) E H
def blossom_search_meet.call (s0:OA) (a1:Int) (bb2:Int) (E:VP) (H:Hp) (K:Int→Hp→Prop):Prop:=callW P0 94 [.pointer s0,.int .i64 a1,.int .i64 bb2] (fun r H=>ldR (.one false [.i .i64]) r fun u=>K (asI u) H) E H
def blossom_search_mark.call (s0:OA) (v1:Int) (to2:Int) (i3:Int) (in4p:OA) (in4n:Nat) (in4c:Nat) (E:VP) (H:Hp) (K:Hp→Prop):Prop:=callW P0 95 [.pointer s0,.int .i64 v1,.int .i64 to2,.int .i64 i3,.slice in4p in4n in4c] (fun r H=>ldR (.tup []) r fun u=>K H) E H
def perfect_search_slack.call (s0:OA) (e1_u:Int) (e1_v:Int) (e1_twice:Int) (E:VP) (H:Hp) (K:Int→Hp→Prop):Prop:=callW P0 96 [.pointer s0,.agg ⟨[.int .i64 e1_u,.int .i64 e1_v,.int .i64 e1_twice]⟩] (fun r H=>ldR (.one false [.i .i64]) r fun u=>K (asI u) H) E H
def perfect_search_grow.call (s0:OA) (ll1_edge:Int) (ll1_in:Int) (ll1_out:Int) (E:VP) (H:Hp) (K:Hp→Prop):Prop:=callW P0 97 [.pointer s0,.agg ⟨[.int .i64 ll1_edge,.int .i64 ll1_in,.int .i64 ll1_out]⟩] (fun r H=>ldR (.tup []) r fun u=>K H) E H
def perfect_search_way.call (s0:OA) (bb1:Int) (E:VP) (H:Hp) (K:OA→Nat→Nat→Hp→Prop):Prop:=callW P0 98 [.pointer s0,.int .i64 bb1] (fun r H=>ldR (.one false [.sl]) r fun u=>K (asS1 u) (asS2 u) (asS3 u) H) E H
def perfect_search_shrink.call (s0:OA) (ll1_edge:Int) (ll1_in:Int) (ll1_out:Int) (a2p:OA) (a2n:Nat) (a2c:Nat) (bb3p:OA) (bb3n:Nat) (bb3c:Nat) (E:VP) (H:Hp) (K:Hp→Prop):Prop:=callW P0 99 [.pointer s0,.agg ⟨[.int .i64 ll1_edge,.int .i64 ll1_in,.int .i64 ll1_out]⟩,.slice a2p a2n a2c,.slice bb3p bb3n bb3c] (fun r H=>ldR (.tup []) r fun u=>K H) E H
def perfect_search_turn.call (s0:OA) (v1:Int) (e2:Int) (E:VP) (H:Hp) (K:Hp→Prop):Prop:=callW P0 100 [.pointer s0,.int .i64 v1,.int .i64 e2] (fun r H=>ldR (.tup []) r fun u=>K H) E H
def perfect_search_open.call (s0:OA) (bb1:Int) (E:VP) (H:Hp) (K:Hp→Prop):Prop:=callW P0 101 [.pointer s0,.int .i64 bb1] (fun r H=>ldR (.tup []) r fun u=>K H) E H
def perfect_search_mate.call (s0:OA) (bb1:Int) (E:VP) (H:Hp) (K:Int→Int→Int→Hp→Prop):Prop:=callW P0 108 [.pointer s0,.int .i64 bb1] (fun r H=>ldR (.one true [.i .i64,.i .i64,.i .i64]) r fun u=>K (asI (cellV u 0)) (asI (cellV u 1)) (asI (cellV u 2)) H) E H
def perfect_search_surface.call (s0:OA) (bb1:Int) (E:VP) (H:Hp) (K:Hp→Prop):Prop:=callW P0 109 [.pointer s0,.int .i64 bb1] (fun r H=>ldR (.tup []) r fun u=>K H) E H
def perfect_search_rebase.call (s0:OA) (bb1:Int) (v2:Int) (E:VP) (H:Hp) (K:Hp→Prop):Prop:=callW P0 110 [.pointer s0,.int .i64 bb1,.int .i64 v2] (fun r H=>ldR (.tup []) r fun u=>K H) E H
def perfect_search_kid.call (s0:OA) (bb1:Int) (v2:Int) (E:VP) (H:Hp) (K:Int→Hp→Prop):Prop:=callW P0 111 [.pointer s0,.int .i64 bb1,.int .i64 v2] (fun r H=>ldR (.one false [.i .i64]) r fun u=>K (asI u) H) E H
def slices_Index.call (s0p:OA) (s0n:Nat) (s0c:Nat) (v1:Int) (E:VP) (H:Hp) (K:Int→Hp→Prop):Prop:=callW P0 113 [.slice s0p s0n s0c,.int .i64 v1] (fun r H=>ldR (.one false [.i .i64]) r fun u=>K (asI u) H) E H
end Go.Mz
