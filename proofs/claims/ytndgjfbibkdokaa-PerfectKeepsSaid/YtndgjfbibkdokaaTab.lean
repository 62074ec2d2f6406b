/-
  The table of the types of this seat's translation, checked against it; the contracts' shapes of its functions. It proves nothing of the program by itself.
-/
import Derived.Test.YtndgjfbibkdokaaMzQ
import Derived.Test.YtndgjfbibkdokaaProg
set_option linter.unusedVariables false
namespace Go.Mz
noncomputable abbrev P0:Program:=Go.Proofs.Try.prog
noncomputable def T0ty:List TI:=[
  ⟨1,[.fn],8,.other,false⟩,
  ⟨2,[.i .i64],8,.int .i64,false⟩,
  ⟨3,[.i .i64],8,.int .i64,false⟩,
  ⟨4,[.bool],1,.bool,false⟩,
  ⟨9,[.str],16,.str,false⟩,
  ⟨22,[.sl],24,.sl 49,false⟩,
  ⟨24,[.i .i64,.sl],32,.st [(0,3),(1,22)],false⟩,
  ⟨26,[.sl],24,.sl 3,false⟩,
  ⟨27,[.sl],24,.sl 2,false⟩,
  ⟨28,[.sl],24,.sl 65,false⟩,
  ⟨30,[.sl,.sl],48,.st [(0,27),(1,28)],false⟩,
  ⟨31,[.i .i64],8,.int .i64,false⟩,
  ⟨39,[.sl],24,.sl 86,false⟩,
  ⟨41,[.sl,.sl],48,.st [(0,27),(1,39)],false⟩,
  ⟨45,[.bool,.i .i64],16,.st [(0,4),(1,2)],false⟩,
  ⟨47,[.sl],24,.sl 4,false⟩,
  ⟨49,[.i .i64,.i .i64,.i .i64,.i .i64],32,.st [(0,3),(1,3),(2,2),(3,2)],false⟩,
  ⟨55,[.sl],24,.sl 27,false⟩,
  ⟨65,[.sl,.i .i64],32,.st [(0,26),(1,2)],false⟩,
  ⟨73,[.sl],24,.sl 75,false⟩,
  ⟨75,[.i .i64,.i .i64,.i .i64],24,.st [(0,3),(1,3),(2,2)],false⟩,
  ⟨77,[.ptr],8,.ptr,false⟩,
  ⟨86,[.sl,.i .i64],32,.st [(0,26),(1,2)],false⟩,
  ⟨90,[.fn],8,.other,false⟩,
  ⟨92,[.fn],8,.other,false⟩,
  ⟨97,[.i .i64,.i .i64],16,.st [(0,31),(1,3)],false⟩,
  ⟨99,[.ptr],8,.ptr,false⟩,
  ⟨101,[.sl],24,.sl 26,false⟩,
  ⟨103,[.i .i64,.sl,.sl,.sl,.sl,.sl,.sl,.sl],176,.st [(0,24),(2,101),(3,26),(4,26),(5,26),(6,47),(7,26)],false⟩,
  ⟨106,[.fn],8,.other,false⟩,
  ⟨110,[.sl],24,.sl 117,false⟩,
  ⟨112,[.i .i64,.sl,.sl,.sl,.sl,.sl],128,.st [(0,3),(1,73),(2,27),(3,26),(4,110),(5,26)],false⟩,
  ⟨113,[.sl],24,.sl 115,false⟩,
  ⟨115,[.i .i64,.i .i64,.i .i64],24,.st [(0,3),(1,3),(2,3)],false⟩,
  ⟨117,[.sl,.sl,.i .i64,.i .i64,.i .i64,.i .i64,.i .i64,.i .i64,.i .i64],104,.st [(0,26),(1,113),(2,3),(3,2),(4,3),(5,115),(8,3)],false⟩,
  ⟨119,[.fn],8,.other,false⟩,
  ⟨130,[.i .i64],8,.st [(0,31)],false⟩,
  ⟨133,[.i .i64,.i .i64],16,.arr 2 3,false⟩,
  ⟨134,[.sl],24,.sl 47,false⟩]
noncomputable def T0:Tab:={ tys:=T0ty,tups:=[(0,[]),(32,[26,30,26,2,31]),(34,[3,3]),(37,[2,3]),(56,[26,30,2,31]),(59,[2,4]),(66,[2,31]),(69,[26,26,31]),(76,[26,30]),(93,[2,92]),(124,[26,3]),(137,[4,4])],fns:=131,bad:=[0,1,114,115,116,117,118,119,120,121,122,123,124,125,126,127,128,129,130],eqs:=[49],meths:=[] }
theorem T0_tys:allT P0 T0ty=true:=by kernel_rfl
theorem T0_eqs:allN (eqOk P0) T0.eqs=true:=by kernel_rfl
theorem T0_fns:fnsOk P0 T0=true:=by kernel_rfl
theorem P0_mixed:P0.follows .mixedOrders=true:=by kernel_rfl
theorem T0_ok:TabOk P0 T0:=tabOk_of T0_tys T0_eqs T0_fns rfl
def Q0.call (a:Int)(c:OA)(d e:Nat)(g:OA)(i j:Nat)(E:VP)(H:Hp)(K:Bool→Hp→Prop):Prop:=callW P0 9 [.agg ⟨[.int .i64 a,.slice c d e]⟩,.slice g i j] (fun r H=>ldR (.one false [.bool]) r fun u=>K (asB u) H) E H
def Q1.call (E:VP)(H:Hp)(K:Bool→Hp→Prop):Prop:=callW P0 11 [] (fun r H=>ldR (.one false [.bool]) r fun u=>K (asB u) H) E H
def Q3.call (a:Int)(c:OA)(d e:Nat)(E:VP)(H:Hp)(K:OA→Nat→Nat→OA→Nat→Nat→OA→Nat→Nat→OA→Nat→Nat→Int→Int→Hp→Prop):Prop:=callW P0 12 [.agg ⟨[.int .i64 a,.slice c d e]⟩] (fun r H=>ldR (.tup [(false,[.sl]),(true,[.sl,.sl]),(false,[.sl]),(false,[.i .i64]),(false,[.i .i64])]) r fun u=>K (asS1 (tupV u 0)) (asS2 (tupV u 0)) (asS3 (tupV u 0)) (asS1 (cellV (tupV u 1) 0)) (asS2 (cellV (tupV u 1) 0)) (asS3 (cellV (tupV u 1) 0)) (asS1 (cellV (tupV u 1) 1)) (asS2 (cellV (tupV u 1) 1)) (asS3 (cellV (tupV u 1) 1)) (asS1 (tupV u 2)) (asS2 (tupV u 2)) (asS3 (tupV u 2)) (asI (tupV u 3)) (asI (tupV u 4)) H) E H
def Q7.call (a:Int)(c:OA)(d e:Nat)(E:VP)(H:Hp)(K:Int→OA→Nat→Nat→Hp→Prop):Prop:=callW P0 18 [.agg ⟨[.int .i64 a,.slice c d e]⟩] (fun r H=>ldR (.one true [.i .i64,.sl]) r fun u=>K (asI (cellV u 0)) (asS1 (cellV u 1)) (asS2 (cellV u 1)) (asS3 (cellV u 1)) H) E H
def Q8.call (a:OA)(c d:Nat)(E:VP)(H:Hp)(K:OA→Nat→Nat→OA→Nat→Nat→OA→Nat→Nat→Int→Int→Hp→Prop):Prop:=callW P0 21 [.slice a c d] (fun r H=>ldR (.tup [(false,[.sl]),(true,[.sl,.sl]),(false,[.i .i64]),(false,[.i .i64])]) r fun u=>K (asS1 (tupV u 0)) (asS2 (tupV u 0)) (asS3 (tupV u 0)) (asS1 (cellV (tupV u 1) 0)) (asS2 (cellV (tupV u 1) 0)) (asS3 (cellV (tupV u 1) 0)) (asS1 (cellV (tupV u 1) 1)) (asS2 (cellV (tupV u 1) 1)) (asS3 (cellV (tupV u 1) 1)) (asI (tupV u 2)) (asI (tupV u 3)) H) E H
def Q9.call (a:Int)(c:OA)(d e:Nat)(g:Int)(i:OA)(j k:Nat)(E:VP)(H:Hp)(K:Bool→Hp→Prop):Prop:=callW P0 25 [.agg ⟨[.int .i64 a,.slice c d e]⟩,.agg ⟨[.int .i64 g,.slice i j k]⟩] (fun r H=>ldR (.one false [.bool]) r fun u=>K (asB u) H) E H
def Q10.call (a:Int)(c:OA)(d e:Nat)(g:OA)(j k:Nat)(l:OA)(m n:Nat)(o:OA)(p q:Nat)(E:VP)(H:Hp)(K:Int→Int→Hp→Prop):Prop:=callW P0 26 [.agg ⟨[.int .i64 a,.slice c d e]⟩,.slice g j k,.agg ⟨[.slice l m n,.slice o p q]⟩] (fun r H=>ldR (.tup [(false,[.i .i64]),(false,[.i .i64])]) r fun u=>K (asI (tupV u 0)) (asI (tupV u 1)) H) E H
def Q11.call (a:Int)(c:OA)(d e:Nat)(E:VP)(H:Hp)(K:OA→Nat→Nat→OA→Nat→Nat→Int→Hp→Prop):Prop:=callW P0 27 [.agg ⟨[.int .i64 a,.slice c d e]⟩] (fun r H=>ldR (.tup [(false,[.sl]),(false,[.sl]),(false,[.i .i64])]) r fun u=>K (asS1 (tupV u 0)) (asS2 (tupV u 0)) (asS3 (tupV u 0)) (asS1 (tupV u 1)) (asS2 (tupV u 1)) (asS3 (tupV u 1)) (asI (tupV u 2)) H) E H
def Q12.call (E:VP)(H:Hp)(K:Int→OA→Nat→Nat→Hp→Prop):Prop:=callW P0 29 [] (fun r H=>ldR (.one true [.i .i64,.sl]) r fun u=>K (asI (cellV u 0)) (asS1 (cellV u 1)) (asS2 (cellV u 1)) (asS3 (cellV u 1)) H) E H
def Q13.call (a:Int)(c:OA)(d e:Nat)(E:VP)(H:Hp)(K:OA→Hp→Prop):Prop:=callW P0 30 [.int .i64 a,.slice c d e] (fun r H=>ldR (.one false [.ptr]) r fun u=>K (asP u) H) E H
def Q14.call (a:OA)(E:VP)(H:Hp)(K:OA→Nat→Nat→OA→Nat→Nat→OA→Nat→Nat→Hp→Prop):Prop:=callW P0 31 [.pointer a] (fun r H=>ldR (.tup [(false,[.sl]),(true,[.sl,.sl])]) r fun u=>K (asS1 (tupV u 0)) (asS2 (tupV u 0)) (asS3 (tupV u 0)) (asS1 (cellV (tupV u 1) 0)) (asS2 (cellV (tupV u 1) 0)) (asS3 (cellV (tupV u 1) 0)) (asS1 (cellV (tupV u 1) 1)) (asS2 (cellV (tupV u 1) 1)) (asS3 (cellV (tupV u 1) 1)) H) E H
def Q15.call (a:OA)(c d:Nat)(E:VP)(H:Hp)(K:Hp→Prop):Prop:=callW P0 32 [.slice a c d] (fun r H=>ldR (.tup []) r fun u=>K H) E H
def Q16.call (a:Nat)(c:List Value)(E:VP)(H:Hp)(K:Int→Hp→Prop):Prop:=callW P0 40 [.func (.func a) ⟨[]⟩ ⟨c⟩] (fun r H=>ldR (.one false [.i .i64]) r fun u=>K (asI u) H) E H
def Q17.call (a c d e g i j k:Nat)(E:VP)(H:Hp)(K:Hp→Prop):Prop:=callW P0 41 [.pointer (some ⟨a,c,none⟩),.pointer (some ⟨d,e,none⟩),.pointer (some ⟨g,i,none⟩),.pointer (some ⟨j,k,none⟩)] (fun r H=>ldR (.tup []) r fun u=>K H) E H
def Q18.call (a:Int)(c:OA)(d e:Nat)(E:VP)(H:Hp)(K:Hp→Prop):Prop:=callW P0 42 [.agg ⟨[.int .i64 a,.slice c d e]⟩] (fun r H=>ldR (.tup []) r fun u=>K H) E H
def Q19.call (a:Int)(c:OA)(d e:Nat)(g:OA)(i j k:Nat)(l:List Value)(E:VP)(H:Hp)(K:Hp→Prop):Prop:=callW P0 43 [.agg ⟨[.int .i64 a,.slice c d e]⟩,.slice g i j,.func (.func k) ⟨[]⟩ ⟨l⟩] (fun r H=>ldR (.tup []) r fun u=>K H) E H
def Q20.call (a:Int)(E:VP)(H:Hp)(K:Int→Hp→Prop):Prop:=callW P0 44 [.int .i64 a] (fun r H=>ldR (.one false [.i .i64]) r fun u=>K (asI u) H) E H
def Q21.call (a:Bool)(c:Int)(E:VP)(H:Hp)(K:Hp→Prop):Prop:=callW P0 45 [.bool a,.int .i64 c] (fun r H=>ldR (.tup []) r fun u=>K H) E H
def Q22.call (a:Int)(c:OA)(d e:Nat)(g:OA)(j k:Nat)(E:VP)(H:Hp)(K:Int→Nat→(List Value)→Hp→Prop):Prop:=callW P0 46 [.int .i64 a,.agg ⟨[.slice c d e,.slice g j k]⟩] (fun r H=>ldR (.tup [(false,[.i .i64]),(false,[.fn])]) r fun u=>K (asI (tupV u 0)) (asF1 (tupV u 1)) (asF2 (tupV u 1)) H) E H
def Q23.call (a c d e:Int)(E:VP)(H:Hp)(K:Bool→Hp→Prop):Prop:=callW P0 47 [.agg ⟨[.int .i64 a,.int .i64 c,.int .i64 d,.int .i64 e]⟩] (fun r H=>ldR (.one false [.bool]) r fun u=>K (asB u) H) E H
def Q24.call (a:Int)(c:OA)(d e:Nat)(g:OA)(j k:Nat)(E:VP)(H:Hp)(K:Int→Hp→Prop):Prop:=callW P0 48 [.agg ⟨[.int .i64 a,.slice c d e]⟩,.slice g j k] (fun r H=>ldR (.one false [.i .i64]) r fun u=>K (asI u) H) E H
def Q25.call (a:Int)(c:OA)(d e:Nat)(E:VP)(H:Hp)(K:Int→Int→Hp→Prop):Prop:=callW P0 49 [.agg ⟨[.int .i64 a,.slice c d e]⟩] (fun r H=>ldR (.one true [.i .i64,.i .i64]) r fun u=>K (asI (cellV u 0)) (asI (cellV u 1)) H) E H
def Q26.call (a:Int)(c:OA)(d e:Nat)(E:VP)(H:Hp)(K:OA→Hp→Prop):Prop:=callW P0 50 [.agg ⟨[.int .i64 a,.slice c d e]⟩] (fun r H=>ldR (.one false [.ptr]) r fun u=>K (asP u) H) E H
def Q27.call (a:OA)(c:Int)(E:VP)(H:Hp)(K:Hp→Prop):Prop:=callW P0 51 [.pointer a,.int .i64 c] (fun r H=>ldR (.tup []) r fun u=>K H) E H
def Q28.call (a:OA)(c:Int)(E:VP)(H:Hp)(K:Int→Hp→Prop):Prop:=callW P0 52 [.pointer a,.int .i64 c] (fun r H=>ldR (.one false [.i .i64]) r fun u=>K (asI u) H) E H
def Q29.call (a:OA)(c:Int)(E:VP)(H:Hp)(K:Int→Hp→Prop):Prop:=callW P0 53 [.pointer a,.int .i64 c] (fun r H=>ldR (.one false [.i .i64]) r fun u=>K (asI u) H) E H
def Q30.call (a:Int)(c d e g i j:Nat)(E:VP)(H:Hp)(K:Bool→Hp→Prop):Prop:=callW P0 54 [.int .i64 a,.pointer (some ⟨c,d,none⟩),.pointer (some ⟨e,g,none⟩),.pointer (some ⟨i,j,none⟩)] (fun r H=>ldR (.one false [.bool]) r fun u=>K (asB u) H) E H
def Q31.call (a:OA)(c d:Int)(E:VP)(H:Hp)(K:Int→Hp→Prop):Prop:=callW P0 55 [.pointer a,.int .i64 c,.int .i64 d] (fun r H=>ldR (.one false [.i .i64]) r fun u=>K (asI u) H) E H
def Q32.call (a:OA)(c d e:Nat)(g:List Value)(E:VP)(H:Hp)(K:Bool→Hp→Prop):Prop:=callW P0 56 [.slice a c d,.func (.func e) ⟨[]⟩ ⟨g⟩] (fun r H=>ldR (.one false [.bool]) r fun u=>K (asB u) H) E H
def Q33.call (a:OA)(c d:Nat)(e:Int)(E:VP)(H:Hp)(K:OA→Nat→Nat→Hp→Prop):Prop:=callW P0 59 [.slice a c d,.int .i64 e] (fun r H=>ldR (.one false [.sl]) r fun u=>K (asS1 u) (asS2 u) (asS3 u) H) E H
def Q34.call (a:OA)(c d e:Nat)(g:List Value)(E:VP)(H:Hp)(K:Int→Int→Int→Hp→Prop):Prop:=callW P0 60 [.slice a c d,.func (.func e) ⟨[]⟩ ⟨g⟩] (fun r H=>ldR (.one true [.i .i64,.i .i64,.i .i64]) r fun u=>K (asI (cellV u 0)) (asI (cellV u 1)) (asI (cellV u 2)) H) E H
def Q35.call (a c d e g j:Int)(E:VP)(H:Hp)(K:Int→Hp→Prop):Prop:=callW P0 61 [.agg ⟨[.int .i64 a,.int .i64 c,.int .i64 d]⟩,.agg ⟨[.int .i64 e,.int .i64 g,.int .i64 j]⟩] (fun r H=>ldR (.one false [.i .i64]) r fun u=>K (asI u) H) E H
def Q36.call (a:OA)(E:VP)(H:Hp)(K:Hp→Prop):Prop:=callW P0 62 [.pointer a] (fun r H=>ldR (.tup []) r fun u=>K H) E H
def Q37.call (a:OA)(c:Int)(E:VP)(H:Hp)(K:OA→Nat→Nat→Hp→Prop):Prop:=callW P0 63 [.pointer a,.int .i64 c] (fun r H=>ldR (.one false [.sl]) r fun u=>K (asS1 u) (asS2 u) (asS3 u) H) E H
def Q38.call (a:OA)(c d:Nat)(e:Int)(E:VP)(H:Hp)(K:Hp→Prop):Prop:=callW P0 72 [.slice a c d,.int .i64 e] (fun r H=>ldR (.tup []) r fun u=>K H) E H
def Q39.call (a c:Int)(d e g j:Nat)(E:VP)(H:Hp)(K:Int→Hp→Prop):Prop:=callW P0 73 [.int .i64 a,.int .i64 c,.pointer (some ⟨d,e,none⟩),.pointer (some ⟨g,j,none⟩)] (fun r H=>ldR (.one false [.i .i64]) r fun u=>K (asI u) H) E H
def Q40.call (a c d e:Int)(E:VP)(H:Hp)(K:Bool→Hp→Prop):Prop:=callW P0 74 [.agg ⟨[.int .i64 a,.int .i64 c,.int .i64 d,.int .i64 e]⟩] (fun r H=>ldR (.one false [.bool]) r fun u=>K (asB u) H) E H
def Q41.call (a:OA)(c:Int)(E:VP)(H:Hp)(K:Hp→Prop):Prop:=callW P0 75 [.pointer a,.int .i64 c] (fun r H=>ldR (.tup []) r fun u=>K H) E H
def Q42.call (a:OA)(c:Int)(E:VP)(H:Hp)(K:Hp→Prop):Prop:=callW P0 76 [.pointer a,.int .i64 c] (fun r H=>ldR (.tup []) r fun u=>K H) E H
def Q43.call (a:OA)(c d e:Nat)(g:List Value)(E:VP)(H:Hp)(K:Int→Hp→Prop):Prop:=callW P0 77 [.slice a c d,.func (.func e) ⟨[]⟩ ⟨g⟩] (fun r H=>ldR (.one false [.i .i64]) r fun u=>K (asI u) H) E H
def Q44.call (a:OA)(c d e g i:Int)(E:VP)(H:Hp)(K:Hp→Prop):Prop:=callW P0 78 [.pointer a,.int .i64 c,.int .i64 d,.agg ⟨[.int .i64 e,.int .i64 g,.int .i64 i]⟩] (fun r H=>ldR (.tup []) r fun u=>K H) E H
def Q45.call (a:OA)(E:VP)(H:Hp)(K:Bool→Bool→Hp→Prop):Prop:=callW P0 79 [.pointer a] (fun r H=>ldR (.tup [(false,[.bool]),(false,[.bool])]) r fun u=>K (asB (tupV u 0)) (asB (tupV u 1)) H) E H
def Q46.call (a:OA)(E:VP)(H:Hp)(K:Hp→Prop):Prop:=callW P0 80 [.pointer a] (fun r H=>ldR (.tup []) r fun u=>K H) E H
def Q47.call (a:OA)(c d:Int)(E:VP)(H:Hp)(K:Int→Hp→Prop):Prop:=callW P0 94 [.pointer a,.int .i64 c,.int .i64 d] (fun r H=>ldR (.one false [.i .i64]) r fun u=>K (asI u) H) E H
def Q48.call (a:OA)(c d e:Int)(g:OA)(i j:Nat)(E:VP)(H:Hp)(K:Hp→Prop):Prop:=callW P0 95 [.pointer a,.int .i64 c,.int .i64 d,.int .i64 e,.slice g i j] (fun r H=>ldR (.tup []) r fun u=>K H) E H
def Q49.call (a:OA)(c d e:Int)(E:VP)(H:Hp)(K:Int→Hp→Prop):Prop:=callW P0 96 [.pointer a,.agg ⟨[.int .i64 c,.int .i64 d,.int .i64 e]⟩] (fun r H=>ldR (.one false [.i .i64]) r fun u=>K (asI u) H) E H
def Q50.call (a:OA)(c d e:Int)(E:VP)(H:Hp)(K:Hp→Prop):Prop:=callW P0 97 [.pointer a,.agg ⟨[.int .i64 c,.int .i64 d,.int .i64 e]⟩] (fun r H=>ldR (.tup []) r fun u=>K H) E H
def Q51.call (a:OA)(c:Int)(E:VP)(H:Hp)(K:OA→Nat→Nat→Hp→Prop):Prop:=callW P0 98 [.pointer a,.int .i64 c] (fun r H=>ldR (.one false [.sl]) r fun u=>K (asS1 u) (asS2 u) (asS3 u) H) E H
def Q52.call (a:OA)(c d e:Int)(g:OA)(i j:Nat)(k:OA)(l m:Nat)(E:VP)(H:Hp)(K:Hp→Prop):Prop:=callW P0 99 [.pointer a,.agg ⟨[.int .i64 c,.int .i64 d,.int .i64 e]⟩,.slice g i j,.slice k l m] (fun r H=>ldR (.tup []) r fun u=>K H) E H
def Q53.call (a:OA)(c d:Int)(E:VP)(H:Hp)(K:Hp→Prop):Prop:=callW P0 100 [.pointer a,.int .i64 c,.int .i64 d] (fun r H=>ldR (.tup []) r fun u=>K H) E H
def Q54.call (a:OA)(c:Int)(E:VP)(H:Hp)(K:Hp→Prop):Prop:=callW P0 101 [.pointer a,.int .i64 c] (fun r H=>ldR (.tup []) r fun u=>K H) E H
def Q55.call (a:OA)(c:Int)(E:VP)(H:Hp)(K:Int→Int→Int→Hp→Prop):Prop:=callW P0 108 [.pointer a,.int .i64 c] (fun r H=>ldR (.one true [.i .i64,.i .i64,.i .i64]) r fun u=>K (asI (cellV u 0)) (asI (cellV u 1)) (asI (cellV u 2)) H) E H
def Q56.call (a:OA)(c:Int)(E:VP)(H:Hp)(K:Hp→Prop):Prop:=callW P0 109 [.pointer a,.int .i64 c] (fun r H=>ldR (.tup []) r fun u=>K H) E H
def Q57.call (a:OA)(c d:Int)(E:VP)(H:Hp)(K:Hp→Prop):Prop:=callW P0 110 [.pointer a,.int .i64 c,.int .i64 d] (fun r H=>ldR (.tup []) r fun u=>K H) E H
def Q58.call (a:OA)(c d:Int)(E:VP)(H:Hp)(K:Int→Hp→Prop):Prop:=callW P0 111 [.pointer a,.int .i64 c,.int .i64 d] (fun r H=>ldR (.one false [.i .i64]) r fun u=>K (asI u) H) E H
def Q59.call (a:OA)(c d:Nat)(e:Int)(E:VP)(H:Hp)(K:Int→Hp→Prop):Prop:=callW P0 113 [.slice a c d,.int .i64 e] (fun r H=>ldR (.one false [.i .i64]) r fun u=>K (asI u) H) E H
end Go.Mz
