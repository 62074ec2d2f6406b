/-
  The shallow texts of functions (LFL), each with a kernel-checked equation to the translated code. It proves nothing of the program by itself.
-/
import Derived.Test.YtndgjfbibkdokaaTab
set_option linter.unusedVariables false
set_option maxRecDepth 100000
namespace Go.Mz
namespace Q0
abbrev KT:=Bool→Hp→Prop
abbrev S1 (α:Type):=OA→Nat→Nat→Int→Nat→Int→Int→Hp→α
abbrev S2 (α:Type):=OA→Nat→Nat→Int→Nat→Int→Int→Int→Int→Hp→α
section
variable (a:OA)(c d:Nat)(e:Int)(g:Nat)(o p k n:Int)(X1 X2:FP)(E:VP)(H:Hp)(K:KT)
noncomputable def A:An:={ live:=[(0,[0]),(1,[0]),(2,[]),(3,[0]),(4,[0,3,5,6]),(5,[3,5]),(6,[0,5]),(7,[0,5,7]),(8,[0,5,7,37,38]),(9,[0,5,7,37,38]),(10,[0,5,7,8,37,38]),(11,[0,5,7,8,9,37,38]),(12,[0,5,7,8,9,37,38]),(13,[0,5,7,8,9,37,38]),(14,[0,5,7,37,38]),(15,[5,7]),(16,[5,13,14])],ord:=[(13,[0,1,2,3,4,5,6,7,8,9,10,11,12,13,14,15])],stb:=[],pre:=[(13,[[],[0],[],[],[],[],[4,5],[4,5,6],[],[4,5,6,7,8],[4,5,6,7,8,9],[2,3,4,5,6,7,8,9,10],[2,3,4,5,6,7,8,9,10,11],[0,1,2,3,4,5,6,7,8,9,10,11,12],[0,1,2,3,4,5,6,7,8,9,10,11,12,13],[0,1,2,3,4,5,6,7,8,9,10,11,12,13,14]])] }
noncomputable def code:Code:=bodyOf Go.Proofs.Try.f8
def rq:Ex→FP:=retQ T0 [.tmp 2] [4] (fun r H=>ldR (.one false [.bool]) r fun u=>K (asB u) H) E
noncomputable def f1:Fr:=[(0,.slice a c d),(5,.int .i64 e),(7,.pointer (some ⟨g,0,none⟩)),(37,.int .i64 k),(38,.int .i64 n)]
noncomputable def f2:Fr:=[(0,.slice a c d),(5,.int .i64 e),(7,.pointer (some ⟨g,0,none⟩)),(8,.int .i64 o),(9,.int .i64 p),(37,.int .i64 k),(38,.int .i64 n)]
def run:Prop:=nodeM P0 T0 A code [] [] (rq E K) (argF 0 [.slice a c d]) H
def j1:Prop:=nodeM P0 T0 A code [1,1,1,1,1,0,1,0,0,1,1,1] [X1] (rq E K) (f1 a c d e g k n) H
def j2:Prop:=nodeM P0 T0 A code [1,1,1,1,1,1] [] (rq E K) [(5,.int .i64 e),(7,.pointer (some ⟨g,0,none⟩))] H
def l1:Prop:=nodeM P0 T0 A code [1,1,1,1,1,0,1,0] [] (rq E K) (f1 a c d e g k n) H
def b1:Prop:=nodeM P0 T0 A code [1,1,1,1,1,0,1,0,0] [X1] (rq E K) (f1 a c d e g k n) H
def l2:Prop:=nodeM P0 T0 A code [1,1,1,1,1,0,1,0,0,1,1,0,0,1,1,0] [X1] (rq E K) (f2 a c d e g o p k n) H
def b2:Prop:=nodeM P0 T0 A code [1,1,1,1,1,0,1,0,0,1,1,0,0,1,1,0,0] [X1,X2] (rq E K) (f2 a c d e g o p k n) H
variable {a c d e g o p k n X1 X2 E H K}
theorem ok:okCode A 85 code=true:=by kernel_rfl
theorem of (h:run a c d E H K):call a c d E H K:=
  callW_of T0_ok P0_mixed (A:=A) (fn:=Go.Proofs.Try.f8) Go.Proofs.Try.func8 rfl ok rfl h
theorem l1_rule (I:S1 Prop) (μ:S1 Nat)
 (h:∀a c d e g k n H,I a c d e g k n H→∀X:FP,(∀a' c' d' e' g' k' n' H',I a' c' d' e' g' k' n' H'→μ a' c' d' e' g' k' n' H'<μ a c d e g k n H→X (f1 a' c' d' e' g' k' n') H')→b1 a c d e g k n X E H K) (hI:I a c d e g k n H):l1 a c d e g k n E H K:=
 loop_rule2 (fun r m H=>∃a c d e g k n,r=f1 a c d e g k n∧m=μ a c d e g k n H∧I a c d e g k n H) (by rintro _ _ _ ⟨a,c,d,e,g,k,n,rfl,rfl,hI⟩ X hX; exact h _ _ _ _ _ _ _ _ hI X fun a' c' d' e' g' k' n' H' hI hl=>hX _ _ _ ⟨a',c',d',e',g',k',n',rfl,rfl,hI⟩ hl) rfl ⟨_,_,_,_,_,_,_,rfl,rfl,hI⟩
theorem l2_rule (I:S2 Prop) (μ:S2 Nat)
 (h:∀a c d e g o p k n H,I a c d e g o p k n H→∀X:FP,(∀a' c' d' e' g' o' p' k' n' H',I a' c' d' e' g' o' p' k' n' H'→μ a' c' d' e' g' o' p' k' n' H'<μ a c d e g o p k n H→X (f2 a' c' d' e' g' o' p' k' n') H')→b2 a c d e g o p k n X1 X E H K) (hI:I a c d e g o p k n H):l2 a c d e g o p k n X1 E H K:=
 loop_rule2 (fun r m H=>∃a c d e g o p k n,r=f2 a c d e g o p k n∧m=μ a c d e g o p k n H∧I a c d e g o p k n H) (by rintro _ _ _ ⟨a,c,d,e,g,o,p,k,n,rfl,rfl,hI⟩ X hX; exact h _ _ _ _ _ _ _ _ _ _ hI X fun a' c' d' e' g' o' p' k' n' H' hI hl=>hX _ _ _ ⟨a',c',d',e',g',o',p',k',n',rfl,rfl,hI⟩ hl) rfl ⟨_,_,_,_,_,_,_,_,_,rfl,rfl,hI⟩
theorem nok:nodesOk code [[0,1,0,1,1,1,1,1],[0,1,1,0,0,1,1,0,0,1,0,1,1,1,1,1],[1,1,1,0,0,1,0,1,1,1,1,1],[1,1,1,1,1,1]]=true:=by kernel_rfl
def run_t (l1:S1 Prop)(a:OA)(c d:Nat)(E:VP)(H:Hp)(K:KT):Prop:=
  Q1.call E H fun r1 H1=>
  bcase ((!r1)) (
  K false H1)
  (Q7.call a c d E H1 fun r2p r2n r2c r3_Yp r3_Yn r3_Yc r3_Setsp r3_Setsn r3_Setsc r4 r5 H2=>
  nw H2 ⟨[.slice none 0 0,.slice none 0 0],30⟩ fun B1 H3=>
  stC H3 B1 0 [.slice r3_Yp r3_Yn r3_Yc,.slice r3_Setsp r3_Setsn r3_Setsc] fun H4=>
  bcase (!decide ((r5:Int)=0)) (
  bcase (decide (((r2n:Int):Int)=0)) (
  K (decide ((r4:Int)=0)) H4)
  (K false H4))
  (nw H4 ⟨[.int .i64 0,.slice none 0 0],24⟩ fun B2 H5=>
  stC H5 B2 0 [.int .i64 (c:Int),.slice none 0 0] fun H6=>
  l1 a c d r4 B2 (c:Int) 0 H6))
theorem run_eq (h:run_t (fun a c d e g k n H=>l1 a c d e g k n E H K) a c d E H K):run a c d E H K:=by
  exact nodeR_imp2 (fun G=>run_t (fun a c d e g k n H=>G [0,1,0,1,1,1,1,1] (f1 a c d e g k n) H) a c d E H K) nok rfl (fun G=>by kernel_rfl) (Eq.mp (by kernel_rfl) h)
def j1_t (a:OA)(c d:Nat)(e:Int)(g:Nat)(k n:Int)(X1:FP)(E:VP)(H:Hp)(K:KT):Prop:=
  X1 (f1 a c d e g k (IntKind.wrap .i64 (n+1))) H
theorem j1_eq (h:j1_t a c d e g k n X1 E H K):j1 a c d e g k n X1 E H K:=by
  exact nodeR_imp2 (fun _=>j1_t a c d e g k n X1 E H K) nok rfl (fun G=>by kernel_rfl) h
def j2_t (e:Int)(g:Nat)(E:VP)(H:Hp)(K:KT):Prop:=
  ldI .i64 (H.get g 0) fun x1=>
  ldS (H.get g 1) fun x2p x2n x2c=>
  Q3.call x1 x2p x2n x2c E H fun r1p r1n r1c r2_Yp r2_Yn r2_Yc r2_Setsp r2_Setsn r2_Setsc r3p r3n r3c r4 r5 H1=>
  nw H1 ⟨[.slice none 0 0,.slice none 0 0],30⟩ fun B1 H2=>
  stC H2 B1 0 [.slice r2_Yp r2_Yn r2_Yc,.slice r2_Setsp r2_Setsn r2_Setsc] fun H3=>
  bcase (decide ((r5:Int)=31)) (
  K true H3)
  (bcase (decide ((r5:Int)=3)) (
  K true H3)
  (bcase (decide ((r5:Int)=0)) (
  K (decide ((r4:Int)=e)) H3)
  (K false H3)))
theorem j2_eq (h:j2_t e g E H K):j2 e g E H K:=by
  exact nodeR_imp2 (fun _=>j2_t e g E H K) nok rfl (fun G=>by kernel_rfl) h
def b1_t (l2:S2 Prop)(j2:Int→Nat→Hp→Prop)(a:OA)(c d:Nat)(e:Int)(g:Nat)(k n:Int)(X1:FP)(E:VP)(H:Hp)(K:KT):Prop:=
  bcase (decide ((n:Int)<k)) (
  l2 a c d e g n 0 k n H)
  (j2 e g H)
theorem b1_eq (h:b1_t (fun a c d e g o p k n H=>l2 a c d e g o p k n X1 E H K) (fun e g H=>j2 e g E H K) a c d e g k n X1 E H K):b1 a c d e g k n X1 E H K:=by
  exact nodeR_imp2 (fun G=>b1_t (fun a c d e g o p k n H=>G [0,1,1,0,0,1,1,0,0,1,0,1,1,1,1,1] (f2 a c d e g o p k n) H) (fun e g H=>G [1,1,1,1,1,1] [(5,.int .i64 e),(7,.pointer (some ⟨g,0,none⟩))] H) a c d e g k n X1 E H K) nok rfl (fun G=>by kernel_rfl) (Eq.mp (by kernel_rfl) h)
def b2_t (j1:OA→Nat→Nat→Int→Nat→Int→Int→Hp→Prop)(a:OA)(c d:Nat)(e:Int)(g:Nat)(o p k n:Int)(X1 X2:FP)(E:VP)(H:Hp)(K:KT):Prop:=
  bcase (decide ((p:Int)<o)) (
  ldS (H.get g 1) fun x1p x1n x1c=>
  ix a c p 1 fun B1 o1=>
  ldS (H.get B1 o1) fun x2p x2n x2c=>
  ix x2p x2n o 1 fun B2 o2=>
  ldI .i64 (H.get B2 o2) fun x3=>
  nw H ⟨[.int .i64 o,.int .i64 p,.int .i64 0,.int .i64 x3],49⟩ fun B3 H1=>
  appM 49 [.i .i64,.i .i64,.i .i64,.i .i64] 32 x1p x1n x1c (some ⟨B3,0,none⟩) 1 H1 fun a1p a1n a1c H2=>
  stC H2 g 1 [.slice a1p a1n a1c] fun H3=>
  X2 (f2 a c d e g o (IntKind.wrap .i64 (p+1)) k n) H3)
  (j1 a c d e g k n H)
theorem b2_eq (h:b2_t (fun a c d e g k n H=>j1 a c d e g k n X1 E H K) a c d e g o p k n X1 X2 E H K):b2 a c d e g o p k n X1 X2 E H K:=by
  exact nodeR_imp2 (fun G=>b2_t (fun a c d e g k n H=>G [1,1,1,0,0,1,0,1,1,1,1,1] (f1 a c d e g k n) H) a c d e g o p k n X1 X2 E H K) nok rfl (fun G=>by kernel_rfl) (Eq.mp (by kernel_rfl) h)
end
end Q0
end Go.Mz
