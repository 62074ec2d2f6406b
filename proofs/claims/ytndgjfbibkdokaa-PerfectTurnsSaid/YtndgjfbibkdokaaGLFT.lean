/-
  The shallow texts of functions (LFT), each with a kernel-checked equation to the translated code. It proves nothing of the program by itself.
-/
import Derived.Test.YtndgjfbibkdokaaTab
set_option linter.unusedVariables false
set_option maxRecDepth 100000
namespace Go.Mz
namespace Q0
abbrev KT:=Bool→Hp→Prop
abbrev S1 (α:Type):=Int→Int→Nat→Int→Int→Nat→Int→Hp→α
abbrev S2 (α:Type):=Int→Int→Int→Nat→Int→Int→Hp→α
section
variable (a:Int)(c:OA)(d e:Nat)(g k:Int)(n:Nat)(o p:Int)(v q:Nat)(w t y:Int)(X1:FP)(E:VP)(H:Hp)(K:KT)
noncomputable def A:An:={ live:=[(0,[0,1,2]),(1,[1,2,3]),(2,[]),(3,[1,2,3]),(4,[1,2,3,10,11]),(5,[1,2,3,10,11,12]),(6,[1,2,3,10,11,12,13]),(7,[1,2,3,10,11,12,13]),(8,[1,2,3,10,11,12,13]),(9,[1,2,3,10,11,12,13,14]),(10,[1,2,3,10,11,12]),(11,[1,2,3,10,11,18,19]),(12,[1,2,3,10,11,18,19,20]),(13,[10,11,18,19,20]),(14,[1,2,3,10,11,18,19]),(15,[]),(16,[1,2,3,10,11]),(17,[10,11]),(18,[1,2,3,10]),(19,[1,2,10,22]),(20,[1,2,10,22,138,139]),(21,[1,2,10,22,138,139]),(22,[1,2,10,22,23,138,139]),(23,[1,2,10,22,24,138,139]),(24,[1,2,10,22,24,138,139]),(25,[1,2,10,22,138,139]),(26,[2,10,22]),(27,[2,10,28,29])],ord:=[(23,[0,1,2,3,4,5,6,7,8,9,10,11,12])],stb:=[],pre:=[(23,[[],[0],[0,1],[0,1,2],[],[0,1,2,3,4],[],[6],[6,7],[6,7,8],[],[6,7,8,9,10],[0,1,2,3,4,5,6,7,8,9,10,11]])] }
noncomputable def code:Code:=bodyOf Go.Proofs.Try.f5
def rq:Ex→FP:=retQ T0 [.tmp 6] [4] (fun r H=>ldR (.one false [.bool]) r fun u=>K (asB u) H) E
noncomputable def f1:Fr:=[(1,.int .i64 g),(2,.int .i64 k),(3,.pointer (some ⟨n,0,none⟩)),(10,.int .i64 o),(11,.int .i64 p),(12,.pointer (some ⟨q,0,none⟩)),(13,.int .i64 t)]
noncomputable def f2:Fr:=[(1,.int .i64 g),(2,.int .i64 k),(10,.int .i64 o),(22,.pointer (some ⟨v,0,none⟩)),(138,.int .i64 w),(139,.int .i64 y)]
def run:Prop:=nodeM P0 T0 A code [] [] (rq E K) (argF 0 [.agg ⟨[.int .i64 a,.slice c d e]⟩,.int .i64 g,.int .i64 k]) H
def j1:Prop:=nodeM P0 T0 A code [1,1,1,1,1] [] (rq E K) [(1,.int .i64 g),(2,.int .i64 k),(3,.pointer (some ⟨n,0,none⟩)),(10,.int .i64 o),(11,.int .i64 p),(12,.pointer (some ⟨q,0,none⟩))] H
def j2:Prop:=nodeM P0 T0 A code [1,1,1,1,1,1,1,1,0,1,0] [] (rq E K) [(10,.int .i64 o),(11,.int .i64 p)] H
def j3:Prop:=nodeM P0 T0 A code [1,1,1,1,1,1,1,1,1,1,0,1,0,0,1,1,1] [X1] (rq E K) (f2 g k o v w y) H
def j4:Prop:=nodeM P0 T0 A code [1,1,1,1,1,1,1,1,1,1,1] [] (rq E K) [(2,.int .i64 k),(10,.int .i64 o),(22,.pointer (some ⟨v,0,none⟩))] H
def l1:Prop:=nodeM P0 T0 A code [1,1,1,1,0,1,0] [] (rq E K) (f1 g k n o p q t) H
def b1:Prop:=nodeM P0 T0 A code [1,1,1,1,0,1,0,0] [X1] (rq E K) (f1 g k n o p q t) H
def l2:Prop:=nodeM P0 T0 A code [1,1,1,1,1,1,1,1,1,1,0,1,0] [] (rq E K) (f2 g k o v w y) H
def b2:Prop:=nodeM P0 T0 A code [1,1,1,1,1,1,1,1,1,1,0,1,0,0] [X1] (rq E K) (f2 g k o v w y) H
variable {a c d e g k n o p v q w t y X1 E H K}
theorem ok:okCode A 189 code=true:=by kernel_rfl
theorem of (h:run a c d e g k E H K):call a c d e g k E H K:=
  callW_of T0_ok P0_mixed (A:=A) (fn:=Go.Proofs.Try.f5) Go.Proofs.Try.func5 rfl ok rfl h
theorem l1_rule (I:S1 Prop) (μ:S1 Nat)
 (h:∀g k n o p q t H,I g k n o p q t H→∀X:FP,(∀g' k' n' o' p' q' t' H',I g' k' n' o' p' q' t' H'→μ g' k' n' o' p' q' t' H'<μ g k n o p q t H→X (f1 g' k' n' o' p' q' t') H')→b1 g k n o p q t X E H K) (hI:I g k n o p q t H):l1 g k n o p q t E H K:=
 loop_rule2 (fun r m H=>∃g k n o p q t,r=f1 g k n o p q t∧m=μ g k n o p q t H∧I g k n o p q t H) (by rintro _ _ _ ⟨g,k,n,o,p,q,t,rfl,rfl,hI⟩ X hX; exact h _ _ _ _ _ _ _ _ hI X fun g' k' n' o' p' q' t' H' hI hl=>hX _ _ _ ⟨g',k',n',o',p',q',t',rfl,rfl,hI⟩ hl) rfl ⟨_,_,_,_,_,_,_,rfl,rfl,hI⟩
theorem l2_rule (I:S2 Prop) (μ:S2 Nat)
 (h:∀g k o v w y H,I g k o v w y H→∀X:FP,(∀g' k' o' v' w' y' H',I g' k' o' v' w' y' H'→μ g' k' o' v' w' y' H'<μ g k o v w y H→X (f2 g' k' o' v' w' y') H')→b2 g k o v w y X E H K) (hI:I g k o v w y H):l2 g k o v w y E H K:=
 loop_rule2 (fun r m H=>∃g k o v w y,r=f2 g k o v w y∧m=μ g k o v w y H∧I g k o v w y H) (by rintro _ _ _ ⟨g,k,o,v,w,y,rfl,rfl,hI⟩ X hX; exact h _ _ _ _ _ _ _ hI X fun g' k' o' v' w' y' H' hI hl=>hX _ _ _ ⟨g',k',o',v',w',y',rfl,rfl,hI⟩ hl) rfl ⟨_,_,_,_,_,_,rfl,rfl,hI⟩
theorem nok:nodesOk code [[0,1,0,1,1,1,1],[1,1,1,1,1],[0,1,0,1,1,1,1,1,1,1,1],[0,1,0,1,1,1,1,1,1,1,1,1,1],[1,1,1,0,0,1,0,1,1,1,1,1,1,1,1,1,1],[1,1,1,1,1,1,1,1,1,1,1]]=true:=by kernel_rfl
def run_t (l1:S1 Prop)(a:Int)(c:OA)(d e:Nat)(g k:Int)(E:VP)(H:Hp)(K:KT):Prop:=
  nw H ⟨[.int .i64 a,.slice c d e],24⟩ fun B1 H1=>
  Q1.call E H1 fun r1 H2=>
  bcase ((!r1)) (
  K false H2)
  (ldI .i64 (H2.get B1 0) fun x1=>
  ldS (H2.get B1 1) fun x2p x2n x2c=>
  Q3.call x1 x2p x2n x2c E H2 fun r2p r2n r2c r3_Yp r3_Yn r3_Yc r3_Setsp r3_Setsn r3_Setsc r4p r4n r4c r5 r6 H3=>
  nw H3 ⟨[.slice none 0 0,.slice none 0 0],30⟩ fun B2 H4=>
  stC H4 B2 0 [.slice r3_Yp r3_Yn r3_Yc,.slice r3_Setsp r3_Setsn r3_Setsc] fun H5=>
  ldI .i64 (H5.get B1 0) fun x3=>
  nw H5 ⟨[.int .i64 0,.slice none 0 0],24⟩ fun B3 H6=>
  stC H6 B3 0 [.int .i64 x3,.slice none 0 0] fun H7=>
  ldS (H7.get B1 1) fun x4p x4n x4c=>
  l1 g k B1 r5 r6 B3 (IntKind.wrap .i64 ((x4n:Int)-1)) H7)
theorem run_eq (h:run_t (fun g k n o p q t H=>l1 g k n o p q t E H K) a c d e g k E H K):run a c d e g k E H K:=by
  exact nodeR_imp2 (fun G=>run_t (fun g k n o p q t H=>G [0,1,0,1,1,1,1] (f1 g k n o p q t) H) a c d e g k E H K) nok rfl (fun G=>by kernel_rfl) (Eq.mp (by kernel_rfl) h)
def j1_t (j2:Int→Int→Hp→Prop)(l2:S2 Prop)(g k:Int)(n:Nat)(o p:Int)(q:Nat)(E:VP)(H:Hp)(K:KT):Prop:=
  ldI .i64 (H.get q 0) fun x1=>
  ldS (H.get q 1) fun x2p x2n x2c=>
  Q3.call x1 x2p x2n x2c E H fun r1p r1n r1c r2_Yp r2_Yn r2_Yc r2_Setsp r2_Setsn r2_Setsc r3p r3n r3c r4 r5 H1=>
  nw H1 ⟨[.slice none 0 0,.slice none 0 0],30⟩ fun B1 H2=>
  stC H2 B1 0 [.slice r2_Yp r2_Yn r2_Yc,.slice r2_Setsp r2_Setsn r2_Setsc] fun H3=>
  ldI .i64 (H3.get n 0) fun x3=>
  ldS (H3.get n 1) fun x4p x4n x4c=>
  Q7.call x3 x4p x4n x4c E H3 fun r6 r7 H4=>
  bcase (!decide ((r6:Int)=0)) (
  bcase (decide ((p:Int)=r6)) (
  bcase (!decide ((r5:Int)=0)) (
  bcase (decide ((r4:Int)=0)) (
  K (decide ((o:Int)=0)) H4)
  (K false H4))
  (K false H4))
  (K false H4))
  (bcase (!decide ((p:Int)=r5)) (
  K false H4)
  (bcase (!decide ((r4:Int)=o)) (
  K false H4)
  (bcase (!decide ((p:Int)=0)) (
  j2 o p H4)
  (bcase (decide ((k:Int)<(-1048576))) (
  j2 o p H4)
  (bcase (decide ((1048576:Int)<k)) (
  j2 o p H4)
  (bcase (decide ((g:Int)<0)) (
  j2 o p H4)
  (ldI .i64 (H4.get n 0) fun x5=>
  bcase (decide ((x5:Int)≤g)) (
  j2 o p H4)
  (ldI .i64 (H4.get n 0) fun x6=>
  ldS (H4.get n 1) fun x7p x7n x7c=>
  Q8.call x6 x7p x7n x7c E H4 fun r8_Nodes r8_Edgesp r8_Edgesn r8_Edgesc H5=>
  nw H5 ⟨[.int .i64 0,.slice none 0 0],24⟩ fun B2 H6=>
  stC H6 B2 0 [.int .i64 r8_Nodes,.slice r8_Edgesp r8_Edgesn r8_Edgesc] fun H7=>
  ldS (H7.get B2 1) fun x8p x8n x8c=>
  l2 g k o B2 (x8n:Int) 0 H7))))))))
theorem j1_eq (h:j1_t (fun o p H=>j2 o p E H K) (fun g k o v w y H=>l2 g k o v w y E H K) g k n o p q E H K):j1 g k n o p q E H K:=by
  exact nodeR_imp2 (fun G=>j1_t (fun o p H=>G [0,1,0,1,1,1,1,1,1,1,1] [(10,.int .i64 o),(11,.int .i64 p)] H) (fun g k o v w y H=>G [0,1,0,1,1,1,1,1,1,1,1,1,1] (f2 g k o v w y) H) g k n o p q E H K) nok rfl (fun G=>by kernel_rfl) (Eq.mp (by kernel_rfl) h)
def j2_t (o p:Int)(E:VP)(H:Hp)(K:KT):Prop:=
  bcase (decide ((p:Int)=0)) (
  K true H)
  (K (decide ((o:Int)=0)) H)
theorem j2_eq (h:j2_t o p E H K):j2 o p E H K:=by
  exact nodeR_imp2 (fun _=>j2_t o p E H K) nok rfl (fun G=>by kernel_rfl) h
def j3_t (g k o:Int)(v:Nat)(w y:Int)(X1:FP)(E:VP)(H:Hp)(K:KT):Prop:=
  X1 (f2 g k o v w (IntKind.wrap .i64 (y+1))) H
theorem j3_eq (h:j3_t g k o v w y X1 E H K):j3 g k o v w y X1 E H K:=by
  exact nodeR_imp2 (fun _=>j3_t g k o v w y X1 E H K) nok rfl (fun G=>by kernel_rfl) h
def j4_t (k o:Int)(v:Nat)(E:VP)(H:Hp)(K:KT):Prop:=
  ldI .i64 (H.get v 0) fun x1=>
  ldS (H.get v 1) fun x2p x2n x2c=>
  Q3.call x1 x2p x2n x2c E H fun r1p r1n r1c r2_Yp r2_Yn r2_Yc r2_Setsp r2_Setsn r2_Setsc r3p r3n r3c r4 r5 H1=>
  nw H1 ⟨[.slice none 0 0,.slice none 0 0],30⟩ fun B1 H2=>
  stC H2 B1 0 [.slice r2_Yp r2_Yn r2_Yc,.slice r2_Setsp r2_Setsn r2_Setsc] fun H3=>
  bcase (decide ((r5:Int)=31)) (
  K true H3)
  (bcase (decide ((r5:Int)=0)) (
  K (decide ((r4:Int)=(IntKind.wrap .i64 (o+k)))) H3)
  (K false H3))
theorem j4_eq (h:j4_t k o v E H K):j4 k o v E H K:=by
  exact nodeR_imp2 (fun _=>j4_t k o v E H K) nok rfl (fun G=>by kernel_rfl) h
def b1_t (j1:Int→Int→Nat→Int→Int→Nat→Hp→Prop)(g k:Int)(n:Nat)(o p:Int)(q:Nat)(t:Int)(X1:FP)(E:VP)(H:Hp)(K:KT):Prop:=
  bcase (decide ((0:Int)≤t)) (
  ldS (H.get n 1) fun x1p x1n x1c=>
  ix x1p x1n t 4 fun B1 o1=>
  ldI .i64 (H.get B1 o1) fun x2=>
  ldI .i64 (H.get B1 (o1+1)) fun x3=>
  ldI .i64 (H.get B1 (o1+2)) fun x4=>
  ldI .i64 (H.get B1 (o1+3)) fun x5=>
  nw H ⟨[.int .i64 0,.int .i64 0,.int .i64 0,.int .i64 0],49⟩ fun B2 H1=>
  stC H1 B2 0 [.int .i64 x2,.int .i64 x3,.int .i64 x4,.int .i64 x5] fun H2=>
  ldS (H2.get q 1) fun x6p x6n x6c=>
  ldI .i64 (H2.get B2 1) fun x7=>
  ldI .i64 (H2.get B2 0) fun x8=>
  ldI .i64 (H2.get B2 2) fun x9=>
  ldI .i64 (H2.get B2 3) fun x10=>
  nw H2 ⟨[.int .i64 x7,.int .i64 x8,.int .i64 x9,.int .i64 x10],49⟩ fun B3 H3=>
  appM 49 [.i .i64,.i .i64,.i .i64,.i .i64] 32 x6p x6n x6c (some ⟨B3,0,none⟩) 1 H3 fun a1p a1n a1c H4=>
  stC H4 q 1 [.slice a1p a1n a1c] fun H5=>
  X1 (f1 g k n o p q (IntKind.wrap .i64 (t-1))) H5)
  (j1 g k n o p q H)
theorem b1_eq (h:b1_t (fun g k n o p q H=>j1 g k n o p q E H K) g k n o p q t X1 E H K):b1 g k n o p q t X1 E H K:=by
  exact nodeR_imp2 (fun G=>b1_t (fun g k n o p q H=>G [1,1,1,1,1] [(1,.int .i64 g),(2,.int .i64 k),(3,.pointer (some ⟨n,0,none⟩)),(10,.int .i64 o),(11,.int .i64 p),(12,.pointer (some ⟨q,0,none⟩))] H) g k n o p q t X1 E H K) nok rfl (fun G=>by kernel_rfl) (Eq.mp (by kernel_rfl) h)
def b2_t (j3:Int→Int→Int→Nat→Int→Int→Hp→Prop)(j4:Int→Int→Nat→Hp→Prop)(g k o:Int)(v:Nat)(w y:Int)(X1:FP)(E:VP)(H:Hp)(K:KT):Prop:=
  bcase (decide ((y:Int)<w)) (
  ldS (H.get v 1) fun x1p x1n x1c=>
  ix x1p x1n y 4 fun B1 o1=>
  ldI .i64 (H.get B1 o1) fun x2=>
  ldI .i64 (H.get B1 (o1+1)) fun x3=>
  bcase (!((decide ((x2:Int)=g)) == (decide ((x3:Int)=g)))) (
  ldI .i64 (H.get B1 (o1+3)) fun x4=>
  stC H B1 (o1+3) [.int .i64 (IntKind.wrap .i64 (x4+k))] fun H1=>
  j3 g k o v w y H1)
  (j3 g k o v w y H))
  (j4 k o v H)
theorem b2_eq (h:b2_t (fun g k o v w y H=>j3 g k o v w y X1 E H K) (fun k o v H=>j4 k o v E H K) g k o v w y X1 E H K):b2 g k o v w y X1 E H K:=by
  exact nodeR_imp2 (fun G=>b2_t (fun g k o v w y H=>G [1,1,1,0,0,1,0,1,1,1,1,1,1,1,1,1,1] (f2 g k o v w y) H) (fun k o v H=>G [1,1,1,1,1,1,1,1,1,1,1] [(2,.int .i64 k),(10,.int .i64 o),(22,.pointer (some ⟨v,0,none⟩))] H) g k o v w y X1 E H K) nok rfl (fun G=>by kernel_rfl) (Eq.mp (by kernel_rfl) h)
end
end Q0
end Go.Mz
