/-
  The shallow texts of functions (R18), each with a kernel-checked equation to the translated code. It proves nothing of the program by itself.
-/
import Derived.Test.YtndgjfbibkdokaaTab
set_option linter.unusedVariables false
set_option maxRecDepth 100000
namespace Go.Mz
namespace Q8
abbrev KT:=Bool→Int→Hp→Prop
abbrev S1 (α:Type):=OA→Nat→Nat→Nat→Nat→Int→Hp→α
abbrev S2 (α:Type):=OA→Nat→Nat→Nat→Nat→Int→Nat→Int→Hp→α
section
variable (a:Int)(c:OA)(d e:Nat)(g:OA)(k n o p:Nat)(q:Int)(t:Nat)(v:Int)(w:Nat)(y:Int)(z:Nat)(X1:FP)(E:VP)(H:Hp)(K:KT)
noncomputable def A:An:={ live:=[(0,[0,1]),(1,[1,2,4]),(2,[1,2,4,5]),(3,[1,2,4,5]),(4,[1,2,4,5]),(5,[4]),(6,[1,2,4,5]),(7,[1,2,4,5,6]),(8,[1,2,4,5,6,7]),(9,[1,2,4,5,6,7]),(10,[1,2,4,5,6,7]),(11,[1,2,4,5,6,7,8]),(12,[1,2,4,5,6,7,8,9]),(13,[1,2,4,5,6,7,8,9]),(14,[1,2,4,5,6,7,8,9,10]),(15,[1,2,4,5,6,7,8,9,10]),(16,[1,2,4,5,6,7,8,10]),(17,[1,2,4,5,6,7,8,11]),(18,[1,2,4,5,6,7,8,11]),(19,[4,6])],ord:=[],stb:=[],pre:=[] }
noncomputable def code:Code:=bodyOf Go.Proofs.Try.f17
def rq:Ex→FP:=retQ T0 [.cell 4 45] [45] (fun r H=>ldR (.one true [.bool,.i .i64]) r fun u=>K (asB (cellV u 0)) (asI (cellV u 1)) H) E
noncomputable def f1:Fr:=[(1,.slice g k n),(2,.pointer (some ⟨o,0,none⟩)),(4,.pointer (some ⟨p,0,none⟩)),(5,.int .i64 q)]
noncomputable def f2:Fr:=[(1,.slice g k n),(2,.pointer (some ⟨o,0,none⟩)),(4,.pointer (some ⟨p,0,none⟩)),(5,.int .i64 q),(6,.pointer (some ⟨t,0,none⟩)),(7,.int .i64 v)]
def run:Prop:=nodeM P0 T0 A code [] [] (rq E K) (argF 0 [.agg ⟨[.int .i64 a,.slice c d e]⟩,.slice g k n]) H
def j1:Prop:=nodeM P0 T0 A code [1,1,1] [] (rq E K) (f1 g k n o p q) H
def j2:Prop:=nodeM P0 T0 A code [1,1,1,1,1,0,1,0,0,1,0,0,1,1,1] [X1] (rq E K) [(1,.slice g k n),(2,.pointer (some ⟨o,0,none⟩)),(4,.pointer (some ⟨p,0,none⟩)),(5,.int .i64 q),(6,.pointer (some ⟨t,0,none⟩)),(7,.int .i64 v),(8,.pointer (some ⟨w,0,none⟩)),(9,.int .i64 y)] H
def j3:Prop:=nodeM P0 T0 A code [1,1,1,1,1,0,1,0,0,1,0,0,1,1,1,1,1,1,1,1,0] [X1] (rq E K) [(1,.slice g k n),(2,.pointer (some ⟨o,0,none⟩)),(4,.pointer (some ⟨p,0,none⟩)),(5,.int .i64 q),(6,.pointer (some ⟨t,0,none⟩)),(7,.int .i64 v),(8,.pointer (some ⟨w,0,none⟩)),(11,.pointer (some ⟨z,0,none⟩))] H
def j4:Prop:=nodeM P0 T0 A code [1,1,1,1,1,0,1,0,0,1,1] [X1] (rq E K) (f2 g k n o p q t v) H
def j5:Prop:=nodeM P0 T0 A code [1,1,1,1,1,1] [] (rq E K) [(4,.pointer (some ⟨p,0,none⟩)),(6,.pointer (some ⟨t,0,none⟩))] H
def l1:Prop:=nodeM P0 T0 A code [1,1,0,0] [] (rq E K) (f1 g k n o p q) H
def b1:Prop:=nodeM P0 T0 A code [1,1,0,0,0] [X1] (rq E K) (f1 g k n o p q) H
def l2:Prop:=nodeM P0 T0 A code [1,1,1,1,1,0,1,0] [] (rq E K) (f2 g k n o p q t v) H
def b2:Prop:=nodeM P0 T0 A code [1,1,1,1,1,0,1,0,0] [X1] (rq E K) (f2 g k n o p q t v) H
variable {a c d e g k n o p q t v w y z X1 E H K}
theorem ok:okCode A 108 code=true:=by kernel_rfl
theorem of (h:run a c d e g k n E H K):call a c d e g k n E H K:=
  callW_of T0_ok P0_mixed (A:=A) (fn:=Go.Proofs.Try.f17) Go.Proofs.Try.func17 rfl ok rfl h
theorem l1_rule (I:S1 Prop) (μ:S1 Nat)
 (h:∀g k n o p q H,I g k n o p q H→∀X:FP,(∀g' k' n' o' p' q' H',I g' k' n' o' p' q' H'→μ g' k' n' o' p' q' H'<μ g k n o p q H→X (f1 g' k' n' o' p' q') H')→b1 g k n o p q X E H K) (hI:I g k n o p q H):l1 g k n o p q E H K:=
 loop_rule2 (fun r m H=>∃g k n o p q,r=f1 g k n o p q∧m=μ g k n o p q H∧I g k n o p q H) (by rintro _ _ _ ⟨g,k,n,o,p,q,rfl,rfl,hI⟩ X hX; exact h _ _ _ _ _ _ _ hI X fun g' k' n' o' p' q' H' hI hl=>hX _ _ _ ⟨g',k',n',o',p',q',rfl,rfl,hI⟩ hl) rfl ⟨_,_,_,_,_,_,rfl,rfl,hI⟩
theorem l2_rule (I:S2 Prop) (μ:S2 Nat)
 (h:∀g k n o p q t v H,I g k n o p q t v H→∀X:FP,(∀g' k' n' o' p' q' t' v' H',I g' k' n' o' p' q' t' v' H'→μ g' k' n' o' p' q' t' v' H'<μ g k n o p q t v H→X (f2 g' k' n' o' p' q' t' v') H')→b2 g k n o p q t v X E H K) (hI:I g k n o p q t v H):l2 g k n o p q t v E H K:=
 loop_rule2 (fun r m H=>∃g k n o p q t v,r=f2 g k n o p q t v∧m=μ g k n o p q t v H∧I g k n o p q t v H) (by rintro _ _ _ ⟨g,k,n,o,p,q,t,v,rfl,rfl,hI⟩ X hX; exact h _ _ _ _ _ _ _ _ _ hI X fun g' k' n' o' p' q' t' v' H' hI hl=>hX _ _ _ ⟨g',k',n',o',p',q',t',v',rfl,rfl,hI⟩ hl) rfl ⟨_,_,_,_,_,_,_,_,rfl,rfl,hI⟩
theorem nok:nodesOk code [[0,0,1,1],[1,1,1],[0,1,0,1,1,1,1,1],[1,1,1,0,0,1,0,0,1,0,1,1,1,1,1],[0,1,1,1,1,1,1,1,1,0,0,1,0,0,1,0,1,1,1,1,1],[1,1,0,0,1,0,1,1,1,1,1],[1,1,1,1,1,1]]=true:=by kernel_rfl
def run_t (l1:S1 Prop)(a:Int)(c:OA)(d e:Nat)(g:OA)(k n:Nat)(E:VP)(H:Hp)(K:KT):Prop:=
  nw H ⟨[.int .i64 a,.slice c d e],24⟩ fun B1 H1=>
  nw H1 ⟨[.bool false,.int .i64 0],45⟩ fun B2 H2=>
  l1 g k n B1 B2 0 H2
theorem run_eq (h:run_t (fun g k n o p q H=>l1 g k n o p q E H K) a c d e g k n E H K):run a c d e g k n E H K:=by
  exact nodeR_imp2 (fun G=>run_t (fun g k n o p q H=>G [0,0,1,1] (f1 g k n o p q) H) a c d e g k n E H K) nok rfl (fun G=>by kernel_rfl) (Eq.mp (by kernel_rfl) h)
def j1_t (l2:S2 Prop)(g:OA)(k n o p:Nat)(q:Int)(E:VP)(H:Hp)(K:KT):Prop:=
  ldI .i64 (H.get o 0) fun x1=>
  bcase (decide ((q:Int)=x1)) (
  stC H p 0 [.bool true,.int .i64 0] fun H1=>
  ldB (H1.get p 0) fun x2=>
  ldI .i64 (H1.get p 1) fun x3=>
  K x2 x3 H1)
  (nw H ⟨[.bool false,.int .i64 0],45⟩ fun B1 H2=>
  stC H2 B1 0 [.bool false,.int .i64 0] fun H3=>
  l2 g k n o p q B1 0 H3)
theorem j1_eq (h:j1_t (fun g k n o p q t v H=>l2 g k n o p q t v E H K) g k n o p q E H K):j1 g k n o p q E H K:=by
  exact nodeR_imp2 (fun G=>j1_t (fun g k n o p q t v H=>G [0,1,0,1,1,1,1,1] (f2 g k n o p q t v) H) g k n o p q E H K) nok rfl (fun G=>by kernel_rfl) (Eq.mp (by kernel_rfl) h)
def j2_t (j3:OA→Nat→Nat→Nat→Nat→Int→Nat→Int→Nat→Nat→Hp→Prop)(j4:OA→Nat→Nat→Nat→Nat→Int→Nat→Int→Hp→Prop)(g:OA)(k n o p:Nat)(q:Int)(t:Nat)(v:Int)(w:Nat)(y:Int)(X1:FP)(E:VP)(H:Hp)(K:KT):Prop:=
  nw H ⟨[],4⟩ fun B1 H1=>
  appM 4 [.bool] 1 (some ⟨B1,0,none⟩) 0 0 g k H1 fun a1p a1n a1c H2=>
  ix a1p a1n q 1 fun B2 o1=>
  stC H2 B2 o1 [.bool true] fun H3=>
  ix a1p a1n y 1 fun B3 o2=>
  stC H3 B3 o2 [.bool true] fun H4=>
  ldI .i64 (H4.get o 0) fun x1=>
  ldS (H4.get o 1) fun x2p x2n x2c=>
  call x1 x2p x2n x2c a1p a1n a1c E H4 fun r1_Any r1_Cost H5=>
  nw H5 ⟨[.bool false,.int .i64 0],45⟩ fun B4 H6=>
  stC H6 B4 0 [.bool r1_Any,.int .i64 r1_Cost] fun H7=>
  ldB (H7.get B4 0) fun x3=>
  bcase (x3) (
  ldB (H7.get t 0) fun x4=>
  bcase ((!x4)) (
  j3 g k n o p q t v w B4 H7)
  (ldI .i64 (H7.get B4 1) fun x5=>
  ldI .i64 (H7.get w 3) fun x6=>
  ldI .i64 (H7.get t 1) fun x7=>
  bcase (decide (((IntKind.wrap .i64 (x5+x6)):Int)<x7)) (
  j3 g k n o p q t v w B4 H7)
  (j4 g k n o p q t v H7)))
  (j4 g k n o p q t v H7)
theorem j2_eq (h:j2_t (fun g k n o p q t v w z H=>j3 g k n o p q t v w z X1 E H K) (fun g k n o p q t v H=>j4 g k n o p q t v X1 E H K) g k n o p q t v w y X1 E H K):j2 g k n o p q t v w y X1 E H K:=by
  exact nodeR_imp2 (fun G=>j2_t (fun g k n o p q t v w z H=>G [0,1,1,1,1,1,1,1,1,0,0,1,0,0,1,0,1,1,1,1,1] [(1,.slice g k n),(2,.pointer (some ⟨o,0,none⟩)),(4,.pointer (some ⟨p,0,none⟩)),(5,.int .i64 q),(6,.pointer (some ⟨t,0,none⟩)),(7,.int .i64 v),(8,.pointer (some ⟨w,0,none⟩)),(11,.pointer (some ⟨z,0,none⟩))] H) (fun g k n o p q t v H=>G [1,1,0,0,1,0,1,1,1,1,1] (f2 g k n o p q t v) H) g k n o p q t v w y X1 E H K) nok rfl (fun G=>by kernel_rfl) (Eq.mp (by kernel_rfl) h)
def j3_t (j4:OA→Nat→Nat→Nat→Nat→Int→Nat→Int→Hp→Prop)(g:OA)(k n o p:Nat)(q:Int)(t:Nat)(v:Int)(w z:Nat)(X1:FP)(E:VP)(H:Hp)(K:KT):Prop:=
  ldI .i64 (H.get z 1) fun x1=>
  ldI .i64 (H.get w 3) fun x2=>
  stC H t 0 [.bool true,.int .i64 (IntKind.wrap .i64 (x1+x2))] fun H1=>
  j4 g k n o p q t v H1
theorem j3_eq (h:j3_t (fun g k n o p q t v H=>j4 g k n o p q t v X1 E H K) g k n o p q t v w z X1 E H K):j3 g k n o p q t v w z X1 E H K:=by
  exact nodeR_imp2 (fun G=>j3_t (fun g k n o p q t v H=>G [1,1,0,0,1,0,1,1,1,1,1] (f2 g k n o p q t v) H) g k n o p q t v w z X1 E H K) nok rfl (fun G=>by kernel_rfl) (Eq.mp (by kernel_rfl) h)
def j4_t (g:OA)(k n o p:Nat)(q:Int)(t:Nat)(v:Int)(X1:FP)(E:VP)(H:Hp)(K:KT):Prop:=
  X1 (f2 g k n o p q t (IntKind.wrap .i64 (v+1))) H
theorem j4_eq (h:j4_t g k n o p q t v X1 E H K):j4 g k n o p q t v X1 E H K:=by
  exact nodeR_imp2 (fun _=>j4_t g k n o p q t v X1 E H K) nok rfl (fun G=>by kernel_rfl) h
def j5_t (p t:Nat)(E:VP)(H:Hp)(K:KT):Prop:=
  ldB (H.get t 0) fun x1=>
  ldI .i64 (H.get t 1) fun x2=>
  stC H p 0 [.bool x1,.int .i64 x2] fun H1=>
  ldB (H1.get p 0) fun x3=>
  ldI .i64 (H1.get p 1) fun x4=>
  K x3 x4 H1
theorem j5_eq (h:j5_t p t E H K):j5 p t E H K:=by
  exact nodeR_imp2 (fun _=>j5_t p t E H K) nok rfl (fun G=>by kernel_rfl) h
def b1_t (j1:OA→Nat→Nat→Nat→Nat→Int→Hp→Prop)(g:OA)(k n o p:Nat)(q:Int)(X1:FP)(E:VP)(H:Hp)(K:KT):Prop:=
  ldI .i64 (H.get o 0) fun x1=>
  bcase (decide ((q:Int)<x1)) (
  ix g k q 1 fun B1 o1=>
  ldB (H.get B1 o1) fun x2=>
  bcase (x2) (
  X1 (f1 g k n o p (IntKind.wrap .i64 (q+1))) H)
  (j1 g k n o p q H))
  (j1 g k n o p q H)
theorem b1_eq (h:b1_t (fun g k n o p q H=>j1 g k n o p q E H K) g k n o p q X1 E H K):b1 g k n o p q X1 E H K:=by
  exact nodeR_imp2 (fun G=>b1_t (fun g k n o p q H=>G [1,1,1] (f1 g k n o p q) H) g k n o p q X1 E H K) nok rfl (fun G=>by kernel_rfl) (Eq.mp (by kernel_rfl) h)
def b2_t (j2:OA→Nat→Nat→Nat→Nat→Int→Nat→Int→Nat→Int→Hp→Prop)(j4:OA→Nat→Nat→Nat→Nat→Int→Nat→Int→Hp→Prop)(j5:Nat→Nat→Hp→Prop)(g:OA)(k n o p:Nat)(q:Int)(t:Nat)(v:Int)(X1:FP)(E:VP)(H:Hp)(K:KT):Prop:=
  ldS (H.get o 1) fun x1p x1n x1c=>
  bcase (decide ((v:Int)<(x1n:Int))) (
  ldS (H.get o 1) fun x2p x2n x2c=>
  ix x2p x2n v 4 fun B1 o1=>
  ldI .i64 (H.get B1 o1) fun x3=>
  ldI .i64 (H.get B1 (o1+1)) fun x4=>
  ldI .i64 (H.get B1 (o1+2)) fun x5=>
  ldI .i64 (H.get B1 (o1+3)) fun x6=>
  nw H ⟨[.int .i64 0,.int .i64 0,.int .i64 0,.int .i64 0],49⟩ fun B2 H1=>
  stC H1 B2 0 [.int .i64 x3,.int .i64 x4,.int .i64 x5,.int .i64 x6] fun H2=>
  ldI .i64 (H2.get B2 0) fun x7=>
  ldI .i64 (H2.get B2 1) fun x8=>
  ldI .i64 (H2.get B2 0) fun x9=>
  ldI .i64 (H2.get B2 1) fun x10=>
  bcase (decide ((x9:Int)=x10)) (
  j4 g k n o p q t v H2)
  (ldI .i64 (H2.get B2 0) fun x11=>
  bcase (!decide ((x11:Int)=q)) (
  ldI .i64 (H2.get B2 1) fun x12=>
  bcase (!decide ((x12:Int)=q)) (
  j4 g k n o p q t v H2)
  (ix g k (IntKind.wrap .i64 ((IntKind.wrap .i64 (x7+x8))-q)) 1 fun B3 o2=>
  ldB (H2.get B3 o2) fun x13=>
  bcase (x13) (
  j4 g k n o p q t v H2)
  (j2 g k n o p q t v B2 (IntKind.wrap .i64 ((IntKind.wrap .i64 (x7+x8))-q)) H2)))
  (ix g k (IntKind.wrap .i64 ((IntKind.wrap .i64 (x7+x8))-q)) 1 fun B4 o3=>
  ldB (H2.get B4 o3) fun x14=>
  bcase (x14) (
  j4 g k n o p q t v H2)
  (j2 g k n o p q t v B2 (IntKind.wrap .i64 ((IntKind.wrap .i64 (x7+x8))-q)) H2))))
  (j5 p t H)
theorem b2_eq (h:b2_t (fun g k n o p q t v w y H=>j2 g k n o p q t v w y X1 E H K) (fun g k n o p q t v H=>j4 g k n o p q t v X1 E H K) (fun p t H=>j5 p t E H K) g k n o p q t v X1 E H K):b2 g k n o p q t v X1 E H K:=by
  exact nodeR_imp2 (fun G=>b2_t (fun g k n o p q t v w y H=>G [1,1,1,0,0,1,0,0,1,0,1,1,1,1,1] [(1,.slice g k n),(2,.pointer (some ⟨o,0,none⟩)),(4,.pointer (some ⟨p,0,none⟩)),(5,.int .i64 q),(6,.pointer (some ⟨t,0,none⟩)),(7,.int .i64 v),(8,.pointer (some ⟨w,0,none⟩)),(9,.int .i64 y)] H) (fun g k n o p q t v H=>G [1,1,0,0,1,0,1,1,1,1,1] (f2 g k n o p q t v) H) (fun p t H=>G [1,1,1,1,1,1] [(4,.pointer (some ⟨p,0,none⟩)),(6,.pointer (some ⟨t,0,none⟩))] H) g k n o p q t v X1 E H K) nok rfl (fun G=>by kernel_rfl) (Eq.mp (by kernel_rfl) h)
end
end Q8
end Go.Mz
