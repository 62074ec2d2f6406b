/-
  The shallow texts of functions (Rec), each with a kernel-checked equation to the translated code. It proves nothing of the program by itself.
-/
import Derived.Test.YtndgjfbibkdokaaTab
set_option linter.unusedVariables false
set_option maxRecDepth 100000
namespace Go.Mz
namespace Q8
abbrev KT:=Int→Hp→Prop
section
variable (a:Int)(c:OA)(d e:Nat)(g:OA)(k n:Nat)(E:VP)(H:Hp)(K:KT)
noncomputable def A:An:={ live:=[(0,[0,1]),(1,[1,2]),(2,[1,2,5]),(3,[]),(4,[5])],ord:=[],stb:=[],pre:=[] }
noncomputable def code:Code:=bodyOf Go.Proofs.Try.f14
def rq:Ex→FP:=retQ T0 [.tmp 4] [3] (fun r H=>ldR (.one false [.i .i64]) r fun u=>K (asI u) H) E
def run:Prop:=nodeM P0 T0 A code [] [] (rq E K) (argF 0 [.agg ⟨[.int .i64 a,.slice c d e]⟩,.slice g k n]) H
variable {a c d e g k n E H K}
theorem ok:okCode A 30 code=true:=by kernel_rfl
theorem of (h:run a c d e g k n E H K):call a c d e g k n E H K:=
  callW_of T0_ok P0_mixed (A:=A) (fn:=Go.Proofs.Try.f14) Go.Proofs.Try.func14 rfl ok rfl h
theorem nok:nodesOk code []=true:=by kernel_rfl
def run_t (a:Int)(c:OA)(d e:Nat)(g:OA)(k n:Nat)(E:VP)(H:Hp)(K:KT):Prop:=
  nw H ⟨[.int .i64 a,.slice c d e],24⟩ fun B1 H1=>
  ldI .i64 (H1.get B1 0) fun x1=>
  ldS (H1.get B1 1) fun x2p x2n x2c=>
  Q7.call x1 x2p x2n x2c E H1 fun r1 r2 H2=>
  bcase (decide ((r1:Int)=0)) (
  ldI .i64 (H2.get B1 0) fun x3=>
  Q20.call g k n x3 E H2 fun r3 H3=>
  bcase ((!r3)) (
  K 221 H3)
  (ldI .i64 (H3.get B1 0) fun x4=>
  ldS (H3.get B1 1) fun x5p x5n x5c=>
  Q21.call x4 x5p x5n x5c g k n E H3 fun r4 H4=>
  bcase (decide ((r4:Int)≤(k:Int))) (
  K 221 H4)
  (K r1 H4)))
  (K r1 H2)
theorem run_eq (h:run_t a c d e g k n E H K):run a c d e g k n E H K:=by
  exact nodeR_imp2 (fun _=>run_t a c d e g k n E H K) nok rfl (fun G=>by kernel_rfl) h
end
end Q8
namespace Q21
abbrev KT:=Int→Hp→Prop
abbrev S1 (α:Type):=OA→Nat→Nat→Nat→Nat→Int→Hp→α
abbrev S2 (α:Type):=OA→Nat→Nat→Nat→OA→Nat→Nat→OA→Nat→Nat→Int→Hp→α
abbrev S3 (α:Type):=Nat→OA→Nat→Nat→Int→Int→Hp→α
section
variable (a:Int)(c:OA)(d e:Nat)(g:OA)(k n o p:Nat)(t:OA)(q:Int)(v w:Nat)(y:OA)(z aa:Nat)(ab ac ad:Int)(X1:FP)(E:VP)(H:Hp)(K:KT)
noncomputable def A:An:={ live:=[(0,[0,1]),(1,[1,2]),(2,[1,2,5]),(3,[1,2,5,6]),(4,[1,2,5,6]),(5,[1,2,5,6]),(6,[1,2,5,6]),(7,[1,2,5]),(8,[1,2,7]),(9,[1,2,7,9]),(10,[1,2,7,9,10]),(11,[1,2,7,9,10]),(12,[1,2,7,9,10]),(13,[1,2,7,9,10]),(14,[2,9]),(15,[2,9,11]),(16,[2,9,11,12]),(17,[2,9,11,12]),(18,[2,9,11,12]),(19,[11])],ord:=[(6,[0,1,2,3,4,5,6,7,8,9,10])],stb:=[],pre:=[(6,[[],[0],[],[2],[],[2,3,4],[2,3,4,5],[2,3,4,5,6],[0,1,2,3,4,5,6,7],[0,1,2,3,4,5,6,7,8],[0,1,2,3,4,5,6,7,8,9]])] }
noncomputable def code:Code:=bodyOf Go.Proofs.Try.f35
def rq:Ex→FP:=retQ T0 [.tmp 4] [3] (fun r H=>ldR (.one false [.i .i64]) r fun u=>K (asI u) H) E
noncomputable def f1:Fr:=[(1,.slice g k n),(2,.pointer (some ⟨o,0,none⟩)),(5,.pointer (some ⟨p,0,none⟩)),(6,.int .i64 q)]
noncomputable def f2:Fr:=[(1,.slice g k n),(2,.pointer (some ⟨o,0,none⟩)),(7,.slice t v w),(9,.slice y z aa),(10,.int .i64 ab)]
noncomputable def f3:Fr:=[(2,.pointer (some ⟨o,0,none⟩)),(9,.slice y z aa),(11,.int .i64 ac),(12,.int .i64 ad)]
def run:Prop:=nodeM P0 T0 A code [] [] (rq E K) (argF 0 [.agg ⟨[.int .i64 a,.slice c d e]⟩,.slice g k n]) H
def j1:Prop:=nodeM P0 T0 A code [1,1,0,1,0,0,1,1] [X1] (rq E K) (f1 g k n o p q) H
def j2:Prop:=nodeM P0 T0 A code [1,1,1] [] (rq E K) [(1,.slice g k n),(2,.pointer (some ⟨o,0,none⟩)),(5,.pointer (some ⟨p,0,none⟩))] H
def j3:Prop:=nodeM P0 T0 A code [1,1,1,1,1,0,1,0,0,1,1] [X1] (rq E K) (f2 g k n o t v w y z aa ab) H
def j4:Prop:=nodeM P0 T0 A code [1,1,1,1,1,1] [] (rq E K) [(2,.pointer (some ⟨o,0,none⟩)),(9,.slice y z aa)] H
def l1:Prop:=nodeM P0 T0 A code [1,1,0,1,0] [] (rq E K) (f1 g k n o p q) H
def b1:Prop:=nodeM P0 T0 A code [1,1,0,1,0,0] [X1] (rq E K) (f1 g k n o p q) H
def l2:Prop:=nodeM P0 T0 A code [1,1,1,1,1,0,1,0] [] (rq E K) (f2 g k n o t v w y z aa ab) H
def b2:Prop:=nodeM P0 T0 A code [1,1,1,1,1,0,1,0,0] [X1] (rq E K) (f2 g k n o t v w y z aa ab) H
def l3:Prop:=nodeM P0 T0 A code [1,1,1,1,1,1,1,0,1,0] [] (rq E K) (f3 o y z aa ac ad) H
def b3:Prop:=nodeM P0 T0 A code [1,1,1,1,1,1,1,0,1,0,0] [X1] (rq E K) (f3 o y z aa ac ad) H
variable {a c d e g k n o p t q v w y z aa ab ac ad X1 E H K}
theorem ok:okCode A 94 code=true:=by kernel_rfl
theorem of (h:run a c d e g k n E H K):call a c d e g k n E H K:=
  callW_of T0_ok P0_mixed (A:=A) (fn:=Go.Proofs.Try.f35) Go.Proofs.Try.func35 rfl ok rfl h
theorem l1_rule (I:S1 Prop) (μ:S1 Nat)
 (h:∀g k n o p q H,I g k n o p q H→∀X:FP,(∀g' k' n' o' p' q' H',I g' k' n' o' p' q' H'→μ g' k' n' o' p' q' H'<μ g k n o p q H→X (f1 g' k' n' o' p' q') H')→b1 g k n o p q X E H K) (hI:I g k n o p q H):l1 g k n o p q E H K:=
 loop_rule2 (fun r m H=>∃g k n o p q,r=f1 g k n o p q∧m=μ g k n o p q H∧I g k n o p q H) (by rintro _ _ _ ⟨g,k,n,o,p,q,rfl,rfl,hI⟩ X hX; exact h _ _ _ _ _ _ _ hI X fun g' k' n' o' p' q' H' hI hl=>hX _ _ _ ⟨g',k',n',o',p',q',rfl,rfl,hI⟩ hl) rfl ⟨_,_,_,_,_,_,rfl,rfl,hI⟩
theorem l2_rule (I:S2 Prop) (μ:S2 Nat)
 (h:∀g k n o t v w y z aa ab H,I g k n o t v w y z aa ab H→∀X:FP,(∀g' k' n' o' t' v' w' y' z' aa' ab' H',I g' k' n' o' t' v' w' y' z' aa' ab' H'→μ g' k' n' o' t' v' w' y' z' aa' ab' H'<μ g k n o t v w y z aa ab H→X (f2 g' k' n' o' t' v' w' y' z' aa' ab') H')→b2 g k n o t v w y z aa ab X E H K) (hI:I g k n o t v w y z aa ab H):l2 g k n o t v w y z aa ab E H K:=
 loop_rule2 (fun r m H=>∃g k n o t v w y z aa ab,r=f2 g k n o t v w y z aa ab∧m=μ g k n o t v w y z aa ab H∧I g k n o t v w y z aa ab H) (by rintro _ _ _ ⟨g,k,n,o,t,v,w,y,z,aa,ab,rfl,rfl,hI⟩ X hX; exact h _ _ _ _ _ _ _ _ _ _ _ _ hI X fun g' k' n' o' t' v' w' y' z' aa' ab' H' hI hl=>hX _ _ _ ⟨g',k',n',o',t',v',w',y',z',aa',ab',rfl,rfl,hI⟩ hl) rfl ⟨_,_,_,_,_,_,_,_,_,_,_,rfl,rfl,hI⟩
theorem l3_rule (I:S3 Prop) (μ:S3 Nat)
 (h:∀o y z aa ac ad H,I o y z aa ac ad H→∀X:FP,(∀o' y' z' aa' ac' ad' H',I o' y' z' aa' ac' ad' H'→μ o' y' z' aa' ac' ad' H'<μ o y z aa ac ad H→X (f3 o' y' z' aa' ac' ad') H')→b3 o y z aa ac ad X E H K) (hI:I o y z aa ac ad H):l3 o y z aa ac ad E H K:=
 loop_rule2 (fun r m H=>∃o y z aa ac ad,r=f3 o y z aa ac ad∧m=μ o y z aa ac ad H∧I o y z aa ac ad H) (by rintro _ _ _ ⟨o,y,z,aa,ac,ad,rfl,rfl,hI⟩ X hX; exact h _ _ _ _ _ _ _ hI X fun o' y' z' aa' ac' ad' H' hI hl=>hX _ _ _ ⟨o',y',z',aa',ac',ad',rfl,rfl,hI⟩ hl) rfl ⟨_,_,_,_,_,_,rfl,rfl,hI⟩
theorem nok:nodesOk code [[0,1,0,1,1],[1,1,0,0,1,0,1,1],[1,1,1],[0,1,0,1,1,1,1,1],[1,1,0,0,1,0,1,1,1,1,1],[1,1,1,1,1,1],[0,1,0,1,1,1,1,1,1,1]]=true:=by kernel_rfl
def run_t (l1:S1 Prop)(a:Int)(c:OA)(d e:Nat)(g:OA)(k n:Nat)(E:VP)(H:Hp)(K:KT):Prop:=
  nw H ⟨[.int .i64 a,.slice c d e],24⟩ fun B1 H1=>
  ldI .i64 (H1.get B1 0) fun x1=>
  nw H1 ⟨[.int .i64 0,.slice none 0 0],24⟩ fun B2 H2=>
  stC H2 B2 0 [.int .i64 x1,.slice none 0 0] fun H3=>
  l1 g k n B1 B2 0 H3
theorem run_eq (h:run_t (fun g k n o p q H=>l1 g k n o p q E H K) a c d e g k n E H K):run a c d e g k n E H K:=by
  exact nodeR_imp2 (fun G=>run_t (fun g k n o p q H=>G [0,1,0,1,1] (f1 g k n o p q) H) a c d e g k n E H K) nok rfl (fun G=>by kernel_rfl) (Eq.mp (by kernel_rfl) h)
def j1_t (g:OA)(k n o p:Nat)(q:Int)(X1:FP)(E:VP)(H:Hp)(K:KT):Prop:=
  X1 (f1 g k n o p (IntKind.wrap .i64 (q+1))) H
theorem j1_eq (h:j1_t g k n o p q X1 E H K):j1 g k n o p q X1 E H K:=by
  exact nodeR_imp2 (fun _=>j1_t g k n o p q X1 E H K) nok rfl (fun G=>by kernel_rfl) h
def j2_t (l2:S2 Prop)(g:OA)(k n o p:Nat)(E:VP)(H:Hp)(K:KT):Prop:=
  ldI .i64 (H.get p 0) fun x1=>
  ldS (H.get p 1) fun x2p x2n x2c=>
  Q39.call x1 x2p x2n x2c E H fun r1p r1n r1c r2 H1=>
  ldI .i64 (H1.get o 0) fun x3=>
  mkS x3 x3 3 [.i .i64] 8 H1 fun B1 H2=>
  l2 g k n o r1p r1n r1c (some ⟨B1,0,none⟩) x3.toNat x3.toNat 0 H2
theorem j2_eq (h:j2_t (fun g k n o t v w y z aa ab H=>l2 g k n o t v w y z aa ab E H K) g k n o p E H K):j2 g k n o p E H K:=by
  exact nodeR_imp2 (fun G=>j2_t (fun g k n o t v w y z aa ab H=>G [0,1,0,1,1,1,1,1] (f2 g k n o t v w y z aa ab) H) g k n o p E H K) nok rfl (fun G=>by kernel_rfl) (Eq.mp (by kernel_rfl) h)
def j3_t (g:OA)(k n o:Nat)(t:OA)(v w:Nat)(y:OA)(z aa:Nat)(ab:Int)(X1:FP)(E:VP)(H:Hp)(K:KT):Prop:=
  X1 (f2 g k n o t v w y z aa (IntKind.wrap .i64 (ab+1))) H
theorem j3_eq (h:j3_t g k n o t v w y z aa ab X1 E H K):j3 g k n o t v w y z aa ab X1 E H K:=by
  exact nodeR_imp2 (fun _=>j3_t g k n o t v w y z aa ab X1 E H K) nok rfl (fun G=>by kernel_rfl) h
def j4_t (l3:S3 Prop)(o:Nat)(y:OA)(z aa:Nat)(E:VP)(H:Hp)(K:KT):Prop:=
  l3 o y z aa 0 0 H
theorem j4_eq (h:j4_t (fun o y z aa ac ad H=>l3 o y z aa ac ad E H K) o y z aa E H K):j4 o y z aa E H K:=by
  exact nodeR_imp2 (fun G=>j4_t (fun o y z aa ac ad H=>G [0,1,0,1,1,1,1,1,1,1] (f3 o y z aa ac ad) H) o y z aa E H K) nok rfl (fun G=>by kernel_rfl) (Eq.mp (by kernel_rfl) h)
def b1_t (j1:OA→Nat→Nat→Nat→Nat→Int→Hp→Prop)(j2:OA→Nat→Nat→Nat→Nat→Hp→Prop)(g:OA)(k n o p:Nat)(q:Int)(X1:FP)(E:VP)(H:Hp)(K:KT):Prop:=
  ldS (H.get o 1) fun x1p x1n x1c=>
  bcase (decide ((q:Int)<(x1n:Int))) (
  ldS (H.get o 1) fun x2p x2n x2c=>
  ix x2p x2n q 4 fun B1 o1=>
  ldI .i64 (H.get B1 o1) fun x3=>
  Q38.call g k n x3 E H fun r1 H1=>
  bcase ((!r1)) (
  ldS (H1.get o 1) fun x4p x4n x4c=>
  ix x4p x4n q 4 fun B2 o2=>
  ldI .i64 (H1.get B2 (o2+1)) fun x5=>
  Q38.call g k n x5 E H1 fun r2 H2=>
  bcase ((!r2)) (
  ldS (H2.get p 1) fun x6p x6n x6c=>
  ldS (H2.get o 1) fun x7p x7n x7c=>
  ix x7p x7n q 4 fun B3 o3=>
  ldI .i64 (H2.get B3 o3) fun x8=>
  ldI .i64 (H2.get B3 (o3+1)) fun x9=>
  ldI .i64 (H2.get B3 (o3+2)) fun x10=>
  ldI .i64 (H2.get B3 (o3+3)) fun x11=>
  nw H2 ⟨[.int .i64 x8,.int .i64 x9,.int .i64 x10,.int .i64 x11],49⟩ fun B4 H3=>
  appM 49 [.i .i64,.i .i64,.i .i64,.i .i64] 32 x6p x6n x6c (some ⟨B4,0,none⟩) 1 H3 fun a1p a1n a1c H4=>
  stC H4 p 1 [.slice a1p a1n a1c] fun H5=>
  j1 g k n o p q H5)
  (j1 g k n o p q H2))
  (j1 g k n o p q H1))
  (j2 g k n o p H)
theorem b1_eq (h:b1_t (fun g k n o p q H=>j1 g k n o p q X1 E H K) (fun g k n o p H=>j2 g k n o p E H K) g k n o p q X1 E H K):b1 g k n o p q X1 E H K:=by
  exact nodeR_imp2 (fun G=>b1_t (fun g k n o p q H=>G [1,1,0,0,1,0,1,1] (f1 g k n o p q) H) (fun g k n o p H=>G [1,1,1] [(1,.slice g k n),(2,.pointer (some ⟨o,0,none⟩)),(5,.pointer (some ⟨p,0,none⟩))] H) g k n o p q X1 E H K) nok rfl (fun G=>by kernel_rfl) (Eq.mp (by kernel_rfl) h)
def b2_t (j3:OA→Nat→Nat→Nat→OA→Nat→Nat→OA→Nat→Nat→Int→Hp→Prop)(j4:Nat→OA→Nat→Nat→Hp→Prop)(g:OA)(k n o:Nat)(t:OA)(v w:Nat)(y:OA)(z aa:Nat)(ab:Int)(X1:FP)(E:VP)(H:Hp)(K:KT):Prop:=
  ldI .i64 (H.get o 0) fun x1=>
  bcase (decide ((ab:Int)<x1)) (
  Q38.call g k n ab E H fun r1 H1=>
  bcase ((!r1)) (
  ix t v ab 1 fun B1 o1=>
  ldI .i64 (H1.get B1 o1) fun x2=>
  ix y z x2 1 fun B2 o2=>
  ldI .i64 (H1.get B2 o2) fun x3=>
  ix y z x2 1 fun B3 o3=>
  stC H1 B3 o3 [.int .i64 (IntKind.wrap .i64 (x3+1))] fun H2=>
  j3 g k n o t v w y z aa ab H2)
  (j3 g k n o t v w y z aa ab H1))
  (j4 o y z aa H)
theorem b2_eq (h:b2_t (fun g k n o t v w y z aa ab H=>j3 g k n o t v w y z aa ab X1 E H K) (fun o y z aa H=>j4 o y z aa E H K) g k n o t v w y z aa ab X1 E H K):b2 g k n o t v w y z aa ab X1 E H K:=by
  exact nodeR_imp2 (fun G=>b2_t (fun g k n o t v w y z aa ab H=>G [1,1,0,0,1,0,1,1,1,1,1] (f2 g k n o t v w y z aa ab) H) (fun o y z aa H=>G [1,1,1,1,1,1] [(2,.pointer (some ⟨o,0,none⟩)),(9,.slice y z aa)] H) g k n o t v w y z aa ab X1 E H K) nok rfl (fun G=>by kernel_rfl) (Eq.mp (by kernel_rfl) h)
def b3_t (o:Nat)(y:OA)(z aa:Nat)(ac ad:Int)(X1:FP)(E:VP)(H:Hp)(K:KT):Prop:=
  ldI .i64 (H.get o 0) fun x1=>
  bcase (decide ((ad:Int)<x1)) (
  ix y z ad 1 fun B1 o1=>
  ldI .i64 (H.get B1 o1) fun x2=>
  2≠(0:Int)∧
  X1 (f3 o y z aa (IntKind.wrap .i64 (ac+(Int.tmod x2 2))) (IntKind.wrap .i64 (ad+1))) H)
  (K ac H)
theorem b3_eq (h:b3_t o y z aa ac ad X1 E H K):b3 o y z aa ac ad X1 E H K:=by
  exact nodeR_imp2 (fun _=>b3_t o y z aa ac ad X1 E H K) nok rfl (fun G=>by kernel_rfl) h
end
end Q21
namespace Q39
abbrev KT:=OA→Nat→Nat→Int→Hp→Prop
abbrev S1 (α:Type):=Nat→OA→Nat→Nat→Int→Hp→α
abbrev S2 (α:Type):=Nat→OA→Nat→Nat→Int→Hp→α
abbrev S3 (α:Type):=Nat→OA→Nat→Nat→Int→Int→Hp→α
section
variable (a:Int)(g:Nat)(c k:OA)(d n e o:Nat)(p q t:Int)(X1 X2:FP)(E:VP)(H:Hp)(K:KT)
noncomputable def A:An:={ live:=[(0,[0]),(1,[1]),(2,[1,4]),(3,[4]),(4,[1]),(5,[1,6]),(6,[1,6,7]),(7,[1,6,7]),(8,[1,6,7]),(9,[1,6]),(10,[1,6,8]),(11,[1,6,8]),(12,[1,6,8]),(13,[1,6,8,9]),(14,[1,6,8,9]),(15,[1,6,8,9]),(16,[1,6,8,9,10]),(17,[1,6,8,9,10,11]),(18,[1,6,8,9,10,11]),(19,[1,6,8,9,10,11]),(20,[6])],ord:=[(17,[0,1,2,3,4,5,6,7,8])],stb:=[],pre:=[(17,[[],[],[0,1],[0,1,2],[],[],[4,5],[4,5,6],[0,1,2,3,4,5,6,7]])] }
noncomputable def code:Code:=bodyOf Go.Proofs.Try.f67
def rq:Ex→FP:=retQ T0 [.tmp 2,.tmp 3] [26,3] (fun r H=>ldR (.tup [(false,[.sl]),(false,[.i .i64])]) r fun u=>K (asS1 (tupV u 0)) (asS2 (tupV u 0)) (asS3 (tupV u 0)) (asI (tupV u 1)) H) E
noncomputable def f1:Fr:=[(1,.pointer (some ⟨g,0,none⟩)),(6,.slice k n o),(7,.int .i64 p)]
noncomputable def f2:Fr:=[(1,.pointer (some ⟨g,0,none⟩)),(6,.slice k n o),(8,.int .i64 q)]
noncomputable def f3:Fr:=[(1,.pointer (some ⟨g,0,none⟩)),(6,.slice k n o),(8,.int .i64 q),(9,.int .i64 t)]
def run:Prop:=nodeM P0 T0 A code [] [] (rq E K) (argF 0 [.agg ⟨[.int .i64 a,.slice c d e]⟩]) H
def j1:Prop:=nodeM P0 T0 A code [1,1,1,1,1] [] (rq E K) [(1,.pointer (some ⟨g,0,none⟩)),(6,.slice k n o)] H
def j2:Prop:=nodeM P0 T0 A code [1,1,1,1,1,0,1,0,0,1,0,0,1,0,0,1,1] [X1,X2] (rq E K) (f3 g k n o q t) H
def j3:Prop:=nodeM P0 T0 A code [1,1,1,1,1,0,1,0,0,1,1] [X1] (rq E K) (f2 g k n o q) H
def j4:Prop:=nodeM P0 T0 A code [1,1,1,1,1,1] [] (rq E K) [(6,.slice k n o)] H
def l1:Prop:=nodeM P0 T0 A code [1,1,1,1,0,1,0] [] (rq E K) (f1 g k n o p) H
def b1:Prop:=nodeM P0 T0 A code [1,1,1,1,0,1,0,0] [X1] (rq E K) (f1 g k n o p) H
def l2:Prop:=nodeM P0 T0 A code [1,1,1,1,1,0,1,0] [] (rq E K) (f2 g k n o q) H
def b2:Prop:=nodeM P0 T0 A code [1,1,1,1,1,0,1,0,0] [X1] (rq E K) (f2 g k n o q) H
def l3:Prop:=nodeM P0 T0 A code [1,1,1,1,1,0,1,0,0,1,0,0,1,0] [X1] (rq E K) (f3 g k n o q t) H
def b3:Prop:=nodeM P0 T0 A code [1,1,1,1,1,0,1,0,0,1,0,0,1,0,0] [X1,X2] (rq E K) (f3 g k n o q t) H
variable {a g c k d n e o p q t X1 X2 E H K}
theorem ok:okCode A 83 code=true:=by kernel_rfl
theorem of (h:run a c d e E H K):call a c d e E H K:=
  callW_of T0_ok P0_mixed (A:=A) (fn:=Go.Proofs.Try.f67) Go.Proofs.Try.func67 rfl ok rfl h
theorem l1_rule (I:S1 Prop) (μ:S1 Nat)
 (h:∀g k n o p H,I g k n o p H→∀X:FP,(∀g' k' n' o' p' H',I g' k' n' o' p' H'→μ g' k' n' o' p' H'<μ g k n o p H→X (f1 g' k' n' o' p') H')→b1 g k n o p X E H K) (hI:I g k n o p H):l1 g k n o p E H K:=
 loop_rule2 (fun r m H=>∃g k n o p,r=f1 g k n o p∧m=μ g k n o p H∧I g k n o p H) (by rintro _ _ _ ⟨g,k,n,o,p,rfl,rfl,hI⟩ X hX; exact h _ _ _ _ _ _ hI X fun g' k' n' o' p' H' hI hl=>hX _ _ _ ⟨g',k',n',o',p',rfl,rfl,hI⟩ hl) rfl ⟨_,_,_,_,_,rfl,rfl,hI⟩
theorem l2_rule (I:S2 Prop) (μ:S2 Nat)
 (h:∀g k n o q H,I g k n o q H→∀X:FP,(∀g' k' n' o' q' H',I g' k' n' o' q' H'→μ g' k' n' o' q' H'<μ g k n o q H→X (f2 g' k' n' o' q') H')→b2 g k n o q X E H K) (hI:I g k n o q H):l2 g k n o q E H K:=
 loop_rule2 (fun r m H=>∃g k n o q,r=f2 g k n o q∧m=μ g k n o q H∧I g k n o q H) (by rintro _ _ _ ⟨g,k,n,o,q,rfl,rfl,hI⟩ X hX; exact h _ _ _ _ _ _ hI X fun g' k' n' o' q' H' hI hl=>hX _ _ _ ⟨g',k',n',o',q',rfl,rfl,hI⟩ hl) rfl ⟨_,_,_,_,_,rfl,rfl,hI⟩
theorem l3_rule (I:S3 Prop) (μ:S3 Nat)
 (h:∀g k n o q t H,I g k n o q t H→∀X:FP,(∀g' k' n' o' q' t' H',I g' k' n' o' q' t' H'→μ g' k' n' o' q' t' H'<μ g k n o q t H→X (f3 g' k' n' o' q' t') H')→b3 g k n o q t X1 X E H K) (hI:I g k n o q t H):l3 g k n o q t X1 E H K:=
 loop_rule2 (fun r m H=>∃g k n o q t,r=f3 g k n o q t∧m=μ g k n o q t H∧I g k n o q t H) (by rintro _ _ _ ⟨g,k,n,o,q,t,rfl,rfl,hI⟩ X hX; exact h _ _ _ _ _ _ _ hI X fun g' k' n' o' q' t' H' hI hl=>hX _ _ _ ⟨g',k',n',o',q',t',rfl,rfl,hI⟩ hl) rfl ⟨_,_,_,_,_,_,rfl,rfl,hI⟩
theorem nok:nodesOk code [[0,1,0,1,1,1,1],[1,1,1,1,1],[0,1,0,1,1,1,1,1],[0,1,0,0,1,0,0,1,0,1,1,1,1,1],[1,1,0,0,1,0,0,1,0,0,1,0,1,1,1,1,1],[1,1,0,0,1,0,1,1,1,1,1],[1,1,1,1,1,1]]=true:=by kernel_rfl
def run_t (l1:S1 Prop)(a:Int)(c:OA)(d e:Nat)(E:VP)(H:Hp)(K:KT):Prop:=
  nw H ⟨[.int .i64 a,.slice c d e],24⟩ fun B1 H1=>
  ldI .i64 (H1.get B1 0) fun x1=>
  ldS (H1.get B1 1) fun x2p x2n x2c=>
  Q7.call x1 x2p x2n x2c E H1 fun r1 r2 H2=>
  bcase (!decide ((r1:Int)=0)) (
  K none 0 0 r1 H2)
  (ldI .i64 (H2.get B1 0) fun x3=>
  mkS x3 x3 3 [.i .i64] 8 H2 fun B2 H3=>
  l1 B1 (some ⟨B2,0,none⟩) x3.toNat x3.toNat 0 H3)
theorem run_eq (h:run_t (fun g k n o p H=>l1 g k n o p E H K) a c d e E H K):run a c d e E H K:=by
  exact nodeR_imp2 (fun G=>run_t (fun g k n o p H=>G [0,1,0,1,1,1,1] (f1 g k n o p) H) a c d e E H K) nok rfl (fun G=>by kernel_rfl) (Eq.mp (by kernel_rfl) h)
def j1_t (l2:S2 Prop)(g:Nat)(k:OA)(n o:Nat)(E:VP)(H:Hp)(K:KT):Prop:=
  l2 g k n o 0 H
theorem j1_eq (h:j1_t (fun g k n o q H=>l2 g k n o q E H K) g k n o E H K):j1 g k n o E H K:=by
  exact nodeR_imp2 (fun G=>j1_t (fun g k n o q H=>G [0,1,0,1,1,1,1,1] (f2 g k n o q) H) g k n o E H K) nok rfl (fun G=>by kernel_rfl) (Eq.mp (by kernel_rfl) h)
def j2_t (g:Nat)(k:OA)(n o:Nat)(q t:Int)(X1 X2:FP)(E:VP)(H:Hp)(K:KT):Prop:=
  X2 (f3 g k n o q (IntKind.wrap .i64 (t+1))) H
theorem j2_eq (h:j2_t g k n o q t X1 X2 E H K):j2 g k n o q t X1 X2 E H K:=by
  exact nodeR_imp2 (fun _=>j2_t g k n o q t X1 X2 E H K) nok rfl (fun G=>by kernel_rfl) h
def j3_t (g:Nat)(k:OA)(n o:Nat)(q:Int)(X1:FP)(E:VP)(H:Hp)(K:KT):Prop:=
  X1 (f2 g k n o (IntKind.wrap .i64 (q+1))) H
theorem j3_eq (h:j3_t g k n o q X1 E H K):j3 g k n o q X1 E H K:=by
  exact nodeR_imp2 (fun _=>j3_t g k n o q X1 E H K) nok rfl (fun G=>by kernel_rfl) h
def j4_t (k:OA)(n o:Nat)(E:VP)(H:Hp)(K:KT):Prop:=
  Q50.call k n o E H fun r1p r1n r1c H1=>
  K r1p r1n r1c 0 H1
theorem j4_eq (h:j4_t k n o E H K):j4 k n o E H K:=by
  exact nodeR_imp2 (fun _=>j4_t k n o E H K) nok rfl (fun G=>by kernel_rfl) h
def b1_t (j1:Nat→OA→Nat→Nat→Hp→Prop)(g:Nat)(k:OA)(n o:Nat)(p:Int)(X1:FP)(E:VP)(H:Hp)(K:KT):Prop:=
  ldI .i64 (H.get g 0) fun x1=>
  bcase (decide ((p:Int)<x1)) (
  ix k n p 1 fun B1 o1=>
  stC H B1 o1 [.int .i64 p] fun H1=>
  X1 (f1 g k n o (IntKind.wrap .i64 (p+1))) H1)
  (j1 g k n o H)
theorem b1_eq (h:b1_t (fun g k n o H=>j1 g k n o E H K) g k n o p X1 E H K):b1 g k n o p X1 E H K:=by
  exact nodeR_imp2 (fun G=>b1_t (fun g k n o H=>G [1,1,1,1,1] [(1,.pointer (some ⟨g,0,none⟩)),(6,.slice k n o)] H) g k n o p X1 E H K) nok rfl (fun G=>by kernel_rfl) (Eq.mp (by kernel_rfl) h)
def b2_t (l3:S3 Prop)(j4:OA→Nat→Nat→Hp→Prop)(g:Nat)(k:OA)(n o:Nat)(q:Int)(X1:FP)(E:VP)(H:Hp)(K:KT):Prop:=
  ldI .i64 (H.get g 0) fun x1=>
  bcase (decide ((q:Int)<x1)) (
  l3 g k n o q 0 H)
  (j4 k n o H)
theorem b2_eq (h:b2_t (fun g k n o q t H=>l3 g k n o q t X1 E H K) (fun k n o H=>j4 k n o E H K) g k n o q X1 E H K):b2 g k n o q X1 E H K:=by
  exact nodeR_imp2 (fun G=>b2_t (fun g k n o q t H=>G [0,1,0,0,1,0,0,1,0,1,1,1,1,1] (f3 g k n o q t) H) (fun k n o H=>G [1,1,1,1,1,1] [(6,.slice k n o)] H) g k n o q X1 E H K) nok rfl (fun G=>by kernel_rfl) (Eq.mp (by kernel_rfl) h)
def b3_t (j2:Nat→OA→Nat→Nat→Int→Int→Hp→Prop)(j3:Nat→OA→Nat→Nat→Int→Hp→Prop)(g:Nat)(k:OA)(n o:Nat)(q t:Int)(X1 X2:FP)(E:VP)(H:Hp)(K:KT):Prop:=
  ldS (H.get g 1) fun x1p x1n x1c=>
  bcase (decide ((t:Int)<(x1n:Int))) (
  ldS (H.get g 1) fun x2p x2n x2c=>
  ix x2p x2n t 4 fun B1 o1=>
  ldI .i64 (H.get B1 o1) fun x3=>
  ldS (H.get g 1) fun x4p x4n x4c=>
  ix x4p x4n t 4 fun B2 o2=>
  ldI .i64 (H.get B2 (o2+1)) fun x5=>
  ix k n x3 1 fun B3 o3=>
  ldI .i64 (H.get B3 o3) fun x6=>
  ix k n x5 1 fun B4 o4=>
  ldI .i64 (H.get B4 o4) fun x7=>
  bcase (decide ((x6:Int)<x7)) (
  ix k n x3 1 fun B5 o5=>
  ldI .i64 (H.get B5 o5) fun x8=>
  ix k n x5 1 fun B6 o6=>
  stC H B6 o6 [.int .i64 x8] fun H1=>
  j2 g k n o q t H1)
  (ix k n x5 1 fun B7 o7=>
  ldI .i64 (H.get B7 o7) fun x9=>
  ix k n x3 1 fun B8 o8=>
  stC H B8 o8 [.int .i64 x9] fun H2=>
  j2 g k n o q t H2))
  (j3 g k n o q H)
theorem b3_eq (h:b3_t (fun g k n o q t H=>j2 g k n o q t X1 X2 E H K) (fun g k n o q H=>j3 g k n o q X1 E H K) g k n o q t X1 X2 E H K):b3 g k n o q t X1 X2 E H K:=by
  exact nodeR_imp2 (fun G=>b3_t (fun g k n o q t H=>G [1,1,0,0,1,0,0,1,0,0,1,0,1,1,1,1,1] (f3 g k n o q t) H) (fun g k n o q H=>G [1,1,0,0,1,0,1,1,1,1,1] (f2 g k n o q) H) g k n o q t X1 X2 E H K) nok rfl (fun G=>by kernel_rfl) (Eq.mp (by kernel_rfl) h)
end
end Q39
namespace Q50
abbrev KT:=OA→Nat→Nat→Hp→Prop
abbrev S1 (α:Type):=OA→Nat→Nat→OA→Nat→Nat→Int→Int→Hp→α
section
variable (a:OA)(c d:Nat)(e:OA)(g k:Nat)(n o:Int)(X1:FP)(E:VP)(H:Hp)(K:KT)
noncomputable def A:An:={ live:=[(0,[0]),(1,[0]),(2,[0,3]),(3,[0,3,4]),(4,[0,3,4,5]),(5,[0,3,4,5]),(6,[0,3,4,5]),(7,[0,3,4,5]),(8,[0,3,4,5]),(9,[0,3,4,5]),(10,[3])],ord:=[],stb:=[],pre:=[] }
noncomputable def code:Code:=bodyOf Go.Proofs.Try.f92
def rq:Ex→FP:=retQ T0 [.tmp 2] [26] (fun r H=>ldR (.one false [.sl]) r fun u=>K (asS1 u) (asS2 u) (asS3 u) H) E
noncomputable def f1:Fr:=[(0,.slice a c d),(3,.slice e g k),(4,.int .i64 n),(5,.int .i64 o)]
def run:Prop:=nodeM P0 T0 A code [] [] (rq E K) (argF 0 [.slice a c d]) H
def j1:Prop:=nodeM P0 T0 A code [1,1,1,0,1,0,0,1,1] [X1] (rq E K) (f1 a c d e g k n o) H
def l1:Prop:=nodeM P0 T0 A code [1,1,1,0,1,0] [] (rq E K) (f1 a c d e g k n o) H
def b1:Prop:=nodeM P0 T0 A code [1,1,1,0,1,0,0] [X1] (rq E K) (f1 a c d e g k n o) H
variable {a c d e g k n o X1 E H K}
theorem ok:okCode A 38 code=true:=by kernel_rfl
theorem of (h:run a c d E H K):call a c d E H K:=
  callW_of T0_ok P0_mixed (A:=A) (fn:=Go.Proofs.Try.f92) Go.Proofs.Try.func92 rfl ok rfl h
theorem l1_rule (I:S1 Prop) (μ:S1 Nat)
 (h:∀a c d e g k n o H,I a c d e g k n o H→∀X:FP,(∀a' c' d' e' g' k' n' o' H',I a' c' d' e' g' k' n' o' H'→μ a' c' d' e' g' k' n' o' H'<μ a c d e g k n o H→X (f1 a' c' d' e' g' k' n' o') H')→b1 a c d e g k n o X E H K) (hI:I a c d e g k n o H):l1 a c d e g k n o E H K:=
 loop_rule2 (fun r m H=>∃a c d e g k n o,r=f1 a c d e g k n o∧m=μ a c d e g k n o H∧I a c d e g k n o H) (by rintro _ _ _ ⟨a,c,d,e,g,k,n,o,rfl,rfl,hI⟩ X hX; exact h _ _ _ _ _ _ _ _ _ hI X fun a' c' d' e' g' k' n' o' H' hI hl=>hX _ _ _ ⟨a',c',d',e',g',k',n',o',rfl,rfl,hI⟩ hl) rfl ⟨_,_,_,_,_,_,_,_,rfl,rfl,hI⟩
theorem nok:nodesOk code [[0,1,0,1,1,1],[1,1,0,0,1,0,1,1,1]]=true:=by kernel_rfl
def run_t (l1:S1 Prop)(a:OA)(c d:Nat)(E:VP)(H:Hp)(K:KT):Prop:=
  mkS (c:Int) (c:Int) 3 [.i .i64] 8 H fun B1 H1=>
  l1 a c d (some ⟨B1,0,none⟩) ((c:Int).toNat) ((c:Int).toNat) 0 0 H1
theorem run_eq (h:run_t (fun a c d e g k n o H=>l1 a c d e g k n o E H K) a c d E H K):run a c d E H K:=by
  exact nodeR_imp2 (fun G=>run_t (fun a c d e g k n o H=>G [0,1,0,1,1,1] (f1 a c d e g k n o) H) a c d E H K) nok rfl (fun G=>by kernel_rfl) (Eq.mp (by kernel_rfl) h)
def j1_t (a:OA)(c d:Nat)(e:OA)(g k:Nat)(n o:Int)(X1:FP)(E:VP)(H:Hp)(K:KT):Prop:=
  X1 (f1 a c d e g k n (IntKind.wrap .i64 (o+1))) H
theorem j1_eq (h:j1_t a c d e g k n o X1 E H K):j1 a c d e g k n o X1 E H K:=by
  exact nodeR_imp2 (fun _=>j1_t a c d e g k n o X1 E H K) nok rfl (fun G=>by kernel_rfl) h
def b1_t (j1:OA→Nat→Nat→OA→Nat→Nat→Int→Int→Hp→Prop)(a:OA)(c d:Nat)(e:OA)(g k:Nat)(n o:Int)(X1:FP)(E:VP)(H:Hp)(K:KT):Prop:=
  bcase (decide ((o:Int)<(c:Int))) (
  ix a c o 1 fun B1 o1=>
  ldI .i64 (H.get B1 o1) fun x1=>
  bcase (decide ((x1:Int)=o)) (
  ix e g o 1 fun B2 o2=>
  stC H B2 o2 [.int .i64 n] fun H1=>
  j1 a c d e g k (IntKind.wrap .i64 (n+1)) o H1)
  (ix a c o 1 fun B3 o3=>
  ldI .i64 (H.get B3 o3) fun x2=>
  ix e g x2 1 fun B4 o4=>
  ldI .i64 (H.get B4 o4) fun x3=>
  ix e g o 1 fun B5 o5=>
  stC H B5 o5 [.int .i64 x3] fun H2=>
  j1 a c d e g k n o H2))
  (K e g k H)
theorem b1_eq (h:b1_t (fun a c d e g k n o H=>j1 a c d e g k n o X1 E H K) a c d e g k n o X1 E H K):b1 a c d e g k n o X1 E H K:=by
  exact nodeR_imp2 (fun G=>b1_t (fun a c d e g k n o H=>G [1,1,0,0,1,0,1,1,1] (f1 a c d e g k n o) H) a c d e g k n o X1 E H K) nok rfl (fun G=>by kernel_rfl) (Eq.mp (by kernel_rfl) h)
end
end Q50
end Go.Mz
