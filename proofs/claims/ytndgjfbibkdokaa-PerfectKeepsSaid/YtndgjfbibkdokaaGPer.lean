/-
  The shallow texts of functions (Per), each with a kernel-checked equation to the translated code. It proves nothing of the program by itself.
-/
import Derived.Test.YtndgjfbibkdokaaTab
set_option linter.unusedVariables false
set_option maxRecDepth 100000
namespace Go.Mz
namespace Q3
abbrev KT:=OA→Nat→Nat→OA→Nat→Nat→OA→Nat→Nat→OA→Nat→Nat→Int→Int→Hp→Prop
abbrev S1 (α:Type):=Nat→Nat→Int→OA→Nat→Nat→OA→Nat→Nat→OA→Nat→Nat→Int→Int→Hp→α
abbrev S2 (α:Type):=Nat→OA→Nat→Nat→Nat→Int→OA→Nat→Nat→OA→Nat→Nat→Int→Int→Hp→α
section
variable (a:Int)(g:Nat)(c ad:OA)(d ae e ag k:Nat)(n:Int)(o:OA)(p q:Nat)(t:OA)(v w:Nat)(y ak:OA)(z an aa ap:Nat)(ab aq ac av:Int)(X1:FP)(E:VP)(H:Hp)(K:KT)
noncomputable def A:An:={ live:=[(0,[0]),(1,[1,3,5]),(2,[1,3,4,5,6,7]),(3,[3,6]),(4,[1,3,4,5,7]),(5,[3,4]),(6,[1,3,5]),(7,[1,3,5,8]),(8,[1,3,5,8,9]),(9,[1,3,5,8,9,33,34,35]),(10,[1,3,5,8,9,33,34,35]),(11,[1,3,5,8,9,10,11,33,34,35]),(12,[1,3,5,8,9,10,11,33,34,35]),(13,[1,3,5,8,9,10,33,34,35]),(14,[1,3,5,8,9,33,34,35]),(15,[1,3,5,8,9]),(16,[1,2,3,5,9]),(17,[1,2,3,5,9,69,70,71]),(18,[1,2,3,5,9,69,70,71]),(19,[1,2,3,5,9,12,13,69,70,71]),(20,[1,2,3,5,9,13,69,70,71]),(21,[1,2,3,5,9,69,70,71]),(22,[2,3,5]),(23,[2,3,5])],ord:=[(3,[0,1,2,3,4,5,6]),(5,[0,1,2,3,4,5,6]),(20,[0,1,2,3,4,5,6,7,8,9,10,11]),(23,[0,1,2,3,4,5,6,7])],stb:=[],pre:=[(3,[[],[],[],[0,2],[0,2,3],[0,2,3,4],[0,1,2,3,4,5]]),(5,[[],[],[],[0,2],[0,1,2,3],[0,1,2,3,4],[0,1,2,3,4,5]]),(20,[[],[],[1],[],[],[3,4],[3,4,5],[1,2,3,4,5,6],[1,2,3,4,5,6,7],[1,2,3,4,5,6,7,8],[0,1,2,3,4,5,6,7,8,9],[0,1,2,3,4,5,6,7,8,9,10]]),(23,[[],[],[],[0],[0,1,3],[0,1,3,4],[0,1,2,3,4,5],[0,1,2,3,4,5,6]])] }
noncomputable def code:Code:=bodyOf Go.Proofs.Try.f12
def rq:Ex→FP:=retQ T0 [.tmp 2,.cell 3 30,.tmp 4,.tmp 5,.tmp 6] [26,30,26,2,31] (fun r H=>ldR (.tup [(false,[.sl]),(true,[.sl,.sl]),(false,[.sl]),(false,[.i .i64]),(false,[.i .i64])]) r fun u=>K (asS1 (tupV u 0)) (asS2 (tupV u 0)) (asS3 (tupV u 0)) (asS1 (cellV (tupV u 1) 0)) (asS2 (cellV (tupV u 1) 0)) (asS3 (cellV (tupV u 1) 0)) (asS1 (cellV (tupV u 1) 1)) (asS2 (cellV (tupV u 1) 1)) (asS3 (cellV (tupV u 1) 1)) (asS1 (tupV u 2)) (asS2 (tupV u 2)) (asS3 (tupV u 2)) (asI (tupV u 3)) (asI (tupV u 4)) H) E
noncomputable def f1:Fr:=[(1,.pointer (some ⟨g,0,none⟩)),(3,.pointer (some ⟨k,0,none⟩)),(5,.int .i64 n),(8,.slice o p q),(9,.slice t v w),(33,.slice y z aa),(34,.int .i64 ab),(35,.int .i64 ac)]
noncomputable def f2:Fr:=[(1,.pointer (some ⟨g,0,none⟩)),(2,.slice ad ae ag),(3,.pointer (some ⟨k,0,none⟩)),(5,.int .i64 n),(9,.slice t v w),(69,.slice ak an ap),(70,.int .i64 aq),(71,.int .i64 av)]
def run:Prop:=nodeM P0 T0 A code [] [] (rq E K) (argF 0 [.agg ⟨[.int .i64 a,.slice c d e]⟩]) H
def j1:Prop:=nodeM P0 T0 A code [1,1,1,1,1,1,0,1,0,0,1,1,1] [X1] (rq E K) (f1 g k n o p q t v w y z aa ab ac) H
def j2:Prop:=nodeM P0 T0 A code [1,1,1,1,1,1,1] [] (rq E K) [(1,.pointer (some ⟨g,0,none⟩)),(3,.pointer (some ⟨k,0,none⟩)),(5,.int .i64 n),(8,.slice o p q),(9,.slice t v w)] H
def j3:Prop:=nodeM P0 T0 A code [1,1,1,1,1,1,1,1,1] [] (rq E K) [(2,.slice ad ae ag),(3,.pointer (some ⟨k,0,none⟩)),(5,.int .i64 n)] H
def l1:Prop:=nodeM P0 T0 A code [1,1,1,1,1,1,0,1,0] [] (rq E K) (f1 g k n o p q t v w y z aa ab ac) H
def b1:Prop:=nodeM P0 T0 A code [1,1,1,1,1,1,0,1,0,0] [X1] (rq E K) (f1 g k n o p q t v w y z aa ab ac) H
def l2:Prop:=nodeM P0 T0 A code [1,1,1,1,1,1,1,1,0,1,0] [] (rq E K) (f2 g ad ae ag k n t v w ak an ap aq av) H
def b2:Prop:=nodeM P0 T0 A code [1,1,1,1,1,1,1,1,0,1,0,0] [X1] (rq E K) (f2 g ad ae ag k n t v w ak an ap aq av) H
variable {a g c ad d ae e ag k n o p q t v w y ak z an aa ap ab aq ac av X1 E H K}
theorem ok:okCode A 100 code=true:=by kernel_rfl
theorem of (h:run a c d e E H K):call a c d e E H K:=
  callW_of T0_ok P0_mixed (A:=A) (fn:=Go.Proofs.Try.f12) Go.Proofs.Try.func12 rfl ok rfl h
theorem l1_rule (I:S1 Prop) (μ:S1 Nat)
 (h:∀g k n o p q t v w y z aa ab ac H,I g k n o p q t v w y z aa ab ac H→∀X:FP,(∀g' k' n' o' p' q' t' v' w' y' z' aa' ab' ac' H',I g' k' n' o' p' q' t' v' w' y' z' aa' ab' ac' H'→μ g' k' n' o' p' q' t' v' w' y' z' aa' ab' ac' H'<μ g k n o p q t v w y z aa ab ac H→X (f1 g' k' n' o' p' q' t' v' w' y' z' aa' ab' ac') H')→b1 g k n o p q t v w y z aa ab ac X E H K) (hI:I g k n o p q t v w y z aa ab ac H):l1 g k n o p q t v w y z aa ab ac E H K:=
 loop_rule2 (fun r m H=>∃g k n o p q t v w y z aa ab ac,r=f1 g k n o p q t v w y z aa ab ac∧m=μ g k n o p q t v w y z aa ab ac H∧I g k n o p q t v w y z aa ab ac H) (by rintro _ _ _ ⟨g,k,n,o,p,q,t,v,w,y,z,aa,ab,ac,rfl,rfl,hI⟩ X hX; exact h _ _ _ _ _ _ _ _ _ _ _ _ _ _ _ hI X fun g' k' n' o' p' q' t' v' w' y' z' aa' ab' ac' H' hI hl=>hX _ _ _ ⟨g',k',n',o',p',q',t',v',w',y',z',aa',ab',ac',rfl,rfl,hI⟩ hl) rfl ⟨_,_,_,_,_,_,_,_,_,_,_,_,_,_,rfl,rfl,hI⟩
theorem l2_rule (I:S2 Prop) (μ:S2 Nat)
 (h:∀g ad ae ag k n t v w ak an ap aq av H,I g ad ae ag k n t v w ak an ap aq av H→∀X:FP,(∀g' ad' ae' ag' k' n' t' v' w' ak' an' ap' aq' av' H',I g' ad' ae' ag' k' n' t' v' w' ak' an' ap' aq' av' H'→μ g' ad' ae' ag' k' n' t' v' w' ak' an' ap' aq' av' H'<μ g ad ae ag k n t v w ak an ap aq av H→X (f2 g' ad' ae' ag' k' n' t' v' w' ak' an' ap' aq' av') H')→b2 g ad ae ag k n t v w ak an ap aq av X E H K) (hI:I g ad ae ag k n t v w ak an ap aq av H):l2 g ad ae ag k n t v w ak an ap aq av E H K:=
 loop_rule2 (fun r m H=>∃g ad ae ag k n t v w ak an ap aq av,r=f2 g ad ae ag k n t v w ak an ap aq av∧m=μ g ad ae ag k n t v w ak an ap aq av H∧I g ad ae ag k n t v w ak an ap aq av H) (by rintro _ _ _ ⟨g,ad,ae,ag,k,n,t,v,w,ak,an,ap,aq,av,rfl,rfl,hI⟩ X hX; exact h _ _ _ _ _ _ _ _ _ _ _ _ _ _ _ hI X fun g' ad' ae' ag' k' n' t' v' w' ak' an' ap' aq' av' H' hI hl=>hX _ _ _ ⟨g',ad',ae',ag',k',n',t',v',w',ak',an',ap',aq',av',rfl,rfl,hI⟩ hl) rfl ⟨_,_,_,_,_,_,_,_,_,_,_,_,_,_,rfl,rfl,hI⟩
theorem nok:nodesOk code [[0,1,0,1,1,1,1,1,1],[1,1,1,0,0,1,0,1,1,1,1,1,1],[1,1,1,1,1,1,1],[0,1,0,1,1,1,1,1,1,1,1],[1,1,1,1,1,1,1,1,1]]=true:=by kernel_rfl
def run_t (l1:S1 Prop)(a:Int)(c:OA)(d e:Nat)(E:VP)(H:Hp)(K:KT):Prop:=
  nw H ⟨[.int .i64 a,.slice c d e],24⟩ fun B1 H1=>
  nw H1 ⟨[.slice none 0 0,.slice none 0 0],30⟩ fun B2 H2=>
  ldI .i64 (H2.get B1 0) fun x1=>
  ldS (H2.get B1 1) fun x2p x2n x2c=>
  Q11.call x1 x2p x2n x2c E H2 fun r1p r1n r1c r2p r2n r2c r3 H3=>
  bcase (!decide ((r3:Int)=0)) (
  ldS (H3.get B2 0) fun x3p x3n x3c=>
  ldS (H3.get B2 1) fun x4p x4n x4c=>
  stC H3 B2 0 [.slice x3p x3n x3c,.slice x4p x4n x4c] fun H4=>
  ldS (H4.get B2 0) fun x5p x5n x5c=>
  ldS (H4.get B2 1) fun x6p x6n x6c=>
  K none 0 0 x5p x5n x5c x6p x6n x6c none 0 0 0 r3 H4)
  (ldI .i64 (H3.get B1 0) fun x7=>
  bcase (decide (((IntKind.wrap .i64 (2*(r1n:Int))):Int)<x7)) (
  ldS (H3.get B2 0) fun x8p x8n x8c=>
  ldS (H3.get B2 1) fun x9p x9n x9c=>
  stC H3 B2 0 [.slice x8p x8n x8c,.slice x9p x9n x9c] fun H5=>
  ldS (H5.get B2 0) fun x10p x10n x10c=>
  ldS (H5.get B2 1) fun x11p x11n x11c=>
  K none 0 0 x10p x10n x10c x11p x11n x11c r2p r2n r2c 0 5 H5)
  (ldS (H3.get B1 1) fun x12p x12n x12c=>
  l1 B1 B2 0 none 0 0 none 0 0 x12p x12n x12c (x12n:Int) 0 H3))
theorem run_eq (h:run_t (fun g k n o p q t v w y z aa ab ac H=>l1 g k n o p q t v w y z aa ab ac E H K) a c d e E H K):run a c d e E H K:=by
  exact nodeR_imp2 (fun G=>run_t (fun g k n o p q t v w y z aa ab ac H=>G [0,1,0,1,1,1,1,1,1] (f1 g k n o p q t v w y z aa ab ac) H) a c d e E H K) nok rfl (fun G=>by kernel_rfl) (Eq.mp (by kernel_rfl) h)
def j1_t (g k:Nat)(n:Int)(o:OA)(p q:Nat)(t:OA)(v w:Nat)(y:OA)(z aa:Nat)(ab ac:Int)(X1:FP)(E:VP)(H:Hp)(K:KT):Prop:=
  X1 (f1 g k n o p q t v w y z aa ab (IntKind.wrap .i64 (ac+1))) H
theorem j1_eq (h:j1_t g k n o p q t v w y z aa ab ac X1 E H K):j1 g k n o p q t v w y z aa ab ac X1 E H K:=by
  exact nodeR_imp2 (fun _=>j1_t g k n o p q t v w y z aa ab ac X1 E H K) nok rfl (fun G=>by kernel_rfl) h
def j2_t (l2:S2 Prop)(g k:Nat)(n:Int)(o:OA)(p q:Nat)(t:OA)(v w:Nat)(E:VP)(H:Hp)(K:KT):Prop:=
  ldI .i64 (H.get g 0) fun x1=>
  Q13.call x1 o p q E H fun r1 H1=>
  Q14.call r1 E H1 fun r2p r2n r2c r3_Yp r3_Yn r3_Yc r3_Setsp r3_Setsn r3_Setsc H2=>
  stC H2 k 0 [.slice r3_Yp r3_Yn r3_Yc,.slice r3_Setsp r3_Setsn r3_Setsc] fun H3=>
  l2 g r2p r2n r2c k n t v w r2p r2n r2c (r2n:Int) 0 H3
theorem j2_eq (h:j2_t (fun g ad ae ag k n t v w ak an ap aq av H=>l2 g ad ae ag k n t v w ak an ap aq av E H K) g k n o p q t v w E H K):j2 g k n o p q t v w E H K:=by
  exact nodeR_imp2 (fun G=>j2_t (fun g ad ae ag k n t v w ak an ap aq av H=>G [0,1,0,1,1,1,1,1,1,1,1] (f2 g ad ae ag k n t v w ak an ap aq av) H) g k n o p q t v w E H K) nok rfl (fun G=>by kernel_rfl) (Eq.mp (by kernel_rfl) h)
def j3_t (ad:OA)(ae ag k:Nat)(n:Int)(E:VP)(H:Hp)(K:KT):Prop:=
  Q15.call ad ae ag E H fun H1=>
  ldS (H1.get k 0) fun x1p x1n x1c=>
  ldS (H1.get k 1) fun x2p x2n x2c=>
  stC H1 k 0 [.slice x1p x1n x1c,.slice x2p x2n x2c] fun H2=>
  ldS (H2.get k 0) fun x3p x3n x3c=>
  ldS (H2.get k 1) fun x4p x4n x4c=>
  K ad ae ag x3p x3n x3c x4p x4n x4c none 0 0 n 0 H2
theorem j3_eq (h:j3_t ad ae ag k n E H K):j3 ad ae ag k n E H K:=by
  exact nodeR_imp2 (fun _=>j3_t ad ae ag k n E H K) nok rfl (fun G=>by kernel_rfl) h
def b1_t (j1:Nat→Nat→Int→OA→Nat→Nat→OA→Nat→Nat→OA→Nat→Nat→Int→Int→Hp→Prop)(j2:Nat→Nat→Int→OA→Nat→Nat→OA→Nat→Nat→Hp→Prop)(g k:Nat)(n:Int)(o:OA)(p q:Nat)(t:OA)(v w:Nat)(y:OA)(z aa:Nat)(ab ac:Int)(X1:FP)(E:VP)(H:Hp)(K:KT):Prop:=
  bcase (decide ((ac:Int)<ab)) (
  ix y z ac 4 fun B1 o1=>
  ldI .i64 (H.get B1 o1) fun x1=>
  ldI .i64 (H.get B1 (o1+1)) fun x2=>
  ldI .i64 (H.get B1 (o1+2)) fun x3=>
  ldI .i64 (H.get B1 (o1+3)) fun x4=>
  nw H ⟨[.int .i64 0,.int .i64 0,.int .i64 0,.int .i64 0],49⟩ fun B2 H1=>
  stC H1 B2 0 [.int .i64 x1,.int .i64 x2,.int .i64 x3,.int .i64 x4] fun H2=>
  ldI .i64 (H2.get B2 0) fun x5=>
  ldI .i64 (H2.get B2 1) fun x6=>
  bcase (!decide ((x5:Int)=x6)) (
  ldI .i64 (H2.get B2 0) fun x7=>
  ldI .i64 (H2.get B2 1) fun x8=>
  ldI .i64 (H2.get B2 3) fun x9=>
  nw H2 ⟨[.int .i64 x7,.int .i64 x8,.int .i64 (IntKind.wrap .i64 (2*x9))],75⟩ fun B3 H3=>
  appM 75 [.i .i64,.i .i64,.i .i64] 24 o p q (some ⟨B3,0,none⟩) 1 H3 fun a1p a1n a1c H4=>
  nw H4 ⟨[.int .i64 ac],3⟩ fun B4 H5=>
  appM 3 [.i .i64] 8 t v w (some ⟨B4,0,none⟩) 1 H5 fun a2p a2n a2c H6=>
  j1 g k n a1p a1n a1c a2p a2n a2c y z aa ab ac H6)
  (j1 g k n o p q t v w y z aa ab ac H2))
  (j2 g k n o p q t v w H)
theorem b1_eq (h:b1_t (fun g k n o p q t v w y z aa ab ac H=>j1 g k n o p q t v w y z aa ab ac X1 E H K) (fun g k n o p q t v w H=>j2 g k n o p q t v w E H K) g k n o p q t v w y z aa ab ac X1 E H K):b1 g k n o p q t v w y z aa ab ac X1 E H K:=by
  exact nodeR_imp2 (fun G=>b1_t (fun g k n o p q t v w y z aa ab ac H=>G [1,1,1,0,0,1,0,1,1,1,1,1,1] (f1 g k n o p q t v w y z aa ab ac) H) (fun g k n o p q t v w H=>G [1,1,1,1,1,1,1] [(1,.pointer (some ⟨g,0,none⟩)),(3,.pointer (some ⟨k,0,none⟩)),(5,.int .i64 n),(8,.slice o p q),(9,.slice t v w)] H) g k n o p q t v w y z aa ab ac X1 E H K) nok rfl (fun G=>by kernel_rfl) (Eq.mp (by kernel_rfl) h)
def b2_t (j3:OA→Nat→Nat→Nat→Int→Hp→Prop)(g:Nat)(ad:OA)(ae ag k:Nat)(n:Int)(t:OA)(v w:Nat)(ak:OA)(an ap:Nat)(aq av:Int)(X1:FP)(E:VP)(H:Hp)(K:KT):Prop:=
  bcase (decide ((av:Int)<aq)) (
  ix ak an av 1 fun B1 o1=>
  ldI .i64 (H.get B1 o1) fun x1=>
  ix t v x1 1 fun B2 o2=>
  ldI .i64 (H.get B2 o2) fun x2=>
  ix ad ae av 1 fun B3 o3=>
  stC H B3 o3 [.int .i64 x2] fun H1=>
  ldS (H1.get g 1) fun x3p x3n x3c=>
  ix t v x1 1 fun B4 o4=>
  ldI .i64 (H1.get B4 o4) fun x4=>
  ix x3p x3n x4 4 fun B5 o5=>
  ldI .i64 (H1.get B5 (o5+3)) fun x5=>
  X1 (f2 g ad ae ag k (IntKind.wrap .i64 (n+x5)) t v w ak an ap aq (IntKind.wrap .i64 (av+1))) H1)
  (j3 ad ae ag k n H)
theorem b2_eq (h:b2_t (fun ad ae ag k n H=>j3 ad ae ag k n E H K) g ad ae ag k n t v w ak an ap aq av X1 E H K):b2 g ad ae ag k n t v w ak an ap aq av X1 E H K:=by
  exact nodeR_imp2 (fun G=>b2_t (fun ad ae ag k n H=>G [1,1,1,1,1,1,1,1,1] [(2,.slice ad ae ag),(3,.pointer (some ⟨k,0,none⟩)),(5,.int .i64 n)] H) g ad ae ag k n t v w ak an ap aq av X1 E H K) nok rfl (fun G=>by kernel_rfl) (Eq.mp (by kernel_rfl) h)
end
end Q3
namespace Q8
abbrev KT:=OA→Nat→Nat→OA→Nat→Nat→OA→Nat→Nat→Int→Int→Hp→Prop
abbrev S1 (α:Type):=OA→Nat→Nat→Nat→Int→Int→OA→Nat→Nat→Int→Int→Hp→α
abbrev S2 (α:Type):=Nat→Int→Int→OA→Nat→Nat→OA→Nat→Nat→Int→Int→Hp→α
abbrev S3 (α:Type):=Nat→Int→Int→OA→Nat→Nat→Int→OA→Nat→Nat→Int→OA→Nat→Nat→Int→Int→Hp→α
abbrev S4 (α:Type):=OA→Nat→Nat→Nat→Int→OA→Nat→Nat→OA→Nat→Nat→Int→Int→Hp→α
section
variable (a aq:OA)(c av d aw e:Nat)(g k:Int)(n v:OA)(o w p y:Nat)(q ae:Int)(az:OA)(t:Int)(ag:OA)(ca ak cb an:Nat)(cc ap cd:Int)(z:OA)(aa ab:Nat)(ac ad:Int)(X1 X2:FP)(E:VP)(H:Hp)(K:KT)
noncomputable def A:An:={ live:=[(0,[0]),(1,[0,3,4]),(2,[0,3,4,6]),(3,[3]),(4,[0,3,4,6]),(5,[0,3,4,6,22,23,24]),(6,[0,3,4,6,22,23,24]),(7,[0,3,4,6,8,22,23,24]),(8,[3]),(9,[0,3,4,6,22,23,24]),(10,[0,3,4,6]),(11,[0,3,4,6,9]),(12,[3,4,6,9,34,35,36]),(13,[3,4,6,9,34,35,36]),(14,[3,4,6,9,10,11,34,35,36]),(15,[3,4,6,9,10,11,12,34,35,36]),(16,[3,4,6,9,10,11,12,34,35,36]),(17,[3,4,6,9,10,11,12,34,35,36]),(18,[3]),(19,[3,4,6,9,10,11,12,34,35,36]),(20,[3,4,6,9,34,35,36]),(21,[3,4,6,9]),(22,[3]),(23,[3,4,6,9]),(24,[3,4,6,9,13]),(25,[2,3,4,9,13]),(26,[2,3,4,9,86,87,88]),(27,[2,3,4,9,86,87,88]),(28,[2,3,4,9,15,86,87,88]),(29,[2,3,4,9,16,86,87,88]),(30,[2,3,4,9,16,86,87,88]),(31,[2,3,4,9,86,87,88]),(32,[2,3,4])],ord:=[(3,[0,1,2,3,4]),(8,[0,1,2,3,4]),(18,[0,1,2,3,4]),(22,[0,1,2,3,4]),(29,[0,1,2,3,4,5,6,7,8,9,10,11,12,13]),(32,[0,1,2,3,4,5,6])],stb:=[(29,[(11,[5,9])])],pre:=[(3,[[],[],[0,1],[0,1,2],[0,1,2,3]]),(8,[[],[],[0,1],[0,1,2],[0,1,2,3]]),(18,[[],[],[0,1],[0,1,2],[0,1,2,3]]),(22,[[],[],[0,1],[0,1,2],[0,1,2,3]]),(29,[[],[],[1],[],[],[4],[],[6],[],[8],[0,1,2,6,7],[0,1,2,6,7,10],[0,1,2,3,4,5,6,7,8,9,10,11],[0,1,2,3,4,5,6,7,8,9,10,11,12]]),(32,[[],[],[],[0],[0,1,3],[0,1,2,3,4],[0,1,2,3,4,5]])] }
noncomputable def code:Code:=bodyOf Go.Proofs.Try.f21
def rq:Ex→FP:=retQ T0 [.tmp 2,.cell 3 30,.tmp 4,.tmp 5] [26,30,2,31] (fun r H=>ldR (.tup [(false,[.sl]),(true,[.sl,.sl]),(false,[.i .i64]),(false,[.i .i64])]) r fun u=>K (asS1 (tupV u 0)) (asS2 (tupV u 0)) (asS3 (tupV u 0)) (asS1 (cellV (tupV u 1) 0)) (asS2 (cellV (tupV u 1) 0)) (asS3 (cellV (tupV u 1) 0)) (asS1 (cellV (tupV u 1) 1)) (asS2 (cellV (tupV u 1) 1)) (asS3 (cellV (tupV u 1) 1)) (asI (tupV u 2)) (asI (tupV u 3)) H) E
noncomputable def f1:Fr:=[(0,.slice a c d),(3,.pointer (some ⟨e,0,none⟩)),(4,.int .i64 g),(6,.int .i64 k),(22,.slice n o p),(23,.int .i64 q),(24,.int .i64 t)]
noncomputable def f2:Fr:=[(3,.pointer (some ⟨e,0,none⟩)),(4,.int .i64 g),(6,.int .i64 k),(9,.slice v w y),(34,.slice z aa ab),(35,.int .i64 ac),(36,.int .i64 ad)]
noncomputable def f3:Fr:=[(3,.pointer (some ⟨e,0,none⟩)),(4,.int .i64 g),(6,.int .i64 k),(9,.slice v w y),(10,.int .i64 ae),(11,.slice ag ak an),(12,.int .i64 ap),(34,.slice z aa ab),(35,.int .i64 ac),(36,.int .i64 ad)]
noncomputable def f4:Fr:=[(2,.slice aq av aw),(3,.pointer (some ⟨e,0,none⟩)),(4,.int .i64 g),(9,.slice v w y),(86,.slice az ca cb),(87,.int .i64 cc),(88,.int .i64 cd)]
def run:Prop:=nodeM P0 T0 A code [] [] (rq E K) (argF 0 [.slice a c d]) H
def j1:Prop:=nodeM P0 T0 A code [1,1,1,1] [] (rq E K) [(0,.slice a c d),(3,.pointer (some ⟨e,0,none⟩)),(4,.int .i64 g),(6,.int .i64 k)] H
def j2:Prop:=nodeM P0 T0 A code [1,1,1,1,1,0,1,0,0,1,1,0,0,1,1,0,0,1,0,0,0,1,0] [X1,X2] (rq E K) [(3,.pointer (some ⟨e,0,none⟩))] H
def j3:Prop:=nodeM P0 T0 A code [1,1,1,1,1,0,1,0,0,1,1,1] [X1] (rq E K) (f2 e g k v w y z aa ab ac ad) H
def j4:Prop:=nodeM P0 T0 A code [1,1,1,1,1,1] [] (rq E K) [(3,.pointer (some ⟨e,0,none⟩)),(4,.int .i64 g),(6,.int .i64 k),(9,.slice v w y)] H
def j5:Prop:=nodeM P0 T0 A code [1,1,1,1,1,1,1,1,1,1] [] (rq E K) [(2,.slice aq av aw),(3,.pointer (some ⟨e,0,none⟩)),(4,.int .i64 g)] H
def l1:Prop:=nodeM P0 T0 A code [1,1,1,0,1,0] [] (rq E K) (f1 a c d e g k n o p q t) H
def b1:Prop:=nodeM P0 T0 A code [1,1,1,0,1,0,0] [X1] (rq E K) (f1 a c d e g k n o p q t) H
def l2:Prop:=nodeM P0 T0 A code [1,1,1,1,1,0,1,0] [] (rq E K) (f2 e g k v w y z aa ab ac ad) H
def b2:Prop:=nodeM P0 T0 A code [1,1,1,1,1,0,1,0,0] [X1] (rq E K) (f2 e g k v w y z aa ab ac ad) H
def l3:Prop:=nodeM P0 T0 A code [1,1,1,1,1,0,1,0,0,1,1,0,0,1,1,0] [X1] (rq E K) (f3 e g k v w y ae ag ak an ap z aa ab ac ad) H
def b3:Prop:=nodeM P0 T0 A code [1,1,1,1,1,0,1,0,0,1,1,0,0,1,1,0,0] [X1,X2] (rq E K) (f3 e g k v w y ae ag ak an ap z aa ab ac ad) H
def l4:Prop:=nodeM P0 T0 A code [1,1,1,1,1,1,1,1,1,0,1,0] [] (rq E K) (f4 aq av aw e g v w y az ca cb cc cd) H
def b4:Prop:=nodeM P0 T0 A code [1,1,1,1,1,1,1,1,1,0,1,0,0] [X1] (rq E K) (f4 aq av aw e g v w y az ca cb cc cd) H
variable {a aq c av d aw e g k n v o w p y q ae az t ag ca ak cb an cc ap cd z aa ab ac ad X1 X2 E H K}
theorem ok:okCode A 117 code=true:=by kernel_rfl
theorem of (h:run a c d E H K):call a c d E H K:=
  callW_of T0_ok P0_mixed (A:=A) (fn:=Go.Proofs.Try.f21) Go.Proofs.Try.func21 rfl ok rfl h
theorem l1_rule (I:S1 Prop) (μ:S1 Nat)
 (h:∀a c d e g k n o p q t H,I a c d e g k n o p q t H→∀X:FP,(∀a' c' d' e' g' k' n' o' p' q' t' H',I a' c' d' e' g' k' n' o' p' q' t' H'→μ a' c' d' e' g' k' n' o' p' q' t' H'<μ a c d e g k n o p q t H→X (f1 a' c' d' e' g' k' n' o' p' q' t') H')→b1 a c d e g k n o p q t X E H K) (hI:I a c d e g k n o p q t H):l1 a c d e g k n o p q t E H K:=
 loop_rule2 (fun r m H=>∃a c d e g k n o p q t,r=f1 a c d e g k n o p q t∧m=μ a c d e g k n o p q t H∧I a c d e g k n o p q t H) (by rintro _ _ _ ⟨a,c,d,e,g,k,n,o,p,q,t,rfl,rfl,hI⟩ X hX; exact h _ _ _ _ _ _ _ _ _ _ _ _ hI X fun a' c' d' e' g' k' n' o' p' q' t' H' hI hl=>hX _ _ _ ⟨a',c',d',e',g',k',n',o',p',q',t',rfl,rfl,hI⟩ hl) rfl ⟨_,_,_,_,_,_,_,_,_,_,_,rfl,rfl,hI⟩
theorem l2_rule (I:S2 Prop) (μ:S2 Nat)
 (h:∀e g k v w y z aa ab ac ad H,I e g k v w y z aa ab ac ad H→∀X:FP,(∀e' g' k' v' w' y' z' aa' ab' ac' ad' H',I e' g' k' v' w' y' z' aa' ab' ac' ad' H'→μ e' g' k' v' w' y' z' aa' ab' ac' ad' H'<μ e g k v w y z aa ab ac ad H→X (f2 e' g' k' v' w' y' z' aa' ab' ac' ad') H')→b2 e g k v w y z aa ab ac ad X E H K) (hI:I e g k v w y z aa ab ac ad H):l2 e g k v w y z aa ab ac ad E H K:=
 loop_rule2 (fun r m H=>∃e g k v w y z aa ab ac ad,r=f2 e g k v w y z aa ab ac ad∧m=μ e g k v w y z aa ab ac ad H∧I e g k v w y z aa ab ac ad H) (by rintro _ _ _ ⟨e,g,k,v,w,y,z,aa,ab,ac,ad,rfl,rfl,hI⟩ X hX; exact h _ _ _ _ _ _ _ _ _ _ _ _ hI X fun e' g' k' v' w' y' z' aa' ab' ac' ad' H' hI hl=>hX _ _ _ ⟨e',g',k',v',w',y',z',aa',ab',ac',ad',rfl,rfl,hI⟩ hl) rfl ⟨_,_,_,_,_,_,_,_,_,_,_,rfl,rfl,hI⟩
theorem l3_rule (I:S3 Prop) (μ:S3 Nat)
 (h:∀e g k v w y ae ag ak an ap z aa ab ac ad H,I e g k v w y ae ag ak an ap z aa ab ac ad H→∀X:FP,(∀e' g' k' v' w' y' ae' ag' ak' an' ap' z' aa' ab' ac' ad' H',I e' g' k' v' w' y' ae' ag' ak' an' ap' z' aa' ab' ac' ad' H'→μ e' g' k' v' w' y' ae' ag' ak' an' ap' z' aa' ab' ac' ad' H'<μ e g k v w y ae ag ak an ap z aa ab ac ad H→X (f3 e' g' k' v' w' y' ae' ag' ak' an' ap' z' aa' ab' ac' ad') H')→b3 e g k v w y ae ag ak an ap z aa ab ac ad X1 X E H K) (hI:I e g k v w y ae ag ak an ap z aa ab ac ad H):l3 e g k v w y ae ag ak an ap z aa ab ac ad X1 E H K:=
 loop_rule2 (fun r m H=>∃e g k v w y ae ag ak an ap z aa ab ac ad,r=f3 e g k v w y ae ag ak an ap z aa ab ac ad∧m=μ e g k v w y ae ag ak an ap z aa ab ac ad H∧I e g k v w y ae ag ak an ap z aa ab ac ad H) (by rintro _ _ _ ⟨e,g,k,v,w,y,ae,ag,ak,an,ap,z,aa,ab,ac,ad,rfl,rfl,hI⟩ X hX; exact h _ _ _ _ _ _ _ _ _ _ _ _ _ _ _ _ _ hI X fun e' g' k' v' w' y' ae' ag' ak' an' ap' z' aa' ab' ac' ad' H' hI hl=>hX _ _ _ ⟨e',g',k',v',w',y',ae',ag',ak',an',ap',z',aa',ab',ac',ad',rfl,rfl,hI⟩ hl) rfl ⟨_,_,_,_,_,_,_,_,_,_,_,_,_,_,_,_,rfl,rfl,hI⟩
theorem l4_rule (I:S4 Prop) (μ:S4 Nat)
 (h:∀aq av aw e g v w y az ca cb cc cd H,I aq av aw e g v w y az ca cb cc cd H→∀X:FP,(∀aq' av' aw' e' g' v' w' y' az' ca' cb' cc' cd' H',I aq' av' aw' e' g' v' w' y' az' ca' cb' cc' cd' H'→μ aq' av' aw' e' g' v' w' y' az' ca' cb' cc' cd' H'<μ aq av aw e g v w y az ca cb cc cd H→X (f4 aq' av' aw' e' g' v' w' y' az' ca' cb' cc' cd') H')→b4 aq av aw e g v w y az ca cb cc cd X E H K) (hI:I aq av aw e g v w y az ca cb cc cd H):l4 aq av aw e g v w y az ca cb cc cd E H K:=
 loop_rule2 (fun r m H=>∃aq av aw e g v w y az ca cb cc cd,r=f4 aq av aw e g v w y az ca cb cc cd∧m=μ aq av aw e g v w y az ca cb cc cd H∧I aq av aw e g v w y az ca cb cc cd H) (by rintro _ _ _ ⟨aq,av,aw,e,g,v,w,y,az,ca,cb,cc,cd,rfl,rfl,hI⟩ X hX; exact h _ _ _ _ _ _ _ _ _ _ _ _ _ _ hI X fun aq' av' aw' e' g' v' w' y' az' ca' cb' cc' cd' H' hI hl=>hX _ _ _ ⟨aq',av',aw',e',g',v',w',y',az',ca',cb',cc',cd',rfl,rfl,hI⟩ hl) rfl ⟨_,_,_,_,_,_,_,_,_,_,_,_,_,rfl,rfl,hI⟩
theorem nok:nodesOk code [[0,1,0,1,1,1],[1,1,1,1],[0,1,0,1,1,1,1,1],[0,1,1,0,0,1,1,0,0,1,0,1,1,1,1,1],[0,1,0,0,0,1,0,0,1,1,0,0,1,1,0,0,1,0,1,1,1,1,1],[1,1,1,0,0,1,0,1,1,1,1,1],[1,1,1,1,1,1],[0,1,0,1,1,1,1,1,1,1,1,1],[1,1,1,1,1,1,1,1,1,1]]=true:=by kernel_rfl
def run_t (l1:S1 Prop)(a:OA)(c d:Nat)(E:VP)(H:Hp)(K:KT):Prop:=
  nw H ⟨[.slice none 0 0,.slice none 0 0],30⟩ fun B1 H1=>
  bcase (decide ((1024:Int)<(c:Int))) (
  ldS (H1.get B1 0) fun x1p x1n x1c=>
  ldS (H1.get B1 1) fun x2p x2n x2c=>
  stC H1 B1 0 [.slice x1p x1n x1c,.slice x2p x2n x2c] fun H2=>
  ldS (H2.get B1 0) fun x3p x3n x3c=>
  ldS (H2.get B1 1) fun x4p x4n x4c=>
  K none 0 0 x3p x3n x3c x4p x4n x4c 0 3 H2)
  (l1 a c d B1 0 (c:Int) a c d (c:Int) 0 H1)
theorem run_eq (h:run_t (fun a c d e g k n o p q t H=>l1 a c d e g k n o p q t E H K) a c d E H K):run a c d E H K:=by
  exact nodeR_imp2 (fun G=>run_t (fun a c d e g k n o p q t H=>G [0,1,0,1,1,1] (f1 a c d e g k n o p q t) H) a c d E H K) nok rfl (fun G=>by kernel_rfl) (Eq.mp (by kernel_rfl) h)
def j1_t (l2:S2 Prop)(a:OA)(c d e:Nat)(g k:Int)(E:VP)(H:Hp)(K:KT):Prop:=
  l2 e g k none 0 0 a c d (c:Int) 0 H
theorem j1_eq (h:j1_t (fun e g k v w y z aa ab ac ad H=>l2 e g k v w y z aa ab ac ad E H K) a c d e g k E H K):j1 a c d e g k E H K:=by
  exact nodeR_imp2 (fun G=>j1_t (fun e g k v w y z aa ab ac ad H=>G [0,1,0,1,1,1,1,1] (f2 e g k v w y z aa ab ac ad) H) a c d e g k E H K) nok rfl (fun G=>by kernel_rfl) (Eq.mp (by kernel_rfl) h)
def j2_t (e:Nat)(X1 X2:FP)(E:VP)(H:Hp)(K:KT):Prop:=
  ldS (H.get e 0) fun x1p x1n x1c=>
  ldS (H.get e 1) fun x2p x2n x2c=>
  stC H e 0 [.slice x1p x1n x1c,.slice x2p x2n x2c] fun H1=>
  ldS (H1.get e 0) fun x3p x3n x3c=>
  ldS (H1.get e 1) fun x4p x4n x4c=>
  K none 0 0 x3p x3n x3c x4p x4n x4c 0 31 H1
theorem j2_eq (h:j2_t e X1 X2 E H K):j2 e X1 X2 E H K:=by
  exact nodeR_imp2 (fun _=>j2_t e X1 X2 E H K) nok rfl (fun G=>by kernel_rfl) h
def j3_t (e:Nat)(g k:Int)(v:OA)(w y:Nat)(z:OA)(aa ab:Nat)(ac ad:Int)(X1:FP)(E:VP)(H:Hp)(K:KT):Prop:=
  X1 (f2 e g k v w y z aa ab ac (IntKind.wrap .i64 (ad+1))) H
theorem j3_eq (h:j3_t e g k v w y z aa ab ac ad X1 E H K):j3 e g k v w y z aa ab ac ad X1 E H K:=by
  exact nodeR_imp2 (fun _=>j3_t e g k v w y z aa ab ac ad X1 E H K) nok rfl (fun G=>by kernel_rfl) h
def j4_t (l4:S4 Prop)(e:Nat)(g k:Int)(v:OA)(w y:Nat)(E:VP)(H:Hp)(K:KT):Prop:=
  2≠(0:Int)∧
  bcase (decide (((Int.tmod k 2):Int)=1)) (
  ldS (H.get e 0) fun x1p x1n x1c=>
  ldS (H.get e 1) fun x2p x2n x2c=>
  stC H e 0 [.slice x1p x1n x1c,.slice x2p x2n x2c] fun H1=>
  ldS (H1.get e 0) fun x3p x3n x3c=>
  ldS (H1.get e 1) fun x4p x4n x4c=>
  K none 0 0 x3p x3n x3c x4p x4n x4c 0 170 H1)
  (Q13.call k v w y E H fun r1 H2=>
  Q14.call r1 E H2 fun r2p r2n r2c r3_Yp r3_Yn r3_Yc r3_Setsp r3_Setsn r3_Setsc H3=>
  stC H3 e 0 [.slice r3_Yp r3_Yn r3_Yc,.slice r3_Setsp r3_Setsn r3_Setsc] fun H4=>
  mkS k k 3 [.i .i64] 8 H4 fun B1 H5=>
  l4 (some ⟨B1,0,none⟩) k.toNat k.toNat e g v w y r2p r2n r2c (r2n:Int) 0 H5)
theorem j4_eq (h:j4_t (fun aq av aw e g v w y az ca cb cc cd H=>l4 aq av aw e g v w y az ca cb cc cd E H K) e g k v w y E H K):j4 e g k v w y E H K:=by
  exact nodeR_imp2 (fun G=>j4_t (fun aq av aw e g v w y az ca cb cc cd H=>G [0,1,0,1,1,1,1,1,1,1,1,1] (f4 aq av aw e g v w y az ca cb cc cd) H) e g k v w y E H K) nok rfl (fun G=>by kernel_rfl) (Eq.mp (by kernel_rfl) h)
def j5_t (aq:OA)(av aw e:Nat)(g:Int)(E:VP)(H:Hp)(K:KT):Prop:=
  ldS (H.get e 0) fun x1p x1n x1c=>
  ldS (H.get e 1) fun x2p x2n x2c=>
  stC H e 0 [.slice x1p x1n x1c,.slice x2p x2n x2c] fun H1=>
  ldS (H1.get e 0) fun x3p x3n x3c=>
  ldS (H1.get e 1) fun x4p x4n x4c=>
  K aq av aw x3p x3n x3c x4p x4n x4c g 0 H1
theorem j5_eq (h:j5_t aq av aw e g E H K):j5 aq av aw e g E H K:=by
  exact nodeR_imp2 (fun _=>j5_t aq av aw e g E H K) nok rfl (fun G=>by kernel_rfl) h
def b1_t (j1:OA→Nat→Nat→Nat→Int→Int→Hp→Prop)(a:OA)(c d e:Nat)(g k:Int)(n:OA)(o p:Nat)(q t:Int)(X1:FP)(E:VP)(H:Hp)(K:KT):Prop:=
  bcase (decide ((t:Int)<q)) (
  ix n o t 1 fun B1 o1=>
  ldS (H.get B1 o1) fun x1p x1n x1c=>
  bcase (!decide (((x1n:Int):Int)=k)) (
  ldS (H.get e 0) fun x2p x2n x2c=>
  ldS (H.get e 1) fun x3p x3n x3c=>
  stC H e 0 [.slice x2p x2n x2c,.slice x3p x3n x3c] fun H1=>
  ldS (H1.get e 0) fun x4p x4n x4c=>
  ldS (H1.get e 1) fun x5p x5n x5c=>
  K none 0 0 x4p x4n x4c x5p x5n x5c 0 3 H1)
  (X1 (f1 a c d e g k n o p q (IntKind.wrap .i64 (t+1))) H))
  (j1 a c d e g k H)
theorem b1_eq (h:b1_t (fun a c d e g k H=>j1 a c d e g k E H K) a c d e g k n o p q t X1 E H K):b1 a c d e g k n o p q t X1 E H K:=by
  exact nodeR_imp2 (fun G=>b1_t (fun a c d e g k H=>G [1,1,1,1] [(0,.slice a c d),(3,.pointer (some ⟨e,0,none⟩)),(4,.int .i64 g),(6,.int .i64 k)] H) a c d e g k n o p q t X1 E H K) nok rfl (fun G=>by kernel_rfl) (Eq.mp (by kernel_rfl) h)
def b2_t (l3:S3 Prop)(j4:Nat→Int→Int→OA→Nat→Nat→Hp→Prop)(e:Nat)(g k:Int)(v:OA)(w y:Nat)(z:OA)(aa ab:Nat)(ac ad:Int)(X1:FP)(E:VP)(H:Hp)(K:KT):Prop:=
  bcase (decide ((ad:Int)<ac)) (
  ix z aa ad 1 fun B1 o1=>
  ldS (H.get B1 o1) fun x1p x1n x1c=>
  l3 e g k v w y ad x1p x1n x1c (IntKind.wrap .i64 (ad+1)) z aa ab ac ad H)
  (j4 e g k v w y H)
theorem b2_eq (h:b2_t (fun e g k v w y ae ag ak an ap z aa ab ac ad H=>l3 e g k v w y ae ag ak an ap z aa ab ac ad X1 E H K) (fun e g k v w y H=>j4 e g k v w y E H K) e g k v w y z aa ab ac ad X1 E H K):b2 e g k v w y z aa ab ac ad X1 E H K:=by
  exact nodeR_imp2 (fun G=>b2_t (fun e g k v w y ae ag ak an ap z aa ab ac ad H=>G [0,1,1,0,0,1,1,0,0,1,0,1,1,1,1,1] (f3 e g k v w y ae ag ak an ap z aa ab ac ad) H) (fun e g k v w y H=>G [1,1,1,1,1,1] [(3,.pointer (some ⟨e,0,none⟩)),(4,.int .i64 g),(6,.int .i64 k),(9,.slice v w y)] H) e g k v w y z aa ab ac ad X1 E H K) nok rfl (fun G=>by kernel_rfl) (Eq.mp (by kernel_rfl) h)
def b3_t (j2:Nat→Hp→Prop)(j3:Nat→Int→Int→OA→Nat→Nat→OA→Nat→Nat→Int→Int→Hp→Prop)(e:Nat)(g k:Int)(v:OA)(w y:Nat)(ae:Int)(ag:OA)(ak an:Nat)(ap:Int)(z:OA)(aa ab:Nat)(ac ad:Int)(X1 X2:FP)(E:VP)(H:Hp)(K:KT):Prop:=
  bcase (decide ((ap:Int)<k)) (
  ix ag ak ap 1 fun B1 o1=>
  ldI .i64 (H.get B1 o1) fun x1=>
  bcase (decide ((x1:Int)<(-2147483648))) (
  j2 e H)
  (ix ag ak ap 1 fun B2 o2=>
  ldI .i64 (H.get B2 o2) fun x2=>
  bcase (decide ((2147483648:Int)<x2)) (
  j2 e H)
  (ix ag ak ap 1 fun B3 o3=>
  ldI .i64 (H.get B3 o3) fun x3=>
  nw H ⟨[.int .i64 ae,.int .i64 ap,.int .i64 (IntKind.wrap .i64 (2*x3))],75⟩ fun B4 H1=>
  appM 75 [.i .i64,.i .i64,.i .i64] 24 v w y (some ⟨B4,0,none⟩) 1 H1 fun a1p a1n a1c H2=>
  X2 (f3 e g k a1p a1n a1c ae ag ak an (IntKind.wrap .i64 (ap+1)) z aa ab ac ad) H2)))
  (j3 e g k v w y z aa ab ac ad H)
theorem b3_eq (h:b3_t (fun e H=>j2 e X1 X2 E H K) (fun e g k v w y z aa ab ac ad H=>j3 e g k v w y z aa ab ac ad X1 E H K) e g k v w y ae ag ak an ap z aa ab ac ad X1 X2 E H K):b3 e g k v w y ae ag ak an ap z aa ab ac ad X1 X2 E H K:=by
  exact nodeR_imp2 (fun G=>b3_t (fun e H=>G [0,1,0,0,0,1,0,0,1,1,0,0,1,1,0,0,1,0,1,1,1,1,1] [(3,.pointer (some ⟨e,0,none⟩))] H) (fun e g k v w y z aa ab ac ad H=>G [1,1,1,0,0,1,0,1,1,1,1,1] (f2 e g k v w y z aa ab ac ad) H) e g k v w y ae ag ak an ap z aa ab ac ad X1 X2 E H K) nok rfl (fun G=>by kernel_rfl) (Eq.mp (by kernel_rfl) h)
def b4_t (j5:OA→Nat→Nat→Nat→Int→Hp→Prop)(aq:OA)(av aw e:Nat)(g:Int)(v:OA)(w y:Nat)(az:OA)(ca cb:Nat)(cc cd:Int)(X1:FP)(E:VP)(H:Hp)(K:KT):Prop:=
  bcase (decide ((cd:Int)<cc)) (
  ix az ca cd 1 fun B1 o1=>
  ldI .i64 (H.get B1 o1) fun x1=>
  ix v w x1 3 fun B2 o2=>
  ldI .i64 (H.get B2 o2) fun x2=>
  ldI .i64 (H.get B2 (o2+1)) fun x3=>
  ldI .i64 (H.get B2 (o2+2)) fun x4=>
  nw H ⟨[.int .i64 0,.int .i64 0,.int .i64 0],75⟩ fun B3 H1=>
  stC H1 B3 0 [.int .i64 x2,.int .i64 x3,.int .i64 x4] fun H2=>
  ldI .i64 (H2.get B3 0) fun x5=>
  ldI .i64 (H2.get B3 1) fun x6=>
  ldI .i64 (H2.get B3 1) fun x7=>
  ldI .i64 (H2.get B3 0) fun x8=>
  ix aq av x5 1 fun B4 o3=>
  stC H2 B4 o3 [.int .i64 x7] fun H3=>
  (ldI .i64 (H3.get B3 1) fun x11=>
  Value.int .i64 x11=Value.int .i64 x6)∧
  (ldI .i64 (H3.get B3 0) fun x10=>
  Value.int .i64 x10=Value.int .i64 x8)∧
  ix aq av x6 1 fun B5 o4=>
  stC H3 B5 o4 [.int .i64 x8] fun H4=>
  ldI .i64 (H4.get B3 2) fun x9=>
  2≠(0:Int)∧
  X1 (f4 aq av aw e (IntKind.wrap .i64 (g+(IntKind.wrap .i64 (Int.tdiv x9 2)))) v w y az ca cb cc (IntKind.wrap .i64 (cd+1))) H4)
  (j5 aq av aw e g H)
theorem b4_eq (h:b4_t (fun aq av aw e g H=>j5 aq av aw e g E H K) aq av aw e g v w y az ca cb cc cd X1 E H K):b4 aq av aw e g v w y az ca cb cc cd X1 E H K:=by
  exact nodeR_imp2 (fun G=>b4_t (fun aq av aw e g H=>G [1,1,1,1,1,1,1,1,1,1] [(2,.slice aq av aw),(3,.pointer (some ⟨e,0,none⟩)),(4,.int .i64 g)] H) aq av aw e g v w y az ca cb cc cd X1 E H K) nok rfl (fun G=>by kernel_rfl) (Eq.mp (by kernel_rfl) h)
end
end Q8
namespace Q13
abbrev KT:=OA→Hp→Prop
abbrev S1 (α:Type):=OA→Nat→Nat→OA→Int→Int→Hp→α
abbrev S2 (α:Type):=OA→Int→Int→Int→Hp→α
section
variable (a:Int)(c:OA)(d e:Nat)(g:OA)(k o n p q:Int)(X1:FP)(E:VP)(H:Hp)(K:KT)
noncomputable def A:An:={ live:=[(0,[0,1]),(1,[0,1]),(2,[0,1,5]),(3,[1,5,19,20]),(4,[1,5,19,20]),(5,[1,5,6,19,20]),(6,[1,5,6,19,20]),(7,[1,5,19,20]),(8,[1,5]),(9,[1,5]),(10,[5,7]),(11,[5,7,58,59]),(12,[5,7,58,59]),(13,[5,7,8,58,59]),(14,[5,7,58,59]),(15,[5])],ord:=[(1,[0,1,2,3,4,5,6,7,8,9,10]),(5,[0,1,2,3,4,5,6,7,8,9,10,11,12,13,14])],stb:=[],pre:=[(1,[[],[],[],[2],[],[4],[],[6],[0,1,2,3,4,5,6,7],[0,1,2,3,4,5,6,7,8],[0,1,2,3,4,5,6,7,8,9]]),(5,[[],[0],[0,1],[0,1,2],[],[],[5],[5,6],[5,6,7],[],[],[0,1,2,3,4,5,6,7,8],[0,1,2,3,4,5,6,7,8,11],[0,1,2,3,4,5,6,7,8,9,10,11,12],[0,1,2,3,4,5,6,7,8,9,10,11,12,13]])] }
noncomputable def code:Code:=bodyOf Go.Proofs.Try.f30
def rq:Ex→FP:=retQ T0 [.tmp 4] [77] (fun r H=>ldR (.one false [.ptr]) r fun u=>K (asP u) H) E
noncomputable def f1:Fr:=[(1,.slice c d e),(5,.pointer g),(19,.int .i64 k),(20,.int .i64 n)]
noncomputable def f2:Fr:=[(5,.pointer g),(7,.int .i64 o),(58,.int .i64 p),(59,.int .i64 q)]
def run:Prop:=nodeM P0 T0 A code [] [] (rq E K) (argF 0 [.int .i64 a,.slice c d e]) H
def j1:Prop:=nodeM P0 T0 A code [1,1,1] [] (rq E K) [(1,.slice c d e),(5,.pointer g)] H
def l1:Prop:=nodeM P0 T0 A code [1,1,0,1,0] [] (rq E K) (f1 c d e g k n) H
def b1:Prop:=nodeM P0 T0 A code [1,1,0,1,0,0] [X1] (rq E K) (f1 c d e g k n) H
def l2:Prop:=nodeM P0 T0 A code [1,1,1,0,1,0,1,1,0] [] (rq E K) (f2 g o p q) H
def b2:Prop:=nodeM P0 T0 A code [1,1,1,0,1,0,1,1,0,0] [X1] (rq E K) (f2 g o p q) H
variable {a c d e g k o n p q X1 E H K}
theorem ok:okCode A 72 code=true:=by kernel_rfl
theorem of (h:run a c d e E H K):call a c d e E H K:=
  callW_of T0_ok P0_mixed (A:=A) (fn:=Go.Proofs.Try.f30) Go.Proofs.Try.func30 rfl ok rfl h
theorem l1_rule (I:S1 Prop) (μ:S1 Nat)
 (h:∀c d e g k n H,I c d e g k n H→∀X:FP,(∀c' d' e' g' k' n' H',I c' d' e' g' k' n' H'→μ c' d' e' g' k' n' H'<μ c d e g k n H→X (f1 c' d' e' g' k' n') H')→b1 c d e g k n X E H K) (hI:I c d e g k n H):l1 c d e g k n E H K:=
 loop_rule2 (fun r m H=>∃c d e g k n,r=f1 c d e g k n∧m=μ c d e g k n H∧I c d e g k n H) (by rintro _ _ _ ⟨c,d,e,g,k,n,rfl,rfl,hI⟩ X hX; exact h _ _ _ _ _ _ _ hI X fun c' d' e' g' k' n' H' hI hl=>hX _ _ _ ⟨c',d',e',g',k',n',rfl,rfl,hI⟩ hl) rfl ⟨_,_,_,_,_,_,rfl,rfl,hI⟩
theorem l2_rule (I:S2 Prop) (μ:S2 Nat)
 (h:∀g o p q H,I g o p q H→∀X:FP,(∀g' o' p' q' H',I g' o' p' q' H'→μ g' o' p' q' H'<μ g o p q H→X (f2 g' o' p' q') H')→b2 g o p q X E H K) (hI:I g o p q H):l2 g o p q E H K:=
 loop_rule2 (fun r m H=>∃g o p q,r=f2 g o p q∧m=μ g o p q H∧I g o p q H) (by rintro _ _ _ ⟨g,o,p,q,rfl,rfl,hI⟩ X hX; exact h _ _ _ _ _ hI X fun g' o' p' q' H' hI hl=>hX _ _ _ ⟨g',o',p',q',rfl,rfl,hI⟩ hl) rfl ⟨_,_,_,_,rfl,rfl,hI⟩
theorem nok:nodesOk code [[0,1,0,1,1],[1,1,1],[0,1,1,0,1,0,1,1,1]]=true:=by kernel_rfl
def run_t (l1:S1 Prop)(a:Int)(c:OA)(d e:Nat)(E:VP)(H:Hp)(K:KT):Prop:=
  mkS a a 2 [.i .i64] 8 H fun B1 H1=>
  mkS a a 3 [.i .i64] 8 H1 fun B2 H2=>
  mkS a a 3 [.i .i64] 8 H2 fun B3 H3=>
  nw H3 ⟨[.int .i64 a,.slice c d e,.slice (some ⟨B1,0,none⟩) a.toNat a.toNat,.slice (some ⟨B2,0,none⟩) a.toNat a.toNat,.slice none 0 0,.slice (some ⟨B3,0,none⟩) a.toNat a.toNat],112⟩ fun B4 H4=>
  l1 c d e (some ⟨B4,0,none⟩) a 0 H4
theorem run_eq (h:run_t (fun c d e g k n H=>l1 c d e g k n E H K) a c d e E H K):run a c d e E H K:=by
  exact nodeR_imp2 (fun G=>run_t (fun c d e g k n H=>G [0,1,0,1,1] (f1 c d e g k n) H) a c d e E H K) nok rfl (fun G=>by kernel_rfl) (Eq.mp (by kernel_rfl) h)
def j1_t (l2:S2 Prop)(c:OA)(d e:Nat)(g:OA)(E:VP)(H:Hp)(K:KT):Prop:=
  bcase (decide ((0:Int)<(d:Int))) (
  Q34.call c d e 61 [] E H fun r1_u r1_v r1_twice H1=>
  nn g fun B1 o1=>
  ldS (H1.get B1 (o1+2)) fun x1p x1n x1c=>
  l2 g r1_twice (x1n:Int) 0 H1)
  (K g H)
theorem j1_eq (h:j1_t (fun g o p q H=>l2 g o p q E H K) c d e g E H K):j1 c d e g E H K:=by
  exact nodeR_imp2 (fun G=>j1_t (fun g o p q H=>G [0,1,1,0,1,0,1,1,1] (f2 g o p q) H) c d e g E H K) nok rfl (fun G=>by kernel_rfl) (Eq.mp (by kernel_rfl) h)
def b1_t (j1:OA→Nat→Nat→OA→Hp→Prop)(c:OA)(d e:Nat)(g:OA)(k n:Int)(X1:FP)(E:VP)(H:Hp)(K:KT):Prop:=
  bcase (decide ((n:Int)<k)) (
  nn g fun B1 o1=>
  ldS (H.get B1 (o1+3)) fun x1p x1n x1c=>
  nn g fun B2 o2=>
  ldS (H.get B2 (o2+5)) fun x2p x2n x2c=>
  ix x1p x1n n 1 fun B3 o3=>
  stC H B3 o3 [.int .i64 (-1)] fun H1=>
  ix x2p x2n n 1 fun B4 o4=>
  stC H1 B4 o4 [.int .i64 n] fun H2=>
  nn g fun B5 o5=>
  ldS (H2.get B5 (o5+4)) fun x3p x3n x3c=>
  nw H2 ⟨[.slice none 0 0,.slice none 0 0,.int .i64 n,.int .i64 0,.int .i64 0,.int .i64 0,.int .i64 0,.int .i64 0,.int .i64 (-1)],117⟩ fun B6 H3=>
  appM 117 [.sl,.sl,.i .i64,.i .i64,.i .i64,.i .i64,.i .i64,.i .i64,.i .i64] 104 x3p x3n x3c (some ⟨B6,0,none⟩) 1 H3 fun a1p a1n a1c H4=>
  nn g fun B7 o6=>
  stC H4 B7 (o6+4) [.slice a1p a1n a1c] fun H5=>
  X1 (f1 c d e g k (IntKind.wrap .i64 (n+1))) H5)
  (j1 c d e g H)
theorem b1_eq (h:b1_t (fun c d e g H=>j1 c d e g E H K) c d e g k n X1 E H K):b1 c d e g k n X1 E H K:=by
  exact nodeR_imp2 (fun G=>b1_t (fun c d e g H=>G [1,1,1] [(1,.slice c d e),(5,.pointer g)] H) c d e g k n X1 E H K) nok rfl (fun G=>by kernel_rfl) (Eq.mp (by kernel_rfl) h)
def b2_t (g:OA)(o p q:Int)(X1:FP)(E:VP)(H:Hp)(K:KT):Prop:=
  bcase (decide ((q:Int)<p)) (
  nn g fun B1 o1=>
  ldS (H.get B1 (o1+2)) fun x1p x1n x1c=>
  2≠(0:Int)∧
  ix x1p x1n q 1 fun B2 o2=>
  stC H B2 o2 [.int .i64 (IntKind.wrap .i64 (Int.tdiv o 2))] fun H1=>
  X1 (f2 g o p (IntKind.wrap .i64 (q+1))) H1)
  (K g H)
theorem b2_eq (h:b2_t g o p q X1 E H K):b2 g o p q X1 E H K:=by
  exact nodeR_imp2 (fun _=>b2_t g o p q X1 E H K) nok rfl (fun G=>by kernel_rfl) h
end
end Q13
namespace Q14
abbrev KT:=OA→Nat→Nat→OA→Nat→Nat→OA→Nat→Nat→Hp→Prop
abbrev S1 (α:Type):=OA→Nat→Int→Int→Hp→α
abbrev S2 (α:Type):=OA→Nat→OA→Nat→Nat→OA→Nat→Nat→Int→Int→Hp→α
abbrev S3 (α:Type):=OA→Nat→OA→Nat→Nat→Nat→Int→Hp→α
section
variable (a:OA)(c:Nat)(d:Int)(g:OA)(e:Int)(k n:Nat)(o:OA)(w p:Nat)(y:Int)(q:Nat)(t v:Int)(X1:FP)(E:VP)(H:Hp)(K:KT)
noncomputable def A:An:={ live:=[(0,[0]),(1,[0,3]),(2,[0,3,15,16]),(3,[0,3,15,16]),(4,[0,3,15,16]),(5,[0,3]),(6,[0,3,4]),(7,[0,3,4,24,25,26]),(8,[0,3,4,24,25,26]),(9,[0,3,4,5,6,24,25,26]),(10,[0,3,4,6,24,25,26]),(11,[0,3,4,24,25,26]),(12,[0,3,4]),(13,[0,3,4,7]),(14,[0,3,4,7,8]),(15,[0,3,4,7,8]),(16,[0,3,4,7,8]),(17,[0,3,4,7,8,9]),(18,[0,3,4,7,8,9]),(19,[0,3,4,7,8,9,10]),(20,[0,3,4,7,8,9,10]),(21,[3,4,7])],ord:=[(21,[0,1,2,3])],stb:=[],pre:=[(21,[[],[],[0],[0,1,2]])] }
noncomputable def code:Code:=bodyOf Go.Proofs.Try.f31
def rq:Ex→FP:=retQ T0 [.tmp 2,.cell 3 30] [26,30] (fun r H=>ldR (.tup [(false,[.sl]),(true,[.sl,.sl])]) r fun u=>K (asS1 (tupV u 0)) (asS2 (tupV u 0)) (asS3 (tupV u 0)) (asS1 (cellV (tupV u 1) 0)) (asS2 (cellV (tupV u 1) 0)) (asS3 (cellV (tupV u 1) 0)) (asS1 (cellV (tupV u 1) 1)) (asS2 (cellV (tupV u 1) 1)) (asS3 (cellV (tupV u 1) 1)) H) E
noncomputable def f1:Fr:=[(0,.pointer a),(3,.pointer (some ⟨c,0,none⟩)),(15,.int .i64 d),(16,.int .i64 e)]
noncomputable def f2:Fr:=[(0,.pointer a),(3,.pointer (some ⟨c,0,none⟩)),(4,.slice g k n),(24,.slice o p q),(25,.int .i64 t),(26,.int .i64 v)]
noncomputable def f3:Fr:=[(0,.pointer a),(3,.pointer (some ⟨c,0,none⟩)),(4,.slice g k n),(7,.pointer (some ⟨w,0,none⟩)),(8,.int .i64 y)]
def run:Prop:=nodeM P0 T0 A code [] [] (rq E K) (argF 0 [.pointer a]) H
def j1:Prop:=nodeM P0 T0 A code [1,1] [] (rq E K) [(0,.pointer a),(3,.pointer (some ⟨c,0,none⟩))] H
def j2:Prop:=nodeM P0 T0 A code [1,1,1,0,1,0,0,1,1,1] [X1] (rq E K) (f2 a c g k n o p q t v) H
def j3:Prop:=nodeM P0 T0 A code [1,1,1,1] [] (rq E K) [(0,.pointer a),(3,.pointer (some ⟨c,0,none⟩)),(4,.slice g k n)] H
def j4:Prop:=nodeM P0 T0 A code [1,1,1,1,1,0,1,0,0,1,1] [X1] (rq E K) (f3 a c g k n w y) H
def j5:Prop:=nodeM P0 T0 A code [1,1,1,1,1,1] [] (rq E K) [(3,.pointer (some ⟨c,0,none⟩)),(4,.slice g k n),(7,.pointer (some ⟨w,0,none⟩))] H
def l1:Prop:=nodeM P0 T0 A code [1,0,1,0] [] (rq E K) (f1 a c d e) H
def b1:Prop:=nodeM P0 T0 A code [1,0,1,0,0] [X1] (rq E K) (f1 a c d e) H
def l2:Prop:=nodeM P0 T0 A code [1,1,1,0,1,0] [] (rq E K) (f2 a c g k n o p q t v) H
def b2:Prop:=nodeM P0 T0 A code [1,1,1,0,1,0,0] [X1] (rq E K) (f2 a c g k n o p q t v) H
def l3:Prop:=nodeM P0 T0 A code [1,1,1,1,1,0,1,0] [] (rq E K) (f3 a c g k n w y) H
def b3:Prop:=nodeM P0 T0 A code [1,1,1,1,1,0,1,0,0] [X1] (rq E K) (f3 a c g k n w y) H
variable {a c d g e k n o w p y q t v X1 E H K}
theorem ok:okCode A 95 code=true:=by kernel_rfl
theorem of (h:run a E H K):call a E H K:=
  callW_of T0_ok P0_mixed (A:=A) (fn:=Go.Proofs.Try.f31) Go.Proofs.Try.func31 rfl ok rfl h
theorem l1_rule (I:S1 Prop) (μ:S1 Nat)
 (h:∀a c d e H,I a c d e H→∀X:FP,(∀a' c' d' e' H',I a' c' d' e' H'→μ a' c' d' e' H'<μ a c d e H→X (f1 a' c' d' e') H')→b1 a c d e X E H K) (hI:I a c d e H):l1 a c d e E H K:=
 loop_rule2 (fun r m H=>∃a c d e,r=f1 a c d e∧m=μ a c d e H∧I a c d e H) (by rintro _ _ _ ⟨a,c,d,e,rfl,rfl,hI⟩ X hX; exact h _ _ _ _ _ hI X fun a' c' d' e' H' hI hl=>hX _ _ _ ⟨a',c',d',e',rfl,rfl,hI⟩ hl) rfl ⟨_,_,_,_,rfl,rfl,hI⟩
theorem l2_rule (I:S2 Prop) (μ:S2 Nat)
 (h:∀a c g k n o p q t v H,I a c g k n o p q t v H→∀X:FP,(∀a' c' g' k' n' o' p' q' t' v' H',I a' c' g' k' n' o' p' q' t' v' H'→μ a' c' g' k' n' o' p' q' t' v' H'<μ a c g k n o p q t v H→X (f2 a' c' g' k' n' o' p' q' t' v') H')→b2 a c g k n o p q t v X E H K) (hI:I a c g k n o p q t v H):l2 a c g k n o p q t v E H K:=
 loop_rule2 (fun r m H=>∃a c g k n o p q t v,r=f2 a c g k n o p q t v∧m=μ a c g k n o p q t v H∧I a c g k n o p q t v H) (by rintro _ _ _ ⟨a,c,g,k,n,o,p,q,t,v,rfl,rfl,hI⟩ X hX; exact h _ _ _ _ _ _ _ _ _ _ _ hI X fun a' c' g' k' n' o' p' q' t' v' H' hI hl=>hX _ _ _ ⟨a',c',g',k',n',o',p',q',t',v',rfl,rfl,hI⟩ hl) rfl ⟨_,_,_,_,_,_,_,_,_,_,rfl,rfl,hI⟩
theorem l3_rule (I:S3 Prop) (μ:S3 Nat)
 (h:∀a c g k n w y H,I a c g k n w y H→∀X:FP,(∀a' c' g' k' n' w' y' H',I a' c' g' k' n' w' y' H'→μ a' c' g' k' n' w' y' H'<μ a c g k n w y H→X (f3 a' c' g' k' n' w' y') H')→b3 a c g k n w y X E H K) (hI:I a c g k n w y H):l3 a c g k n w y E H K:=
 loop_rule2 (fun r m H=>∃a c g k n w y,r=f3 a c g k n w y∧m=μ a c g k n w y H∧I a c g k n w y H) (by rintro _ _ _ ⟨a,c,g,k,n,w,y,rfl,rfl,hI⟩ X hX; exact h _ _ _ _ _ _ _ _ hI X fun a' c' g' k' n' w' y' H' hI hl=>hX _ _ _ ⟨a',c',g',k',n',w',y',rfl,rfl,hI⟩ hl) rfl ⟨_,_,_,_,_,_,_,rfl,rfl,hI⟩
theorem nok:nodesOk code [[0,1,0,1],[1,1],[0,1,0,1,1,1],[1,1,1,0,0,1,0,1,1,1],[1,1,1,1],[0,1,0,1,1,1,1,1],[1,1,0,0,1,0,1,1,1,1,1],[1,1,1,1,1,1]]=true:=by kernel_rfl
def run_t (l1:S1 Prop)(a:OA)(E:VP)(H:Hp)(K:KT):Prop:=
  nw H ⟨[.slice none 0 0,.slice none 0 0],30⟩ fun B1 H1=>
  nn a fun B2 o1=>
  ldI .i64 (H1.get B2 o1) fun x1=>
  2≠(0:Int)∧
  l1 a B1 (IntKind.wrap .i64 (Int.tdiv x1 2)) 0 H1
theorem run_eq (h:run_t (fun a c d e H=>l1 a c d e E H K) a E H K):run a E H K:=by
  exact nodeR_imp2 (fun G=>run_t (fun a c d e H=>G [0,1,0,1] (f1 a c d e) H) a E H K) nok rfl (fun G=>by kernel_rfl) (Eq.mp (by kernel_rfl) h)
def j1_t (l2:S2 Prop)(a:OA)(c:Nat)(E:VP)(H:Hp)(K:KT):Prop:=
  nn a fun B1 o1=>
  ldS (H.get B1 (o1+3)) fun x1p x1n x1c=>
  l2 a c none 0 0 x1p x1n x1c (x1n:Int) 0 H
theorem j1_eq (h:j1_t (fun a c g k n o p q t v H=>l2 a c g k n o p q t v E H K) a c E H K):j1 a c E H K:=by
  exact nodeR_imp2 (fun G=>j1_t (fun a c g k n o p q t v H=>G [0,1,0,1,1,1] (f2 a c g k n o p q t v) H) a c E H K) nok rfl (fun G=>by kernel_rfl) (Eq.mp (by kernel_rfl) h)
def j2_t (a:OA)(c:Nat)(g:OA)(k n:Nat)(o:OA)(p q:Nat)(t v:Int)(X1:FP)(E:VP)(H:Hp)(K:KT):Prop:=
  X1 (f2 a c g k n o p q t (IntKind.wrap .i64 (v+1))) H
theorem j2_eq (h:j2_t a c g k n o p q t v X1 E H K):j2 a c g k n o p q t v X1 E H K:=by
  exact nodeR_imp2 (fun _=>j2_t a c g k n o p q t v X1 E H K) nok rfl (fun G=>by kernel_rfl) h
def j3_t (l3:S3 Prop)(a:OA)(c:Nat)(g:OA)(k n:Nat)(E:VP)(H:Hp)(K:KT):Prop:=
  nn a fun B1 o1=>
  ldS (H.get B1 (o1+2)) fun x1p x1n x1c=>
  nw H ⟨[.slice none 0 0,.slice none 0 0],30⟩ fun B2 H1=>
  stC H1 B2 0 [.slice x1p x1n x1c,.slice none 0 0] fun H2=>
  nn a fun B3 o2=>
  ldI .i64 (H2.get B3 o2) fun x2=>
  l3 a c g k n B2 x2 H2
theorem j3_eq (h:j3_t (fun a c g k n w y H=>l3 a c g k n w y E H K) a c g k n E H K):j3 a c g k n E H K:=by
  exact nodeR_imp2 (fun G=>j3_t (fun a c g k n w y H=>G [0,1,0,1,1,1,1,1] (f3 a c g k n w y) H) a c g k n E H K) nok rfl (fun G=>by kernel_rfl) (Eq.mp (by kernel_rfl) h)
def j4_t (a:OA)(c:Nat)(g:OA)(k n w:Nat)(y:Int)(X1:FP)(E:VP)(H:Hp)(K:KT):Prop:=
  X1 (f3 a c g k n w (IntKind.wrap .i64 (y+1))) H
theorem j4_eq (h:j4_t a c g k n w y X1 E H K):j4 a c g k n w y X1 E H K:=by
  exact nodeR_imp2 (fun _=>j4_t a c g k n w y X1 E H K) nok rfl (fun G=>by kernel_rfl) h
def j5_t (c:Nat)(g:OA)(k n w:Nat)(E:VP)(H:Hp)(K:KT):Prop:=
  ldS (H.get w 0) fun x1p x1n x1c=>
  ldS (H.get w 1) fun x2p x2n x2c=>
  stC H c 0 [.slice x1p x1n x1c,.slice x2p x2n x2c] fun H1=>
  ldS (H1.get c 0) fun x3p x3n x3c=>
  ldS (H1.get c 1) fun x4p x4n x4c=>
  K g k n x3p x3n x3c x4p x4n x4c H1
theorem j5_eq (h:j5_t c g k n w E H K):j5 c g k n w E H K:=by
  exact nodeR_imp2 (fun _=>j5_t c g k n w E H K) nok rfl (fun G=>by kernel_rfl) h
def b1_t (j1:OA→Nat→Hp→Prop)(a:OA)(c:Nat)(d e:Int)(X1:FP)(E:VP)(H:Hp)(K:KT):Prop:=
  bcase (decide ((e:Int)<d)) (
  Q36.call a E H fun H1=>
  X1 (f1 a c d (IntKind.wrap .i64 (e+1))) H1)
  (j1 a c H)
theorem b1_eq (h:b1_t (fun a c H=>j1 a c E H K) a c d e X1 E H K):b1 a c d e X1 E H K:=by
  exact nodeR_imp2 (fun G=>b1_t (fun a c H=>G [1,1] [(0,.pointer a),(3,.pointer (some ⟨c,0,none⟩))] H) a c d e X1 E H K) nok rfl (fun G=>by kernel_rfl) (Eq.mp (by kernel_rfl) h)
def b2_t (j2:OA→Nat→OA→Nat→Nat→OA→Nat→Nat→Int→Int→Hp→Prop)(j3:OA→Nat→OA→Nat→Nat→Hp→Prop)(a:OA)(c:Nat)(g:OA)(k n:Nat)(o:OA)(p q:Nat)(t v:Int)(X1:FP)(E:VP)(H:Hp)(K:KT):Prop:=
  bcase (decide ((v:Int)<t)) (
  ix o p v 1 fun B1 o1=>
  ldI .i64 (H.get B1 o1) fun x1=>
  nn a fun B2 o2=>
  ldS (H.get B2 (o2+1)) fun x2p x2n x2c=>
  ix x2p x2n x1 3 fun B3 o3=>
  ldI .i64 (H.get B3 o3) fun x3=>
  bcase (decide ((x3:Int)=v)) (
  nw H ⟨[.int .i64 x1],3⟩ fun B4 H1=>
  appM 3 [.i .i64] 8 g k n (some ⟨B4,0,none⟩) 1 H1 fun a1p a1n a1c H2=>
  j2 a c a1p a1n a1c o p q t v H2)
  (j2 a c g k n o p q t v H))
  (j3 a c g k n H)
theorem b2_eq (h:b2_t (fun a c g k n o p q t v H=>j2 a c g k n o p q t v X1 E H K) (fun a c g k n H=>j3 a c g k n E H K) a c g k n o p q t v X1 E H K):b2 a c g k n o p q t v X1 E H K:=by
  exact nodeR_imp2 (fun G=>b2_t (fun a c g k n o p q t v H=>G [1,1,1,0,0,1,0,1,1,1] (f2 a c g k n o p q t v) H) (fun a c g k n H=>G [1,1,1,1] [(0,.pointer a),(3,.pointer (some ⟨c,0,none⟩)),(4,.slice g k n)] H) a c g k n o p q t v X1 E H K) nok rfl (fun G=>by kernel_rfl) (Eq.mp (by kernel_rfl) h)
def b3_t (j4:OA→Nat→OA→Nat→Nat→Nat→Int→Hp→Prop)(j5:Nat→OA→Nat→Nat→Nat→Hp→Prop)(a:OA)(c:Nat)(g:OA)(k n w:Nat)(y:Int)(X1:FP)(E:VP)(H:Hp)(K:KT):Prop:=
  nn a fun B1 o1=>
  ldS (H.get B1 (o1+4)) fun x1p x1n x1c=>
  bcase (decide ((y:Int)<(x1n:Int))) (
  nn a fun B2 o2=>
  ldS (H.get B2 (o2+4)) fun x2p x2n x2c=>
  ix x2p x2n y 9 fun B3 o3=>
  ldS (H.get B3 o3) fun x3p x3n x3c=>
  ldS (H.get B3 (o3+1)) fun x4p x4n x4c=>
  ldI .i64 (H.get B3 (o3+2)) fun x5=>
  ldI .i64 (H.get B3 (o3+3)) fun x6=>
  ldI .i64 (H.get B3 (o3+4)) fun x7=>
  ldI .i64 (H.get B3 (o3+5)) fun x8=>
  ldI .i64 (H.get B3 (o3+6)) fun x9=>
  ldI .i64 (H.get B3 (o3+7)) fun x10=>
  ldI .i64 (H.get B3 (o3+8)) fun x11=>
  nw H ⟨[.slice none 0 0,.slice none 0 0,.int .i64 0,.int .i64 0,.int .i64 0,.int .i64 0,.int .i64 0,.int .i64 0,.int .i64 0],117⟩ fun B4 H1=>
  stC H1 B4 0 [.slice x3p x3n x3c,.slice x4p x4n x4c,.int .i64 x5,.int .i64 x6,.int .i64 x7,.int .i64 x8,.int .i64 x9,.int .i64 x10,.int .i64 x11] fun H2=>
  ldI .i64 (H2.get B4 8) fun x12=>
  bcase (!decide ((x12:Int)=(-2))) (
  ldI .i64 (H2.get B4 3) fun x13=>
  bcase (decide ((0:Int)<x13)) (
  Q37.call a y E H2 fun r1p r1n r1c H3=>
  Q15.call r1p r1n r1c E H3 fun H4=>
  ldS (H4.get w 1) fun x14p x14n x14c=>
  ldI .i64 (H4.get B4 3) fun x15=>
  nw H4 ⟨[.slice r1p r1n r1c,.int .i64 x15],65⟩ fun B5 H5=>
  appM 65 [.sl,.i .i64] 32 x14p x14n x14c (some ⟨B5,0,none⟩) 1 H5 fun a1p a1n a1c H6=>
  stC H6 w 1 [.slice a1p a1n a1c] fun H7=>
  j4 a c g k n w y H7)
  (j4 a c g k n w y H2))
  (j4 a c g k n w y H2))
  (j5 c g k n w H)
theorem b3_eq (h:b3_t (fun a c g k n w y H=>j4 a c g k n w y X1 E H K) (fun c g k n w H=>j5 c g k n w E H K) a c g k n w y X1 E H K):b3 a c g k n w y X1 E H K:=by
  exact nodeR_imp2 (fun G=>b3_t (fun a c g k n w y H=>G [1,1,0,0,1,0,1,1,1,1,1] (f3 a c g k n w y) H) (fun c g k n w H=>G [1,1,1,1,1,1] [(3,.pointer (some ⟨c,0,none⟩)),(4,.slice g k n),(7,.pointer (some ⟨w,0,none⟩))] H) a c g k n w y X1 E H K) nok rfl (fun G=>by kernel_rfl) (Eq.mp (by kernel_rfl) h)
end
end Q14
namespace Q35
abbrev KT:=Int→Hp→Prop
section
variable (a c d e g k:Int)(E:VP)(H:Hp)(K:KT)
noncomputable def A:An:={ live:=[(0,[0,1]),(1,[2,3])],ord:=[],stb:=[],pre:=[] }
noncomputable def code:Code:=bodyOf Go.Proofs.Try.f61
def rq:Ex→FP:=retQ T0 [.tmp 4] [3] (fun r H=>ldR (.one false [.i .i64]) r fun u=>K (asI u) H) E
def run:Prop:=nodeM P0 T0 A code [] [] (rq E K) (argF 0 [.agg ⟨[.int .i64 a,.int .i64 c,.int .i64 d]⟩,.agg ⟨[.int .i64 e,.int .i64 g,.int .i64 k]⟩]) H
variable {a c d e g k E H K}
theorem ok:okCode A 12 code=true:=by kernel_rfl
theorem of (h:run a c d e g k E H K):call a c d e g k E H K:=
  callW_of T0_ok P0_mixed (A:=A) (fn:=Go.Proofs.Try.f61) Go.Proofs.Try.func61 rfl ok rfl h
theorem nok:nodesOk code []=true:=by kernel_rfl
def run_t (a c d e g k:Int)(E:VP)(H:Hp)(K:KT):Prop:=
  nw H ⟨[.int .i64 a,.int .i64 c,.int .i64 d],75⟩ fun B1 H1=>
  nw H1 ⟨[.int .i64 e,.int .i64 g,.int .i64 k],75⟩ fun B2 H2=>
  ldI .i64 (H2.get B1 2) fun x1=>
  ldI .i64 (H2.get B2 2) fun x2=>
  K (if 1<(if (IntKind.wrap .i64 (x1-x2))<(-1) then (-1) else (IntKind.wrap .i64 (x1-x2))) then 1 else (if (IntKind.wrap .i64 (x1-x2))<(-1) then (-1) else (IntKind.wrap .i64 (x1-x2)))) H2
theorem run_eq (h:run_t a c d e g k E H K):run a c d e g k E H K:=by
  exact nodeR_imp2 (fun _=>run_t a c d e g k E H K) nok rfl (fun G=>by kernel_rfl) h
end
end Q35
namespace Q36
abbrev KT:=Hp→Prop
abbrev S1 (α:Type):=OA→Int→Int→Hp→α
abbrev S2 (α:Type):=OA→Int→Int→Hp→α
abbrev S3 (α:Type):=OA→Hp→α
section
variable (a:OA)(c e d g:Int)(X1:FP)(E:VP)(H:Hp)(K:KT)
noncomputable def A:An:={ live:=[(0,[0]),(1,[0,10,11]),(2,[0,10,11]),(3,[0,2,10,11]),(4,[0,10,11]),(5,[0]),(6,[0,22,23]),(7,[0,22,23]),(8,[0,3,22,23]),(9,[0,3,22,23]),(10,[0,22,23]),(11,[0]),(12,[0,4,5]),(13,[0,4]),(14,[0])],ord:=[],stb:=[],pre:=[] }
noncomputable def code:Code:=bodyOf Go.Proofs.Try.f62
def rq:Ex→FP:=retQ T0 [] [] (fun r H=>ldR (.tup []) r fun u=>K H) E
noncomputable def f1:Fr:=[(0,.pointer a),(10,.int .i64 c),(11,.int .i64 d)]
noncomputable def f2:Fr:=[(0,.pointer a),(22,.int .i64 e),(23,.int .i64 g)]
noncomputable def f3:Fr:=[(0,.pointer a)]
def run:Prop:=nodeM P0 T0 A code [] [] (rq E K) (argF 0 [.pointer a]) H
def j1:Prop:=nodeM P0 T0 A code [1] [] (rq E K) (f3 a) H
def j2:Prop:=nodeM P0 T0 A code [1,0,1,0,0,1,1,1] [X1] (rq E K) (f2 a e g) H
def j3:Prop:=nodeM P0 T0 A code [1,1] [] (rq E K) (f3 a) H
def l1:Prop:=nodeM P0 T0 A code [0,1,0] [] (rq E K) (f1 a c d) H
def b1:Prop:=nodeM P0 T0 A code [0,1,0,0] [X1] (rq E K) (f1 a c d) H
def l2:Prop:=nodeM P0 T0 A code [1,0,1,0] [] (rq E K) (f2 a e g) H
def b2:Prop:=nodeM P0 T0 A code [1,0,1,0,0] [X1] (rq E K) (f2 a e g) H
def l3:Prop:=nodeM P0 T0 A code [1,1,0] [] (rq E K) (f3 a) H
def b3:Prop:=nodeM P0 T0 A code [1,1,0,0] [X1] (rq E K) (f3 a) H
variable {a c e d g X1 E H K}
theorem ok:okCode A 55 code=true:=by kernel_rfl
theorem of (h:run a E H K):call a E H K:=
  callW_of T0_ok P0_mixed (A:=A) (fn:=Go.Proofs.Try.f62) Go.Proofs.Try.func62 rfl ok rfl h
theorem l1_rule (I:S1 Prop) (μ:S1 Nat)
 (h:∀a c d H,I a c d H→∀X:FP,(∀a' c' d' H',I a' c' d' H'→μ a' c' d' H'<μ a c d H→X (f1 a' c' d') H')→b1 a c d X E H K) (hI:I a c d H):l1 a c d E H K:=
 loop_rule2 (fun r m H=>∃a c d,r=f1 a c d∧m=μ a c d H∧I a c d H) (by rintro _ _ _ ⟨a,c,d,rfl,rfl,hI⟩ X hX; exact h _ _ _ _ hI X fun a' c' d' H' hI hl=>hX _ _ _ ⟨a',c',d',rfl,rfl,hI⟩ hl) rfl ⟨_,_,_,rfl,rfl,hI⟩
theorem l2_rule (I:S2 Prop) (μ:S2 Nat)
 (h:∀a e g H,I a e g H→∀X:FP,(∀a' e' g' H',I a' e' g' H'→μ a' e' g' H'<μ a e g H→X (f2 a' e' g') H')→b2 a e g X E H K) (hI:I a e g H):l2 a e g E H K:=
 loop_rule2 (fun r m H=>∃a e g,r=f2 a e g∧m=μ a e g H∧I a e g H) (by rintro _ _ _ ⟨a,e,g,rfl,rfl,hI⟩ X hX; exact h _ _ _ _ hI X fun a' e' g' H' hI hl=>hX _ _ _ ⟨a',e',g',rfl,rfl,hI⟩ hl) rfl ⟨_,_,_,rfl,rfl,hI⟩
theorem l3_rule (I:S3 Prop) (μ:S3 Nat)
 (h:∀a H,I a H→∀X:FP,(∀a' H',I a' H'→μ a' H'<μ a H→X (f3 a') H')→b3 a X E H K) (hI:I a H):l3 a E H K:=
 loop_rule2 (fun r m H=>∃a,r=f3 a∧m=μ a H∧I a H) (by rintro _ _ _ ⟨a,rfl,rfl,hI⟩ X hX; exact h _ _ hI X fun a' H' hI hl=>hX _ _ _ ⟨a',rfl,rfl,hI⟩ hl) rfl ⟨_,rfl,rfl,hI⟩
theorem nok:nodesOk code [[0,1,0],[1],[0,1,0,1],[1,1,1,0,0,1,0,1],[1,1],[0,1,1]]=true:=by kernel_rfl
def run_t (l1:S1 Prop)(a:OA)(E:VP)(H:Hp)(K:KT):Prop:=
  nn a fun B1 o1=>
  ldS (H.get B1 (o1+4)) fun x1p x1n x1c=>
  l1 a (x1n:Int) 0 H
theorem run_eq (h:run_t (fun a c d H=>l1 a c d E H K) a E H K):run a E H K:=by
  exact nodeR_imp2 (fun G=>run_t (fun a c d H=>G [0,1,0] (f1 a c d) H) a E H K) nok rfl (fun G=>by kernel_rfl) (Eq.mp (by kernel_rfl) h)
def j1_t (l2:S2 Prop)(a:OA)(E:VP)(H:Hp)(K:KT):Prop:=
  nn a fun B1 o1=>
  ldI .i64 (H.get B1 o1) fun x1=>
  l2 a x1 0 H
theorem j1_eq (h:j1_t (fun a e g H=>l2 a e g E H K) a E H K):j1 a E H K:=by
  exact nodeR_imp2 (fun G=>j1_t (fun a e g H=>G [0,1,0,1] (f2 a e g) H) a E H K) nok rfl (fun G=>by kernel_rfl) (Eq.mp (by kernel_rfl) h)
def j2_t (a:OA)(e g:Int)(X1:FP)(E:VP)(H:Hp)(K:KT):Prop:=
  X1 (f2 a e (IntKind.wrap .i64 (g+1))) H
theorem j2_eq (h:j2_t a e g X1 E H K):j2 a e g X1 E H K:=by
  exact nodeR_imp2 (fun _=>j2_t a e g X1 E H K) nok rfl (fun G=>by kernel_rfl) h
def j3_t (l3:S3 Prop)(a:OA)(E:VP)(H:Hp)(K:KT):Prop:=
  l3 a H
theorem j3_eq (h:j3_t (fun a H=>l3 a E H K) a E H K):j3 a E H K:=by
  exact nodeR_imp2 (fun G=>j3_t (fun a H=>G [0,1,1] (f3 a) H) a E H K) nok rfl (fun G=>by kernel_rfl) (Eq.mp (by kernel_rfl) h)
def b1_t (j1:OA→Hp→Prop)(a:OA)(c d:Int)(X1:FP)(E:VP)(H:Hp)(K:KT):Prop:=
  bcase (decide ((d:Int)<c)) (
  Q44.call a d 0 (-1) 0 0 E H fun H1=>
  X1 (f1 a c (IntKind.wrap .i64 (d+1))) H1)
  (j1 a H)
theorem b1_eq (h:b1_t (fun a H=>j1 a E H K) a c d X1 E H K):b1 a c d X1 E H K:=by
  exact nodeR_imp2 (fun G=>b1_t (fun a H=>G [1] (f3 a) H) a c d X1 E H K) nok rfl (fun G=>by kernel_rfl) (Eq.mp (by kernel_rfl) h)
def b2_t (j2:OA→Int→Int→Hp→Prop)(j3:OA→Hp→Prop)(a:OA)(e g:Int)(X1:FP)(E:VP)(H:Hp)(K:KT):Prop:=
  bcase (decide ((g:Int)<e)) (
  nn a fun B1 o1=>
  ldS (H.get B1 (o1+3)) fun x1p x1n x1c=>
  ix x1p x1n g 1 fun B2 o2=>
  ldI .i64 (H.get B2 o2) fun x2=>
  bcase (decide ((x2:Int)<0)) (
  nn a fun B3 o3=>
  ldS (H.get B3 (o3+5)) fun x3p x3n x3c=>
  ix x3p x3n g 1 fun B4 o4=>
  ldI .i64 (H.get B4 o4) fun x4=>
  Q44.call a x4 1 (-1) 0 0 E H fun H1=>
  j2 a e g H1)
  (j2 a e g H))
  (j3 a H)
theorem b2_eq (h:b2_t (fun a e g H=>j2 a e g X1 E H K) (fun a H=>j3 a E H K) a e g X1 E H K):b2 a e g X1 E H K:=by
  exact nodeR_imp2 (fun G=>b2_t (fun a e g H=>G [1,1,1,0,0,1,0,1] (f2 a e g) H) (fun a H=>G [1,1] (f3 a) H) a e g X1 E H K) nok rfl (fun G=>by kernel_rfl) (Eq.mp (by kernel_rfl) h)
def b3_t (a:OA)(X1:FP)(E:VP)(H:Hp)(K:KT):Prop:=
  Q45.call a E H fun r1 r2 H1=>
  bcase (r2) (
  K H1)
  (bcase ((!r1)) (
  Q46.call a E H1 fun H2=>
  X1 (f3 a) H2)
  (X1 (f3 a) H1))
theorem b3_eq (h:b3_t a X1 E H K):b3 a X1 E H K:=by
  exact nodeR_imp2 (fun _=>b3_t a X1 E H K) nok rfl (fun G=>by kernel_rfl) h
end
end Q36
namespace Q37
abbrev KT:=OA→Nat→Nat→Hp→Prop
abbrev S1 (α:Type):=OA→OA→Nat→Nat→OA→Nat→Nat→Int→Int→Hp→α
section
variable (a:OA)(c:Int)(d:OA)(e g:Nat)(k:OA)(n o:Nat)(p q:Int)(X1:FP)(E:VP)(H:Hp)(K:KT)
noncomputable def A:An:={ live:=[(0,[0,1]),(1,[0,1]),(2,[1]),(3,[0,1]),(4,[0,1,5]),(5,[0,5,23,24,25]),(6,[0,5,23,24,25]),(7,[0,5,7,23,24,25]),(8,[0,5,23,24,25]),(9,[5])],ord:=[],stb:=[],pre:=[] }
noncomputable def code:Code:=bodyOf Go.Proofs.Try.f63
def rq:Ex→FP:=retQ T0 [.tmp 4] [26] (fun r H=>ldR (.one false [.sl]) r fun u=>K (asS1 u) (asS2 u) (asS3 u) H) E
noncomputable def f1:Fr:=[(0,.pointer a),(5,.slice d e g),(23,.slice k n o),(24,.int .i64 p),(25,.int .i64 q)]
def run:Prop:=nodeM P0 T0 A code [] [] (rq E K) (argF 0 [.pointer a,.int .i64 c]) H
def l1:Prop:=nodeM P0 T0 A code [1,1,1,0,1,0] [] (rq E K) (f1 a d e g k n o p q) H
def b1:Prop:=nodeM P0 T0 A code [1,1,1,0,1,0,0] [X1] (rq E K) (f1 a d e g k n o p q) H
variable {a c d e g k n o p q X1 E H K}
theorem ok:okCode A 36 code=true:=by kernel_rfl
theorem of (h:run a c E H K):call a c E H K:=
  callW_of T0_ok P0_mixed (A:=A) (fn:=Go.Proofs.Try.f63) Go.Proofs.Try.func63 rfl ok rfl h
theorem l1_rule (I:S1 Prop) (μ:S1 Nat)
 (h:∀a d e g k n o p q H,I a d e g k n o p q H→∀X:FP,(∀a' d' e' g' k' n' o' p' q' H',I a' d' e' g' k' n' o' p' q' H'→μ a' d' e' g' k' n' o' p' q' H'<μ a d e g k n o p q H→X (f1 a' d' e' g' k' n' o' p' q') H')→b1 a d e g k n o p q X E H K) (hI:I a d e g k n o p q H):l1 a d e g k n o p q E H K:=
 loop_rule2 (fun r m H=>∃a d e g k n o p q,r=f1 a d e g k n o p q∧m=μ a d e g k n o p q H∧I a d e g k n o p q H) (by rintro _ _ _ ⟨a,d,e,g,k,n,o,p,q,rfl,rfl,hI⟩ X hX; exact h _ _ _ _ _ _ _ _ _ _ hI X fun a' d' e' g' k' n' o' p' q' H' hI hl=>hX _ _ _ ⟨a',d',e',g',k',n',o',p',q',rfl,rfl,hI⟩ hl) rfl ⟨_,_,_,_,_,_,_,_,_,rfl,rfl,hI⟩
theorem nok:nodesOk code [[0,1,0,1,1,1]]=true:=by kernel_rfl
def run_t (l1:S1 Prop)(a:OA)(c:Int)(E:VP)(H:Hp)(K:KT):Prop:=
  nn a fun B1 o1=>
  ldI .i64 (H.get B1 o1) fun x1=>
  bcase (decide ((c:Int)<x1)) (
  nw H ⟨[.int .i64 c],3⟩ fun B2 H1=>
  K (some ⟨B2,0,none⟩) 1 1 H1)
  (nn a fun B3 o2=>
  ldS (H.get B3 (o2+4)) fun x2p x2n x2c=>
  ix x2p x2n c 9 fun B4 o3=>
  ldS (H.get B4 o3) fun x3p x3n x3c=>
  l1 a none 0 0 x3p x3n x3c (x3n:Int) 0 H)
theorem run_eq (h:run_t (fun a d e g k n o p q H=>l1 a d e g k n o p q E H K) a c E H K):run a c E H K:=by
  exact nodeR_imp2 (fun G=>run_t (fun a d e g k n o p q H=>G [0,1,0,1,1,1] (f1 a d e g k n o p q) H) a c E H K) nok rfl (fun G=>by kernel_rfl) (Eq.mp (by kernel_rfl) h)
def b1_t (a d:OA)(e g:Nat)(k:OA)(n o:Nat)(p q:Int)(X1:FP)(E:VP)(H:Hp)(K:KT):Prop:=
  bcase (decide ((q:Int)<p)) (
  ix k n q 1 fun B1 o1=>
  ldI .i64 (H.get B1 o1) fun x1=>
  call a x1 E H fun r1p r1n r1c H1=>
  appM 3 [.i .i64] 8 d e g r1p r1n H1 fun a1p a1n a1c H2=>
  X1 (f1 a a1p a1n a1c k n o p (IntKind.wrap .i64 (q+1))) H2)
  (K d e g H)
theorem b1_eq (h:b1_t a d e g k n o p q X1 E H K):b1 a d e g k n o p q X1 E H K:=by
  exact nodeR_imp2 (fun _=>b1_t a d e g k n o p q X1 E H K) nok rfl (fun G=>by kernel_rfl) h
end
end Q37
namespace Q44
abbrev KT:=Hp→Prop
section
variable (a:OA)(c d e g i:Int)(E:VP)(H:Hp)(K:KT)
noncomputable def A:An:={ live:=[(0,[0,1,2,3]),(1,[0,1,2,7])],ord:=[(1,[0,1,2,3,4,5,6,7,8,9,10,11,12,13,14,15,16,17])],stb:=[(1,[(14,[11])])],pre:=[(1,[[],[0],[0,1],[0,1,2],[],[],[5],[5,6],[5,6,7],[],[],[],[0,1,2,3,4,5,6,7,8,10],[0,1,2,3,4,5,6,7,8,10,12],[0,1,2,3,4,5,6,7,8,10,12,13],[0,1,2,3,4,5,6,7,8,9,10,11,12,13,14],[0,1,2,3,4,5,6,7,8,9,10,11,12,13,14,15],[0,1,2,3,4,5,6,7,8,9,10,11,12,13,14,15,16]])] }
noncomputable def code:Code:=bodyOf Go.Proofs.Try.f78
def rq:Ex→FP:=retQ T0 [] [] (fun r H=>ldR (.tup []) r fun u=>K H) E
def run:Prop:=nodeM P0 T0 A code [] [] (rq E K) (argF 0 [.pointer a,.int .i64 c,.int .i64 d,.agg ⟨[.int .i64 e,.int .i64 g,.int .i64 i]⟩]) H
variable {a c d e g i E H K}
theorem ok:okCode A 24 code=true:=by kernel_rfl
theorem of (h:run a c d e g i E H K):call a c d e g i E H K:=
  callW_of T0_ok P0_mixed (A:=A) (fn:=Go.Proofs.Try.f78) Go.Proofs.Try.func78 rfl ok rfl h
theorem nok:nodesOk code []=true:=by kernel_rfl
def run_t (a:OA)(c d e g i:Int)(E:VP)(H:Hp)(K:KT):Prop:=
  nw H ⟨[.int .i64 e,.int .i64 g,.int .i64 i],115⟩ fun B1 H1=>
  nn a fun B2 o1=>
  ldS (H1.get B2 (o1+4)) fun x1p x1n x1c=>
  nn a fun B3 o2=>
  ldS (H1.get B3 (o2+4)) fun x2p x2n x2c=>
  ldI .i64 (H1.get B1 0) fun x3=>
  ldI .i64 (H1.get B1 1) fun x4=>
  ldI .i64 (H1.get B1 2) fun x5=>
  ix x1p x1n c 9 fun B4 o3=>
  stC H1 B4 (o3+4) [.int .i64 d] fun H2=>
  (ldI .i64 (H2.get B1 0) fun x6=>
  ldI .i64 (H2.get B1 1) fun x7=>
  ldI .i64 (H2.get B1 2) fun x8=>
  Value.agg ⟨[.int .i64 x6,.int .i64 x7,.int .i64 x8]⟩=Value.agg ⟨[.int .i64 x3,.int .i64 x4,.int .i64 x5]⟩)∧
  ix x2p x2n c 9 fun B5 o4=>
  stC H2 B5 (o4+5) [.int .i64 x3,.int .i64 x4,.int .i64 x5] fun H3=>
  K H3
theorem run_eq (h:run_t a c d e g i E H K):run a c d e g i E H K:=by
  exact nodeR_imp2 (fun _=>run_t a c d e g i E H K) nok rfl (fun G=>by kernel_rfl) h
end
end Q44
namespace Q45
abbrev KT:=Bool→Bool→Hp→Prop
abbrev S1 (α:Type):=OA→OA→Nat→Nat→Int→Int→Hp→α
abbrev S2 (α:Type):=OA→Int→Hp→α
section
variable (a:OA)(k n:Int)(o:Nat)(p q t v:Int)(c:OA)(d e:Nat)(g i:Int)(X1:FP)(E:VP)(H:Hp)(K:KT)
noncomputable def A:An:={ live:=[(0,[0]),(1,[0]),(2,[0,17,18,19]),(3,[0,17,18,19]),(4,[0,4,5,17,18,19]),(5,[0,4,5,6,7,17,18,19]),(6,[0,4,5,6,7,8,9,17,18,19]),(7,[0,4,5,6,7,8,9,17,18,19]),(8,[0,4,5]),(9,[]),(10,[0,4,5,6,7,8,9,17,18,19]),(11,[0,4,5]),(12,[]),(13,[0,4,5,6,7,8,9,17,18,19]),(14,[0,4,5,6,7]),(15,[0,4,5,10,11]),(16,[0,4,5,10,11]),(17,[]),(18,[0,4,5]),(19,[0,4,5]),(20,[]),(21,[0,17,18,19]),(22,[0]),(23,[0,12]),(24,[0,12]),(25,[0,12]),(26,[0,12,13]),(27,[0,12]),(28,[]),(29,[])],ord:=[(4,[0,1,2,3,4,5,6,7,8,9,10,11,12,13,14,15,16,17]),(5,[0,1,2,3,4,5,6,7,8,9,10,11,12,13,14,15,16,17]),(15,[0,1,2,3,4,5,6,7,8,9,10,11,12])],stb:=[],pre:=[(4,[[],[0],[0,1],[0,1,2],[],[4],[0,1,2,3,4,5],[0,1,2,3,4,5,6],[],[8],[8,9],[8,9,10],[],[12],[8,9,10,11,12,13],[8,9,10,11,12,13,14],[0,1,2,3,4,5,6,7],[0,1,2,3,4,5,6,7,8,9,10,11,12,13,14,15,16]]),(5,[[],[0],[0,1],[0,1,2],[],[0,1,2,3,4],[0,1,2,3,4,5],[0,1,2,3,4,5,6],[],[8],[8,9],[8,9,10],[],[8,9,10,11,12],[8,9,10,11,12,13],[8,9,10,11,12,13,14],[0,1,2,3,4,5,6,7],[0,1,2,3,4,5,6,7,8,9,10,11,12,13,14,15,16]]),(15,[[],[],[1],[1,2],[0,1,2,3],[0,1,2,3,4],[],[],[7],[7,8],[6,7,8,9],[6,7,8,9,10],[0,1,2,3,4,5,6,7,8,9,10,11]])] }
noncomputable def code:Code:=bodyOf Go.Proofs.Try.f79
def rq:Ex→FP:=retQ T0 [.tmp 2,.tmp 3] [4,4] (fun r H=>ldR (.tup [(false,[.bool]),(false,[.bool])]) r fun u=>K (asB (tupV u 0)) (asB (tupV u 1)) H) E
noncomputable def f1:Fr:=[(0,.pointer a),(17,.slice c d e),(18,.int .i64 g),(19,.int .i64 i)]
noncomputable def f2:Fr:=[(0,.pointer a),(12,.int .i64 k)]
def run:Prop:=nodeM P0 T0 A code [] [] (rq E K) (argF 0 [.pointer a]) H
def j1:Prop:=nodeM P0 T0 A code [1,0,1,0,0,1,1,0,0,1,1,1,1] [X1] (rq E K) [(0,.pointer a),(4,.int .i64 n),(5,.pointer (some ⟨o,0,none⟩)),(6,.int .i64 p),(7,.int .i64 q),(8,.int .i64 t),(9,.int .i64 v),(17,.slice c d e),(18,.int .i64 g),(19,.int .i64 i)] H
def j2:Prop:=nodeM P0 T0 A code [1,0,1,0,0,1,1,1] [X1] (rq E K) (f1 a c d e g i) H
def j3:Prop:=nodeM P0 T0 A code [1,1] [] (rq E K) [(0,.pointer a)] H
def j4:Prop:=nodeM P0 T0 A code [1,1,0,1,0,0,1,1] [X1] (rq E K) (f2 a k) H
def l1:Prop:=nodeM P0 T0 A code [1,0,1,0] [] (rq E K) (f1 a c d e g i) H
def b1:Prop:=nodeM P0 T0 A code [1,0,1,0,0] [X1] (rq E K) (f1 a c d e g i) H
def l2:Prop:=nodeM P0 T0 A code [1,1,0,1,0] [] (rq E K) (f2 a k) H
def b2:Prop:=nodeM P0 T0 A code [1,1,0,1,0,0] [X1] (rq E K) (f2 a k) H
variable {a k n o p q t v c d e g i X1 E H K}
theorem ok:okCode A 178 code=true:=by kernel_rfl
theorem of (h:run a E H K):call a E H K:=
  callW_of T0_ok P0_mixed (A:=A) (fn:=Go.Proofs.Try.f79) Go.Proofs.Try.func79 rfl ok rfl h
theorem l1_rule (I:S1 Prop) (μ:S1 Nat)
 (h:∀a c d e g i H,I a c d e g i H→∀X:FP,(∀a' c' d' e' g' i' H',I a' c' d' e' g' i' H'→μ a' c' d' e' g' i' H'<μ a c d e g i H→X (f1 a' c' d' e' g' i') H')→b1 a c d e g i X E H K) (hI:I a c d e g i H):l1 a c d e g i E H K:=
 loop_rule2 (fun r m H=>∃a c d e g i,r=f1 a c d e g i∧m=μ a c d e g i H∧I a c d e g i H) (by rintro _ _ _ ⟨a,c,d,e,g,i,rfl,rfl,hI⟩ X hX; exact h _ _ _ _ _ _ _ hI X fun a' c' d' e' g' i' H' hI hl=>hX _ _ _ ⟨a',c',d',e',g',i',rfl,rfl,hI⟩ hl) rfl ⟨_,_,_,_,_,_,rfl,rfl,hI⟩
theorem l2_rule (I:S2 Prop) (μ:S2 Nat)
 (h:∀a k H,I a k H→∀X:FP,(∀a' k' H',I a' k' H'→μ a' k' H'<μ a k H→X (f2 a' k') H')→b2 a k X E H K) (hI:I a k H):l2 a k E H K:=
 loop_rule2 (fun r m H=>∃a k,r=f2 a k∧m=μ a k H∧I a k H) (by rintro _ _ _ ⟨a,k,rfl,rfl,hI⟩ X hX; exact h _ _ _ hI X fun a' k' H' hI hl=>hX _ _ _ ⟨a',k',rfl,rfl,hI⟩ hl) rfl ⟨_,_,rfl,rfl,hI⟩
theorem nok:nodesOk code [[0,1,0,1],[1,1,1,1,0,0,1,1,0,0,1,0,1],[1,1,1,0,0,1,0,1],[1,1],[0,1,0,1,1],[1,1,0,0,1,0,1,1]]=true:=by kernel_rfl
def run_t (l1:S1 Prop)(a:OA)(E:VP)(H:Hp)(K:KT):Prop:=
  nn a fun B1 o1=>
  ldS (H.get B1 (o1+1)) fun x1p x1n x1c=>
  l1 a x1p x1n x1c (x1n:Int) 0 H
theorem run_eq (h:run_t (fun a c d e g i H=>l1 a c d e g i E H K) a E H K):run a E H K:=by
  exact nodeR_imp2 (fun G=>run_t (fun a c d e g i H=>G [0,1,0,1] (f1 a c d e g i) H) a E H K) nok rfl (fun G=>by kernel_rfl) (Eq.mp (by kernel_rfl) h)
def j1_t (j2:OA→OA→Nat→Nat→Int→Int→Hp→Prop)(a:OA)(n:Int)(o:Nat)(p q t v:Int)(c:OA)(d e:Nat)(g i:Int)(X1:FP)(E:VP)(H:Hp)(K:KT):Prop:=
  bcase (decide ((t:Int)=0)) (
  ldI .i64 (H.get o 0) fun x1=>
  ldI .i64 (H.get o 1) fun x2=>
  Q50.call a n x1 x2 E H fun H1=>
  K true false H1)
  (bcase (decide ((v:Int)=0)) (
  ldI .i64 (H.get o 1) fun x3=>
  ldI .i64 (H.get o 0) fun x4=>
  Q50.call a n x3 x4 E H fun H2=>
  K true false H2)
  (bcase (decide ((t:Int)=1)) (
  bcase (decide ((v:Int)=1)) (
  Q51.call a p E H fun r1p r1n r1c H3=>
  Q51.call a q E H3 fun r2p r2n r2c H4=>
  ix r1p r1n (IntKind.wrap .i64 ((r1n:Int)-1)) 1 fun B1 o1=>
  ldI .i64 (H4.get B1 o1) fun x5=>
  ix r2p r2n (IntKind.wrap .i64 ((r2n:Int)-1)) 1 fun B2 o2=>
  ldI .i64 (H4.get B2 o2) fun x6=>
  bcase (decide ((x5:Int)=x6)) (
  ldI .i64 (H4.get o 0) fun x7=>
  ldI .i64 (H4.get o 1) fun x8=>
  Q52.call a n x7 x8 r1p r1n r1c r2p r2n r2c E H4 fun H5=>
  K true false H5)
  (ldI .i64 (H4.get o 0) fun x9=>
  Q53.call a x9 n E H4 fun H6=>
  ldI .i64 (H6.get o 1) fun x10=>
  Q53.call a x10 n E H6 fun H7=>
  K true true H7))
  (j2 a c d e g i H))
  (j2 a c d e g i H)))
theorem j1_eq (h:j1_t (fun a c d e g i H=>j2 a c d e g i X1 E H K) a n o p q t v c d e g i X1 E H K):j1 a n o p q t v c d e g i X1 E H K:=by
  exact nodeR_imp2 (fun G=>j1_t (fun a c d e g i H=>G [1,1,1,0,0,1,0,1] (f1 a c d e g i) H) a n o p q t v c d e g i X1 E H K) nok rfl (fun G=>by kernel_rfl) (Eq.mp (by kernel_rfl) h)
def j2_t (a c:OA)(d e:Nat)(g i:Int)(X1:FP)(E:VP)(H:Hp)(K:KT):Prop:=
  X1 (f1 a c d e g (IntKind.wrap .i64 (i+1))) H
theorem j2_eq (h:j2_t a c d e g i X1 E H K):j2 a c d e g i X1 E H K:=by
  exact nodeR_imp2 (fun _=>j2_t a c d e g i X1 E H K) nok rfl (fun G=>by kernel_rfl) h
def j3_t (l2:S2 Prop)(a:OA)(E:VP)(H:Hp)(K:KT):Prop:=
  nn a fun B1 o1=>
  ldI .i64 (H.get B1 o1) fun x1=>
  l2 a x1 H
theorem j3_eq (h:j3_t (fun a k H=>l2 a k E H K) a E H K):j3 a E H K:=by
  exact nodeR_imp2 (fun G=>j3_t (fun a k H=>G [0,1,0,1,1] (f2 a k) H) a E H K) nok rfl (fun G=>by kernel_rfl) (Eq.mp (by kernel_rfl) h)
def j4_t (a:OA)(k:Int)(X1:FP)(E:VP)(H:Hp)(K:KT):Prop:=
  X1 (f2 a (IntKind.wrap .i64 (k+1))) H
theorem j4_eq (h:j4_t a k X1 E H K):j4 a k X1 E H K:=by
  exact nodeR_imp2 (fun _=>j4_t a k X1 E H K) nok rfl (fun G=>by kernel_rfl) h
def b1_t (j1:OA→Int→Nat→Int→Int→Int→Int→OA→Nat→Nat→Int→Int→Hp→Prop)(j2:OA→OA→Nat→Nat→Int→Int→Hp→Prop)(j3:OA→Hp→Prop)(a c:OA)(d e:Nat)(g i:Int)(X1:FP)(E:VP)(H:Hp)(K:KT):Prop:=
  bcase (decide ((i:Int)<g)) (
  ix c d i 3 fun B1 o1=>
  ldI .i64 (H.get B1 o1) fun x1=>
  ldI .i64 (H.get B1 (o1+1)) fun x2=>
  ldI .i64 (H.get B1 (o1+2)) fun x3=>
  nw H ⟨[.int .i64 0,.int .i64 0,.int .i64 0],75⟩ fun B2 H1=>
  stC H1 B2 0 [.int .i64 x1,.int .i64 x2,.int .i64 x3] fun H2=>
  nn a fun B3 o2=>
  ldS (H2.get B3 (o2+5)) fun x4p x4n x4c=>
  ldI .i64 (H2.get B2 0) fun x5=>
  ix x4p x4n x5 1 fun B4 o3=>
  ldI .i64 (H2.get B4 o3) fun x6=>
  nn a fun B5 o4=>
  ldS (H2.get B5 (o4+5)) fun x7p x7n x7c=>
  ldI .i64 (H2.get B2 1) fun x8=>
  ix x7p x7n x8 1 fun B6 o5=>
  ldI .i64 (H2.get B6 o5) fun x9=>
  nn a fun B7 o6=>
  ldS (H2.get B7 (o6+4)) fun x10p x10n x10c=>
  ix x10p x10n x6 9 fun B8 o7=>
  ldI .i64 (H2.get B8 (o7+4)) fun x11=>
  nn a fun B9 o8=>
  ldS (H2.get B9 (o8+4)) fun x12p x12n x12c=>
  ix x12p x12n x9 9 fun B10 o9=>
  ldI .i64 (H2.get B10 (o9+4)) fun x13=>
  bcase (decide ((x6:Int)=x9)) (
  j2 a c d e g i H2)
  (ldI .i64 (H2.get B2 0) fun x14=>
  ldI .i64 (H2.get B2 1) fun x15=>
  ldI .i64 (H2.get B2 2) fun x16=>
  Q49.call a x14 x15 x16 E H2 fun r1 H3=>
  bcase (!decide ((r1:Int)=0)) (
  j2 a c d e g i H3)
  (bcase (!decide ((x11:Int)=1)) (
  bcase (!decide ((x13:Int)=1)) (
  j2 a c d e g i H3)
  (j1 a i B2 x6 x9 x11 x13 c d e g i H3))
  (j1 a i B2 x6 x9 x11 x13 c d e g i H3))))
  (j3 a H)
theorem b1_eq (h:b1_t (fun a n o p q t v c d e g i H=>j1 a n o p q t v c d e g i X1 E H K) (fun a c d e g i H=>j2 a c d e g i X1 E H K) (fun a H=>j3 a E H K) a c d e g i X1 E H K):b1 a c d e g i X1 E H K:=by
  exact nodeR_imp2 (fun G=>b1_t (fun a n o p q t v c d e g i H=>G [1,1,1,1,0,0,1,1,0,0,1,0,1] [(0,.pointer a),(4,.int .i64 n),(5,.pointer (some ⟨o,0,none⟩)),(6,.int .i64 p),(7,.int .i64 q),(8,.int .i64 t),(9,.int .i64 v),(17,.slice c d e),(18,.int .i64 g),(19,.int .i64 i)] H) (fun a c d e g i H=>G [1,1,1,0,0,1,0,1] (f1 a c d e g i) H) (fun a H=>G [1,1] [(0,.pointer a)] H) a c d e g i X1 E H K) nok rfl (fun G=>by kernel_rfl) (Eq.mp (by kernel_rfl) h)
def b2_t (j4:OA→Int→Hp→Prop)(a:OA)(k:Int)(X1:FP)(E:VP)(H:Hp)(K:KT):Prop:=
  nn a fun B1 o1=>
  ldS (H.get B1 (o1+4)) fun x1p x1n x1c=>
  bcase (decide ((k:Int)<(x1n:Int))) (
  nn a fun B2 o2=>
  ldS (H.get B2 (o2+4)) fun x2p x2n x2c=>
  ix x2p x2n k 9 fun B3 o3=>
  ldS (H.get B3 o3) fun x3p x3n x3c=>
  ldS (H.get B3 (o3+1)) fun x4p x4n x4c=>
  ldI .i64 (H.get B3 (o3+2)) fun x5=>
  ldI .i64 (H.get B3 (o3+3)) fun x6=>
  ldI .i64 (H.get B3 (o3+4)) fun x7=>
  ldI .i64 (H.get B3 (o3+5)) fun x8=>
  ldI .i64 (H.get B3 (o3+6)) fun x9=>
  ldI .i64 (H.get B3 (o3+7)) fun x10=>
  ldI .i64 (H.get B3 (o3+8)) fun x11=>
  nw H ⟨[.slice none 0 0,.slice none 0 0,.int .i64 0,.int .i64 0,.int .i64 0,.int .i64 0,.int .i64 0,.int .i64 0,.int .i64 0],117⟩ fun B4 H1=>
  stC H1 B4 0 [.slice x3p x3n x3c,.slice x4p x4n x4c,.int .i64 x5,.int .i64 x6,.int .i64 x7,.int .i64 x8,.int .i64 x9,.int .i64 x10,.int .i64 x11] fun H2=>
  ldI .i64 (H2.get B4 8) fun x12=>
  bcase (decide ((x12:Int)=(-1))) (
  ldI .i64 (H2.get B4 4) fun x13=>
  bcase (decide ((x13:Int)=2)) (
  ldI .i64 (H2.get B4 3) fun x14=>
  bcase (decide ((x14:Int)=0)) (
  Q54.call a k E H2 fun H3=>
  K true false H3)
  (j4 a k H2))
  (j4 a k H2))
  (j4 a k H2))
  (K false false H)
theorem b2_eq (h:b2_t (fun a k H=>j4 a k X1 E H K) a k X1 E H K):b2 a k X1 E H K:=by
  exact nodeR_imp2 (fun G=>b2_t (fun a k H=>G [1,1,0,0,1,0,1,1] (f2 a k) H) a k X1 E H K) nok rfl (fun G=>by kernel_rfl) (Eq.mp (by kernel_rfl) h)
end
end Q45
namespace Q46
abbrev KT:=Hp→Prop
abbrev S1 (α:Type):=OA→Int→OA→Nat→Nat→Int→Int→Hp→α
abbrev S2 (α:Type):=OA→Int→Int→Hp→α
abbrev S3 (α:Type):=OA→Int→Int→Int→Hp→α
abbrev S4 (α:Type):=OA→Int→Int→Hp→α
section
variable (a:OA)(c n o q:Int)(t:Nat)(p v w:Int)(d:OA)(e g:Nat)(i k:Int)(X1:FP)(E:VP)(H:Hp)(K:KT)
noncomputable def A:An:={ live:=[(0,[0]),(1,[0,2]),(2,[0,2,17,18,19]),(3,[0,2,17,18,19]),(4,[0,2,4,17,18,19]),(5,[0,2,4,5,6,17,18,19]),(6,[0,2,4,5,6,7,8,17,18,19]),(7,[0,2,4,7,8,17,18,19]),(8,[0,2,4,17,18,19]),(9,[0,2,4,7,8,17,18,19]),(10,[0,2,4,7,8,17,18,19]),(11,[0,2,4,17,18,19]),(12,[0,2,17,18,19]),(13,[0,2]),(14,[0,2,9]),(15,[0,2,9]),(16,[0,2,9]),(17,[0,2,9,10]),(18,[0,2,9,10]),(19,[0,2]),(20,[0,2,128,129]),(21,[0,2,128,129]),(22,[0,2,11,128,129]),(23,[0,2,11,128,129,145]),(24,[0,2,11,128,129]),(25,[0,2,11,128,129,145]),(26,[0,2,11,128,129]),(27,[0,2,128,129]),(28,[0,2]),(29,[0,2,12]),(30,[0,2,12]),(31,[0,2,12]),(32,[0,2,12,13]),(33,[0,2,12,13]),(34,[0,2,12,13]),(35,[0,2,12,13]),(36,[0,2,12,13])],ord:=[(4,[0,1,2,3,4,5,6,7,8,9,10,11,12,13,14,15,16,17]),(5,[0,1,2,3,4,5,6,7,8,9,10,11,12,13,14,15,16,17]),(22,[0,1,2,3,4,5,6,7,8,9,10,11,12,13])],stb:=[],pre:=[(4,[[],[0],[0,1],[0,1,2],[],[4],[0,1,2,3,4,5],[0,1,2,3,4,5,6],[],[8],[8,9],[8,9,10],[],[12],[8,9,10,11,12,13],[8,9,10,11,12,13,14],[0,1,2,3,4,5,6,7],[0,1,2,3,4,5,6,7,8,9,10,11,12,13,14,15,16]]),(5,[[],[0],[0,1],[0,1,2],[],[0,1,2,3,4],[0,1,2,3,4,5],[0,1,2,3,4,5,6],[],[8],[8,9],[8,9,10],[],[8,9,10,11,12],[8,9,10,11,12,13],[8,9,10,11,12,13,14],[0,1,2,3,4,5,6,7],[0,1,2,3,4,5,6,7,8,9,10,11,12,13,14,15,16]]),(22,[[],[0],[0,1],[0,1,2],[],[4],[4,5],[4,5,6],[],[4,5,6,7,8],[4,5,6,7,8,9],[0,1,2,3,4,5,6,7,8,9,10],[0,1,2,3,4,5,6,7,8,9,10,11],[0,1,2,3,4,5,6,7,8,9,10,11,12]])] }
noncomputable def code:Code:=bodyOf Go.Proofs.Try.f80
def rq:Ex→FP:=retQ T0 [] [] (fun r H=>ldR (.tup []) r fun u=>K H) E
noncomputable def f1:Fr:=[(0,.pointer a),(2,.int .i64 c),(17,.slice d e g),(18,.int .i64 i),(19,.int .i64 k)]
noncomputable def f2:Fr:=[(0,.pointer a),(2,.int .i64 c),(9,.int .i64 n)]
noncomputable def f3:Fr:=[(0,.pointer a),(2,.int .i64 c),(128,.int .i64 o),(129,.int .i64 p)]
noncomputable def f4:Fr:=[(0,.pointer a),(2,.int .i64 c),(12,.int .i64 q)]
def run:Prop:=nodeM P0 T0 A code [] [] (rq E K) (argF 0 [.pointer a]) H
def j1:Prop:=nodeM P0 T0 A code [1,0,1,0,0,1,1,0,0,1,1,1,0,1,1,1,1] [X1] (rq E K) [(0,.pointer a),(2,.int .i64 c),(4,.pointer (some ⟨t,0,none⟩)),(7,.int .i64 v),(8,.int .i64 w),(17,.slice d e g),(18,.int .i64 i),(19,.int .i64 k)] H
def j2:Prop:=nodeM P0 T0 A code [1,0,1,0,0,1,1,0,0,1,1,1,0,1,1,1,1,0,1,1] [X1] (rq E K) [(0,.pointer a),(2,.int .i64 c),(4,.pointer (some ⟨t,0,none⟩)),(7,.int .i64 v),(8,.int .i64 w),(17,.slice d e g),(18,.int .i64 i),(19,.int .i64 k)] H
def j3:Prop:=nodeM P0 T0 A code [1,0,1,0,0,1,1,0,0,1,1,1,0,1,1,1,1,1,0] [X1] (rq E K) [(0,.pointer a),(2,.int .i64 c),(4,.pointer (some ⟨t,0,none⟩)),(17,.slice d e g),(18,.int .i64 i),(19,.int .i64 k)] H
def j4:Prop:=nodeM P0 T0 A code [1,0,1,0,0,1,1,1] [X1] (rq E K) (f1 a c d e g i k) H
def j5:Prop:=nodeM P0 T0 A code [1,1] [] (rq E K) [(0,.pointer a),(2,.int .i64 c)] H
def j6:Prop:=nodeM P0 T0 A code [1,1,0,1,0,0,1,1] [X1] (rq E K) (f2 a c n) H
def j7:Prop:=nodeM P0 T0 A code [1,1,1] [] (rq E K) [(0,.pointer a),(2,.int .i64 c)] H
def j8:Prop:=nodeM P0 T0 A code [1,1,1,0,1,0,0,1,1,1] [X1] (rq E K) (f3 a c o p) H
def j9:Prop:=nodeM P0 T0 A code [1,1,1,1] [] (rq E K) [(0,.pointer a),(2,.int .i64 c)] H
def j10:Prop:=nodeM P0 T0 A code [1,1,1,1,1,0,0,1,1] [X1] (rq E K) (f4 a c q) H
def l1:Prop:=nodeM P0 T0 A code [1,0,1,0] [] (rq E K) (f1 a c d e g i k) H
def b1:Prop:=nodeM P0 T0 A code [1,0,1,0,0] [X1] (rq E K) (f1 a c d e g i k) H
def l2:Prop:=nodeM P0 T0 A code [1,1,0,1,0] [] (rq E K) (f2 a c n) H
def b2:Prop:=nodeM P0 T0 A code [1,1,0,1,0,0] [X1] (rq E K) (f2 a c n) H
def l3:Prop:=nodeM P0 T0 A code [1,1,1,0,1,0] [] (rq E K) (f3 a c o p) H
def b3:Prop:=nodeM P0 T0 A code [1,1,1,0,1,0,0] [X1] (rq E K) (f3 a c o p) H
def l4:Prop:=nodeM P0 T0 A code [1,1,1,1,1,0] [] (rq E K) (f4 a c q) H
def b4:Prop:=nodeM P0 T0 A code [1,1,1,1,1,0,0] [X1] (rq E K) (f4 a c q) H
variable {a c n o q t p v w d e g i k X1 E H K}
theorem ok:okCode A 226 code=true:=by kernel_rfl
theorem of (h:run a E H K):call a E H K:=
  callW_of T0_ok P0_mixed (A:=A) (fn:=Go.Proofs.Try.f80) Go.Proofs.Try.func80 rfl ok rfl h
theorem l1_rule (I:S1 Prop) (μ:S1 Nat)
 (h:∀a c d e g i k H,I a c d e g i k H→∀X:FP,(∀a' c' d' e' g' i' k' H',I a' c' d' e' g' i' k' H'→μ a' c' d' e' g' i' k' H'<μ a c d e g i k H→X (f1 a' c' d' e' g' i' k') H')→b1 a c d e g i k X E H K) (hI:I a c d e g i k H):l1 a c d e g i k E H K:=
 loop_rule2 (fun r m H=>∃a c d e g i k,r=f1 a c d e g i k∧m=μ a c d e g i k H∧I a c d e g i k H) (by rintro _ _ _ ⟨a,c,d,e,g,i,k,rfl,rfl,hI⟩ X hX; exact h _ _ _ _ _ _ _ _ hI X fun a' c' d' e' g' i' k' H' hI hl=>hX _ _ _ ⟨a',c',d',e',g',i',k',rfl,rfl,hI⟩ hl) rfl ⟨_,_,_,_,_,_,_,rfl,rfl,hI⟩
theorem l2_rule (I:S2 Prop) (μ:S2 Nat)
 (h:∀a c n H,I a c n H→∀X:FP,(∀a' c' n' H',I a' c' n' H'→μ a' c' n' H'<μ a c n H→X (f2 a' c' n') H')→b2 a c n X E H K) (hI:I a c n H):l2 a c n E H K:=
 loop_rule2 (fun r m H=>∃a c n,r=f2 a c n∧m=μ a c n H∧I a c n H) (by rintro _ _ _ ⟨a,c,n,rfl,rfl,hI⟩ X hX; exact h _ _ _ _ hI X fun a' c' n' H' hI hl=>hX _ _ _ ⟨a',c',n',rfl,rfl,hI⟩ hl) rfl ⟨_,_,_,rfl,rfl,hI⟩
theorem l3_rule (I:S3 Prop) (μ:S3 Nat)
 (h:∀a c o p H,I a c o p H→∀X:FP,(∀a' c' o' p' H',I a' c' o' p' H'→μ a' c' o' p' H'<μ a c o p H→X (f3 a' c' o' p') H')→b3 a c o p X E H K) (hI:I a c o p H):l3 a c o p E H K:=
 loop_rule2 (fun r m H=>∃a c o p,r=f3 a c o p∧m=μ a c o p H∧I a c o p H) (by rintro _ _ _ ⟨a,c,o,p,rfl,rfl,hI⟩ X hX; exact h _ _ _ _ _ hI X fun a' c' o' p' H' hI hl=>hX _ _ _ ⟨a',c',o',p',rfl,rfl,hI⟩ hl) rfl ⟨_,_,_,_,rfl,rfl,hI⟩
theorem l4_rule (I:S4 Prop) (μ:S4 Nat)
 (h:∀a c q H,I a c q H→∀X:FP,(∀a' c' q' H',I a' c' q' H'→μ a' c' q' H'<μ a c q H→X (f4 a' c' q') H')→b4 a c q X E H K) (hI:I a c q H):l4 a c q E H K:=
 loop_rule2 (fun r m H=>∃a c q,r=f4 a c q∧m=μ a c q H∧I a c q H) (by rintro _ _ _ ⟨a,c,q,rfl,rfl,hI⟩ X hX; exact h _ _ _ _ hI X fun a' c' q' H' hI hl=>hX _ _ _ ⟨a',c',q',rfl,rfl,hI⟩ hl) rfl ⟨_,_,_,rfl,rfl,hI⟩
theorem nok:nodesOk code [[0,1,0,1],[1,1,1,1,0,1,1,1,0,0,1,1,0,0,1,0,1],[1,1,0,1,1,1,1,0,1,1,1,0,0,1,1,0,0,1,0,1],[0,1,1,1,1,1,0,1,1,1,0,0,1,1,0,0,1,0,1],[1,1,1,0,0,1,0,1],[1,1],[0,1,0,1,1],[1,1,0,0,1,0,1,1],[1,1,1],[0,1,0,1,1,1],[1,1,1,0,0,1,0,1,1,1],[1,1,1,1],[0,1,1,1,1,1],[1,1,0,0,1,1,1,1,1]]=true:=by kernel_rfl
def run_t (l1:S1 Prop)(a:OA)(E:VP)(H:Hp)(K:KT):Prop:=
  nn a fun B1 o1=>
  ldS (H.get B1 (o1+1)) fun x1p x1n x1c=>
  l1 a 4611686018427387904 x1p x1n x1c (x1n:Int) 0 H
theorem run_eq (h:run_t (fun a c d e g i k H=>l1 a c d e g i k E H K) a E H K):run a E H K:=by
  exact nodeR_imp2 (fun G=>run_t (fun a c d e g i k H=>G [0,1,0,1] (f1 a c d e g i k) H) a E H K) nok rfl (fun G=>by kernel_rfl) (Eq.mp (by kernel_rfl) h)
def j1_t (j2:OA→Int→Nat→Int→Int→OA→Nat→Nat→Int→Int→Hp→Prop)(j3:OA→Int→Nat→OA→Nat→Nat→Int→Int→Hp→Prop)(j4:OA→Int→OA→Nat→Nat→Int→Int→Hp→Prop)(a:OA)(c:Int)(t:Nat)(v w:Int)(d:OA)(e g:Nat)(i k:Int)(X1:FP)(E:VP)(H:Hp)(K:KT):Prop:=
  bcase (decide ((v:Int)=1)) (
  bcase (decide ((w:Int)=0)) (
  bcase (decide ((w:Int)=0)) (
  j3 a c t d e g i k H)
  (j4 a c d e g i k H))
  (j2 a c t v w d e g i k H))
  (j2 a c t v w d e g i k H)
theorem j1_eq (h:j1_t (fun a c t v w d e g i k H=>j2 a c t v w d e g i k X1 E H K) (fun a c t d e g i k H=>j3 a c t d e g i k X1 E H K) (fun a c d e g i k H=>j4 a c d e g i k X1 E H K) a c t v w d e g i k X1 E H K):j1 a c t v w d e g i k X1 E H K:=by
  exact nodeR_imp2 (fun G=>j1_t (fun a c t v w d e g i k H=>G [1,1,0,1,1,1,1,0,1,1,1,0,0,1,1,0,0,1,0,1] [(0,.pointer a),(2,.int .i64 c),(4,.pointer (some ⟨t,0,none⟩)),(7,.int .i64 v),(8,.int .i64 w),(17,.slice d e g),(18,.int .i64 i),(19,.int .i64 k)] H) (fun a c t d e g i k H=>G [0,1,1,1,1,1,0,1,1,1,0,0,1,1,0,0,1,0,1] [(0,.pointer a),(2,.int .i64 c),(4,.pointer (some ⟨t,0,none⟩)),(17,.slice d e g),(18,.int .i64 i),(19,.int .i64 k)] H) (fun a c d e g i k H=>G [1,1,1,0,0,1,0,1] (f1 a c d e g i k) H) a c t v w d e g i k X1 E H K) nok rfl (fun G=>by kernel_rfl) (Eq.mp (by kernel_rfl) h)
def j2_t (j3:OA→Int→Nat→OA→Nat→Nat→Int→Int→Hp→Prop)(j4:OA→Int→OA→Nat→Nat→Int→Int→Hp→Prop)(a:OA)(c:Int)(t:Nat)(v w:Int)(d:OA)(e g:Nat)(i k:Int)(X1:FP)(E:VP)(H:Hp)(K:KT):Prop:=
  bcase (decide ((v:Int)=0)) (
  bcase (decide ((w:Int)=1)) (
  j3 a c t d e g i k H)
  (j4 a c d e g i k H))
  (j4 a c d e g i k H)
theorem j2_eq (h:j2_t (fun a c t d e g i k H=>j3 a c t d e g i k X1 E H K) (fun a c d e g i k H=>j4 a c d e g i k X1 E H K) a c t v w d e g i k X1 E H K):j2 a c t v w d e g i k X1 E H K:=by
  exact nodeR_imp2 (fun G=>j2_t (fun a c t d e g i k H=>G [0,1,1,1,1,1,0,1,1,1,0,0,1,1,0,0,1,0,1] [(0,.pointer a),(2,.int .i64 c),(4,.pointer (some ⟨t,0,none⟩)),(17,.slice d e g),(18,.int .i64 i),(19,.int .i64 k)] H) (fun a c d e g i k H=>G [1,1,1,0,0,1,0,1] (f1 a c d e g i k) H) a c t v w d e g i k X1 E H K) nok rfl (fun G=>by kernel_rfl) (Eq.mp (by kernel_rfl) h)
def j3_t (j4:OA→Int→OA→Nat→Nat→Int→Int→Hp→Prop)(a:OA)(c:Int)(t:Nat)(d:OA)(e g:Nat)(i k:Int)(X1:FP)(E:VP)(H:Hp)(K:KT):Prop:=
  ldI .i64 (H.get t 0) fun x1=>
  ldI .i64 (H.get t 1) fun x2=>
  ldI .i64 (H.get t 2) fun x3=>
  Q49.call a x1 x2 x3 E H fun r1 H1=>
  j4 a (if r1<c then r1 else c) d e g i k H1
theorem j3_eq (h:j3_t (fun a c d e g i k H=>j4 a c d e g i k X1 E H K) a c t d e g i k X1 E H K):j3 a c t d e g i k X1 E H K:=by
  exact nodeR_imp2 (fun G=>j3_t (fun a c d e g i k H=>G [1,1,1,0,0,1,0,1] (f1 a c d e g i k) H) a c t d e g i k X1 E H K) nok rfl (fun G=>by kernel_rfl) (Eq.mp (by kernel_rfl) h)
def j4_t (a:OA)(c:Int)(d:OA)(e g:Nat)(i k:Int)(X1:FP)(E:VP)(H:Hp)(K:KT):Prop:=
  X1 (f1 a c d e g i (IntKind.wrap .i64 (k+1))) H
theorem j4_eq (h:j4_t a c d e g i k X1 E H K):j4 a c d e g i k X1 E H K:=by
  exact nodeR_imp2 (fun _=>j4_t a c d e g i k X1 E H K) nok rfl (fun G=>by kernel_rfl) h
def j5_t (l2:S2 Prop)(a:OA)(c:Int)(E:VP)(H:Hp)(K:KT):Prop:=
  nn a fun B1 o1=>
  ldI .i64 (H.get B1 o1) fun x1=>
  l2 a c x1 H
theorem j5_eq (h:j5_t (fun a c n H=>l2 a c n E H K) a c E H K):j5 a c E H K:=by
  exact nodeR_imp2 (fun G=>j5_t (fun a c n H=>G [0,1,0,1,1] (f2 a c n) H) a c E H K) nok rfl (fun G=>by kernel_rfl) (Eq.mp (by kernel_rfl) h)
def j6_t (a:OA)(c n:Int)(X1:FP)(E:VP)(H:Hp)(K:KT):Prop:=
  X1 (f2 a c (IntKind.wrap .i64 (n+1))) H
theorem j6_eq (h:j6_t a c n X1 E H K):j6 a c n X1 E H K:=by
  exact nodeR_imp2 (fun _=>j6_t a c n X1 E H K) nok rfl (fun G=>by kernel_rfl) h
def j7_t (l3:S3 Prop)(a:OA)(c:Int)(E:VP)(H:Hp)(K:KT):Prop:=
  nn a fun B1 o1=>
  ldS (H.get B1 (o1+2)) fun x1p x1n x1c=>
  l3 a c (x1n:Int) 0 H
theorem j7_eq (h:j7_t (fun a c o p H=>l3 a c o p E H K) a c E H K):j7 a c E H K:=by
  exact nodeR_imp2 (fun G=>j7_t (fun a c o p H=>G [0,1,0,1,1,1] (f3 a c o p) H) a c E H K) nok rfl (fun G=>by kernel_rfl) (Eq.mp (by kernel_rfl) h)
def j8_t (a:OA)(c o p:Int)(X1:FP)(E:VP)(H:Hp)(K:KT):Prop:=
  X1 (f3 a c o (IntKind.wrap .i64 (p+1))) H
theorem j8_eq (h:j8_t a c o p X1 E H K):j8 a c o p X1 E H K:=by
  exact nodeR_imp2 (fun _=>j8_t a c o p X1 E H K) nok rfl (fun G=>by kernel_rfl) h
def j9_t (l4:S4 Prop)(a:OA)(c:Int)(E:VP)(H:Hp)(K:KT):Prop:=
  nn a fun B1 o1=>
  ldI .i64 (H.get B1 o1) fun x1=>
  l4 a c x1 H
theorem j9_eq (h:j9_t (fun a c q H=>l4 a c q E H K) a c E H K):j9 a c E H K:=by
  exact nodeR_imp2 (fun G=>j9_t (fun a c q H=>G [0,1,1,1,1,1] (f4 a c q) H) a c E H K) nok rfl (fun G=>by kernel_rfl) (Eq.mp (by kernel_rfl) h)
def j10_t (a:OA)(c q:Int)(X1:FP)(E:VP)(H:Hp)(K:KT):Prop:=
  X1 (f4 a c (IntKind.wrap .i64 (q+1))) H
theorem j10_eq (h:j10_t a c q X1 E H K):j10 a c q X1 E H K:=by
  exact nodeR_imp2 (fun _=>j10_t a c q X1 E H K) nok rfl (fun G=>by kernel_rfl) h
def b1_t (j1:OA→Int→Nat→Int→Int→OA→Nat→Nat→Int→Int→Hp→Prop)(j4:OA→Int→OA→Nat→Nat→Int→Int→Hp→Prop)(j5:OA→Int→Hp→Prop)(a:OA)(c:Int)(d:OA)(e g:Nat)(i k:Int)(X1:FP)(E:VP)(H:Hp)(K:KT):Prop:=
  bcase (decide ((k:Int)<i)) (
  ix d e k 3 fun B1 o1=>
  ldI .i64 (H.get B1 o1) fun x1=>
  ldI .i64 (H.get B1 (o1+1)) fun x2=>
  ldI .i64 (H.get B1 (o1+2)) fun x3=>
  nw H ⟨[.int .i64 0,.int .i64 0,.int .i64 0],75⟩ fun B2 H1=>
  stC H1 B2 0 [.int .i64 x1,.int .i64 x2,.int .i64 x3] fun H2=>
  nn a fun B3 o2=>
  ldS (H2.get B3 (o2+5)) fun x4p x4n x4c=>
  ldI .i64 (H2.get B2 0) fun x5=>
  ix x4p x4n x5 1 fun B4 o3=>
  ldI .i64 (H2.get B4 o3) fun x6=>
  nn a fun B5 o4=>
  ldS (H2.get B5 (o4+5)) fun x7p x7n x7c=>
  ldI .i64 (H2.get B2 1) fun x8=>
  ix x7p x7n x8 1 fun B6 o5=>
  ldI .i64 (H2.get B6 o5) fun x9=>
  nn a fun B7 o6=>
  ldS (H2.get B7 (o6+4)) fun x10p x10n x10c=>
  ix x10p x10n x6 9 fun B8 o7=>
  ldI .i64 (H2.get B8 (o7+4)) fun x11=>
  nn a fun B9 o8=>
  ldS (H2.get B9 (o8+4)) fun x12p x12n x12c=>
  ix x12p x12n x9 9 fun B10 o9=>
  ldI .i64 (H2.get B10 (o9+4)) fun x13=>
  bcase (decide ((x6:Int)=x9)) (
  j4 a c d e g i k H2)
  (bcase (decide ((x11:Int)=1)) (
  bcase (decide ((x13:Int)=1)) (
  ldI .i64 (H2.get B2 0) fun x14=>
  ldI .i64 (H2.get B2 1) fun x15=>
  ldI .i64 (H2.get B2 2) fun x16=>
  Q49.call a x14 x15 x16 E H2 fun r1 H3=>
  2≠(0:Int)∧
  j4 a (if (IntKind.wrap .i64 (Int.tdiv r1 2))<c then (IntKind.wrap .i64 (Int.tdiv r1 2)) else c) d e g i k H3)
  (j1 a c B2 x11 x13 d e g i k H2))
  (j1 a c B2 x11 x13 d e g i k H2)))
  (j5 a c H)
theorem b1_eq (h:b1_t (fun a c t v w d e g i k H=>j1 a c t v w d e g i k X1 E H K) (fun a c d e g i k H=>j4 a c d e g i k X1 E H K) (fun a c H=>j5 a c E H K) a c d e g i k X1 E H K):b1 a c d e g i k X1 E H K:=by
  exact nodeR_imp2 (fun G=>b1_t (fun a c t v w d e g i k H=>G [1,1,1,1,0,1,1,1,0,0,1,1,0,0,1,0,1] [(0,.pointer a),(2,.int .i64 c),(4,.pointer (some ⟨t,0,none⟩)),(7,.int .i64 v),(8,.int .i64 w),(17,.slice d e g),(18,.int .i64 i),(19,.int .i64 k)] H) (fun a c d e g i k H=>G [1,1,1,0,0,1,0,1] (f1 a c d e g i k) H) (fun a c H=>G [1,1] [(0,.pointer a),(2,.int .i64 c)] H) a c d e g i k X1 E H K) nok rfl (fun G=>by kernel_rfl) (Eq.mp (by kernel_rfl) h)
def b2_t (j6:OA→Int→Int→Hp→Prop)(j7:OA→Int→Hp→Prop)(a:OA)(c n:Int)(X1:FP)(E:VP)(H:Hp)(K:KT):Prop:=
  nn a fun B1 o1=>
  ldS (H.get B1 (o1+4)) fun x1p x1n x1c=>
  bcase (decide ((n:Int)<(x1n:Int))) (
  nn a fun B2 o2=>
  ldS (H.get B2 (o2+4)) fun x2p x2n x2c=>
  ix x2p x2n n 9 fun B3 o3=>
  ldS (H.get B3 o3) fun x3p x3n x3c=>
  ldS (H.get B3 (o3+1)) fun x4p x4n x4c=>
  ldI .i64 (H.get B3 (o3+2)) fun x5=>
  ldI .i64 (H.get B3 (o3+3)) fun x6=>
  ldI .i64 (H.get B3 (o3+4)) fun x7=>
  ldI .i64 (H.get B3 (o3+5)) fun x8=>
  ldI .i64 (H.get B3 (o3+6)) fun x9=>
  ldI .i64 (H.get B3 (o3+7)) fun x10=>
  ldI .i64 (H.get B3 (o3+8)) fun x11=>
  nw H ⟨[.slice none 0 0,.slice none 0 0,.int .i64 0,.int .i64 0,.int .i64 0,.int .i64 0,.int .i64 0,.int .i64 0,.int .i64 0],117⟩ fun B4 H1=>
  stC H1 B4 0 [.slice x3p x3n x3c,.slice x4p x4n x4c,.int .i64 x5,.int .i64 x6,.int .i64 x7,.int .i64 x8,.int .i64 x9,.int .i64 x10,.int .i64 x11] fun H2=>
  ldI .i64 (H2.get B4 8) fun x12=>
  bcase (decide ((x12:Int)=(-1))) (
  ldI .i64 (H2.get B4 4) fun x13=>
  bcase (decide ((x13:Int)=2)) (
  ldI .i64 (H2.get B4 3) fun x14=>
  2≠(0:Int)∧
  j6 a (if (IntKind.wrap .i64 (Int.tdiv x14 2))<c then (IntKind.wrap .i64 (Int.tdiv x14 2)) else c) n H2)
  (j6 a c n H2))
  (j6 a c n H2))
  (j7 a c H)
theorem b2_eq (h:b2_t (fun a c n H=>j6 a c n X1 E H K) (fun a c H=>j7 a c E H K) a c n X1 E H K):b2 a c n X1 E H K:=by
  exact nodeR_imp2 (fun G=>b2_t (fun a c n H=>G [1,1,0,0,1,0,1,1] (f2 a c n) H) (fun a c H=>G [1,1,1] [(0,.pointer a),(2,.int .i64 c)] H) a c n X1 E H K) nok rfl (fun G=>by kernel_rfl) (Eq.mp (by kernel_rfl) h)
def b3_t (j8:OA→Int→Int→Int→Hp→Prop)(j9:OA→Int→Hp→Prop)(a:OA)(c o p:Int)(X1:FP)(E:VP)(H:Hp)(K:KT):Prop:=
  bcase (decide ((p:Int)<o)) (
  nn a fun B1 o1=>
  ldS (H.get B1 (o1+4)) fun x1p x1n x1c=>
  nn a fun B2 o2=>
  ldS (H.get B2 (o2+5)) fun x2p x2n x2c=>
  ix x2p x2n p 1 fun B3 o3=>
  ldI .i64 (H.get B3 o3) fun x3=>
  ix x1p x1n x3 9 fun B4 o4=>
  ldI .i64 (H.get B4 (o4+4)) fun x4=>
  bcase (decide ((x4:Int)=1)) (
  nn a fun B5 o5=>
  ldS (H.get B5 (o5+2)) fun x5p x5n x5c=>
  ix x5p x5n p 1 fun B6 o6=>
  ldI .i64 (H.get B6 o6) fun x6=>
  ix x5p x5n p 1 fun B7 o7=>
  stC H B7 o7 [.int .i64 (IntKind.wrap .i64 (x6+c))] fun H1=>
  j8 a c o p H1)
  (bcase (decide ((x4:Int)=2)) (
  nn a fun B8 o8=>
  ldS (H.get B8 (o8+2)) fun x7p x7n x7c=>
  ix x7p x7n p 1 fun B9 o9=>
  ldI .i64 (H.get B9 o9) fun x8=>
  ix x7p x7n p 1 fun B10 o10=>
  stC H B10 o10 [.int .i64 (IntKind.wrap .i64 (x8-c))] fun H2=>
  j8 a c o p H2)
  (j8 a c o p H)))
  (j9 a c H)
theorem b3_eq (h:b3_t (fun a c o p H=>j8 a c o p X1 E H K) (fun a c H=>j9 a c E H K) a c o p X1 E H K):b3 a c o p X1 E H K:=by
  exact nodeR_imp2 (fun G=>b3_t (fun a c o p H=>G [1,1,1,0,0,1,0,1,1,1] (f3 a c o p) H) (fun a c H=>G [1,1,1,1] [(0,.pointer a),(2,.int .i64 c)] H) a c o p X1 E H K) nok rfl (fun G=>by kernel_rfl) (Eq.mp (by kernel_rfl) h)
def b4_t (j10:OA→Int→Int→Hp→Prop)(a:OA)(c q:Int)(X1:FP)(E:VP)(H:Hp)(K:KT):Prop:=
  nn a fun B1 o1=>
  ldS (H.get B1 (o1+4)) fun x1p x1n x1c=>
  bcase (decide ((q:Int)<(x1n:Int))) (
  nn a fun B2 o2=>
  ldS (H.get B2 (o2+4)) fun x2p x2n x2c=>
  ix x2p x2n q 9 fun B3 o3=>
  ldI .i64 (H.get B3 (o3+8)) fun x3=>
  bcase (!decide ((x3:Int)=(-1))) (
  j10 a c q H)
  (ldI .i64 (H.get B3 (o3+4)) fun x4=>
  bcase (decide ((x4:Int)=1)) (
  ldI .i64 (H.get B3 (o3+3)) fun x5=>
  stC H B3 (o3+3) [.int .i64 (IntKind.wrap .i64 (x5+(IntKind.wrap .i64 (2*c))))] fun H1=>
  j10 a c q H1)
  (ldI .i64 (H.get B3 (o3+4)) fun x6=>
  bcase (decide ((x6:Int)=2)) (
  ldI .i64 (H.get B3 (o3+3)) fun x7=>
  stC H B3 (o3+3) [.int .i64 (IntKind.wrap .i64 (x7-(IntKind.wrap .i64 (2*c))))] fun H2=>
  j10 a c q H2)
  (j10 a c q H))))
  (K H)
theorem b4_eq (h:b4_t (fun a c q H=>j10 a c q X1 E H K) a c q X1 E H K):b4 a c q X1 E H K:=by
  exact nodeR_imp2 (fun G=>b4_t (fun a c q H=>G [1,1,0,0,1,1,1,1,1] (f4 a c q) H) a c q X1 E H K) nok rfl (fun G=>by kernel_rfl) (Eq.mp (by kernel_rfl) h)
end
end Q46
namespace Q49
abbrev KT:=Int→Hp→Prop
section
variable (a:OA)(c d e:Int)(E:VP)(H:Hp)(K:KT)
noncomputable def A:An:={ live:=[(0,[0,1]),(1,[0,3])],ord:=[(1,[0,1,2,3,4,5,6,7,8,9,10,11,12,13,14,15,16,17,18,19,20])],stb:=[],pre:=[(1,[[],[0],[],[2],[2,3],[2,3,4],[],[6],[2,3,4,5,6,7],[2,3,4,5,6,7,8],[0,1,2,3,4,5,6,7,8,9],[],[11],[11,12],[11,12,13],[],[15],[11,12,13,14,15,16],[11,12,13,14,15,16,17],[0,1,2,3,4,5,6,7,8,9,10,11,12,13,14,15,16,17,18],[0,1,2,3,4,5,6,7,8,9,10,11,12,13,14,15,16,17,18,19]])] }
noncomputable def code:Code:=bodyOf Go.Proofs.Try.f96
def rq:Ex→FP:=retQ T0 [.tmp 4] [2] (fun r H=>ldR (.one false [.i .i64]) r fun u=>K (asI u) H) E
def run:Prop:=nodeM P0 T0 A code [] [] (rq E K) (argF 0 [.pointer a,.agg ⟨[.int .i64 c,.int .i64 d,.int .i64 e]⟩]) H
variable {a c d e E H K}
theorem ok:okCode A 25 code=true:=by kernel_rfl
theorem of (h:run a c d e E H K):call a c d e E H K:=
  callW_of T0_ok P0_mixed (A:=A) (fn:=Go.Proofs.Try.f96) Go.Proofs.Try.func96 rfl ok rfl h
theorem nok:nodesOk code []=true:=by kernel_rfl
def run_t (a:OA)(c d e:Int)(E:VP)(H:Hp)(K:KT):Prop:=
  nw H ⟨[.int .i64 c,.int .i64 d,.int .i64 e],75⟩ fun B1 H1=>
  ldI .i64 (H1.get B1 2) fun x1=>
  nn a fun B2 o1=>
  ldS (H1.get B2 (o1+2)) fun x2p x2n x2c=>
  ldI .i64 (H1.get B1 0) fun x3=>
  ix x2p x2n x3 1 fun B3 o2=>
  ldI .i64 (H1.get B3 o2) fun x4=>
  nn a fun B4 o3=>
  ldS (H1.get B4 (o3+2)) fun x5p x5n x5c=>
  ldI .i64 (H1.get B1 1) fun x6=>
  ix x5p x5n x6 1 fun B5 o4=>
  ldI .i64 (H1.get B5 o4) fun x7=>
  K (IntKind.wrap .i64 ((IntKind.wrap .i64 (x1-x4))-x7)) H1
theorem run_eq (h:run_t a c d e E H K):run a c d e E H K:=by
  exact nodeR_imp2 (fun _=>run_t a c d e E H K) nok rfl (fun G=>by kernel_rfl) h
end
end Q49
namespace Q50
abbrev KT:=Hp→Prop
section
variable (a:OA)(c d e:Int)(E:VP)(H:Hp)(K:KT)
noncomputable def A:An:={ live:=[(0,[0,1]),(1,[0,3]),(2,[0,3,4]),(3,[0,4]),(4,[0,5])],ord:=[(1,[0,1,2,3,4,5,6,7,8]),(4,[0,1,2,3,4,5,6,7,8,9,10])],stb:=[],pre:=[(1,[[],[0],[0,1],[0,1,2],[],[4],[0,1,2,3,4,5],[0,1,2,3,4,5,6],[0,1,2,3,4,5,6,7]]),(4,[[],[],[1],[1,2],[1,2,3],[],[5],[1,2,3,4,5,6],[1,2,3,4,5,6,7],[],[0,1,2,3,4,5,6,7,8,9]])] }
noncomputable def code:Code:=bodyOf Go.Proofs.Try.f97
def rq:Ex→FP:=retQ T0 [] [] (fun r H=>ldR (.tup []) r fun u=>K H) E
def run:Prop:=nodeM P0 T0 A code [] [] (rq E K) (argF 0 [.pointer a,.agg ⟨[.int .i64 c,.int .i64 d,.int .i64 e]⟩]) H
variable {a c d e E H K}
theorem ok:okCode A 32 code=true:=by kernel_rfl
theorem of (h:run a c d e E H K):call a c d e E H K:=
  callW_of T0_ok P0_mixed (A:=A) (fn:=Go.Proofs.Try.f97) Go.Proofs.Try.func97 rfl ok rfl h
theorem nok:nodesOk code []=true:=by kernel_rfl
def run_t (a:OA)(c d e:Int)(E:VP)(H:Hp)(K:KT):Prop:=
  nw H ⟨[.int .i64 c,.int .i64 d,.int .i64 e],115⟩ fun B1 H1=>
  nn a fun B2 o1=>
  ldS (H1.get B2 (o1+5)) fun x1p x1n x1c=>
  ldI .i64 (H1.get B1 1) fun x2=>
  ix x1p x1n x2 1 fun B3 o2=>
  ldI .i64 (H1.get B3 o2) fun x3=>
  ldI .i64 (H1.get B1 0) fun x4=>
  ldI .i64 (H1.get B1 1) fun x5=>
  ldI .i64 (H1.get B1 2) fun x6=>
  Q44.call a x3 2 x4 x5 x6 E H1 fun H2=>
  Q55.call a x3 E H2 fun r1_edge r1_in r1_out H3=>
  nw H3 ⟨[.int .i64 0,.int .i64 0,.int .i64 0],115⟩ fun B4 H4=>
  stC H4 B4 0 [.int .i64 r1_edge,.int .i64 r1_in,.int .i64 r1_out] fun H5=>
  nn a fun B5 o3=>
  ldS (H5.get B5 (o3+5)) fun x7p x7n x7c=>
  ldI .i64 (H5.get B4 1) fun x8=>
  ix x7p x7n x8 1 fun B6 o4=>
  ldI .i64 (H5.get B6 o4) fun x9=>
  ldI .i64 (H5.get B4 0) fun x10=>
  ldI .i64 (H5.get B4 1) fun x11=>
  ldI .i64 (H5.get B4 2) fun x12=>
  Q44.call a x9 1 x10 x11 x12 E H5 fun H6=>
  K H6
theorem run_eq (h:run_t a c d e E H K):run a c d e E H K:=by
  exact nodeR_imp2 (fun _=>run_t a c d e E H K) nok rfl (fun G=>by kernel_rfl) h
end
end Q50
namespace Q51
abbrev KT:=OA→Nat→Nat→Hp→Prop
abbrev S1 (α:Type):=OA→Int→OA→Nat→Nat→Hp→α
section
variable (a:OA)(c:Int)(d:OA)(e g:Nat)(X1:FP)(E:VP)(H:Hp)(K:KT)
noncomputable def A:An:={ live:=[(0,[0,1]),(1,[0,1]),(2,[0,1,5]),(3,[0,1,5]),(4,[0,1,5]),(5,[5])],ord:=[(3,[0,1,2,3,4,5,6,7,8,9,10,11,12,13,14,15])],stb:=[],pre:=[(3,[[],[0],[0,1],[0,1,2],[],[4],[4,5],[4,5,6],[],[4,5,6,7,8],[4,5,6,7,8,9],[4,5,6,7,8,9,10],[4,5,6,7,8,9,10,11],[0,1,2,3,4,5,6,7,8,9,10,11,12],[0,1,2,3,4,5,6,7,8,9,10,11,12,13],[0,1,2,3,4,5,6,7,8,9,10,11,12,13,14]])] }
noncomputable def code:Code:=bodyOf Go.Proofs.Try.f98
def rq:Ex→FP:=retQ T0 [.tmp 4] [26] (fun r H=>ldR (.one false [.sl]) r fun u=>K (asS1 u) (asS2 u) (asS3 u) H) E
noncomputable def f1:Fr:=[(0,.pointer a),(1,.int .i64 c),(5,.slice d e g)]
def run:Prop:=nodeM P0 T0 A code [] [] (rq E K) (argF 0 [.pointer a,.int .i64 c]) H
def l1:Prop:=nodeM P0 T0 A code [1,1,0,0] [] (rq E K) (f1 a c d e g) H
def b1:Prop:=nodeM P0 T0 A code [1,1,0,0,0] [X1] (rq E K) (f1 a c d e g) H
variable {a c d e g X1 E H K}
theorem ok:okCode A 38 code=true:=by kernel_rfl
theorem of (h:run a c E H K):call a c E H K:=
  callW_of T0_ok P0_mixed (A:=A) (fn:=Go.Proofs.Try.f98) Go.Proofs.Try.func98 rfl ok rfl h
theorem l1_rule (I:S1 Prop) (μ:S1 Nat)
 (h:∀a c d e g H,I a c d e g H→∀X:FP,(∀a' c' d' e' g' H',I a' c' d' e' g' H'→μ a' c' d' e' g' H'<μ a c d e g H→X (f1 a' c' d' e' g') H')→b1 a c d e g X E H K) (hI:I a c d e g H):l1 a c d e g E H K:=
 loop_rule2 (fun r m H=>∃a c d e g,r=f1 a c d e g∧m=μ a c d e g H∧I a c d e g H) (by rintro _ _ _ ⟨a,c,d,e,g,rfl,rfl,hI⟩ X hX; exact h _ _ _ _ _ _ hI X fun a' c' d' e' g' H' hI hl=>hX _ _ _ ⟨a',c',d',e',g',rfl,rfl,hI⟩ hl) rfl ⟨_,_,_,_,_,rfl,rfl,hI⟩
theorem nok:nodesOk code [[0,0,1,1]]=true:=by kernel_rfl
def run_t (l1:S1 Prop)(a:OA)(c:Int)(E:VP)(H:Hp)(K:KT):Prop:=
  nw H ⟨[.int .i64 c],3⟩ fun B1 H1=>
  l1 a c (some ⟨B1,0,none⟩) 1 1 H1
theorem run_eq (h:run_t (fun a c d e g H=>l1 a c d e g E H K) a c E H K):run a c E H K:=by
  exact nodeR_imp2 (fun G=>run_t (fun a c d e g H=>G [0,0,1,1] (f1 a c d e g) H) a c E H K) nok rfl (fun G=>by kernel_rfl) (Eq.mp (by kernel_rfl) h)
def b1_t (a:OA)(c:Int)(d:OA)(e g:Nat)(X1:FP)(E:VP)(H:Hp)(K:KT):Prop:=
  nn a fun B1 o1=>
  ldS (H.get B1 (o1+4)) fun x1p x1n x1c=>
  ix x1p x1n c 9 fun B2 o2=>
  ldI .i64 (H.get B2 (o2+5)) fun x2=>
  bcase (decide ((0:Int)≤x2)) (
  nn a fun B3 o3=>
  ldS (H.get B3 (o3+5)) fun x3p x3n x3c=>
  nn a fun B4 o4=>
  ldS (H.get B4 (o4+4)) fun x4p x4n x4c=>
  ix x4p x4n c 9 fun B5 o5=>
  ldI .i64 (H.get B5 (o5+7)) fun x5=>
  ix x3p x3n x5 1 fun B6 o6=>
  ldI .i64 (H.get B6 o6) fun x6=>
  nw H ⟨[.int .i64 x6],3⟩ fun B7 H1=>
  appM 3 [.i .i64] 8 d e g (some ⟨B7,0,none⟩) 1 H1 fun a1p a1n a1c H2=>
  X1 (f1 a x6 a1p a1n a1c) H2)
  (K d e g H)
theorem b1_eq (h:b1_t a c d e g X1 E H K):b1 a c d e g X1 E H K:=by
  exact nodeR_imp2 (fun _=>b1_t a c d e g X1 E H K) nok rfl (fun G=>by kernel_rfl) h
end
end Q51
namespace Q52
abbrev KT:=Hp→Prop
abbrev S1 (α:Type):=OA→OA→Nat→Nat→OA→Nat→Nat→Nat→Hp→α
abbrev S2 (α:Type):=OA→OA→Nat→Nat→OA→Nat→Nat→Nat→Nat→Int→Hp→α
abbrev S3 (α:Type):=OA→OA→Nat→Nat→Nat→Int→Hp→α
abbrev S4 (α:Type):=OA→Int→OA→Nat→Nat→Int→Int→Hp→α
section
variable (a:OA)(c z d:Int)(aa:OA)(e:Int)(ab:Nat)(g:OA)(ac k:Nat)(ad:Int)(n:Nat)(ae:Int)(o:OA)(p q t v:Nat)(w y:Int)(X1:FP)(E:VP)(H:Hp)(K:KT)
noncomputable def A:An:={ live:=[(0,[0,1,2,3]),(1,[0,2,3,5]),(2,[0,2,3,5]),(3,[0,2,3,5]),(4,[0,2,3,5,8]),(5,[0,2,3,5,9]),(6,[0,2,3,5,9,10]),(7,[0,2,3,5,9,10]),(8,[0,2,3,5,9,10]),(9,[0,2,3,5,9,10]),(10,[0,2,3,5,9,10]),(11,[0,2,3,5,9,10,11]),(12,[0,3,5,9]),(13,[0,3,9]),(14,[0,3,9,12]),(15,[0,3,9,12]),(16,[0,3,9,12]),(17,[0,3,9,12]),(18,[0,9]),(19,[0,9]),(20,[0,9,13]),(21,[0,9,13]),(22,[0,13,172,173,174]),(23,[0,13,172,173,174]),(24,[0,13,15,172,173,174]),(25,[0,13,172,173,174])],ord:=[(1,[0,1,2,3,4,5,6,7,8,9,10,11,12,13,14,15,16,17,18,19,20,21,22]),(2,[0,1,2,3,4,5,6,7,8,9,10,11]),(4,[0,1,2,3,4,5,6,7,8,9,10,11,12,13,14,15,16,17,18]),(8,[0,1,2,3,4,5,6,7,8,9]),(10,[0,1,2,3,4,5,6,7,8,9,10,11,12,13]),(16,[0,1,2,3,4,5,6,7,8,9]),(17,[0,1,2,3,4,5,6,7,8,9,10,11,12,13,14,15,16]),(18,[0,1,2,3,4,5,6,7,8,9,10])],stb:=[],pre:=[(1,[[],[0],[0,1],[0,1,2],[0,1,2,3],[0,1,2,3,4],[0,1,2,3,4,5],[0,1,2,3,4,5,6],[0,1,2,3,4,5,6,7],[0,1,2,3,4,5,6,7,8],[0,1,2,3,4,5,6,7,8],[0,1,2,3,4,5,6,7,8,10],[0,1,2,3,4,5,6,7,8,10,11],[0,1,2,3,4,5,6,7,8,9,10,11,12],[0,1,2,3,4,5,6,7,8,9,10,11,12,13],[0,1,2,3,4,5,6,7,8],[0,1,2,3,4,5,6,7,8],[0,1,2,3,4,5,6,7,8,16],[0,1,2,3,4,5,6,7,8,16,17],[0,1,2,3,4,5,6,7,8,15,16,17,18],[0,1,2,3,4,5,6,7,8,15,16,17,18,19],[0,1,2,3,4,5,6,7,8,9,10,11,12,13,14,15,16,17,18,19,20],[0,1,2,3,4,5,6,7,8,9,10,11,12,13,14,15,16,17,18,19,20,21]]),(2,[[],[],[1],[1,2],[0,1,2,3],[],[],[6],[6,7],[5,6,7,8],[0,1,2,3,4],[0,1,2,3,4,5,6,7,8,9,10]]),(4,[[],[0],[0,1],[0,1,2],[],[0,1,2,3,4],[0,1,2,3,4,5],[0,1,2,3,4,5,6],[],[8],[8,9],[8,9,10],[],[8,9,10,11,12],[8,9,10,11,12,13],[8,9,10,11,12,13,14],[0,1,2,3,4,5,6,7,8,9,10,11,12,13,14,15],[],[0,1,2,3,4,5,6,7,8,9,10,11,12,13,14,15,16,17]]),(8,[[],[0],[],[],[2,3],[2,3,4],[2,3,4,5],[0,1,2,3,4,5,6],[0,1,2,3,4,5,6,7],[0,1,2,3,4,5,6,7,8]]),(10,[[],[0],[0,1],[0,1,2],[],[],[5],[4,5,6],[4,5,6,7],[0,1,2,3,4,5,6,7,8],[0,1,2,3,4,5,6,7,8,9],[0,1,2,3,4,5,6,7,8,9,10],[],[0,1,2,3,4,5,6,7,8,9,10,11,12]]),(16,[[],[0],[],[],[2,3],[2,3,4],[2,3,4,5],[0,1,2,3,4,5,6],[0,1,2,3,4,5,6,7],[0,1,2,3,4,5,6,7,8]]),(17,[[],[0],[],[2],[2,3],[2,3,4],[],[],[6,7],[6,7,8],[2,3,4,5,6,7,8,9],[2,3,4,5,6,7,8,9,10],[2,3,4,5,6,7,8,9,10,11],[2,3,4,5,6,7,8,9,10,11,12],[0,1,2,3,4,5,6,7,8,9,10,11,12,13],[0,1,2,3,4,5,6,7,8,9,10,11,12,13,14],[0,1,2,3,4,5,6,7,8,9,10,11,12,13,14,15]]),(18,[[],[],[1],[1,2],[1,2,3],[],[5],[1,2,3,4,5,6],[0,1,2,3,4,5,6,7],[0,1,2,3,4,5,6,7,8],[0,1,2,3,4,5,6,7,8,9]])] }
noncomputable def code:Code:=bodyOf Go.Proofs.Try.f99
def rq:Ex→FP:=retQ T0 [] [] (fun r H=>ldR (.tup []) r fun u=>K H) E
noncomputable def f1:Fr:=[(0,.pointer a),(2,.slice g k n),(3,.slice o p q),(5,.pointer (some ⟨t,0,none⟩))]
noncomputable def f2:Fr:=[(0,.pointer a),(2,.slice g k n),(3,.slice o p q),(5,.pointer (some ⟨t,0,none⟩)),(9,.pointer (some ⟨v,0,none⟩)),(10,.int .i64 w)]
noncomputable def f3:Fr:=[(0,.pointer a),(3,.slice o p q),(9,.pointer (some ⟨v,0,none⟩)),(12,.int .i64 y)]
noncomputable def f4:Fr:=[(0,.pointer a),(13,.int .i64 z),(172,.slice aa ab ac),(173,.int .i64 ad),(174,.int .i64 ae)]
def run:Prop:=nodeM P0 T0 A code [] [] (rq E K) (argF 0 [.pointer a,.agg ⟨[.int .i64 c,.int .i64 d,.int .i64 e]⟩,.slice g k n,.slice o p q]) H
def j1:Prop:=nodeM P0 T0 A code [1,1] [] (rq E K) (f1 a g k n o p q t) H
def j2:Prop:=nodeM P0 T0 A code [1,1,1,1,0,1,0,0,1,1] [X1] (rq E K) (f2 a g k n o p q t v w) H
def j3:Prop:=nodeM P0 T0 A code [1,1,1,1,1] [] (rq E K) [(0,.pointer a),(3,.slice o p q),(5,.pointer (some ⟨t,0,none⟩)),(9,.pointer (some ⟨v,0,none⟩))] H
def j4:Prop:=nodeM P0 T0 A code [1,1,1,1,1,1,1] [] (rq E K) [(0,.pointer a),(9,.pointer (some ⟨v,0,none⟩))] H
def l1:Prop:=nodeM P0 T0 A code [1,0,0] [] (rq E K) (f1 a g k n o p q t) H
def b1:Prop:=nodeM P0 T0 A code [1,0,0,0] [X1] (rq E K) (f1 a g k n o p q t) H
def l2:Prop:=nodeM P0 T0 A code [1,1,1,1,0,1,0] [] (rq E K) (f2 a g k n o p q t v w) H
def b2:Prop:=nodeM P0 T0 A code [1,1,1,1,0,1,0,0] [X1] (rq E K) (f2 a g k n o p q t v w) H
def l3:Prop:=nodeM P0 T0 A code [1,1,1,1,1,1,0,1,0] [] (rq E K) (f3 a o p q v y) H
def b3:Prop:=nodeM P0 T0 A code [1,1,1,1,1,1,0,1,0,0] [X1] (rq E K) (f3 a o p q v y) H
def l4:Prop:=nodeM P0 T0 A code [1,1,1,1,1,1,1,1,1,1,1,0] [] (rq E K) (f4 a z aa ab ac ad ae) H
def b4:Prop:=nodeM P0 T0 A code [1,1,1,1,1,1,1,1,1,1,1,0,0] [X1] (rq E K) (f4 a z aa ab ac ad ae) H
variable {a c z d aa e ab g ac k ad n ae o p q t v w y X1 E H K}
theorem ok:okCode A 187 code=true:=by kernel_rfl
theorem of (h:run a c d e g k n o p q E H K):call a c d e g k n o p q E H K:=
  callW_of T0_ok P0_mixed (A:=A) (fn:=Go.Proofs.Try.f99) Go.Proofs.Try.func99 rfl ok rfl h
theorem l1_rule (I:S1 Prop) (μ:S1 Nat)
 (h:∀a g k n o p q t H,I a g k n o p q t H→∀X:FP,(∀a' g' k' n' o' p' q' t' H',I a' g' k' n' o' p' q' t' H'→μ a' g' k' n' o' p' q' t' H'<μ a g k n o p q t H→X (f1 a' g' k' n' o' p' q' t') H')→b1 a g k n o p q t X E H K) (hI:I a g k n o p q t H):l1 a g k n o p q t E H K:=
 loop_rule2 (fun r m H=>∃a g k n o p q t,r=f1 a g k n o p q t∧m=μ a g k n o p q t H∧I a g k n o p q t H) (by rintro _ _ _ ⟨a,g,k,n,o,p,q,t,rfl,rfl,hI⟩ X hX; exact h _ _ _ _ _ _ _ _ _ hI X fun a' g' k' n' o' p' q' t' H' hI hl=>hX _ _ _ ⟨a',g',k',n',o',p',q',t',rfl,rfl,hI⟩ hl) rfl ⟨_,_,_,_,_,_,_,_,rfl,rfl,hI⟩
theorem l2_rule (I:S2 Prop) (μ:S2 Nat)
 (h:∀a g k n o p q t v w H,I a g k n o p q t v w H→∀X:FP,(∀a' g' k' n' o' p' q' t' v' w' H',I a' g' k' n' o' p' q' t' v' w' H'→μ a' g' k' n' o' p' q' t' v' w' H'<μ a g k n o p q t v w H→X (f2 a' g' k' n' o' p' q' t' v' w') H')→b2 a g k n o p q t v w X E H K) (hI:I a g k n o p q t v w H):l2 a g k n o p q t v w E H K:=
 loop_rule2 (fun r m H=>∃a g k n o p q t v w,r=f2 a g k n o p q t v w∧m=μ a g k n o p q t v w H∧I a g k n o p q t v w H) (by rintro _ _ _ ⟨a,g,k,n,o,p,q,t,v,w,rfl,rfl,hI⟩ X hX; exact h _ _ _ _ _ _ _ _ _ _ _ hI X fun a' g' k' n' o' p' q' t' v' w' H' hI hl=>hX _ _ _ ⟨a',g',k',n',o',p',q',t',v',w',rfl,rfl,hI⟩ hl) rfl ⟨_,_,_,_,_,_,_,_,_,_,rfl,rfl,hI⟩
theorem l3_rule (I:S3 Prop) (μ:S3 Nat)
 (h:∀a o p q v y H,I a o p q v y H→∀X:FP,(∀a' o' p' q' v' y' H',I a' o' p' q' v' y' H'→μ a' o' p' q' v' y' H'<μ a o p q v y H→X (f3 a' o' p' q' v' y') H')→b3 a o p q v y X E H K) (hI:I a o p q v y H):l3 a o p q v y E H K:=
 loop_rule2 (fun r m H=>∃a o p q v y,r=f3 a o p q v y∧m=μ a o p q v y H∧I a o p q v y H) (by rintro _ _ _ ⟨a,o,p,q,v,y,rfl,rfl,hI⟩ X hX; exact h _ _ _ _ _ _ _ hI X fun a' o' p' q' v' y' H' hI hl=>hX _ _ _ ⟨a',o',p',q',v',y',rfl,rfl,hI⟩ hl) rfl ⟨_,_,_,_,_,_,rfl,rfl,hI⟩
theorem l4_rule (I:S4 Prop) (μ:S4 Nat)
 (h:∀a z aa ab ac ad ae H,I a z aa ab ac ad ae H→∀X:FP,(∀a' z' aa' ab' ac' ad' ae' H',I a' z' aa' ab' ac' ad' ae' H'→μ a' z' aa' ab' ac' ad' ae' H'<μ a z aa ab ac ad ae H→X (f4 a' z' aa' ab' ac' ad' ae') H')→b4 a z aa ab ac ad ae X E H K) (hI:I a z aa ab ac ad ae H):l4 a z aa ab ac ad ae E H K:=
 loop_rule2 (fun r m H=>∃a z aa ab ac ad ae,r=f4 a z aa ab ac ad ae∧m=μ a z aa ab ac ad ae H∧I a z aa ab ac ad ae H) (by rintro _ _ _ ⟨a,z,aa,ab,ac,ad,ae,rfl,rfl,hI⟩ X hX; exact h _ _ _ _ _ _ _ _ hI X fun a' z' aa' ab' ac' ad' ae' H' hI hl=>hX _ _ _ ⟨a',z',aa',ab',ac',ad',ae',rfl,rfl,hI⟩ hl) rfl ⟨_,_,_,_,_,_,_,rfl,rfl,hI⟩
theorem nok:nodesOk code [[0,0,1],[1,1],[0,1,0,1,1,1,1],[1,1,0,0,1,0,1,1,1,1],[1,1,1,1,1],[0,1,0,1,1,1,1,1,1],[1,1,1,1,1,1,1],[0,1,1,1,1,1,1,1,1,1,1,1]]=true:=by kernel_rfl
def run_t (l1:S1 Prop)(a:OA)(c d e:Int)(g:OA)(k n:Nat)(o:OA)(p q:Nat)(E:VP)(H:Hp)(K:KT):Prop:=
  nw H ⟨[.int .i64 c,.int .i64 d,.int .i64 e],115⟩ fun B1 H1=>
  l1 a g k n o p q B1 H1
theorem run_eq (h:run_t (fun a g k n o p q t H=>l1 a g k n o p q t E H K) a c d e g k n o p q E H K):run a c d e g k n o p q E H K:=by
  exact nodeR_imp2 (fun G=>run_t (fun a g k n o p q t H=>G [0,0,1] (f1 a g k n o p q t) H) a c d e g k n o p q E H K) nok rfl (fun G=>by kernel_rfl) (Eq.mp (by kernel_rfl) h)
def j1_t (l2:S2 Prop)(a g:OA)(k n:Nat)(o:OA)(p q t:Nat)(E:VP)(H:Hp)(K:KT):Prop:=
  ix g k (IntKind.wrap .i64 ((k:Int)-1)) 1 fun B1 o1=>
  ldI .i64 (H.get B1 o1) fun x1=>
  nn a fun B2 o2=>
  ldS (H.get B2 (o2+4)) fun x2p x2n x2c=>
  ix x2p x2n x1 9 fun B3 o3=>
  ldI .i64 (H.get B3 (o3+2)) fun x3=>
  nn a fun B4 o4=>
  ldS (H.get B4 (o4+4)) fun x4p x4n x4c=>
  ix x4p x4n x1 9 fun B5 o5=>
  ldI .i64 (H.get B5 (o5+5)) fun x5=>
  ldI .i64 (H.get B5 (o5+6)) fun x6=>
  ldI .i64 (H.get B5 (o5+7)) fun x7=>
  nw H ⟨[.slice none 0 0,.slice none 0 0,.int .i64 0,.int .i64 0,.int .i64 0,.int .i64 0,.int .i64 0,.int .i64 0,.int .i64 0],117⟩ fun B6 H1=>
  stC H1 B6 0 [.slice none 0 0,.slice none 0 0,.int .i64 x3,.int .i64 0,.int .i64 1,.int .i64 x5,.int .i64 x6,.int .i64 x7,.int .i64 (-1)] fun H2=>
  l2 a g k n o p q t B6 (IntKind.wrap .i64 ((k:Int)-1)) H2
theorem j1_eq (h:j1_t (fun a g k n o p q t v w H=>l2 a g k n o p q t v w E H K) a g k n o p q t E H K):j1 a g k n o p q t E H K:=by
  exact nodeR_imp2 (fun G=>j1_t (fun a g k n o p q t v w H=>G [0,1,0,1,1,1,1] (f2 a g k n o p q t v w) H) a g k n o p q t E H K) nok rfl (fun G=>by kernel_rfl) (Eq.mp (by kernel_rfl) h)
def j2_t (a g:OA)(k n:Nat)(o:OA)(p q t v:Nat)(w:Int)(X1:FP)(E:VP)(H:Hp)(K:KT):Prop:=
  X1 (f2 a g k n o p q t v (IntKind.wrap .i64 (w-1))) H
theorem j2_eq (h:j2_t a g k n o p q t v w X1 E H K):j2 a g k n o p q t v w X1 E H K:=by
  exact nodeR_imp2 (fun _=>j2_t a g k n o p q t v w X1 E H K) nok rfl (fun G=>by kernel_rfl) h
def j3_t (l3:S3 Prop)(a o:OA)(p q t v:Nat)(E:VP)(H:Hp)(K:KT):Prop:=
  ldS (H.get v 1) fun x1p x1n x1c=>
  ldI .i64 (H.get t 0) fun x2=>
  ldI .i64 (H.get t 1) fun x3=>
  ldI .i64 (H.get t 2) fun x4=>
  nw H ⟨[.int .i64 x2,.int .i64 x3,.int .i64 x4],115⟩ fun B1 H1=>
  appM 115 [.i .i64,.i .i64,.i .i64] 24 x1p x1n x1c (some ⟨B1,0,none⟩) 1 H1 fun a1p a1n a1c H2=>
  stC H2 v 1 [.slice a1p a1n a1c] fun H3=>
  l3 a o p q v 0 H3
theorem j3_eq (h:j3_t (fun a o p q v y H=>l3 a o p q v y E H K) a o p q t v E H K):j3 a o p q t v E H K:=by
  exact nodeR_imp2 (fun G=>j3_t (fun a o p q v y H=>G [0,1,0,1,1,1,1,1,1] (f3 a o p q v y) H) a o p q t v E H K) nok rfl (fun G=>by kernel_rfl) (Eq.mp (by kernel_rfl) h)
def j4_t (l4:S4 Prop)(a:OA)(v:Nat)(E:VP)(H:Hp)(K:KT):Prop:=
  nn a fun B1 o1=>
  ldS (H.get B1 (o1+4)) fun x1p x1n x1c=>
  ldS (H.get v 0) fun x2p x2n x2c=>
  ldS (H.get v 1) fun x3p x3n x3c=>
  ldI .i64 (H.get v 2) fun x4=>
  ldI .i64 (H.get v 3) fun x5=>
  ldI .i64 (H.get v 4) fun x6=>
  ldI .i64 (H.get v 5) fun x7=>
  ldI .i64 (H.get v 6) fun x8=>
  ldI .i64 (H.get v 7) fun x9=>
  ldI .i64 (H.get v 8) fun x10=>
  nw H ⟨[.slice x2p x2n x2c,.slice x3p x3n x3c,.int .i64 x4,.int .i64 x5,.int .i64 x6,.int .i64 x7,.int .i64 x8,.int .i64 x9,.int .i64 x10],117⟩ fun B2 H1=>
  appM 117 [.sl,.sl,.i .i64,.i .i64,.i .i64,.i .i64,.i .i64,.i .i64,.i .i64] 104 x1p x1n x1c (some ⟨B2,0,none⟩) 1 H1 fun a1p a1n a1c H2=>
  nn a fun B3 o2=>
  stC H2 B3 (o2+4) [.slice a1p a1n a1c] fun H3=>
  nn a fun B4 o3=>
  ldS (H3.get B4 (o3+4)) fun x11p x11n x11c=>
  Q56.call a (IntKind.wrap .i64 ((x11n:Int)-1)) E H3 fun H4=>
  ldS (H4.get v 0) fun x12p x12n x12c=>
  l4 a (IntKind.wrap .i64 ((x11n:Int)-1)) x12p x12n x12c (x12n:Int) 0 H4
theorem j4_eq (h:j4_t (fun a z aa ab ac ad ae H=>l4 a z aa ab ac ad ae E H K) a v E H K):j4 a v E H K:=by
  exact nodeR_imp2 (fun G=>j4_t (fun a z aa ab ac ad ae H=>G [0,1,1,1,1,1,1,1,1,1,1,1] (f4 a z aa ab ac ad ae) H) a v E H K) nok rfl (fun G=>by kernel_rfl) (Eq.mp (by kernel_rfl) h)
def b1_t (j1:OA→OA→Nat→Nat→OA→Nat→Nat→Nat→Hp→Prop)(a g:OA)(k n:Nat)(o:OA)(p q t:Nat)(X1:FP)(E:VP)(H:Hp)(K:KT):Prop:=
  bcase (decide ((1:Int)<(k:Int))) (
  bcase (decide ((1:Int)<(p:Int))) (
  ix g k (IntKind.wrap .i64 ((k:Int)-2)) 1 fun B1 o1=>
  ldI .i64 (H.get B1 o1) fun x1=>
  ix o p (IntKind.wrap .i64 ((p:Int)-2)) 1 fun B2 o2=>
  ldI .i64 (H.get B2 o2) fun x2=>
  bcase (decide ((x1:Int)=x2)) (
  ((0:Int)≤(IntKind.wrap .i64 ((k:Int)-1))∧(IntKind.wrap .i64 ((k:Int)-1))≤(n:Int))∧
  ((0:Int)≤(IntKind.wrap .i64 ((p:Int)-1))∧(IntKind.wrap .i64 ((p:Int)-1))≤(q:Int))∧
  X1 (f1 a (slp g 0 n 1) ((IntKind.wrap .i64 ((k:Int)-1)).toNat) n (slp o 0 q 1) ((IntKind.wrap .i64 ((p:Int)-1)).toNat) q t) H)
  (j1 a g k n o p q t H))
  (j1 a g k n o p q t H))
  (j1 a g k n o p q t H)
theorem b1_eq (h:b1_t (fun a g k n o p q t H=>j1 a g k n o p q t E H K) a g k n o p q t X1 E H K):b1 a g k n o p q t X1 E H K:=by
  exact nodeR_imp2 (fun G=>b1_t (fun a g k n o p q t H=>G [1,1] (f1 a g k n o p q t) H) a g k n o p q t X1 E H K) nok rfl (fun G=>by kernel_rfl) (Eq.mp (by kernel_rfl) h)
def b2_t (j2:OA→OA→Nat→Nat→OA→Nat→Nat→Nat→Nat→Int→Hp→Prop)(j3:OA→OA→Nat→Nat→Nat→Nat→Hp→Prop)(a g:OA)(k n:Nat)(o:OA)(p q t v:Nat)(w:Int)(X1:FP)(E:VP)(H:Hp)(K:KT):Prop:=
  bcase (decide ((0:Int)≤w)) (
  ldS (H.get v 0) fun x1p x1n x1c=>
  ix g k w 1 fun B1 o1=>
  ldI .i64 (H.get B1 o1) fun x2=>
  nw H ⟨[.int .i64 x2],3⟩ fun B2 H1=>
  appM 3 [.i .i64] 8 x1p x1n x1c (some ⟨B2,0,none⟩) 1 H1 fun a1p a1n a1c H2=>
  stC H2 v 0 [.slice a1p a1n a1c] fun H3=>
  bcase (decide ((0:Int)<w)) (
  nn a fun B3 o2=>
  ldS (H3.get B3 (o2+4)) fun x3p x3n x3c=>
  ix g k (IntKind.wrap .i64 (w-1)) 1 fun B4 o3=>
  ldI .i64 (H3.get B4 o3) fun x4=>
  ix x3p x3n x4 9 fun B5 o4=>
  ldI .i64 (H3.get B5 (o4+5)) fun x5=>
  ldI .i64 (H3.get B5 (o4+6)) fun x6=>
  ldI .i64 (H3.get B5 (o4+7)) fun x7=>
  nw H3 ⟨[.int .i64 0,.int .i64 0,.int .i64 0],115⟩ fun B6 H4=>
  stC H4 B6 0 [.int .i64 x5,.int .i64 x6,.int .i64 x7] fun H5=>
  ldS (H5.get v 1) fun x8p x8n x8c=>
  ldI .i64 (H5.get B6 0) fun x9=>
  ldI .i64 (H5.get B6 2) fun x10=>
  ldI .i64 (H5.get B6 1) fun x11=>
  nw H5 ⟨[.int .i64 x9,.int .i64 x10,.int .i64 x11],115⟩ fun B7 H6=>
  appM 115 [.i .i64,.i .i64,.i .i64] 24 x8p x8n x8c (some ⟨B7,0,none⟩) 1 H6 fun a2p a2n a2c H7=>
  stC H7 v 1 [.slice a2p a2n a2c] fun H8=>
  j2 a g k n o p q t v w H8)
  (j2 a g k n o p q t v w H3))
  (j3 a o p q t v H)
theorem b2_eq (h:b2_t (fun a g k n o p q t v w H=>j2 a g k n o p q t v w X1 E H K) (fun a o p q t v H=>j3 a o p q t v E H K) a g k n o p q t v w X1 E H K):b2 a g k n o p q t v w X1 E H K:=by
  exact nodeR_imp2 (fun G=>b2_t (fun a g k n o p q t v w H=>G [1,1,0,0,1,0,1,1,1,1] (f2 a g k n o p q t v w) H) (fun a o p q t v H=>G [1,1,1,1,1] [(0,.pointer a),(3,.slice o p q),(5,.pointer (some ⟨t,0,none⟩)),(9,.pointer (some ⟨v,0,none⟩))] H) a g k n o p q t v w X1 E H K) nok rfl (fun G=>by kernel_rfl) (Eq.mp (by kernel_rfl) h)
def b3_t (j4:OA→Nat→Hp→Prop)(a o:OA)(p q v:Nat)(y:Int)(X1:FP)(E:VP)(H:Hp)(K:KT):Prop:=
  bcase (decide ((y:Int)<(IntKind.wrap .i64 ((p:Int)-1)))) (
  ldS (H.get v 0) fun x1p x1n x1c=>
  ix o p y 1 fun B1 o1=>
  ldI .i64 (H.get B1 o1) fun x2=>
  nw H ⟨[.int .i64 x2],3⟩ fun B2 H1=>
  appM 3 [.i .i64] 8 x1p x1n x1c (some ⟨B2,0,none⟩) 1 H1 fun a1p a1n a1c H2=>
  stC H2 v 0 [.slice a1p a1n a1c] fun H3=>
  ldS (H3.get v 1) fun x3p x3n x3c=>
  nn a fun B3 o2=>
  ldS (H3.get B3 (o2+4)) fun x4p x4n x4c=>
  ix o p y 1 fun B4 o3=>
  ldI .i64 (H3.get B4 o3) fun x5=>
  ix x4p x4n x5 9 fun B5 o4=>
  ldI .i64 (H3.get B5 (o4+5)) fun x6=>
  ldI .i64 (H3.get B5 (o4+6)) fun x7=>
  ldI .i64 (H3.get B5 (o4+7)) fun x8=>
  nw H3 ⟨[.int .i64 x6,.int .i64 x7,.int .i64 x8],115⟩ fun B6 H4=>
  appM 115 [.i .i64,.i .i64,.i .i64] 24 x3p x3n x3c (some ⟨B6,0,none⟩) 1 H4 fun a2p a2n a2c H5=>
  stC H5 v 1 [.slice a2p a2n a2c] fun H6=>
  X1 (f3 a o p q v (IntKind.wrap .i64 (y+1))) H6)
  (j4 a v H)
theorem b3_eq (h:b3_t (fun a v H=>j4 a v E H K) a o p q v y X1 E H K):b3 a o p q v y X1 E H K:=by
  exact nodeR_imp2 (fun G=>b3_t (fun a v H=>G [1,1,1,1,1,1,1] [(0,.pointer a),(9,.pointer (some ⟨v,0,none⟩))] H) a o p q v y X1 E H K) nok rfl (fun G=>by kernel_rfl) (Eq.mp (by kernel_rfl) h)
def b4_t (a:OA)(z:Int)(aa:OA)(ab ac:Nat)(ad ae:Int)(X1:FP)(E:VP)(H:Hp)(K:KT):Prop:=
  bcase (decide ((ae:Int)<ad)) (
  ix aa ab ae 1 fun B1 o1=>
  ldI .i64 (H.get B1 o1) fun x1=>
  nn a fun B2 o2=>
  ldS (H.get B2 (o2+4)) fun x2p x2n x2c=>
  ix x2p x2n x1 9 fun B3 o3=>
  stC H B3 (o3+8) [.int .i64 z] fun H1=>
  X1 (f4 a z aa ab ac ad (IntKind.wrap .i64 (ae+1))) H1)
  (K H)
theorem b4_eq (h:b4_t a z aa ab ac ad ae X1 E H K):b4 a z aa ab ac ad ae X1 E H K:=by
  exact nodeR_imp2 (fun _=>b4_t a z aa ab ac ad ae X1 E H K) nok rfl (fun G=>by kernel_rfl) h
end
end Q52
namespace Q53
abbrev KT:=Hp→Prop
abbrev S1 (α:Type):=OA→Int→Int→Hp→α
section
variable (a:OA)(c d:Int)(X1:FP)(E:VP)(H:Hp)(K:KT)
noncomputable def A:An:={ live:=[(0,[0,1,2]),(1,[0,1,2,6]),(2,[0,1,2,6,7]),(3,[0,1,2,7]),(4,[0,7]),(5,[0,7]),(6,[0,8]),(7,[0,8,9]),(8,[0,9]),(9,[0,9])],ord:=[(5,[0,1,2,3,4,5,6,7,8]),(8,[0,1,2,3,4,5,6,7,8,9]),(9,[0,1,2,3,4,5])],stb:=[],pre:=[(5,[[],[0],[0,1],[0,1,2],[],[4],[0,1,2,3,4,5],[0,1,2,3,4,5,6],[0,1,2,3,4,5,6,7]]),(8,[[],[0],[0,1],[0,1,2],[],[4],[],[6],[0,1,2,3,4,5,6,7],[0,1,2,3,4,5,6,7,8]]),(9,[[],[0],[],[2],[0,1],[0,1,2,3,4]])] }
noncomputable def code:Code:=bodyOf Go.Proofs.Try.f100
def rq:Ex→FP:=retQ T0 [] [] (fun r H=>ldR (.tup []) r fun u=>K H) E
noncomputable def f1:Fr:=[(0,.pointer a),(1,.int .i64 c),(2,.int .i64 d)]
def run:Prop:=nodeM P0 T0 A code [] [] (rq E K) (argF 0 [.pointer a,.int .i64 c,.int .i64 d]) H
def l1:Prop:=nodeM P0 T0 A code [0] [] (rq E K) (f1 a c d) H
def b1:Prop:=nodeM P0 T0 A code [0,0] [X1] (rq E K) (f1 a c d) H
variable {a c d X1 E H K}
theorem ok:okCode A 73 code=true:=by kernel_rfl
theorem of (h:run a c d E H K):call a c d E H K:=
  callW_of T0_ok P0_mixed (A:=A) (fn:=Go.Proofs.Try.f100) Go.Proofs.Try.func100 rfl ok rfl h
theorem l1_rule (I:S1 Prop) (μ:S1 Nat)
 (h:∀a c d H,I a c d H→∀X:FP,(∀a' c' d' H',I a' c' d' H'→μ a' c' d' H'<μ a c d H→X (f1 a' c' d') H')→b1 a c d X E H K) (hI:I a c d H):l1 a c d E H K:=
 loop_rule2 (fun r m H=>∃a c d,r=f1 a c d∧m=μ a c d H∧I a c d H) (by rintro _ _ _ ⟨a,c,d,rfl,rfl,hI⟩ X hX; exact h _ _ _ _ hI X fun a' c' d' H' hI hl=>hX _ _ _ ⟨a',c',d',rfl,rfl,hI⟩ hl) rfl ⟨_,_,_,rfl,rfl,hI⟩
theorem nok:nodesOk code [[0]]=true:=by kernel_rfl
def run_t (l1:S1 Prop)(a:OA)(c d:Int)(E:VP)(H:Hp)(K:KT):Prop:=
  l1 a c d H
theorem run_eq (h:run_t (fun a c d H=>l1 a c d E H K) a c d E H K):run a c d E H K:=by
  exact nodeR_imp2 (fun G=>run_t (fun a c d H=>G [0] (f1 a c d) H) a c d E H K) nok rfl (fun G=>by kernel_rfl) (Eq.mp (by kernel_rfl) h)
def b1_t (a:OA)(c d:Int)(X1:FP)(E:VP)(H:Hp)(K:KT):Prop:=
  nn a fun B1 o1=>
  ldS (H.get B1 (o1+5)) fun x1p x1n x1c=>
  ix x1p x1n c 1 fun B2 o2=>
  ldI .i64 (H.get B2 o2) fun x2=>
  nn a fun B3 o3=>
  ldS (H.get B3 (o3+4)) fun x3p x3n x3c=>
  ix x3p x3n x2 9 fun B4 o4=>
  ldI .i64 (H.get B4 (o4+5)) fun x4=>
  ldI .i64 (H.get B4 (o4+6)) fun x5=>
  ldI .i64 (H.get B4 (o4+7)) fun x6=>
  nw H ⟨[.int .i64 0,.int .i64 0,.int .i64 0],115⟩ fun B5 H1=>
  stC H1 B5 0 [.int .i64 x4,.int .i64 x5,.int .i64 x6] fun H2=>
  Q57.call a x2 c E H2 fun H3=>
  nn a fun B6 o5=>
  ldS (H3.get B6 (o5+3)) fun x7p x7n x7c=>
  ix x7p x7n c 1 fun B7 o6=>
  stC H3 B7 o6 [.int .i64 d] fun H4=>
  ldI .i64 (H4.get B5 0) fun x8=>
  bcase (decide ((x8:Int)<0)) (
  K H4)
  (nn a fun B8 o7=>
  ldS (H4.get B8 (o7+5)) fun x9p x9n x9c=>
  ldI .i64 (H4.get B5 2) fun x10=>
  ix x9p x9n x10 1 fun B9 o8=>
  ldI .i64 (H4.get B9 o8) fun x11=>
  nn a fun B10 o9=>
  ldS (H4.get B10 (o9+4)) fun x12p x12n x12c=>
  ix x12p x12n x11 9 fun B11 o10=>
  ldI .i64 (H4.get B11 (o10+5)) fun x13=>
  ldI .i64 (H4.get B11 (o10+6)) fun x14=>
  ldI .i64 (H4.get B11 (o10+7)) fun x15=>
  nw H4 ⟨[.int .i64 0,.int .i64 0,.int .i64 0],115⟩ fun B12 H5=>
  stC H5 B12 0 [.int .i64 x13,.int .i64 x14,.int .i64 x15] fun H6=>
  ldI .i64 (H6.get B12 1) fun x16=>
  Q57.call a x11 x16 E H6 fun H7=>
  nn a fun B13 o11=>
  ldS (H7.get B13 (o11+3)) fun x17p x17n x17c=>
  ldI .i64 (H7.get B12 1) fun x18=>
  ldI .i64 (H7.get B12 0) fun x19=>
  ix x17p x17n x18 1 fun B14 o12=>
  stC H7 B14 o12 [.int .i64 x19] fun H8=>
  ldI .i64 (H8.get B12 2) fun x20=>
  ldI .i64 (H8.get B12 0) fun x21=>
  X1 (f1 a x20 x21) H8)
theorem b1_eq (h:b1_t a c d X1 E H K):b1 a c d X1 E H K:=by
  exact nodeR_imp2 (fun _=>b1_t a c d X1 E H K) nok rfl (fun G=>by kernel_rfl) h
end
end Q53
namespace Q54
abbrev KT:=Hp→Prop
abbrev S1 (α:Type):=OA→Int→Nat→Int→Int→Int→OA→Nat→Nat→Int→Int→Hp→α
abbrev S2 (α:Type):=OA→Nat→Int→Int→Bool→Nat→Int→Int→Hp→α
section
variable (a:OA)(c:Int)(d:Nat)(e g i:Int)(k:OA)(t:Bool)(n v o:Nat)(w p y q:Int)(X1:FP)(E:VP)(H:Hp)(K:KT)
noncomputable def A:An:={ live:=[(0,[0,1]),(1,[0,1,4]),(2,[0,1,4,5,6,7]),(3,[0,1,4,5,6,7,37,38,39]),(4,[0,1,4,5,6,7,37,38,39]),(5,[0,1,4,5,6,7,9,37,38,39]),(6,[0,1,4,5,6,7,9,37,38,39]),(7,[0,1,4,5,6,7,37,38,39]),(8,[0,1,4,5,6,7]),(9,[0,4,5,6,7]),(10,[0,4,5,6,7,10]),(11,[0,4,5,6,7,10,11,12]),(12,[0,4,6,7,10,11,12,13]),(13,[0,4,6,7,10,11,12,13]),(14,[0,4,6,7,10,11,12,13]),(15,[0,4,6,7,10,11,12,13]),(16,[0,4,6,7,10,11,12,13,14]),(17,[0,4,6,7,10,11,12,13]),(18,[0,4,6,7,10,11,12,13]),(19,[0,4,6,7,10,11,12,13]),(20,[0,4,6,7,10,11,12,13])],ord:=[(1,[0,1,2,3,4,6,7,8,9,11,12,13,5,10,14,15,16]),(12,[0,1,2,3,4,5,6,7,8])],stb:=[(1,[(5,[9,12]),(10,[12])])],pre:=[(1,[[],[],[],[2],[2,3],[0,1,2,3,4],[],[],[],[8],[0,1,2,3,4,5,6,7,8,9],[],[11],[11,12],[0,1,2,3,4,5,6,7,8,9,10],[0,1,2,3,4,5,6,7,8,9,10,14],[0,1,2,3,4,5,6,7,8,9,10,11,12,13,14,15]]),(12,[[],[],[1],[],[1,2,3],[1,2,3,4],[],[],[0,1,2,3,4,5,6,7]])] }
noncomputable def code:Code:=bodyOf Go.Proofs.Try.f101
def rq:Ex→FP:=retQ T0 [] [] (fun r H=>ldR (.tup []) r fun u=>K H) E
noncomputable def f1:Fr:=[(0,.pointer a),(1,.int .i64 c),(4,.pointer (some ⟨d,0,none⟩)),(5,.int .i64 e),(6,.int .i64 g),(7,.int .i64 i),(37,.slice k n o),(38,.int .i64 p),(39,.int .i64 q)]
noncomputable def f2:Fr:=[(0,.pointer a),(4,.pointer (some ⟨d,0,none⟩)),(6,.int .i64 g),(7,.int .i64 i),(10,.bool t),(11,.pointer (some ⟨v,0,none⟩)),(12,.int .i64 w),(13,.int .i64 y)]
def run:Prop:=nodeM P0 T0 A code [] [] (rq E K) (argF 0 [.pointer a,.int .i64 c]) H
def j1:Prop:=nodeM P0 T0 A code [1,1,1] [] (rq E K) [(0,.pointer a),(1,.int .i64 c),(4,.pointer (some ⟨d,0,none⟩)),(5,.int .i64 e),(6,.int .i64 g),(7,.int .i64 i)] H
def j2:Prop:=nodeM P0 T0 A code [1,1,1,1,1,1,1,0,0,0,1,1,1] [X1] (rq E K) (f2 a d g i t v w y) H
def l1:Prop:=nodeM P0 T0 A code [1,1,0,1,0] [] (rq E K) (f1 a c d e g i k n o p q) H
def b1:Prop:=nodeM P0 T0 A code [1,1,0,1,0,0] [X1] (rq E K) (f1 a c d e g i k n o p q) H
def l2:Prop:=nodeM P0 T0 A code [1,1,1,1,1,1,1,0] [] (rq E K) (f2 a d g i t v w y) H
def b2:Prop:=nodeM P0 T0 A code [1,1,1,1,1,1,1,0,0] [X1] (rq E K) (f2 a d g i t v w y) H
variable {a c d e g i k t n v o w p y q X1 E H K}
theorem ok:okCode A 112 code=true:=by kernel_rfl
theorem of (h:run a c E H K):call a c E H K:=
  callW_of T0_ok P0_mixed (A:=A) (fn:=Go.Proofs.Try.f101) Go.Proofs.Try.func101 rfl ok rfl h
theorem l1_rule (I:S1 Prop) (μ:S1 Nat)
 (h:∀a c d e g i k n o p q H,I a c d e g i k n o p q H→∀X:FP,(∀a' c' d' e' g' i' k' n' o' p' q' H',I a' c' d' e' g' i' k' n' o' p' q' H'→μ a' c' d' e' g' i' k' n' o' p' q' H'<μ a c d e g i k n o p q H→X (f1 a' c' d' e' g' i' k' n' o' p' q') H')→b1 a c d e g i k n o p q X E H K) (hI:I a c d e g i k n o p q H):l1 a c d e g i k n o p q E H K:=
 loop_rule2 (fun r m H=>∃a c d e g i k n o p q,r=f1 a c d e g i k n o p q∧m=μ a c d e g i k n o p q H∧I a c d e g i k n o p q H) (by rintro _ _ _ ⟨a,c,d,e,g,i,k,n,o,p,q,rfl,rfl,hI⟩ X hX; exact h _ _ _ _ _ _ _ _ _ _ _ _ hI X fun a' c' d' e' g' i' k' n' o' p' q' H' hI hl=>hX _ _ _ ⟨a',c',d',e',g',i',k',n',o',p',q',rfl,rfl,hI⟩ hl) rfl ⟨_,_,_,_,_,_,_,_,_,_,_,rfl,rfl,hI⟩
theorem l2_rule (I:S2 Prop) (μ:S2 Nat)
 (h:∀a d g i t v w y H,I a d g i t v w y H→∀X:FP,(∀a' d' g' i' t' v' w' y' H',I a' d' g' i' t' v' w' y' H'→μ a' d' g' i' t' v' w' y' H'<μ a d g i t v w y H→X (f2 a' d' g' i' t' v' w' y') H')→b2 a d g i t v w y X E H K) (hI:I a d g i t v w y H):l2 a d g i t v w y E H K:=
 loop_rule2 (fun r m H=>∃a d g i t v w y,r=f2 a d g i t v w y∧m=μ a d g i t v w y H∧I a d g i t v w y H) (by rintro _ _ _ ⟨a,d,g,i,t,v,w,y,rfl,rfl,hI⟩ X hX; exact h _ _ _ _ _ _ _ _ _ hI X fun a' d' g' i' t' v' w' y' H' hI hl=>hX _ _ _ ⟨a',d',g',i',t',v',w',y',rfl,rfl,hI⟩ hl) rfl ⟨_,_,_,_,_,_,_,_,rfl,rfl,hI⟩
theorem nok:nodesOk code [[0,1,0,1,1],[1,1,1],[0,1,1,1,1,1,1,1],[1,1,1,0,0,0,1,1,1,1,1,1,1]]=true:=by kernel_rfl
def run_t (l1:S1 Prop)(a:OA)(c:Int)(E:VP)(H:Hp)(K:KT):Prop:=
  nn a fun B1 o1=>
  ldS (H.get B1 (o1+4)) fun x1p x1n x1c=>
  ix x1p x1n c 9 fun B2 o2=>
  ldS (H.get B2 o2) fun x2p x2n x2c=>
  ldS (H.get B2 (o2+1)) fun x3p x3n x3c=>
  ldI .i64 (H.get B2 (o2+2)) fun x4=>
  ldI .i64 (H.get B2 (o2+3)) fun x5=>
  ldI .i64 (H.get B2 (o2+4)) fun x6=>
  ldI .i64 (H.get B2 (o2+5)) fun x7=>
  ldI .i64 (H.get B2 (o2+6)) fun x8=>
  ldI .i64 (H.get B2 (o2+7)) fun x9=>
  ldI .i64 (H.get B2 (o2+8)) fun x10=>
  nw H ⟨[.slice none 0 0,.slice none 0 0,.int .i64 0,.int .i64 0,.int .i64 0,.int .i64 0,.int .i64 0,.int .i64 0,.int .i64 0],117⟩ fun B3 H1=>
  stC H1 B3 0 [.slice x2p x2n x2c,.slice x3p x3n x3c,.int .i64 x4,.int .i64 x5,.int .i64 x6,.int .i64 x7,.int .i64 x8,.int .i64 x9,.int .i64 x10] fun H2=>
  ldI .i64 (H2.get B3 6) fun x11=>
  ldI .i64 (H2.get B3 2) fun x12=>
  ldS (H2.get B3 0) fun x13p x13n x13c=>
  Q58.call a c x11 E H2 fun r1 H3=>
  (ldI .i64 (H3.get B3 2) fun x17=>
  Value.int .i64 x17=Value.int .i64 x12)∧
  (ldS (H3.get B3 0) fun x16p x16n x16c=>
  Value.slice x16p x16n x16c=Value.slice x13p x13n x13c)∧
  Q58.call a c x12 E H3 fun r2 H4=>
  (ldS (H4.get B3 0) fun x15p x15n x15c=>
  Value.slice x15p x15n x15c=Value.slice x13p x13n x13c)∧
  ldS (H4.get B3 0) fun x14p x14n x14c=>
  l1 a c B3 r1 r2 (x13n:Int) x14p x14n x14c (x14n:Int) 0 H4
theorem run_eq (h:run_t (fun a c d e g i k n o p q H=>l1 a c d e g i k n o p q E H K) a c E H K):run a c E H K:=by
  exact nodeR_imp2 (fun G=>run_t (fun a c d e g i k n o p q H=>G [0,1,0,1,1] (f1 a c d e g i k n o p q) H) a c E H K) nok rfl (fun G=>by kernel_rfl) (Eq.mp (by kernel_rfl) h)
def j1_t (l2:S2 Prop)(a:OA)(c:Int)(d:Nat)(e g i:Int)(E:VP)(H:Hp)(K:KT):Prop:=
  nn a fun B1 o1=>
  ldS (H.get B1 (o1+4)) fun x1p x1n x1c=>
  ix x1p x1n c 9 fun B2 o2=>
  stC H B2 (o2+8) [.int .i64 (-2)] fun H1=>
  i≠(0:Int)∧
  2≠(0:Int)∧
  ldI .i64 (H1.get d 5) fun x2=>
  ldI .i64 (H1.get d 6) fun x3=>
  ldI .i64 (H1.get d 7) fun x4=>
  nw H1 ⟨[.int .i64 0,.int .i64 0,.int .i64 0],115⟩ fun B3 H2=>
  stC H2 B3 0 [.int .i64 x2,.int .i64 x3,.int .i64 x4] fun H3=>
  l2 a d g i (decide (((Int.tmod (Int.tmod (IntKind.wrap .i64 ((IntKind.wrap .i64 (g-e))+i)) i) 2):Int)=0)) B3 2 e H3
theorem j1_eq (h:j1_t (fun a d g i t v w y H=>l2 a d g i t v w y E H K) a c d e g i E H K):j1 a c d e g i E H K:=by
  exact nodeR_imp2 (fun G=>j1_t (fun a d g i t v w y H=>G [0,1,1,1,1,1,1,1] (f2 a d g i t v w y) H) a c d e g i E H K) nok rfl (fun G=>by kernel_rfl) (Eq.mp (by kernel_rfl) h)
def j2_t (a:OA)(d:Nat)(g i:Int)(t:Bool)(v:Nat)(w y:Int)(X1:FP)(E:VP)(H:Hp)(K:KT):Prop:=
  X1 (f2 a d g i t v (IntKind.wrap .i64 (3-w)) y) H
theorem j2_eq (h:j2_t a d g i t v w y X1 E H K):j2 a d g i t v w y X1 E H K:=by
  exact nodeR_imp2 (fun _=>j2_t a d g i t v w y X1 E H K) nok rfl (fun G=>by kernel_rfl) h
def b1_t (j1:OA→Int→Nat→Int→Int→Int→Hp→Prop)(a:OA)(c:Int)(d:Nat)(e g i:Int)(k:OA)(n o:Nat)(p q:Int)(X1:FP)(E:VP)(H:Hp)(K:KT):Prop:=
  bcase (decide ((q:Int)<p)) (
  ix k n q 1 fun B1 o1=>
  ldI .i64 (H.get B1 o1) fun x1=>
  Q56.call a x1 E H fun H1=>
  Q44.call a x1 0 (-1) 0 0 E H1 fun H2=>
  X1 (f1 a c d e g i k n o p (IntKind.wrap .i64 (q+1))) H2)
  (j1 a c d e g i H)
theorem b1_eq (h:b1_t (fun a c d e g i H=>j1 a c d e g i E H K) a c d e g i k n o p q X1 E H K):b1 a c d e g i k n o p q X1 E H K:=by
  exact nodeR_imp2 (fun G=>b1_t (fun a c d e g i H=>G [1,1,1] [(0,.pointer a),(1,.int .i64 c),(4,.pointer (some ⟨d,0,none⟩)),(5,.int .i64 e),(6,.int .i64 g),(7,.int .i64 i)] H) a c d e g i k n o p q X1 E H K) nok rfl (fun G=>by kernel_rfl) (Eq.mp (by kernel_rfl) h)
def b2_t (j2:OA→Nat→Int→Int→Bool→Nat→Int→Int→Hp→Prop)(a:OA)(d:Nat)(g i:Int)(t:Bool)(v:Nat)(w y:Int)(X1:FP)(E:VP)(H:Hp)(K:KT):Prop:=
  ldS (H.get d 0) fun x1p x1n x1c=>
  ix x1p x1n y 1 fun B1 o1=>
  ldI .i64 (H.get B1 o1) fun x2=>
  ldI .i64 (H.get v 0) fun x3=>
  ldI .i64 (H.get v 1) fun x4=>
  ldI .i64 (H.get v 2) fun x5=>
  Q44.call a x2 w x3 x4 x5 E H fun H1=>
  bcase (decide ((y:Int)=g)) (
  K H1)
  (bcase (t) (
  ldS (H1.get d 1) fun x6p x6n x6c=>
  ix x6p x6n y 3 fun B2 o2=>
  ldI .i64 (H1.get B2 o2) fun x7=>
  ldI .i64 (H1.get B2 (o2+1)) fun x8=>
  ldI .i64 (H1.get B2 (o2+2)) fun x9=>
  nw H1 ⟨[.int .i64 0,.int .i64 0,.int .i64 0],115⟩ fun B3 H2=>
  stC H2 B3 0 [.int .i64 x7,.int .i64 x8,.int .i64 x9] fun H3=>
  ldI .i64 (H3.get B3 0) fun x10=>
  ldI .i64 (H3.get B3 2) fun x11=>
  ldI .i64 (H3.get B3 1) fun x12=>
  stC H3 v 0 [.int .i64 x10,.int .i64 x11,.int .i64 x12] fun H4=>
  i≠(0:Int)∧
  j2 a d g i t v w (Int.tmod (IntKind.wrap .i64 (y+1)) i) H4)
  (i≠(0:Int)∧
  ldS (H1.get d 1) fun x13p x13n x13c=>
  ix x13p x13n (Int.tmod (IntKind.wrap .i64 ((IntKind.wrap .i64 (y+i))-1)) i) 3 fun B4 o3=>
  ldI .i64 (H1.get B4 o3) fun x14=>
  ldI .i64 (H1.get B4 (o3+1)) fun x15=>
  ldI .i64 (H1.get B4 (o3+2)) fun x16=>
  stC H1 v 0 [.int .i64 x14,.int .i64 x15,.int .i64 x16] fun H5=>
  j2 a d g i t v w (Int.tmod (IntKind.wrap .i64 ((IntKind.wrap .i64 (y+i))-1)) i) H5))
theorem b2_eq (h:b2_t (fun a d g i t v w y H=>j2 a d g i t v w y X1 E H K) a d g i t v w y X1 E H K):b2 a d g i t v w y X1 E H K:=by
  exact nodeR_imp2 (fun G=>b2_t (fun a d g i t v w y H=>G [1,1,1,0,0,0,1,1,1,1,1,1,1] (f2 a d g i t v w y) H) a d g i t v w y X1 E H K) nok rfl (fun G=>by kernel_rfl) (Eq.mp (by kernel_rfl) h)
end
end Q54
namespace Q55
abbrev KT:=Int→Int→Int→Hp→Prop
section
variable (a:OA)(c:Int)(E:VP)(H:Hp)(K:KT)
noncomputable def A:An:={ live:=[(0,[0,1]),(1,[0,1,4]),(2,[0,4,5]),(3,[0,4,5,6])],ord:=[(3,[0,1,2,3,4,5,6,7,8,9,10,11,12,13,14,15,16,17,18,19,20,21,22])],stb:=[],pre:=[(3,[[],[],[1],[1,2],[1,2,3],[],[1,2,3,4,5],[1,2,3,4,5,6],[1,2,3,4,5,6,7],[],[9],[9,10],[9,10,11],[],[9,10,11,12,13],[9,10,11,12,13,14],[9,10,11,12,13,14,15],[1,2,3,4,5,6,7,8,9,10,11,12,13,14,15,16],[],[1,2,3,4,5,6,7,8,9,10,11,12,13,14,15,16,17,18],[],[0,1,2,3,4,5,6,7,8,9,10,11,12,13,14,15,16,17,18,19,20],[0,1,2,3,4,5,6,7,8,9,10,11,12,13,14,15,16,17,18,19,20,21]])] }
noncomputable def code:Code:=bodyOf Go.Proofs.Try.f108
def rq:Ex→FP:=retQ T0 [.cell 4 115] [115] (fun r H=>ldR (.one true [.i .i64,.i .i64,.i .i64]) r fun u=>K (asI (cellV u 0)) (asI (cellV u 1)) (asI (cellV u 2)) H) E
def run:Prop:=nodeM P0 T0 A code [] [] (rq E K) (argF 0 [.pointer a,.int .i64 c]) H
variable {a c E H K}
theorem ok:okCode A 44 code=true:=by kernel_rfl
theorem of (h:run a c E H K):call a c E H K:=
  callW_of T0_ok P0_mixed (A:=A) (fn:=Go.Proofs.Try.f108) Go.Proofs.Try.func108 rfl ok rfl h
theorem nok:nodesOk code []=true:=by kernel_rfl
def run_t (a:OA)(c:Int)(E:VP)(H:Hp)(K:KT):Prop:=
  nw H ⟨[.int .i64 0,.int .i64 0,.int .i64 0],115⟩ fun B1 H1=>
  nn a fun B2 o1=>
  ldS (H1.get B2 (o1+4)) fun x1p x1n x1c=>
  ix x1p x1n c 9 fun B3 o2=>
  ldI .i64 (H1.get B3 (o2+2)) fun x2=>
  nn a fun B4 o3=>
  ldS (H1.get B4 (o3+3)) fun x3p x3n x3c=>
  ix x3p x3n x2 1 fun B5 o4=>
  ldI .i64 (H1.get B5 o4) fun x4=>
  nn a fun B6 o5=>
  ldS (H1.get B6 (o5+1)) fun x5p x5n x5c=>
  ix x5p x5n x4 3 fun B7 o6=>
  ldI .i64 (H1.get B7 o6) fun x6=>
  nn a fun B8 o7=>
  ldS (H1.get B8 (o7+1)) fun x7p x7n x7c=>
  ix x7p x7n x4 3 fun B9 o8=>
  ldI .i64 (H1.get B9 (o8+1)) fun x8=>
  stC H1 B1 0 [.int .i64 x4,.int .i64 (IntKind.wrap .i64 ((IntKind.wrap .i64 (x6+x8))-x2)),.int .i64 x2] fun H2=>
  ldI .i64 (H2.get B1 0) fun x9=>
  ldI .i64 (H2.get B1 1) fun x10=>
  ldI .i64 (H2.get B1 2) fun x11=>
  K x9 x10 x11 H2
theorem run_eq (h:run_t a c E H K):run a c E H K:=by
  exact nodeR_imp2 (fun _=>run_t a c E H K) nok rfl (fun G=>by kernel_rfl) h
end
end Q55
namespace Q56
abbrev KT:=Hp→Prop
abbrev S1 (α:Type):=OA→Int→OA→Nat→Nat→Int→Int→Hp→α
section
variable (a:OA)(c:Int)(d:OA)(e g:Nat)(i k:Int)(X1:FP)(E:VP)(H:Hp)(K:KT)
noncomputable def A:An:={ live:=[(0,[0,1]),(1,[0,1]),(2,[0,1,15,16,17]),(3,[0,1,15,16,17]),(4,[0,1,5,15,16,17]),(5,[0,1,15,16,17])],ord:=[],stb:=[],pre:=[] }
noncomputable def code:Code:=bodyOf Go.Proofs.Try.f109
def rq:Ex→FP:=retQ T0 [] [] (fun r H=>ldR (.tup []) r fun u=>K H) E
noncomputable def f1:Fr:=[(0,.pointer a),(1,.int .i64 c),(15,.slice d e g),(16,.int .i64 i),(17,.int .i64 k)]
def run:Prop:=nodeM P0 T0 A code [] [] (rq E K) (argF 0 [.pointer a,.int .i64 c]) H
def l1:Prop:=nodeM P0 T0 A code [1,1,0] [] (rq E K) (f1 a c d e g i k) H
def b1:Prop:=nodeM P0 T0 A code [1,1,0,0] [X1] (rq E K) (f1 a c d e g i k) H
variable {a c d e g i k X1 E H K}
theorem ok:okCode A 29 code=true:=by kernel_rfl
theorem of (h:run a c E H K):call a c E H K:=
  callW_of T0_ok P0_mixed (A:=A) (fn:=Go.Proofs.Try.f109) Go.Proofs.Try.func109 rfl ok rfl h
theorem l1_rule (I:S1 Prop) (μ:S1 Nat)
 (h:∀a c d e g i k H,I a c d e g i k H→∀X:FP,(∀a' c' d' e' g' i' k' H',I a' c' d' e' g' i' k' H'→μ a' c' d' e' g' i' k' H'<μ a c d e g i k H→X (f1 a' c' d' e' g' i' k') H')→b1 a c d e g i k X E H K) (hI:I a c d e g i k H):l1 a c d e g i k E H K:=
 loop_rule2 (fun r m H=>∃a c d e g i k,r=f1 a c d e g i k∧m=μ a c d e g i k H∧I a c d e g i k H) (by rintro _ _ _ ⟨a,c,d,e,g,i,k,rfl,rfl,hI⟩ X hX; exact h _ _ _ _ _ _ _ _ hI X fun a' c' d' e' g' i' k' H' hI hl=>hX _ _ _ ⟨a',c',d',e',g',i',k',rfl,rfl,hI⟩ hl) rfl ⟨_,_,_,_,_,_,_,rfl,rfl,hI⟩
theorem nok:nodesOk code [[0,1,1]]=true:=by kernel_rfl
def run_t (l1:S1 Prop)(a:OA)(c:Int)(E:VP)(H:Hp)(K:KT):Prop:=
  nn a fun B1 o1=>
  ldS (H.get B1 (o1+4)) fun x1p x1n x1c=>
  ix x1p x1n c 9 fun B2 o2=>
  stC H B2 (o2+8) [.int .i64 (-1)] fun H1=>
  Q37.call a c E H1 fun r1p r1n r1c H2=>
  l1 a c r1p r1n r1c (r1n:Int) 0 H2
theorem run_eq (h:run_t (fun a c d e g i k H=>l1 a c d e g i k E H K) a c E H K):run a c E H K:=by
  exact nodeR_imp2 (fun G=>run_t (fun a c d e g i k H=>G [0,1,1] (f1 a c d e g i k) H) a c E H K) nok rfl (fun G=>by kernel_rfl) (Eq.mp (by kernel_rfl) h)
def b1_t (a:OA)(c:Int)(d:OA)(e g:Nat)(i k:Int)(X1:FP)(E:VP)(H:Hp)(K:KT):Prop:=
  bcase (decide ((k:Int)<i)) (
  ix d e k 1 fun B1 o1=>
  ldI .i64 (H.get B1 o1) fun x1=>
  nn a fun B2 o2=>
  ldS (H.get B2 (o2+5)) fun x2p x2n x2c=>
  ix x2p x2n x1 1 fun B3 o3=>
  stC H B3 o3 [.int .i64 c] fun H1=>
  X1 (f1 a c d e g i (IntKind.wrap .i64 (k+1))) H1)
  (K H)
theorem b1_eq (h:b1_t a c d e g i k X1 E H K):b1 a c d e g i k X1 E H K:=by
  exact nodeR_imp2 (fun _=>b1_t a c d e g i k X1 E H K) nok rfl (fun G=>by kernel_rfl) h
end
end Q56
namespace Q57
abbrev KT:=Hp→Prop
abbrev S1 (α:Type):=OA→OA→Int→Int→Int→Hp→α
section
variable (a:OA)(c:Int)(e:OA)(d g i k:Int)(X1:FP)(E:VP)(H:Hp)(K:KT)
noncomputable def A:An:={ live:=[(0,[0,1,2]),(1,[0,1,2,6]),(2,[0,1,2,6]),(3,[0,1,2,6]),(4,[0,2,6,7,8]),(5,[0,6,7,8]),(6,[0,6,7,8,9]),(7,[0,6,7,8,9]),(8,[0,6,7,8,9]),(9,[0,6,7,8,9,10]),(10,[0,6,7,8,9,10]),(11,[0,6,7,8,9,10])],ord:=[(3,[0,1,2,4,5,6,7,8,3,9,10]),(8,[0,1,2,3,4,5,6,7,8,9,10,11,12]),(9,[0,1,2,3,4,5,6,7,8,9,10,11,12,13,14]),(10,[0,1,2,3,4,5,6,7,8,9,10,11,12,13,14,15]),(11,[0,1,2,3,4,5,6,7,8,9,10,11,12,13,14,15,16,17,18,19])],stb:=[(3,[(3,[7])]),(11,[(17,[11,15])])],pre:=[(3,[[],[],[],[0,1,2],[],[4],[4,5],[4,5,6],[4,5,6,7],[0,1,2,3],[0,1,2,3,4,5,6,7,8,9]]),(8,[[],[0],[0,1],[0,1,2],[],[],[4,5],[],[4,5,6,7],[0,1,2,3,4,5,6,7,8],[0,1,2,3,4,5,6,7,8,9],[],[0,1,2,3,4,5,6,7,8,9,10,11]]),(9,[[],[],[1],[1,2],[1,2,3],[],[],[5,6],[],[5,6,7,8],[1,2,3,4,5,6,7,8,9],[1,2,3,4,5,6,7,8,9,10],[],[12],[0,1,2,3,4,5,6,7,8,9,10,11,12,13]]),(10,[[],[],[1],[1,2],[1,2,3],[],[],[5,6],[5,6,7],[],[5,6,7,8,9],[1,2,3,4,5,6,7,8,9,10],[1,2,3,4,5,6,7,8,9,10,11],[],[13],[0,1,2,3,4,5,6,7,8,9,10,11,12,13,14]]),(11,[[],[0],[0,1],[0,1,2],[],[4],[],[6],[6,7],[6,7,8],[],[10],[],[12],[],[14],[0,1,2,3,4,5,6,7,8,9,12,13],[0,1,2,3,4,5,6,7,8,9,12,13,16],[0,1,2,3,4,5,6,7,8,9,10,11,12,13,14,15,16,17],[0,1,2,3,4,5,6,7,8,9,10,11,12,13,14,15,16,17,18]])] }
noncomputable def code:Code:=bodyOf Go.Proofs.Try.f110
def rq:Ex→FP:=retQ T0 [] [] (fun r H=>ldR (.tup []) r fun u=>K H) E
noncomputable def f1:Fr:=[(0,.pointer a),(6,.pointer e),(7,.int .i64 g),(8,.int .i64 i),(9,.int .i64 k)]
def run:Prop:=nodeM P0 T0 A code [] [] (rq E K) (argF 0 [.pointer a,.int .i64 c,.int .i64 d]) H
def l1:Prop:=nodeM P0 T0 A code [1,1,1,1,1,1,0] [] (rq E K) (f1 a e g i k) H
def b1:Prop:=nodeM P0 T0 A code [1,1,1,1,1,1,0,0] [X1] (rq E K) (f1 a e g i k) H
variable {a c e d g i k X1 E H K}
theorem ok:okCode A 111 code=true:=by kernel_rfl
theorem of (h:run a c d E H K):call a c d E H K:=
  callW_of T0_ok P0_mixed (A:=A) (fn:=Go.Proofs.Try.f110) Go.Proofs.Try.func110 rfl ok rfl h
theorem l1_rule (I:S1 Prop) (μ:S1 Nat)
 (h:∀a e g i k H,I a e g i k H→∀X:FP,(∀a' e' g' i' k' H',I a' e' g' i' k' H'→μ a' e' g' i' k' H'<μ a e g i k H→X (f1 a' e' g' i' k') H')→b1 a e g i k X E H K) (hI:I a e g i k H):l1 a e g i k E H K:=
 loop_rule2 (fun r m H=>∃a e g i k,r=f1 a e g i k∧m=μ a e g i k H∧I a e g i k H) (by rintro _ _ _ ⟨a,e,g,i,k,rfl,rfl,hI⟩ X hX; exact h _ _ _ _ _ _ hI X fun a' e' g' i' k' H' hI hl=>hX _ _ _ ⟨a',e',g',i',k',rfl,rfl,hI⟩ hl) rfl ⟨_,_,_,_,_,rfl,rfl,hI⟩
theorem nok:nodesOk code [[0,1,1,1,1,1,1]]=true:=by kernel_rfl
def run_t (l1:S1 Prop)(a:OA)(c d:Int)(E:VP)(H:Hp)(K:KT):Prop:=
  nn a fun B1 o1=>
  ldS (H.get B1 (o1+4)) fun x1p x1n x1c=>
  ix x1p x1n c 9 fun B2 o2=>
  stC H B2 (o2+2) [.int .i64 d] fun H1=>
  nn a fun B3 o3=>
  ldI .i64 (H1.get B3 o3) fun x2=>
  bcase (decide ((c:Int)<x2)) (
  K H1)
  (ldS (H1.get B2 o2) fun x3p x3n x3c=>
  Q58.call a c d E H1 fun r1 H2=>
  (ldS (H2.get B2 o2) fun x6p x6n x6c=>
  Value.slice x6p x6n x6c=Value.slice x3p x3n x3c)∧
  ldS (H2.get B2 o2) fun x4p x4n x4c=>
  ix x4p x4n r1 1 fun B4 o4=>
  ldI .i64 (H2.get B4 o4) fun x5=>
  call a x5 d E H2 fun H3=>
  l1 a (some ⟨B2,o2,none⟩) r1 (x3n:Int) 1 H3)
theorem run_eq (h:run_t (fun a e g i k H=>l1 a e g i k E H K) a c d E H K):run a c d E H K:=by
  exact nodeR_imp2 (fun G=>run_t (fun a e g i k H=>G [0,1,1,1,1,1,1] (f1 a e g i k) H) a c d E H K) nok rfl (fun G=>by kernel_rfl) (Eq.mp (by kernel_rfl) h)
def b1_t (a e:OA)(g i k:Int)(X1:FP)(E:VP)(H:Hp)(K:KT):Prop:=
  bcase (decide ((k:Int)<i)) (
  nn e fun B1 o1=>
  ldS (H.get B1 (o1+1)) fun x1p x1n x1c=>
  i≠(0:Int)∧
  ix x1p x1n (Int.tmod (IntKind.wrap .i64 (g+k)) i) 3 fun B2 o2=>
  ldI .i64 (H.get B2 o2) fun x2=>
  ldI .i64 (H.get B2 (o2+1)) fun x3=>
  ldI .i64 (H.get B2 (o2+2)) fun x4=>
  nw H ⟨[.int .i64 0,.int .i64 0,.int .i64 0],115⟩ fun B3 H1=>
  stC H1 B3 0 [.int .i64 x2,.int .i64 x3,.int .i64 x4] fun H2=>
  nn e fun B4 o3=>
  ldS (H2.get B4 o3) fun x5p x5n x5c=>
  i≠(0:Int)∧
  ix x5p x5n (Int.tmod (IntKind.wrap .i64 (g+k)) i) 1 fun B5 o4=>
  ldI .i64 (H2.get B5 o4) fun x6=>
  ldI .i64 (H2.get B3 1) fun x7=>
  call a x6 x7 E H2 fun H3=>
  nn e fun B6 o5=>
  ldS (H3.get B6 o5) fun x8p x8n x8c=>
  i≠(0:Int)∧
  ix x8p x8n (Int.tmod (IntKind.wrap .i64 ((IntKind.wrap .i64 (g+k))+1)) i) 1 fun B7 o6=>
  ldI .i64 (H3.get B7 o6) fun x9=>
  ldI .i64 (H3.get B3 2) fun x10=>
  call a x9 x10 E H3 fun H4=>
  nn a fun B8 o7=>
  ldS (H4.get B8 (o7+3)) fun x11p x11n x11c=>
  ldI .i64 (H4.get B3 1) fun x12=>
  nn a fun B9 o8=>
  ldS (H4.get B9 (o8+3)) fun x13p x13n x13c=>
  ldI .i64 (H4.get B3 2) fun x14=>
  ldI .i64 (H4.get B3 0) fun x15=>
  ldI .i64 (H4.get B3 0) fun x16=>
  ix x11p x11n x12 1 fun B10 o9=>
  stC H4 B10 o9 [.int .i64 x15] fun H5=>
  (ldI .i64 (H5.get B3 2) fun x18=>
  Value.int .i64 x18=Value.int .i64 x14)∧
  (ldI .i64 (H5.get B3 0) fun x17=>
  Value.int .i64 x17=Value.int .i64 x16)∧
  ix x13p x13n x14 1 fun B11 o10=>
  stC H5 B11 o10 [.int .i64 x16] fun H6=>
  X1 (f1 a e g i (IntKind.wrap .i64 (k+2))) H6)
  (K H)
theorem b1_eq (h:b1_t a e g i k X1 E H K):b1 a e g i k X1 E H K:=by
  exact nodeR_imp2 (fun _=>b1_t a e g i k X1 E H K) nok rfl (fun G=>by kernel_rfl) h
end
end Q57
namespace Q58
abbrev KT:=Int→Hp→Prop
abbrev S1 (α:Type):=OA→Int→Int→Hp→α
section
variable (a:OA)(c d:Int)(X1:FP)(E:VP)(H:Hp)(K:KT)
noncomputable def A:An:={ live:=[(0,[0,1,2]),(1,[0,1,2]),(2,[0,1,2]),(3,[0,1,2])],ord:=[],stb:=[],pre:=[] }
noncomputable def code:Code:=bodyOf Go.Proofs.Try.f111
def rq:Ex→FP:=retQ T0 [.tmp 6] [3] (fun r H=>ldR (.one false [.i .i64]) r fun u=>K (asI u) H) E
noncomputable def f1:Fr:=[(0,.pointer a),(1,.int .i64 c),(2,.int .i64 d)]
def run:Prop:=nodeM P0 T0 A code [] [] (rq E K) (argF 0 [.pointer a,.int .i64 c,.int .i64 d]) H
def j1:Prop:=nodeM P0 T0 A code [1,1] [] (rq E K) (f1 a c d) H
def l1:Prop:=nodeM P0 T0 A code [1,0,0] [] (rq E K) (f1 a c d) H
def b1:Prop:=nodeM P0 T0 A code [1,0,0,0] [X1] (rq E K) (f1 a c d) H
variable {a c d X1 E H K}
theorem ok:okCode A 35 code=true:=by kernel_rfl
theorem of (h:run a c d E H K):call a c d E H K:=
  callW_of T0_ok P0_mixed (A:=A) (fn:=Go.Proofs.Try.f111) Go.Proofs.Try.func111 rfl ok rfl h
theorem l1_rule (I:S1 Prop) (μ:S1 Nat)
 (h:∀a c d H,I a c d H→∀X:FP,(∀a' c' d' H',I a' c' d' H'→μ a' c' d' H'<μ a c d H→X (f1 a' c' d') H')→b1 a c d X E H K) (hI:I a c d H):l1 a c d E H K:=
 loop_rule2 (fun r m H=>∃a c d,r=f1 a c d∧m=μ a c d H∧I a c d H) (by rintro _ _ _ ⟨a,c,d,rfl,rfl,hI⟩ X hX; exact h _ _ _ _ hI X fun a' c' d' H' hI hl=>hX _ _ _ ⟨a',c',d',rfl,rfl,hI⟩ hl) rfl ⟨_,_,_,rfl,rfl,hI⟩
theorem nok:nodesOk code [[0,0,1],[1,1]]=true:=by kernel_rfl
def run_t (l1:S1 Prop)(a:OA)(c d:Int)(E:VP)(H:Hp)(K:KT):Prop:=
  l1 a c d H
theorem run_eq (h:run_t (fun a c d H=>l1 a c d E H K) a c d E H K):run a c d E H K:=by
  exact nodeR_imp2 (fun G=>run_t (fun a c d H=>G [0,0,1] (f1 a c d) H) a c d E H K) nok rfl (fun G=>by kernel_rfl) (Eq.mp (by kernel_rfl) h)
def j1_t (a:OA)(c d:Int)(E:VP)(H:Hp)(K:KT):Prop:=
  nn a fun B1 o1=>
  ldS (H.get B1 (o1+4)) fun x1p x1n x1c=>
  ix x1p x1n c 9 fun B2 o2=>
  ldS (H.get B2 o2) fun x2p x2n x2c=>
  Q59.call x2p x2n x2c d E H fun r1 H1=>
  K r1 H1
theorem j1_eq (h:j1_t a c d E H K):j1 a c d E H K:=by
  exact nodeR_imp2 (fun _=>j1_t a c d E H K) nok rfl (fun G=>by kernel_rfl) h
def b1_t (j1:OA→Int→Int→Hp→Prop)(a:OA)(c d:Int)(X1:FP)(E:VP)(H:Hp)(K:KT):Prop:=
  nn a fun B1 o1=>
  ldS (H.get B1 (o1+4)) fun x1p x1n x1c=>
  ix x1p x1n d 9 fun B2 o2=>
  ldI .i64 (H.get B2 (o2+8)) fun x2=>
  bcase (!decide ((x2:Int)=c)) (
  nn a fun B3 o3=>
  ldS (H.get B3 (o3+4)) fun x3p x3n x3c=>
  ix x3p x3n d 9 fun B4 o4=>
  ldI .i64 (H.get B4 (o4+8)) fun x4=>
  X1 (f1 a c x4) H)
  (j1 a c d H)
theorem b1_eq (h:b1_t (fun a c d H=>j1 a c d E H K) a c d X1 E H K):b1 a c d X1 E H K:=by
  exact nodeR_imp2 (fun G=>b1_t (fun a c d H=>G [1,1] (f1 a c d) H) a c d X1 E H K) nok rfl (fun G=>by kernel_rfl) (Eq.mp (by kernel_rfl) h)
end
end Q58
end Go.Mz
