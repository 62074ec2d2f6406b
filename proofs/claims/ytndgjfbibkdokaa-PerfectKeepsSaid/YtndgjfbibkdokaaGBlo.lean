/-
  The shallow texts of functions (Blo), each with a kernel-checked equation to the translated code. It proves nothing of the program by itself.
-/
import Derived.Test.YtndgjfbibkdokaaTab
set_option linter.unusedVariables false
set_option maxRecDepth 100000
namespace Go.Mz
namespace Q11
abbrev KT:=OA→Nat→Nat→OA→Nat→Nat→Int→Hp→Prop
abbrev S1 (α:Type):=Nat→OA→Nat→Nat→OA→Nat→Nat→Nat→Int→Int→Hp→α
abbrev S2 (α:Type):=Nat→OA→Nat→Nat→OA→Nat→Nat→Nat→Nat→Int→Int→Hp→α
abbrev S3 (α:Type):=Nat→OA→Nat→Nat→OA→Nat→Nat→Nat→Nat→Int→Int→Int→OA→Nat→Nat→Int→Int→Hp→α
abbrev S4 (α:Type):=OA→Nat→Nat→OA→Nat→Nat→Nat→Nat→Int→Int→Hp→α
section
variable (a:Int)(g:Nat)(c k:OA)(d n e o:Nat)(p:OA)(q t v:Nat)(w:Int)(z:Nat)(y ac ap aa aq ab:Int)(ad:OA)(ae ag:Nat)(ak an:Int)(X1 X2:FP)(E:VP)(H:Hp)(K:KT)
noncomputable def A:An:={ live:=[(0,[0]),(1,[1,2,3]),(2,[1,2,3,5]),(3,[5]),(4,[1,2,3]),(5,[1,2,3,6]),(6,[1,2,3,6,24,25]),(7,[1,2,3,6,24,25]),(8,[1,2,3,6,7,24,25]),(9,[1,2,3,6,7,24,25]),(10,[1,2,3,6,24,25]),(11,[1,2,3,6]),(12,[1,2,3,6,8]),(13,[1,2,3,6,8,46,47]),(14,[1,2,3,6,8,46,47]),(15,[1,2,3,6,8,9,46,47]),(16,[1,2,3,6,8,9,46,47]),(17,[1,2,3,6,8,9,46,47]),(18,[1,2,3,6,8,9,46,47,64,65,66]),(19,[1,2,3,6,8,9,46,47,64,65,66]),(20,[1,2,3,6,8,9,10,11,46,47,64,65,66]),(21,[1,2,3,6,8,9,46,47,64,65,66]),(22,[1,2,3,6,8,9,46,47]),(23,[1,2,3,6,8,9,46,47]),(24,[1,2,3,6,8,46,47]),(25,[1,2,3,6,8]),(26,[1,2,3,6,8]),(27,[2,3,6,8,111,112]),(28,[2,3,6,8,111,112]),(29,[2,3,6,8,12,111,112]),(30,[2,3,6,8,12,13,111,112]),(31,[2,3,6,8,12,111,112]),(32,[2,3,6,8,111,112]),(33,[2,3])],ord:=[(3,[0,1,2,3,4]),(9,[0,1,2,3,4]),(20,[0,1,2,3,4,5,6,7,8,9,10]),(30,[0,1,2,3,4,5,6,7,8,9,10,11,12,13,14,15])],stb:=[(9,[(3,[0])])],pre:=[(3,[[],[0],[],[2],[0,1,2,3]]),(9,[[],[],[],[1,2],[0,1,2,3]]),(20,[[],[],[],[],[2,3],[2,3,4],[2,3,4,5],[2,3,4,5,6],[2,3,4,5,6,7],[0,1,2,3,4,5,6,7,8],[0,1,2,3,4,5,6,7,8,9]]),(30,[[],[],[0,1],[0,1,2],[0,1,2,3],[0,1,2,3,4],[0,1,2,3,4,5],[0,1,2,3,4,5,6],[0,1,2,3,4,5,6,7],[0,1,2,3,4,5,6,7,8],[0,1,2,3,4,5],[0,1,2,3,4,5,6,7,8,9,10],[0,1,2,3,4,5,6,7,8,9,10,11],[0,1,2,3,4,5],[0,1,2,3,4,5,6,7,8,9,10,11,12,13],[0,1,2,3,4,5,6,7,8,9,10,11,12,13,14]])] }
noncomputable def code:Code:=bodyOf Go.Proofs.Try.f27
def rq:Ex→FP:=retQ T0 [.tmp 2,.tmp 3,.tmp 4] [26,26,31] (fun r H=>ldR (.tup [(false,[.sl]),(false,[.sl]),(false,[.i .i64])]) r fun u=>K (asS1 (tupV u 0)) (asS2 (tupV u 0)) (asS3 (tupV u 0)) (asS1 (tupV u 1)) (asS2 (tupV u 1)) (asS3 (tupV u 1)) (asI (tupV u 2)) H) E
noncomputable def f1:Fr:=[(1,.pointer (some ⟨g,0,none⟩)),(2,.slice k n o),(3,.slice p q t),(6,.pointer (some ⟨v,0,none⟩)),(24,.int .i64 w),(25,.int .i64 y)]
noncomputable def f2:Fr:=[(1,.pointer (some ⟨g,0,none⟩)),(2,.slice k n o),(3,.slice p q t),(6,.pointer (some ⟨v,0,none⟩)),(8,.pointer (some ⟨z,0,none⟩)),(46,.int .i64 aa),(47,.int .i64 ab)]
noncomputable def f3:Fr:=[(1,.pointer (some ⟨g,0,none⟩)),(2,.slice k n o),(3,.slice p q t),(6,.pointer (some ⟨v,0,none⟩)),(8,.pointer (some ⟨z,0,none⟩)),(9,.int .i64 ac),(46,.int .i64 aa),(47,.int .i64 ab),(64,.slice ad ae ag),(65,.int .i64 ak),(66,.int .i64 an)]
noncomputable def f4:Fr:=[(2,.slice k n o),(3,.slice p q t),(6,.pointer (some ⟨v,0,none⟩)),(8,.pointer (some ⟨z,0,none⟩)),(111,.int .i64 ap),(112,.int .i64 aq)]
def run:Prop:=nodeM P0 T0 A code [] [] (rq E K) (argF 0 [.agg ⟨[.int .i64 a,.slice c d e]⟩]) H
def j1:Prop:=nodeM P0 T0 A code [1,1,1,0,1,0,0,1,1,1] [X1] (rq E K) (f1 g k n o p q t v w y) H
def j2:Prop:=nodeM P0 T0 A code [1,1,1,1] [] (rq E K) [(1,.pointer (some ⟨g,0,none⟩)),(2,.slice k n o),(3,.slice p q t),(6,.pointer (some ⟨v,0,none⟩))] H
def j3:Prop:=nodeM P0 T0 A code [1,1,1,1,1,0,1,0,0,1,1,0,0,1,0,1,0,1,1,0,0,1,1,1] [X1,X2] (rq E K) (f3 g k n o p q t v z ac aa ab ad ae ag ak an) H
def j4:Prop:=nodeM P0 T0 A code [1,1,1,1,1,0,1,0,0,1,1,0,0,1,1] [X1] (rq E K) [(1,.pointer (some ⟨g,0,none⟩)),(2,.slice k n o),(3,.slice p q t),(6,.pointer (some ⟨v,0,none⟩)),(8,.pointer (some ⟨z,0,none⟩)),(9,.int .i64 ac),(46,.int .i64 aa),(47,.int .i64 ab)] H
def j5:Prop:=nodeM P0 T0 A code [1,1,1,1,1,0,1,0,0,1,1,1] [X1] (rq E K) (f2 g k n o p q t v z aa ab) H
def j6:Prop:=nodeM P0 T0 A code [1,1,1,1,1,1] [] (rq E K) [(1,.pointer (some ⟨g,0,none⟩)),(2,.slice k n o),(3,.slice p q t),(6,.pointer (some ⟨v,0,none⟩)),(8,.pointer (some ⟨z,0,none⟩))] H
def j7:Prop:=nodeM P0 T0 A code [1,1,1,1,1,1,1,0,1,0,0,1,1,1] [X1] (rq E K) (f4 k n o p q t v z ap aq) H
def j8:Prop:=nodeM P0 T0 A code [1,1,1,1,1,1,1,1] [] (rq E K) [(2,.slice k n o),(3,.slice p q t)] H
def l1:Prop:=nodeM P0 T0 A code [1,1,1,0,1,0] [] (rq E K) (f1 g k n o p q t v w y) H
def b1:Prop:=nodeM P0 T0 A code [1,1,1,0,1,0,0] [X1] (rq E K) (f1 g k n o p q t v w y) H
def l2:Prop:=nodeM P0 T0 A code [1,1,1,1,1,0,1,0] [] (rq E K) (f2 g k n o p q t v z aa ab) H
def b2:Prop:=nodeM P0 T0 A code [1,1,1,1,1,0,1,0,0] [X1] (rq E K) (f2 g k n o p q t v z aa ab) H
def l3:Prop:=nodeM P0 T0 A code [1,1,1,1,1,0,1,0,0,1,1,0,0,1,0,1,0,1,1,0] [X1] (rq E K) (f3 g k n o p q t v z ac aa ab ad ae ag ak an) H
def b3:Prop:=nodeM P0 T0 A code [1,1,1,1,1,0,1,0,0,1,1,0,0,1,0,1,0,1,1,0,0] [X1,X2] (rq E K) (f3 g k n o p q t v z ac aa ab ad ae ag ak an) H
def l4:Prop:=nodeM P0 T0 A code [1,1,1,1,1,1,1,0,1,0] [] (rq E K) (f4 k n o p q t v z ap aq) H
def b4:Prop:=nodeM P0 T0 A code [1,1,1,1,1,1,1,0,1,0,0] [X1] (rq E K) (f4 k n o p q t v z ap aq) H
variable {a g c k d n e o p q t v w z y ac ap aa aq ab ad ae ag ak an X1 X2 E H K}
theorem ok:okCode A 139 code=true:=by kernel_rfl
theorem of (h:run a c d e E H K):call a c d e E H K:=
  callW_of T0_ok P0_mixed (A:=A) (fn:=Go.Proofs.Try.f27) Go.Proofs.Try.func27 rfl ok rfl h
theorem l1_rule (I:S1 Prop) (μ:S1 Nat)
 (h:∀g k n o p q t v w y H,I g k n o p q t v w y H→∀X:FP,(∀g' k' n' o' p' q' t' v' w' y' H',I g' k' n' o' p' q' t' v' w' y' H'→μ g' k' n' o' p' q' t' v' w' y' H'<μ g k n o p q t v w y H→X (f1 g' k' n' o' p' q' t' v' w' y') H')→b1 g k n o p q t v w y X E H K) (hI:I g k n o p q t v w y H):l1 g k n o p q t v w y E H K:=
 loop_rule2 (fun r m H=>∃g k n o p q t v w y,r=f1 g k n o p q t v w y∧m=μ g k n o p q t v w y H∧I g k n o p q t v w y H) (by rintro _ _ _ ⟨g,k,n,o,p,q,t,v,w,y,rfl,rfl,hI⟩ X hX; exact h _ _ _ _ _ _ _ _ _ _ _ hI X fun g' k' n' o' p' q' t' v' w' y' H' hI hl=>hX _ _ _ ⟨g',k',n',o',p',q',t',v',w',y',rfl,rfl,hI⟩ hl) rfl ⟨_,_,_,_,_,_,_,_,_,_,rfl,rfl,hI⟩
theorem l2_rule (I:S2 Prop) (μ:S2 Nat)
 (h:∀g k n o p q t v z aa ab H,I g k n o p q t v z aa ab H→∀X:FP,(∀g' k' n' o' p' q' t' v' z' aa' ab' H',I g' k' n' o' p' q' t' v' z' aa' ab' H'→μ g' k' n' o' p' q' t' v' z' aa' ab' H'<μ g k n o p q t v z aa ab H→X (f2 g' k' n' o' p' q' t' v' z' aa' ab') H')→b2 g k n o p q t v z aa ab X E H K) (hI:I g k n o p q t v z aa ab H):l2 g k n o p q t v z aa ab E H K:=
 loop_rule2 (fun r m H=>∃g k n o p q t v z aa ab,r=f2 g k n o p q t v z aa ab∧m=μ g k n o p q t v z aa ab H∧I g k n o p q t v z aa ab H) (by rintro _ _ _ ⟨g,k,n,o,p,q,t,v,z,aa,ab,rfl,rfl,hI⟩ X hX; exact h _ _ _ _ _ _ _ _ _ _ _ _ hI X fun g' k' n' o' p' q' t' v' z' aa' ab' H' hI hl=>hX _ _ _ ⟨g',k',n',o',p',q',t',v',z',aa',ab',rfl,rfl,hI⟩ hl) rfl ⟨_,_,_,_,_,_,_,_,_,_,_,rfl,rfl,hI⟩
theorem l3_rule (I:S3 Prop) (μ:S3 Nat)
 (h:∀g k n o p q t v z ac aa ab ad ae ag ak an H,I g k n o p q t v z ac aa ab ad ae ag ak an H→∀X:FP,(∀g' k' n' o' p' q' t' v' z' ac' aa' ab' ad' ae' ag' ak' an' H',I g' k' n' o' p' q' t' v' z' ac' aa' ab' ad' ae' ag' ak' an' H'→μ g' k' n' o' p' q' t' v' z' ac' aa' ab' ad' ae' ag' ak' an' H'<μ g k n o p q t v z ac aa ab ad ae ag ak an H→X (f3 g' k' n' o' p' q' t' v' z' ac' aa' ab' ad' ae' ag' ak' an') H')→b3 g k n o p q t v z ac aa ab ad ae ag ak an X1 X E H K) (hI:I g k n o p q t v z ac aa ab ad ae ag ak an H):l3 g k n o p q t v z ac aa ab ad ae ag ak an X1 E H K:=
 loop_rule2 (fun r m H=>∃g k n o p q t v z ac aa ab ad ae ag ak an,r=f3 g k n o p q t v z ac aa ab ad ae ag ak an∧m=μ g k n o p q t v z ac aa ab ad ae ag ak an H∧I g k n o p q t v z ac aa ab ad ae ag ak an H) (by rintro _ _ _ ⟨g,k,n,o,p,q,t,v,z,ac,aa,ab,ad,ae,ag,ak,an,rfl,rfl,hI⟩ X hX; exact h _ _ _ _ _ _ _ _ _ _ _ _ _ _ _ _ _ _ hI X fun g' k' n' o' p' q' t' v' z' ac' aa' ab' ad' ae' ag' ak' an' H' hI hl=>hX _ _ _ ⟨g',k',n',o',p',q',t',v',z',ac',aa',ab',ad',ae',ag',ak',an',rfl,rfl,hI⟩ hl) rfl ⟨_,_,_,_,_,_,_,_,_,_,_,_,_,_,_,_,_,rfl,rfl,hI⟩
theorem l4_rule (I:S4 Prop) (μ:S4 Nat)
 (h:∀k n o p q t v z ap aq H,I k n o p q t v z ap aq H→∀X:FP,(∀k' n' o' p' q' t' v' z' ap' aq' H',I k' n' o' p' q' t' v' z' ap' aq' H'→μ k' n' o' p' q' t' v' z' ap' aq' H'<μ k n o p q t v z ap aq H→X (f4 k' n' o' p' q' t' v' z' ap' aq') H')→b4 k n o p q t v z ap aq X E H K) (hI:I k n o p q t v z ap aq H):l4 k n o p q t v z ap aq E H K:=
 loop_rule2 (fun r m H=>∃k n o p q t v z ap aq,r=f4 k n o p q t v z ap aq∧m=μ k n o p q t v z ap aq H∧I k n o p q t v z ap aq H) (by rintro _ _ _ ⟨k,n,o,p,q,t,v,z,ap,aq,rfl,rfl,hI⟩ X hX; exact h _ _ _ _ _ _ _ _ _ _ _ hI X fun k' n' o' p' q' t' v' z' ap' aq' H' hI hl=>hX _ _ _ ⟨k',n',o',p',q',t',v',z',ap',aq',rfl,rfl,hI⟩ hl) rfl ⟨_,_,_,_,_,_,_,_,_,_,rfl,rfl,hI⟩
theorem nok:nodesOk code [[0,1,0,1,1,1],[1,1,1,0,0,1,0,1,1,1],[1,1,1,1],[0,1,0,1,1,1,1,1],[0,1,1,0,1,0,1,0,0,1,1,0,0,1,0,1,1,1,1,1],[1,1,1,0,0,1,1,0,1,0,1,0,0,1,1,0,0,1,0,1,1,1,1,1],[1,1,0,0,1,1,0,0,1,0,1,1,1,1,1],[1,1,1,0,0,1,0,1,1,1,1,1],[1,1,1,1,1,1],[0,1,0,1,1,1,1,1,1,1],[1,1,1,0,0,1,0,1,1,1,1,1,1,1],[1,1,1,1,1,1,1,1]]=true:=by kernel_rfl
def run_t (l1:S1 Prop)(a:Int)(c:OA)(d e:Nat)(E:VP)(H:Hp)(K:KT):Prop:=
  nw H ⟨[.int .i64 a,.slice c d e],24⟩ fun B1 H1=>
  ldI .i64 (H1.get B1 0) fun x1=>
  ldS (H1.get B1 1) fun x2p x2n x2c=>
  Q25.call x1 x2p x2n x2c E H1 fun r1_Code r1_At H2=>
  nw H2 ⟨[.int .i64 0,.int .i64 0],97⟩ fun B2 H3=>
  stC H3 B2 0 [.int .i64 r1_Code,.int .i64 r1_At] fun H4=>
  ldI .i64 (H4.get B2 0) fun x3=>
  bcase (!decide ((x3:Int)=0)) (
  ldI .i64 (H4.get B2 0) fun x4=>
  K none 0 0 none 0 0 x4 H4)
  (ldI .i64 (H4.get B1 0) fun x5=>
  ldS (H4.get B1 1) fun x6p x6n x6c=>
  Q26.call x5 x6p x6n x6c E H4 fun r2 H5=>
  nw H5 ⟨[.pointer none],99⟩ fun B3 H6=>
  stC H6 B3 0 [.pointer r2] fun H7=>
  ldI .i64 (H7.get B1 0) fun x7=>
  l1 B1 none 0 0 none 0 0 B3 x7 0 H7)
theorem run_eq (h:run_t (fun g k n o p q t v w y H=>l1 g k n o p q t v w y E H K) a c d e E H K):run a c d e E H K:=by
  exact nodeR_imp2 (fun G=>run_t (fun g k n o p q t v w y H=>G [0,1,0,1,1,1] (f1 g k n o p q t v w y) H) a c d e E H K) nok rfl (fun G=>by kernel_rfl) (Eq.mp (by kernel_rfl) h)
def j1_t (g:Nat)(k:OA)(n o:Nat)(p:OA)(q t v:Nat)(w y:Int)(X1:FP)(E:VP)(H:Hp)(K:KT):Prop:=
  X1 (f1 g k n o p q t v w (IntKind.wrap .i64 (y+1))) H
theorem j1_eq (h:j1_t g k n o p q t v w y X1 E H K):j1 g k n o p q t v w y X1 E H K:=by
  exact nodeR_imp2 (fun _=>j1_t g k n o p q t v w y X1 E H K) nok rfl (fun G=>by kernel_rfl) h
def j2_t (l2:S2 Prop)(g:Nat)(k:OA)(n o:Nat)(p:OA)(q t v:Nat)(E:VP)(H:Hp)(K:KT):Prop:=
  ldI .i64 (H.get g 0) fun x1=>
  mkS x1 x1 4 [.bool] 1 H fun B1 H1=>
  nw H1 ⟨[.slice none 0 0],47⟩ fun B2 H2=>
  stC H2 B2 0 [.slice (some ⟨B1,0,none⟩) x1.toNat x1.toNat] fun H3=>
  ldI .i64 (H3.get g 0) fun x2=>
  l2 g k n o p q t v B2 x2 0 H3
theorem j2_eq (h:j2_t (fun g k n o p q t v z aa ab H=>l2 g k n o p q t v z aa ab E H K) g k n o p q t v E H K):j2 g k n o p q t v E H K:=by
  exact nodeR_imp2 (fun G=>j2_t (fun g k n o p q t v z aa ab H=>G [0,1,0,1,1,1,1,1] (f2 g k n o p q t v z aa ab) H) g k n o p q t v E H K) nok rfl (fun G=>by kernel_rfl) (Eq.mp (by kernel_rfl) h)
def j3_t (g:Nat)(k:OA)(n o:Nat)(p:OA)(q t v z:Nat)(ac aa ab:Int)(ad:OA)(ae ag:Nat)(ak an:Int)(X1 X2:FP)(E:VP)(H:Hp)(K:KT):Prop:=
  X2 (f3 g k n o p q t v z ac aa ab ad ae ag ak (IntKind.wrap .i64 (an+1))) H
theorem j3_eq (h:j3_t g k n o p q t v z ac aa ab ad ae ag ak an X1 X2 E H K):j3 g k n o p q t v z ac aa ab ad ae ag ak an X1 X2 E H K:=by
  exact nodeR_imp2 (fun _=>j3_t g k n o p q t v z ac aa ab ad ae ag ak an X1 X2 E H K) nok rfl (fun G=>by kernel_rfl) h
def j4_t (j5:Nat→OA→Nat→Nat→OA→Nat→Nat→Nat→Nat→Int→Int→Hp→Prop)(g:Nat)(k:OA)(n o:Nat)(p:OA)(q t v z:Nat)(ac aa ab:Int)(X1:FP)(E:VP)(H:Hp)(K:KT):Prop:=
  ldP (H.get v 0) fun x1=>
  nn x1 fun B1 o1=>
  ldS (H.get B1 (o1+3)) fun x2p x2n x2c=>
  ix x2p x2n ac 1 fun B2 o2=>
  ldI .i64 (H.get B2 o2) fun x3=>
  bcase (decide ((0:Int)≤x3)) (
  ldP (H.get v 0) fun x4=>
  Q29.call x4 ac E H fun r1 H1=>
  bcase (decide ((ac:Int)<r1)) (
  ldP (H1.get v 0) fun x5=>
  nn x5 fun B3 o3=>
  ldS (H1.get B3 (o3+3)) fun x6p x6n x6c=>
  ix x6p x6n ac 1 fun B4 o4=>
  ldI .i64 (H1.get B4 o4) fun x7=>
  nw H1 ⟨[.int .i64 x7],3⟩ fun B5 H2=>
  appM 3 [.i .i64] 8 k n o (some ⟨B5,0,none⟩) 1 H2 fun a1p a1n a1c H3=>
  j5 g a1p a1n a1c p q t v z aa ab H3)
  (j5 g k n o p q t v z aa ab H1))
  (j5 g k n o p q t v z aa ab H)
theorem j4_eq (h:j4_t (fun g k n o p q t v z aa ab H=>j5 g k n o p q t v z aa ab X1 E H K) g k n o p q t v z ac aa ab X1 E H K):j4 g k n o p q t v z ac aa ab X1 E H K:=by
  exact nodeR_imp2 (fun G=>j4_t (fun g k n o p q t v z aa ab H=>G [1,1,1,0,0,1,0,1,1,1,1,1] (f2 g k n o p q t v z aa ab) H) g k n o p q t v z ac aa ab X1 E H K) nok rfl (fun G=>by kernel_rfl) (Eq.mp (by kernel_rfl) h)
def j5_t (g:Nat)(k:OA)(n o:Nat)(p:OA)(q t v z:Nat)(aa ab:Int)(X1:FP)(E:VP)(H:Hp)(K:KT):Prop:=
  X1 (f2 g k n o p q t v z aa (IntKind.wrap .i64 (ab+1))) H
theorem j5_eq (h:j5_t g k n o p q t v z aa ab X1 E H K):j5 g k n o p q t v z aa ab X1 E H K:=by
  exact nodeR_imp2 (fun _=>j5_t g k n o p q t v z aa ab X1 E H K) nok rfl (fun G=>by kernel_rfl) h
def j6_t (l4:S4 Prop)(g:Nat)(k:OA)(n o:Nat)(p:OA)(q t v z:Nat)(E:VP)(H:Hp)(K:KT):Prop:=
  Q15.call k n o E H fun H1=>
  ldI .i64 (H1.get g 0) fun x1=>
  l4 k n o p q t v z x1 0 H1
theorem j6_eq (h:j6_t (fun k n o p q t v z ap aq H=>l4 k n o p q t v z ap aq E H K) g k n o p q t v z E H K):j6 g k n o p q t v z E H K:=by
  exact nodeR_imp2 (fun G=>j6_t (fun k n o p q t v z ap aq H=>G [0,1,0,1,1,1,1,1,1,1] (f4 k n o p q t v z ap aq) H) g k n o p q t v z E H K) nok rfl (fun G=>by kernel_rfl) (Eq.mp (by kernel_rfl) h)
def j7_t (k:OA)(n o:Nat)(p:OA)(q t v z:Nat)(ap aq:Int)(X1:FP)(E:VP)(H:Hp)(K:KT):Prop:=
  X1 (f4 k n o p q t v z ap (IntKind.wrap .i64 (aq+1))) H
theorem j7_eq (h:j7_t k n o p q t v z ap aq X1 E H K):j7 k n o p q t v z ap aq X1 E H K:=by
  exact nodeR_imp2 (fun _=>j7_t k n o p q t v z ap aq X1 E H K) nok rfl (fun G=>by kernel_rfl) h
def j8_t (k:OA)(n o:Nat)(p:OA)(q t:Nat)(E:VP)(H:Hp)(K:KT):Prop:=
  K k n o p q t 0 H
theorem j8_eq (h:j8_t k n o p q t E H K):j8 k n o p q t E H K:=by
  exact nodeR_imp2 (fun _=>j8_t k n o p q t E H K) nok rfl (fun G=>by kernel_rfl) h
def b1_t (j1:Nat→OA→Nat→Nat→OA→Nat→Nat→Nat→Int→Int→Hp→Prop)(j2:Nat→OA→Nat→Nat→OA→Nat→Nat→Nat→Hp→Prop)(g:Nat)(k:OA)(n o:Nat)(p:OA)(q t v:Nat)(w y:Int)(X1:FP)(E:VP)(H:Hp)(K:KT):Prop:=
  bcase (decide ((y:Int)<w)) (
  ldP (H.get v 0) fun x1=>
  nn x1 fun B1 o1=>
  ldS (H.get B1 (o1+3)) fun x2p x2n x2c=>
  ix x2p x2n y 1 fun B2 o2=>
  ldI .i64 (H.get B2 o2) fun x3=>
  bcase (decide ((x3:Int)<0)) (
  ldP (H.get v 0) fun x4=>
  ldP (H.get v 0) fun x5=>
  Q28.call x5 y E H fun r1 H1=>
  (ldP (H1.get v 0) fun x6=>
  Value.pointer x6=Value.pointer x4)∧
  Q27.call x4 r1 E H1 fun H2=>
  j1 g k n o p q t v w y H2)
  (j1 g k n o p q t v w y H))
  (j2 g k n o p q t v H)
theorem b1_eq (h:b1_t (fun g k n o p q t v w y H=>j1 g k n o p q t v w y X1 E H K) (fun g k n o p q t v H=>j2 g k n o p q t v E H K) g k n o p q t v w y X1 E H K):b1 g k n o p q t v w y X1 E H K:=by
  exact nodeR_imp2 (fun G=>b1_t (fun g k n o p q t v w y H=>G [1,1,1,0,0,1,0,1,1,1] (f1 g k n o p q t v w y) H) (fun g k n o p q t v H=>G [1,1,1,1] [(1,.pointer (some ⟨g,0,none⟩)),(2,.slice k n o),(3,.slice p q t),(6,.pointer (some ⟨v,0,none⟩))] H) g k n o p q t v w y X1 E H K) nok rfl (fun G=>by kernel_rfl) (Eq.mp (by kernel_rfl) h)
def b2_t (l3:S3 Prop)(j4:Nat→OA→Nat→Nat→OA→Nat→Nat→Nat→Nat→Int→Int→Int→Hp→Prop)(j6:Nat→OA→Nat→Nat→OA→Nat→Nat→Nat→Nat→Hp→Prop)(g:Nat)(k:OA)(n o:Nat)(p:OA)(q t v z:Nat)(aa ab:Int)(X1:FP)(E:VP)(H:Hp)(K:KT):Prop:=
  bcase (decide ((ab:Int)<aa)) (
  ldP (H.get v 0) fun x1=>
  nn x1 fun B1 o1=>
  ldS (H.get B1 (o1+3)) fun x2p x2n x2c=>
  ix x2p x2n ab 1 fun B2 o2=>
  ldI .i64 (H.get B2 o2) fun x3=>
  bcase (decide ((x3:Int)<0)) (
  ldP (H.get v 0) fun x4=>
  Q28.call x4 ab E H fun r1 H1=>
  ldP (H1.get v 0) fun x5=>
  nn x5 fun B3 o3=>
  ldS (H1.get B3 (o3+6)) fun x6p x6n x6c=>
  l3 g k n o p q t v z ab aa ab x6p x6n x6c (x6n:Int) 0 H1)
  (j4 g k n o p q t v z ab aa ab H))
  (j6 g k n o p q t v z H)
theorem b2_eq (h:b2_t (fun g k n o p q t v z ac aa ab ad ae ag ak an H=>l3 g k n o p q t v z ac aa ab ad ae ag ak an X1 E H K) (fun g k n o p q t v z ac aa ab H=>j4 g k n o p q t v z ac aa ab X1 E H K) (fun g k n o p q t v z H=>j6 g k n o p q t v z E H K) g k n o p q t v z aa ab X1 E H K):b2 g k n o p q t v z aa ab X1 E H K:=by
  exact nodeR_imp2 (fun G=>b2_t (fun g k n o p q t v z ac aa ab ad ae ag ak an H=>G [0,1,1,0,1,0,1,0,0,1,1,0,0,1,0,1,1,1,1,1] (f3 g k n o p q t v z ac aa ab ad ae ag ak an) H) (fun g k n o p q t v z ac aa ab H=>G [1,1,0,0,1,1,0,0,1,0,1,1,1,1,1] [(1,.pointer (some ⟨g,0,none⟩)),(2,.slice k n o),(3,.slice p q t),(6,.pointer (some ⟨v,0,none⟩)),(8,.pointer (some ⟨z,0,none⟩)),(9,.int .i64 ac),(46,.int .i64 aa),(47,.int .i64 ab)] H) (fun g k n o p q t v z H=>G [1,1,1,1,1,1] [(1,.pointer (some ⟨g,0,none⟩)),(2,.slice k n o),(3,.slice p q t),(6,.pointer (some ⟨v,0,none⟩)),(8,.pointer (some ⟨z,0,none⟩))] H) g k n o p q t v z aa ab X1 E H K) nok rfl (fun G=>by kernel_rfl) (Eq.mp (by kernel_rfl) h)
def b3_t (j3:Nat→OA→Nat→Nat→OA→Nat→Nat→Nat→Nat→Int→Int→Int→OA→Nat→Nat→Int→Int→Hp→Prop)(j4:Nat→OA→Nat→Nat→OA→Nat→Nat→Nat→Nat→Int→Int→Int→Hp→Prop)(g:Nat)(k:OA)(n o:Nat)(p:OA)(q t v z:Nat)(ac aa ab:Int)(ad:OA)(ae ag:Nat)(ak an:Int)(X1 X2:FP)(E:VP)(H:Hp)(K:KT):Prop:=
  bcase (decide ((an:Int)<ak)) (
  ix ad ae an 1 fun B1 o1=>
  ldB (H.get B1 o1) fun x1=>
  ldS (H.get z 0) fun x2p x2n x2c=>
  ldS (H.get z 0) fun x3p x3n x3c=>
  ix x3p x3n an 1 fun B2 o2=>
  ldB (H.get B2 o2) fun x4=>
  bcase (x4) (
  ix x2p x2n an 1 fun B3 o3=>
  stC H B3 o3 [.bool true] fun H1=>
  j3 g k n o p q t v z ac aa ab ad ae ag ak an H1)
  (ix x2p x2n an 1 fun B4 o4=>
  stC H B4 o4 [.bool x1] fun H2=>
  j3 g k n o p q t v z ac aa ab ad ae ag ak an H2))
  (j4 g k n o p q t v z ac aa ab H)
theorem b3_eq (h:b3_t (fun g k n o p q t v z ac aa ab ad ae ag ak an H=>j3 g k n o p q t v z ac aa ab ad ae ag ak an X1 X2 E H K) (fun g k n o p q t v z ac aa ab H=>j4 g k n o p q t v z ac aa ab X1 E H K) g k n o p q t v z ac aa ab ad ae ag ak an X1 X2 E H K):b3 g k n o p q t v z ac aa ab ad ae ag ak an X1 X2 E H K:=by
  exact nodeR_imp2 (fun G=>b3_t (fun g k n o p q t v z ac aa ab ad ae ag ak an H=>G [1,1,1,0,0,1,1,0,1,0,1,0,0,1,1,0,0,1,0,1,1,1,1,1] (f3 g k n o p q t v z ac aa ab ad ae ag ak an) H) (fun g k n o p q t v z ac aa ab H=>G [1,1,0,0,1,1,0,0,1,0,1,1,1,1,1] [(1,.pointer (some ⟨g,0,none⟩)),(2,.slice k n o),(3,.slice p q t),(6,.pointer (some ⟨v,0,none⟩)),(8,.pointer (some ⟨z,0,none⟩)),(9,.int .i64 ac),(46,.int .i64 aa),(47,.int .i64 ab)] H) g k n o p q t v z ac aa ab ad ae ag ak an X1 X2 E H K) nok rfl (fun G=>by kernel_rfl) (Eq.mp (by kernel_rfl) h)
def b4_t (j7:OA→Nat→Nat→OA→Nat→Nat→Nat→Nat→Int→Int→Hp→Prop)(j8:OA→Nat→Nat→OA→Nat→Nat→Hp→Prop)(k:OA)(n o:Nat)(p:OA)(q t v z:Nat)(ap aq:Int)(X1:FP)(E:VP)(H:Hp)(K:KT):Prop:=
  bcase (decide ((aq:Int)<ap)) (
  nw H ⟨[.int .i64 0],3⟩ fun B1 H1=>
  stC H1 B1 0 [.int .i64 aq] fun H2=>
  ldS (H2.get z 0) fun x1p x1n x1c=>
  ldI .i64 (H2.get B1 0) fun x2=>
  ix x1p x1n x2 1 fun B2 o1=>
  ldB (H2.get B2 o1) fun x3=>
  bcase ((!x3)) (
  ldP (H2.get v 0) fun x4=>
  nn x4 fun B3 o2=>
  ldS (H2.get B3 (o2+2)) fun x5p x5n x5c=>
  ldI .i64 (H2.get B1 0) fun x6=>
  ix x5p x5n x6 1 fun B4 o3=>
  ldS (H2.get B4 o3) fun x7p x7n x7c=>
  Q32.call x7p x7n x7c 54 [Value.pointer (some ⟨z,0,none⟩),Value.pointer (some ⟨v,0,none⟩),Value.pointer (some ⟨B1,0,none⟩)] E H2 fun r1 H3=>
  bcase (r1) (
  ldI .i64 (H3.get B1 0) fun x8=>
  nw H3 ⟨[.int .i64 x8],3⟩ fun B5 H4=>
  appM 3 [.i .i64] 8 p q t (some ⟨B5,0,none⟩) 1 H4 fun a1p a1n a1c H5=>
  j7 k n o a1p a1n a1c v z ap aq H5)
  (j7 k n o p q t v z ap aq H3))
  (j7 k n o p q t v z ap aq H2))
  (j8 k n o p q t H)
theorem b4_eq (h:b4_t (fun k n o p q t v z ap aq H=>j7 k n o p q t v z ap aq X1 E H K) (fun k n o p q t H=>j8 k n o p q t E H K) k n o p q t v z ap aq X1 E H K):b4 k n o p q t v z ap aq X1 E H K:=by
  exact nodeR_imp2 (fun G=>b4_t (fun k n o p q t v z ap aq H=>G [1,1,1,0,0,1,0,1,1,1,1,1,1,1] (f4 k n o p q t v z ap aq) H) (fun k n o p q t H=>G [1,1,1,1,1,1,1,1] [(2,.slice k n o),(3,.slice p q t)] H) k n o p q t v z ap aq X1 E H K) nok rfl (fun G=>by kernel_rfl) (Eq.mp (by kernel_rfl) h)
end
end Q11
namespace Q26
abbrev KT:=OA→Hp→Prop
abbrev S1 (α:Type):=OA→OA→Nat→Nat→Int→Int→Hp→α
abbrev S2 (α:Type):=OA→Int→Int→Hp→α
section
variable (a:Int)(g c k:OA)(t:Int)(d n:Nat)(v:Int)(e o:Nat)(p q:Int)(X1:FP)(E:VP)(H:Hp)(K:KT)
noncomputable def A:An:={ live:=[(0,[0]),(1,[1]),(2,[1,3]),(3,[3,17,18,19]),(4,[3,17,18,19]),(5,[3,4,5,17,18,19]),(6,[3,4,5,17,18,19]),(7,[3,4,5,17,18,19]),(8,[3,17,18,19]),(9,[3]),(10,[3,70,71]),(11,[3,70,71]),(12,[3,6,70,71]),(13,[3,70,71]),(14,[3])],ord:=[(1,[0,1,2,3,4,5,6,7,8,9]),(6,[0,1,2,3,4,5,6,7,8,9,10,11,12,13,14,15,16,17,18]),(7,[0,1,2,3,4,5,6,7,8,9,10,11,12,13,14,15,16,17,18])],stb:=[(6,[(16,[3,5])]),(7,[(16,[3,5])])],pre:=[(1,[[],[],[1],[1,2],[],[4],[4,5],[0,1,2,3,4,5,6],[0,1,2,3,4,5,6,7],[0,1,2,3,4,5,6,7,8]]),(6,[[],[0],[0,1],[0,1,2],[],[4],[],[6],[6,7],[6,7,8],[],[10],[6,7,8,9,10,11],[6,7,8,9,10,11,12],[],[14],[6,7,8,9,10,11,12,13,14,15],[0,1,2,3,4,5,6,7,8,9,10,11,12,13,14,15,16],[0,1,2,3,4,5,6,7,8,9,10,11,12,13,14,15,16,17]]),(7,[[],[0],[0,1],[0,1,2],[],[4],[],[6],[6,7],[6,7,8],[],[10],[6,7,8,9,10,11],[6,7,8,9,10,11,12],[],[14],[6,7,8,9,10,11,12,13,14,15],[0,1,2,3,4,5,6,7,8,9,10,11,12,13,14,15,16],[0,1,2,3,4,5,6,7,8,9,10,11,12,13,14,15,16,17]])] }
noncomputable def code:Code:=bodyOf Go.Proofs.Try.f50
def rq:Ex→FP:=retQ T0 [.tmp 2] [99] (fun r H=>ldR (.one false [.ptr]) r fun u=>K (asP u) H) E
noncomputable def f1:Fr:=[(3,.pointer g),(17,.slice k n o),(18,.int .i64 p),(19,.int .i64 q)]
noncomputable def f2:Fr:=[(3,.pointer g),(70,.int .i64 t),(71,.int .i64 v)]
def run:Prop:=nodeM P0 T0 A code [] [] (rq E K) (argF 0 [.agg ⟨[.int .i64 a,.slice c d e]⟩]) H
def j1:Prop:=nodeM P0 T0 A code [1,1,0,1,0,0,1,1,1] [X1] (rq E K) (f1 g k n o p q) H
def j2:Prop:=nodeM P0 T0 A code [1,1,1] [] (rq E K) [(3,.pointer g)] H
def l1:Prop:=nodeM P0 T0 A code [1,1,0,1,0] [] (rq E K) (f1 g k n o p q) H
def b1:Prop:=nodeM P0 T0 A code [1,1,0,1,0,0] [X1] (rq E K) (f1 g k n o p q) H
def l2:Prop:=nodeM P0 T0 A code [1,1,1,0,1,0] [] (rq E K) (f2 g t v) H
def b2:Prop:=nodeM P0 T0 A code [1,1,1,0,1,0,0] [X1] (rq E K) (f2 g t v) H
variable {a g c k t d n v e o p q X1 E H K}
theorem ok:okCode A 82 code=true:=by kernel_rfl
theorem of (h:run a c d e E H K):call a c d e E H K:=
  callW_of T0_ok P0_mixed (A:=A) (fn:=Go.Proofs.Try.f50) Go.Proofs.Try.func50 rfl ok rfl h
theorem l1_rule (I:S1 Prop) (μ:S1 Nat)
 (h:∀g k n o p q H,I g k n o p q H→∀X:FP,(∀g' k' n' o' p' q' H',I g' k' n' o' p' q' H'→μ g' k' n' o' p' q' H'<μ g k n o p q H→X (f1 g' k' n' o' p' q') H')→b1 g k n o p q X E H K) (hI:I g k n o p q H):l1 g k n o p q E H K:=
 loop_rule2 (fun r m H=>∃g k n o p q,r=f1 g k n o p q∧m=μ g k n o p q H∧I g k n o p q H) (by rintro _ _ _ ⟨g,k,n,o,p,q,rfl,rfl,hI⟩ X hX; exact h _ _ _ _ _ _ _ hI X fun g' k' n' o' p' q' H' hI hl=>hX _ _ _ ⟨g',k',n',o',p',q',rfl,rfl,hI⟩ hl) rfl ⟨_,_,_,_,_,_,rfl,rfl,hI⟩
theorem l2_rule (I:S2 Prop) (μ:S2 Nat)
 (h:∀g t v H,I g t v H→∀X:FP,(∀g' t' v' H',I g' t' v' H'→μ g' t' v' H'<μ g t v H→X (f2 g' t' v') H')→b2 g t v X E H K) (hI:I g t v H):l2 g t v E H K:=
 loop_rule2 (fun r m H=>∃g t v,r=f2 g t v∧m=μ g t v H∧I g t v H) (by rintro _ _ _ ⟨g,t,v,rfl,rfl,hI⟩ X hX; exact h _ _ _ _ hI X fun g' t' v' H' hI hl=>hX _ _ _ ⟨g',t',v',rfl,rfl,hI⟩ hl) rfl ⟨_,_,_,rfl,rfl,hI⟩
theorem nok:nodesOk code [[0,1,0,1,1],[1,1,1,0,0,1,0,1,1],[1,1,1],[0,1,0,1,1,1]]=true:=by kernel_rfl
def run_t (l1:S1 Prop)(a:Int)(c:OA)(d e:Nat)(E:VP)(H:Hp)(K:KT):Prop:=
  nw H ⟨[.int .i64 a,.slice c d e],24⟩ fun B1 H1=>
  ldI .i64 (H1.get B1 0) fun x1=>
  ldS (H1.get B1 1) fun x2p x2n x2c=>
  ldI .i64 (H1.get B1 0) fun x3=>
  mkS x3 x3 26 [.sl] 24 H1 fun B2 H2=>
  ldI .i64 (H2.get B1 0) fun x4=>
  mkS x4 x4 3 [.i .i64] 8 H2 fun B3 H3=>
  nw H3 ⟨[.int .i64 x1,.slice x2p x2n x2c,.slice (some ⟨B2,0,none⟩) x3.toNat x3.toNat,.slice (some ⟨B3,0,none⟩) x4.toNat x4.toNat,.slice none 0 0,.slice none 0 0,.slice none 0 0,.slice none 0 0],103⟩ fun B4 H4=>
  ldS (H4.get B1 1) fun x5p x5n x5c=>
  l1 (some ⟨B4,0,none⟩) x5p x5n x5c (x5n:Int) 0 H4
theorem run_eq (h:run_t (fun g k n o p q H=>l1 g k n o p q E H K) a c d e E H K):run a c d e E H K:=by
  exact nodeR_imp2 (fun G=>run_t (fun g k n o p q H=>G [0,1,0,1,1] (f1 g k n o p q) H) a c d e E H K) nok rfl (fun G=>by kernel_rfl) (Eq.mp (by kernel_rfl) h)
def j1_t (g k:OA)(n o:Nat)(p q:Int)(X1:FP)(E:VP)(H:Hp)(K:KT):Prop:=
  X1 (f1 g k n o p (IntKind.wrap .i64 (q+1))) H
theorem j1_eq (h:j1_t g k n o p q X1 E H K):j1 g k n o p q X1 E H K:=by
  exact nodeR_imp2 (fun _=>j1_t g k n o p q X1 E H K) nok rfl (fun G=>by kernel_rfl) h
def j2_t (l2:S2 Prop)(g:OA)(E:VP)(H:Hp)(K:KT):Prop:=
  nn g fun B1 o1=>
  ldS (H.get B1 (o1+3)) fun x1p x1n x1c=>
  l2 g (x1n:Int) 0 H
theorem j2_eq (h:j2_t (fun g t v H=>l2 g t v E H K) g E H K):j2 g E H K:=by
  exact nodeR_imp2 (fun G=>j2_t (fun g t v H=>G [0,1,0,1,1,1] (f2 g t v) H) g E H K) nok rfl (fun G=>by kernel_rfl) (Eq.mp (by kernel_rfl) h)
def b1_t (j1:OA→OA→Nat→Nat→Int→Int→Hp→Prop)(j2:OA→Hp→Prop)(g k:OA)(n o:Nat)(p q:Int)(X1:FP)(E:VP)(H:Hp)(K:KT):Prop:=
  bcase (decide ((q:Int)<p)) (
  ix k n q 4 fun B1 o1=>
  ldI .i64 (H.get B1 o1) fun x1=>
  ldI .i64 (H.get B1 (o1+1)) fun x2=>
  ldI .i64 (H.get B1 (o1+2)) fun x3=>
  ldI .i64 (H.get B1 (o1+3)) fun x4=>
  nw H ⟨[.int .i64 0,.int .i64 0,.int .i64 0,.int .i64 0],49⟩ fun B2 H1=>
  stC H1 B2 0 [.int .i64 x1,.int .i64 x2,.int .i64 x3,.int .i64 x4] fun H2=>
  ldI .i64 (H2.get B2 0) fun x5=>
  ldI .i64 (H2.get B2 1) fun x6=>
  bcase (!decide ((x5:Int)=x6)) (
  nn g fun B3 o2=>
  ldS (H2.get B3 (o2+2)) fun x7p x7n x7c=>
  ldI .i64 (H2.get B2 0) fun x8=>
  nn g fun B4 o3=>
  ldS (H2.get B4 (o3+2)) fun x9p x9n x9c=>
  ldI .i64 (H2.get B2 0) fun x10=>
  ix x9p x9n x10 1 fun B5 o4=>
  ldS (H2.get B5 o4) fun x11p x11n x11c=>
  nw H2 ⟨[.int .i64 q],3⟩ fun B6 H3=>
  appM 3 [.i .i64] 8 x11p x11n x11c (some ⟨B6,0,none⟩) 1 H3 fun a1p a1n a1c H4=>
  (ldS (H4.get B3 (o2+2)) fun x20p x20n x20c=>
  Value.slice x20p x20n x20c=Value.slice x7p x7n x7c)∧
  (ldI .i64 (H4.get B2 0) fun x19=>
  Value.int .i64 x19=Value.int .i64 x8)∧
  ix x7p x7n x8 1 fun B7 o5=>
  stC H4 B7 o5 [.slice a1p a1n a1c] fun H5=>
  nn g fun B8 o6=>
  ldS (H5.get B8 (o6+2)) fun x12p x12n x12c=>
  ldI .i64 (H5.get B2 1) fun x13=>
  nn g fun B9 o7=>
  ldS (H5.get B9 (o7+2)) fun x14p x14n x14c=>
  ldI .i64 (H5.get B2 1) fun x15=>
  ix x14p x14n x15 1 fun B10 o8=>
  ldS (H5.get B10 o8) fun x16p x16n x16c=>
  nw H5 ⟨[.int .i64 q],3⟩ fun B11 H6=>
  appM 3 [.i .i64] 8 x16p x16n x16c (some ⟨B11,0,none⟩) 1 H6 fun a2p a2n a2c H7=>
  (ldS (H7.get B8 (o6+2)) fun x18p x18n x18c=>
  Value.slice x18p x18n x18c=Value.slice x12p x12n x12c)∧
  (ldI .i64 (H7.get B2 1) fun x17=>
  Value.int .i64 x17=Value.int .i64 x13)∧
  ix x12p x12n x13 1 fun B12 o9=>
  stC H7 B12 o9 [.slice a2p a2n a2c] fun H8=>
  j1 g k n o p q H8)
  (j1 g k n o p q H2))
  (j2 g H)
theorem b1_eq (h:b1_t (fun g k n o p q H=>j1 g k n o p q X1 E H K) (fun g H=>j2 g E H K) g k n o p q X1 E H K):b1 g k n o p q X1 E H K:=by
  exact nodeR_imp2 (fun G=>b1_t (fun g k n o p q H=>G [1,1,1,0,0,1,0,1,1] (f1 g k n o p q) H) (fun g H=>G [1,1,1] [(3,.pointer g)] H) g k n o p q X1 E H K) nok rfl (fun G=>by kernel_rfl) (Eq.mp (by kernel_rfl) h)
def b2_t (g:OA)(t v:Int)(X1:FP)(E:VP)(H:Hp)(K:KT):Prop:=
  bcase (decide ((v:Int)<t)) (
  nn g fun B1 o1=>
  ldS (H.get B1 (o1+3)) fun x1p x1n x1c=>
  ix x1p x1n v 1 fun B2 o2=>
  stC H B2 o2 [.int .i64 (-1)] fun H1=>
  X1 (f2 g t (IntKind.wrap .i64 (v+1))) H1)
  (K g H)
theorem b2_eq (h:b2_t g t v X1 E H K):b2 g t v X1 E H K:=by
  exact nodeR_imp2 (fun _=>b2_t g t v X1 E H K) nok rfl (fun G=>by kernel_rfl) h
end
end Q26
namespace Q27
abbrev KT:=Hp→Prop
abbrev S1 (α:Type):=OA→Int→Hp→α
section
variable (a:OA)(c d e g:Int)(X1:FP)(E:VP)(H:Hp)(K:KT)
noncomputable def A:An:={ live:=[(0,[0,1]),(1,[0,1]),(2,[0,1,4]),(3,[0,1,4,5]),(4,[0,1,4,5,6]),(5,[0,1,4,5]),(6,[0,1,4,5,6]),(7,[0,6])],ord:=[(6,[0,1,2,3,4,5,6,7,8,9,10,11,12,13,14,15])],stb:=[],pre:=[(6,[[],[0],[0,1],[0,1,2],[],[],[5],[5,6],[5,6,7],[],[],[],[0,1,2,3,4,5,6,7,8,10],[0,1,2,3,4,5,6,7,8,10,12],[0,1,2,3,4,5,6,7,8,9,10,11,12,13],[0,1,2,3,4,5,6,7,8,9,10,11,12,13,14]])] }
noncomputable def code:Code:=bodyOf Go.Proofs.Try.f51
def rq:Ex→FP:=retQ T0 [] [] (fun r H=>ldR (.tup []) r fun u=>K H) E
noncomputable def f1:Fr:=[(0,.pointer a),(1,.int .i64 c)]
def run:Prop:=nodeM P0 T0 A code [] [] (rq E K) (argF 0 [.pointer a,.int .i64 c]) H
def j1:Prop:=nodeM P0 T0 A code [0,0,1,0,1,1,1,1] [X1] (rq E K) [(0,.pointer a),(1,.int .i64 c),(4,.int .i64 d),(5,.int .i64 e),(6,.int .i64 g)] H
def l1:Prop:=nodeM P0 T0 A code [0] [] (rq E K) (f1 a c) H
def b1:Prop:=nodeM P0 T0 A code [0,0] [X1] (rq E K) (f1 a c) H
variable {a c d e g X1 E H K}
theorem ok:okCode A 46 code=true:=by kernel_rfl
theorem of (h:run a c E H K):call a c E H K:=
  callW_of T0_ok P0_mixed (A:=A) (fn:=Go.Proofs.Try.f51) Go.Proofs.Try.func51 rfl ok rfl h
theorem l1_rule (I:S1 Prop) (μ:S1 Nat)
 (h:∀a c H,I a c H→∀X:FP,(∀a' c' H',I a' c' H'→μ a' c' H'<μ a c H→X (f1 a' c') H')→b1 a c X E H K) (hI:I a c H):l1 a c E H K:=
 loop_rule2 (fun r m H=>∃a c,r=f1 a c∧m=μ a c H∧I a c H) (by rintro _ _ _ ⟨a,c,rfl,rfl,hI⟩ X hX; exact h _ _ _ hI X fun a' c' H' hI hl=>hX _ _ _ ⟨a',c',rfl,rfl,hI⟩ hl) rfl ⟨_,_,rfl,rfl,hI⟩
theorem nok:nodesOk code [[0],[1,1,1,1,0,1,0,0]]=true:=by kernel_rfl
def run_t (l1:S1 Prop)(a:OA)(c:Int)(E:VP)(H:Hp)(K:KT):Prop:=
  l1 a c H
theorem run_eq (h:run_t (fun a c H=>l1 a c E H K) a c E H K):run a c E H K:=by
  exact nodeR_imp2 (fun G=>run_t (fun a c H=>G [0] (f1 a c) H) a c E H K) nok rfl (fun G=>by kernel_rfl) (Eq.mp (by kernel_rfl) h)
def j1_t (a:OA)(c d e g:Int)(X1:FP)(E:VP)(H:Hp)(K:KT):Prop:=
  nn a fun B1 o1=>
  ldS (H.get B1 (o1+3)) fun x1p x1n x1c=>
  nn a fun B2 o2=>
  ldS (H.get B2 (o2+3)) fun x2p x2n x2c=>
  ix x1p x1n c 1 fun B3 o3=>
  stC H B3 o3 [.int .i64 d] fun H1=>
  ix x2p x2n e 1 fun B4 o4=>
  stC H1 B4 o4 [.int .i64 d] fun H2=>
  X1 (f1 a g) H2
theorem j1_eq (h:j1_t a c d e g X1 E H K):j1 a c d e g X1 E H K:=by
  exact nodeR_imp2 (fun _=>j1_t a c d e g X1 E H K) nok rfl (fun G=>by kernel_rfl) h
def b1_t (j1:OA→Int→Int→Int→Int→Hp→Prop)(a:OA)(c:Int)(X1:FP)(E:VP)(H:Hp)(K:KT):Prop:=
  bcase (decide ((0:Int)≤c)) (
  nn a fun B1 o1=>
  ldS (H.get B1 (o1+5)) fun x1p x1n x1c=>
  ix x1p x1n c 1 fun B2 o2=>
  ldI .i64 (H.get B2 o2) fun x2=>
  Q31.call a x2 c E H fun r1 H1=>
  nn a fun B3 o3=>
  ldS (H1.get B3 (o3+3)) fun x3p x3n x3c=>
  ix x3p x3n r1 1 fun B4 o4=>
  ldI .i64 (H1.get B4 o4) fun x4=>
  bcase (decide ((0:Int)≤x4)) (
  Q29.call a r1 E H1 fun r2 H2=>
  j1 a c x2 r1 r2 H2)
  (j1 a c x2 r1 (-1) H1))
  (K H)
theorem b1_eq (h:b1_t (fun a c d e g H=>j1 a c d e g X1 E H K) a c X1 E H K):b1 a c X1 E H K:=by
  exact nodeR_imp2 (fun G=>b1_t (fun a c d e g H=>G [1,1,1,1,0,1,0,0] [(0,.pointer a),(1,.int .i64 c),(4,.int .i64 d),(5,.int .i64 e),(6,.int .i64 g)] H) a c X1 E H K) nok rfl (fun G=>by kernel_rfl) (Eq.mp (by kernel_rfl) h)
end
end Q27
namespace Q28
abbrev KT:=Int→Hp→Prop
abbrev S1 (α:Type):=OA→Hp→α
abbrev S2 (α:Type):=OA→Int→OA→Nat→Nat→Int→Int→Hp→α
section
variable (a:OA)(c d:Int)(e:OA)(g k:Nat)(n o:Int)(X1 X2:FP)(E:VP)(H:Hp)(K:KT)
noncomputable def A:An:={ live:=[(0,[0,1]),(1,[0,1]),(2,[0]),(3,[0]),(4,[0,5]),(5,[0,5]),(6,[0,5,39,40,41]),(7,[0,5,39,40,41]),(8,[0,5,7,39,40,41]),(9,[0,5,7,8,39,40,41]),(10,[0,5,7,8,39,40,41]),(11,[0,5,7,39,40,41]),(12,[0,5,7,8,39,40,41]),(13,[0,5,7,8,39,40,41]),(14,[0,5,8,39,40,41]),(15,[8]),(16,[0,5,8,39,40,41]),(17,[0,5,9,39,40,41]),(18,[0,5,9,39,40,41]),(19,[0,5,39,40,41]),(20,[])],ord:=[(9,[0,1,2,3,4,5,6,7,8,9,10,11,12,13,14,15,16,17,18,19,20,21,22,23,24,25,26])],stb:=[],pre:=[(9,[[],[0],[0,1],[0,1,2],[],[0,1,2,3,4],[0,1,2,3,4,5],[],[7],[7,8],[7,8,9],[],[7,8,9,10,11],[7,8,9,10,11,12],[0,1,2,3,4,5,6,7,8,9,10,11,12,13],[0,1,2,3,4,5,6,7,8,9,10,11,12,13,14],[0,1,2,3,4,5,6,7,8,9,10,11,12,13,14,15],[0,1,2,3,4,5,6,7,8,9,10,11,12,13,14,15,16],[0,1,2,3,4,5,6,7,8,9,10,11,12,13,14,15,16,17],[0,1,2,3,4,5,6,7,8,9,10,11,12,13,14,15,16,17,18],[0,1,2,3,4,5,6,7,8,9,10,11,12,13,14,15],[0,1,2,3,4,5,6,7,8,9,10,11,12,13,14,15,16,17,18,19,20],[0,1,2,3,4,5,6,7,8,9,10,11,12,13,14,15,16,17,18,19,20,21],[0,1,2,3,4,5,6,7,8,9,10,11,12,13,14,15],[0,1,2,3,4,5,6,7,8,9,10,11,12,13,14,15,16,17,18,19,20,21,22,23],[0,1,2,3,4,5,6,7,8,9,10,11,12,13,14,15,16,17,18,19,20,21,22,23,24],[0,1,2,3,4,5,6,7,8,9,10,11,12,13,14,15,16,17,18,19,20,21,22,23,24,25]])] }
noncomputable def code:Code:=bodyOf Go.Proofs.Try.f52
def rq:Ex→FP:=retQ T0 [.tmp 4] [3] (fun r H=>ldR (.one false [.i .i64]) r fun u=>K (asI u) H) E
noncomputable def f1:Fr:=[(0,.pointer a)]
noncomputable def f2:Fr:=[(0,.pointer a),(5,.int .i64 d),(39,.slice e g k),(40,.int .i64 n),(41,.int .i64 o)]
def run:Prop:=nodeM P0 T0 A code [] [] (rq E K) (argF 0 [.pointer a,.int .i64 c]) H
def j1:Prop:=nodeM P0 T0 A code [1,1,0,0,0,1,0,1,1,1,0,0,1,1,1] [X1,X2] (rq E K) (f2 a d e g k n o) H
def l1:Prop:=nodeM P0 T0 A code [1,1,0,0] [] (rq E K) (f1 a) H
def b1:Prop:=nodeM P0 T0 A code [1,1,0,0,0] [X1] (rq E K) (f1 a) H
def l2:Prop:=nodeM P0 T0 A code [1,1,0,0,0,1,0,1,1,1,0] [X1] (rq E K) (f2 a d e g k n o) H
def b2:Prop:=nodeM P0 T0 A code [1,1,0,0,0,1,0,1,1,1,0,0] [X1,X2] (rq E K) (f2 a d e g k n o) H
variable {a c d e g k n o X1 X2 E H K}
theorem ok:okCode A 132 code=true:=by kernel_rfl
theorem of (h:run a c E H K):call a c E H K:=
  callW_of T0_ok P0_mixed (A:=A) (fn:=Go.Proofs.Try.f52) Go.Proofs.Try.func52 rfl ok rfl h
theorem l1_rule (I:S1 Prop) (μ:S1 Nat)
 (h:∀a H,I a H→∀X:FP,(∀a' H',I a' H'→μ a' H'<μ a H→X (f1 a') H')→b1 a X E H K) (hI:I a H):l1 a E H K:=
 loop_rule2 (fun r m H=>∃a,r=f1 a∧m=μ a H∧I a H) (by rintro _ _ _ ⟨a,rfl,rfl,hI⟩ X hX; exact h _ _ hI X fun a' H' hI hl=>hX _ _ _ ⟨a',rfl,rfl,hI⟩ hl) rfl ⟨_,rfl,rfl,hI⟩
theorem l2_rule (I:S2 Prop) (μ:S2 Nat)
 (h:∀a d e g k n o H,I a d e g k n o H→∀X:FP,(∀a' d' e' g' k' n' o' H',I a' d' e' g' k' n' o' H'→μ a' d' e' g' k' n' o' H'<μ a d e g k n o H→X (f2 a' d' e' g' k' n' o') H')→b2 a d e g k n o X1 X E H K) (hI:I a d e g k n o H):l2 a d e g k n o X1 E H K:=
 loop_rule2 (fun r m H=>∃a d e g k n o,r=f2 a d e g k n o∧m=μ a d e g k n o H∧I a d e g k n o H) (by rintro _ _ _ ⟨a,d,e,g,k,n,o,rfl,rfl,hI⟩ X hX; exact h _ _ _ _ _ _ _ _ hI X fun a' d' e' g' k' n' o' H' hI hl=>hX _ _ _ ⟨a',d',e',g',k',n',o',rfl,rfl,hI⟩ hl) rfl ⟨_,_,_,_,_,_,_,rfl,rfl,hI⟩
theorem nok:nodesOk code [[0,0,1,1],[0,1,1,1,0,1,0,0,0,1,1],[1,1,1,0,0,1,1,1,0,1,0,0,0,1,1]]=true:=by kernel_rfl
def run_t (l1:S1 Prop)(a:OA)(c:Int)(E:VP)(H:Hp)(K:KT):Prop:=
  Q41.call a c E H fun H1=>
  l1 a H1
theorem run_eq (h:run_t (fun a H=>l1 a E H K) a c E H K):run a c E H K:=by
  exact nodeR_imp2 (fun G=>run_t (fun a H=>G [0,0,1,1] (f1 a) H) a c E H K) nok rfl (fun G=>by kernel_rfl) (Eq.mp (by kernel_rfl) h)
def j1_t (a:OA)(d:Int)(e:OA)(g k:Nat)(n o:Int)(X1 X2:FP)(E:VP)(H:Hp)(K:KT):Prop:=
  X2 (f2 a d e g k n (IntKind.wrap .i64 (o+1))) H
theorem j1_eq (h:j1_t a d e g k n o X1 X2 E H K):j1 a d e g k n o X1 X2 E H K:=by
  exact nodeR_imp2 (fun _=>j1_t a d e g k n o X1 X2 E H K) nok rfl (fun G=>by kernel_rfl) h
def b1_t (l2:S2 Prop)(a:OA)(X1:FP)(E:VP)(H:Hp)(K:KT):Prop:=
  nn a fun B1 o1=>
  ldS (H.get B1 (o1+7)) fun x1p x1n x1c=>
  bcase (decide ((0:Int)<(x1n:Int))) (
  nn a fun B2 o2=>
  ldS (H.get B2 (o2+7)) fun x2p x2n x2c=>
  ix x2p x2n 0 1 fun B3 o3=>
  ldI .i64 (H.get B3 o3) fun x3=>
  nn a fun B4 o4=>
  ldS (H.get B4 (o4+7)) fun x4p x4n x4c=>
  ((0:Int)≤1∧1≤(x4n:Int))∧
  nn a fun B5 o5=>
  stC H B5 (o5+7) [.slice (slp x4p 1 x4c 1) (x4n-1) (x4c-1)] fun H1=>
  nn a fun B6 o6=>
  ldS (H1.get B6 (o6+2)) fun x5p x5n x5c=>
  ix x5p x5n x3 1 fun B7 o7=>
  ldS (H1.get B7 o7) fun x6p x6n x6c=>
  l2 a x3 x6p x6n x6c (x6n:Int) 0 H1)
  (K (-1) H)
theorem b1_eq (h:b1_t (fun a d e g k n o H=>l2 a d e g k n o X1 E H K) a X1 E H K):b1 a X1 E H K:=by
  exact nodeR_imp2 (fun G=>b1_t (fun a d e g k n o H=>G [0,1,1,1,0,1,0,0,0,1,1] (f2 a d e g k n o) H) a X1 E H K) nok rfl (fun G=>by kernel_rfl) (Eq.mp (by kernel_rfl) h)
def b2_t (j1:OA→Int→OA→Nat→Nat→Int→Int→Hp→Prop)(a:OA)(d:Int)(e:OA)(g k:Nat)(n o:Int)(X1 X2:FP)(E:VP)(H:Hp)(K:KT):Prop:=
  bcase (decide ((o:Int)<n)) (
  ix e g o 1 fun B1 o1=>
  ldI .i64 (H.get B1 o1) fun x1=>
  Q31.call a x1 d E H fun r1 H1=>
  nn a fun B2 o2=>
  ldS (H1.get B2 (o2+4)) fun x2p x2n x2c=>
  ix x2p x2n r1 1 fun B3 o3=>
  ldI .i64 (H1.get B3 o3) fun x3=>
  nn a fun B4 o4=>
  ldS (H1.get B4 (o4+4)) fun x4p x4n x4c=>
  ix x4p x4n d 1 fun B5 o5=>
  ldI .i64 (H1.get B5 o5) fun x5=>
  bcase (decide ((x3:Int)=x5)) (
  j1 a d e g k n o H1)
  (nn a fun B6 o6=>
  ldS (H1.get B6 (o6+3)) fun x6p x6n x6c=>
  ix x6p x6n d 1 fun B7 o7=>
  ldI .i64 (H1.get B7 o7) fun x7=>
  bcase (decide ((x7:Int)=x1)) (
  j1 a d e g k n o H1)
  (nn a fun B8 o8=>
  ldS (H1.get B8 (o8+6)) fun x8p x8n x8c=>
  ix x8p x8n r1 1 fun B9 o9=>
  ldB (H1.get B9 o9) fun x9=>
  bcase (x9) (
  Q42.call a x1 E H1 fun H2=>
  j1 a d e g k n o H2)
  (nn a fun B10 o10=>
  ldS (H1.get B10 (o10+5)) fun x10p x10n x10c=>
  ix x10p x10n r1 1 fun B11 o11=>
  ldI .i64 (H1.get B11 o11) fun x11=>
  bcase (decide ((x11:Int)<0)) (
  nn a fun B12 o12=>
  ldS (H1.get B12 (o12+5)) fun x12p x12n x12c=>
  ix x12p x12n r1 1 fun B13 o13=>
  stC H1 B13 o13 [.int .i64 x1] fun H3=>
  nn a fun B14 o14=>
  ldS (H3.get B14 (o14+3)) fun x13p x13n x13c=>
  ix x13p x13n r1 1 fun B15 o15=>
  ldI .i64 (H3.get B15 o15) fun x14=>
  bcase (decide ((x14:Int)<0)) (
  K r1 H3)
  (Q29.call a r1 E H3 fun r2 H4=>
  nn a fun B16 o16=>
  ldS (H4.get B16 (o16+6)) fun x15p x15n x15c=>
  ix x15p x15n r2 1 fun B17 o17=>
  stC H4 B17 o17 [.bool true] fun H5=>
  nn a fun B18 o18=>
  ldS (H5.get B18 (o18+7)) fun x16p x16n x16c=>
  nw H5 ⟨[.int .i64 r2],3⟩ fun B19 H6=>
  appM 3 [.i .i64] 8 x16p x16n x16c (some ⟨B19,0,none⟩) 1 H6 fun a1p a1n a1c H7=>
  nn a fun B20 o19=>
  stC H7 B20 (o19+7) [.slice a1p a1n a1c] fun H8=>
  j1 a d e g k n o H8))
  (j1 a d e g k n o H1)))))
  (X1 (f1 a) H)
theorem b2_eq (h:b2_t (fun a d e g k n o H=>j1 a d e g k n o X1 X2 E H K) a d e g k n o X1 X2 E H K):b2 a d e g k n o X1 X2 E H K:=by
  exact nodeR_imp2 (fun G=>b2_t (fun a d e g k n o H=>G [1,1,1,0,0,1,1,1,0,1,0,0,0,1,1] (f2 a d e g k n o) H) a d e g k n o X1 X2 E H K) nok rfl (fun G=>by kernel_rfl) (Eq.mp (by kernel_rfl) h)
end
end Q28
namespace Q29
abbrev KT:=Int→Hp→Prop
section
variable (a:OA)(c:Int)(E:VP)(H:Hp)(K:KT)
noncomputable def A:An:={ live:=[(0,[0,1]),(1,[0,1])],ord:=[],stb:=[],pre:=[] }
noncomputable def code:Code:=bodyOf Go.Proofs.Try.f53
def rq:Ex→FP:=retQ T0 [.tmp 4] [3] (fun r H=>ldR (.one false [.i .i64]) r fun u=>K (asI u) H) E
def run:Prop:=nodeM P0 T0 A code [] [] (rq E K) (argF 0 [.pointer a,.int .i64 c]) H
variable {a c E H K}
theorem ok:okCode A 15 code=true:=by kernel_rfl
theorem of (h:run a c E H K):call a c E H K:=
  callW_of T0_ok P0_mixed (A:=A) (fn:=Go.Proofs.Try.f53) Go.Proofs.Try.func53 rfl ok rfl h
theorem nok:nodesOk code []=true:=by kernel_rfl
def run_t (a:OA)(c:Int)(E:VP)(H:Hp)(K:KT):Prop:=
  nn a fun B1 o1=>
  ldS (H.get B1 (o1+3)) fun x1p x1n x1c=>
  ix x1p x1n c 1 fun B2 o2=>
  ldI .i64 (H.get B2 o2) fun x2=>
  Q31.call a x2 c E H fun r1 H1=>
  K r1 H1
theorem run_eq (h:run_t a c E H K):run a c E H K:=by
  exact nodeR_imp2 (fun _=>run_t a c E H K) nok rfl (fun G=>by kernel_rfl) h
end
end Q29
namespace Q30
abbrev KT:=Bool→Hp→Prop
section
variable (a:Int)(c d e g i k:Nat)(E:VP)(H:Hp)(K:KT)
noncomputable def A:An:={ live:=[(0,[0,1,2,3]),(1,[0,1,2,3])],ord:=[(1,[0,1,2,3,4,5,6,7])],stb:=[(1,[(4,[0])])],pre:=[(1,[[],[],[],[],[1,2,3],[0,1,2,3,4],[0,1,2,3,4,5],[0,1,2,3,4,5,6]])] }
noncomputable def code:Code:=bodyOf Go.Proofs.Try.f54
def rq:Ex→FP:=retQ T0 [.tmp 5] [4] (fun r H=>ldR (.one false [.bool]) r fun u=>K (asB u) H) E
def run:Prop:=nodeM P0 T0 A code [] [] (rq E K) (argF 0 [.int .i64 a,.pointer (some ⟨c,d,none⟩),.pointer (some ⟨e,g,none⟩),.pointer (some ⟨i,k,none⟩)]) H
variable {a c d e g i k E H K}
theorem ok:okCode A 13 code=true:=by kernel_rfl
theorem of (h:run a c d e g i k E H K):call a c d e g i k E H K:=
  callW_of T0_ok P0_mixed (A:=A) (fn:=Go.Proofs.Try.f54) Go.Proofs.Try.func54 rfl ok rfl h
theorem nok:nodesOk code []=true:=by kernel_rfl
def run_t (a:Int)(c d e g i k:Nat)(E:VP)(H:Hp)(K:KT):Prop:=
  ldS (H.get c d) fun x1p x1n x1c=>
  ldP (H.get e g) fun x2=>
  ldI .i64 (H.get i k) fun x3=>
  Q31.call x2 a x3 E H fun r1 H1=>
  (ldS (H1.get c d) fun x5p x5n x5c=>
  Value.slice x5p x5n x5c=Value.slice x1p x1n x1c)∧
  ix x1p x1n r1 1 fun B1 o1=>
  ldB (H1.get B1 o1) fun x4=>
  K x4 H1
theorem run_eq (h:run_t a c d e g i k E H K):run a c d e g i k E H K:=by
  exact nodeR_imp2 (fun _=>run_t a c d e g i k E H K) nok rfl (fun G=>by kernel_rfl) h
end
end Q30
namespace Q31
abbrev KT:=Int→Hp→Prop
section
variable (a:OA)(c d:Int)(E:VP)(H:Hp)(K:KT)
noncomputable def A:An:={ live:=[(0,[0,1,2]),(1,[0,1,2])],ord:=[(1,[0,1,2,3,4,5,6,7,8,9,10,11,12,13,14,15,16,17,18,19,20,21])],stb:=[],pre:=[(1,[[],[0],[0,1],[0,1,2],[0,1,2,3],[],[0,1,2,3,4,5],[0,1,2,3,4,5,6],[0,1,2,3,4,5,6,7],[],[9],[9,10],[9,10,11],[9,10,11,12],[],[9,10,11,12,13,14],[9,10,11,12,13,14,15],[9,10,11,12,13,14,15,16],[0,1,2,3,4,5,6,7,8,9,10,11,12,13,14,15,16,17],[],[0,1,2,3,4,5,6,7,8,9,10,11,12,13,14,15,16,17,18,19],[0,1,2,3,4,5,6,7,8,9,10,11,12,13,14,15,16,17,18,19,20]])] }
noncomputable def code:Code:=bodyOf Go.Proofs.Try.f55
def rq:Ex→FP:=retQ T0 [.tmp 6] [3] (fun r H=>ldR (.one false [.i .i64]) r fun u=>K (asI u) H) E
def run:Prop:=nodeM P0 T0 A code [] [] (rq E K) (argF 0 [.pointer a,.int .i64 c,.int .i64 d]) H
variable {a c d E H K}
theorem ok:okCode A 28 code=true:=by kernel_rfl
theorem of (h:run a c d E H K):call a c d E H K:=
  callW_of T0_ok P0_mixed (A:=A) (fn:=Go.Proofs.Try.f55) Go.Proofs.Try.func55 rfl ok rfl h
theorem nok:nodesOk code []=true:=by kernel_rfl
def run_t (a:OA)(c d:Int)(E:VP)(H:Hp)(K:KT):Prop:=
  nn a fun B1 o1=>
  ldS (H.get B1 (o1+1)) fun x1p x1n x1c=>
  ix x1p x1n c 4 fun B2 o2=>
  ldI .i64 (H.get B2 o2) fun x2=>
  nn a fun B3 o3=>
  ldS (H.get B3 (o3+1)) fun x3p x3n x3c=>
  ix x3p x3n c 4 fun B4 o4=>
  ldI .i64 (H.get B4 (o4+1)) fun x4=>
  K (IntKind.wrap .i64 ((IntKind.wrap .i64 (x2+x4))-d)) H
theorem run_eq (h:run_t a c d E H K):run a c d E H K:=by
  exact nodeR_imp2 (fun _=>run_t a c d E H K) nok rfl (fun G=>by kernel_rfl) h
end
end Q31
namespace Q41
abbrev KT:=Hp→Prop
abbrev S1 (α:Type):=OA→Int→Int→Int→Hp→α
section
variable (a:OA)(c d e:Int)(X1:FP)(E:VP)(H:Hp)(K:KT)
noncomputable def A:An:={ live:=[(0,[0,1]),(1,[0,1,4]),(2,[0,1,4]),(3,[0,1,26,27]),(4,[0,1,26,27]),(5,[0,1,5,26,27]),(6,[0,1,26,27]),(7,[0,1]),(8,[0,1])],ord:=[(1,[0,1,2,3,4,5,6,7,8,9,10,11,12,13,14,15,16,17]),(5,[0,1,2,3,4,5,6,7,8,9,10,11,12,13,14])],stb:=[],pre:=[(1,[[],[],[],[],[3],[],[5],[],[7],[0,3,4],[0,3,4,9],[0,3,4,9,10],[0,1,3,4,5,6,9,10,11],[0,1,3,4,5,6,9,10,11,12],[0,1,3,4,5,6,9,10,11,12,13],[0,1,2,3,4,5,6,7,8,9,10,11,12,13,14],[0,1,2,3,4,5,6,7,8,9,10,11,12,13,14,15],[0,1,2,3,4,5,6,7,8,9,10,11,12,13,14,15,16]]),(5,[[],[0],[0,1],[0,1,2],[],[],[5],[5,6],[5,6,7],[],[],[0,1,2,3,4,5,6,7,8,10],[0,1,2,3,4,5,6,7,8,10,11],[0,1,2,3,4,5,6,7,8,9,10,11,12],[0,1,2,3,4,5,6,7,8,9,10,11,12,13]])] }
noncomputable def code:Code:=bodyOf Go.Proofs.Try.f75
def rq:Ex→FP:=retQ T0 [] [] (fun r H=>ldR (.tup []) r fun u=>K H) E
noncomputable def f1:Fr:=[(0,.pointer a),(1,.int .i64 c),(26,.int .i64 d),(27,.int .i64 e)]
def run:Prop:=nodeM P0 T0 A code [] [] (rq E K) (argF 0 [.pointer a,.int .i64 c]) H
def j1:Prop:=nodeM P0 T0 A code [1,1,1] [] (rq E K) [(0,.pointer a),(1,.int .i64 c)] H
def l1:Prop:=nodeM P0 T0 A code [1,1,0,1,0] [] (rq E K) (f1 a c d e) H
def b1:Prop:=nodeM P0 T0 A code [1,1,0,1,0,0] [X1] (rq E K) (f1 a c d e) H
variable {a c d e X1 E H K}
theorem ok:okCode A 55 code=true:=by kernel_rfl
theorem of (h:run a c E H K):call a c E H K:=
  callW_of T0_ok P0_mixed (A:=A) (fn:=Go.Proofs.Try.f75) Go.Proofs.Try.func75 rfl ok rfl h
theorem l1_rule (I:S1 Prop) (μ:S1 Nat)
 (h:∀a c d e H,I a c d e H→∀X:FP,(∀a' c' d' e' H',I a' c' d' e' H'→μ a' c' d' e' H'<μ a c d e H→X (f1 a' c' d' e') H')→b1 a c d e X E H K) (hI:I a c d e H):l1 a c d e E H K:=
 loop_rule2 (fun r m H=>∃a c d e,r=f1 a c d e∧m=μ a c d e H∧I a c d e H) (by rintro _ _ _ ⟨a,c,d,e,rfl,rfl,hI⟩ X hX; exact h _ _ _ _ _ hI X fun a' c' d' e' H' hI hl=>hX _ _ _ ⟨a',c',d',e',rfl,rfl,hI⟩ hl) rfl ⟨_,_,_,_,rfl,rfl,hI⟩
theorem nok:nodesOk code [[0,1,0,1,1],[1,1,1]]=true:=by kernel_rfl
def run_t (l1:S1 Prop)(a:OA)(c:Int)(E:VP)(H:Hp)(K:KT):Prop:=
  nn a fun B1 o1=>
  ldI .i64 (H.get B1 o1) fun x1=>
  mkS x1 x1 3 [.i .i64] 8 H fun B2 H1=>
  mkS x1 x1 3 [.i .i64] 8 H1 fun B3 H2=>
  mkS x1 x1 4 [.bool] 1 H2 fun B4 H3=>
  nn a fun B5 o2=>
  stC H3 B5 (o2+4) [.slice (some ⟨B2,0,none⟩) x1.toNat x1.toNat] fun H4=>
  nn a fun B6 o3=>
  stC H4 B6 (o3+5) [.slice (some ⟨B3,0,none⟩) x1.toNat x1.toNat] fun H5=>
  nn a fun B7 o4=>
  stC H5 B7 (o4+6) [.slice (some ⟨B4,0,none⟩) x1.toNat x1.toNat] fun H6=>
  l1 a c x1 0 H6
theorem run_eq (h:run_t (fun a c d e H=>l1 a c d e E H K) a c E H K):run a c E H K:=by
  exact nodeR_imp2 (fun G=>run_t (fun a c d e H=>G [0,1,0,1,1] (f1 a c d e) H) a c E H K) nok rfl (fun G=>by kernel_rfl) (Eq.mp (by kernel_rfl) h)
def j1_t (a:OA)(c:Int)(E:VP)(H:Hp)(K:KT):Prop:=
  nn a fun B1 o1=>
  ldS (H.get B1 (o1+6)) fun x1p x1n x1c=>
  ix x1p x1n c 1 fun B2 o2=>
  stC H B2 o2 [.bool true] fun H1=>
  nw H1 ⟨[.int .i64 c],3⟩ fun B3 H2=>
  nn a fun B4 o3=>
  stC H2 B4 (o3+7) [.slice (some ⟨B3,0,none⟩) 1 1] fun H3=>
  K H3
theorem j1_eq (h:j1_t a c E H K):j1 a c E H K:=by
  exact nodeR_imp2 (fun _=>j1_t a c E H K) nok rfl (fun G=>by kernel_rfl) h
def b1_t (j1:OA→Int→Hp→Prop)(a:OA)(c d e:Int)(X1:FP)(E:VP)(H:Hp)(K:KT):Prop:=
  bcase (decide ((e:Int)<d)) (
  nn a fun B1 o1=>
  ldS (H.get B1 (o1+4)) fun x1p x1n x1c=>
  nn a fun B2 o2=>
  ldS (H.get B2 (o2+5)) fun x2p x2n x2c=>
  ix x1p x1n e 1 fun B3 o3=>
  stC H B3 o3 [.int .i64 e] fun H1=>
  ix x2p x2n e 1 fun B4 o4=>
  stC H1 B4 o4 [.int .i64 (-1)] fun H2=>
  X1 (f1 a c d (IntKind.wrap .i64 (e+1))) H2)
  (j1 a c H)
theorem b1_eq (h:b1_t (fun a c H=>j1 a c E H K) a c d e X1 E H K):b1 a c d e X1 E H K:=by
  exact nodeR_imp2 (fun G=>b1_t (fun a c H=>G [1,1,1] [(0,.pointer a),(1,.int .i64 c)] H) a c d e X1 E H K) nok rfl (fun G=>by kernel_rfl) (Eq.mp (by kernel_rfl) h)
end
end Q41
namespace Q42
abbrev KT:=Hp→Prop
abbrev S1 (α:Type):=OA→Int→OA→Nat→Nat→Int→Int→Hp→α
section
variable (a:OA)(c d:Int)(e:OA)(g k:Nat)(n o:Int)(X1:FP)(E:VP)(H:Hp)(K:KT)
noncomputable def A:An:={ live:=[(0,[0,1]),(1,[0,1,4,5]),(2,[0,1,4,5,6]),(3,[0,1,4,5,6,7]),(4,[0,1,5,6,7]),(5,[0,6,7]),(6,[0,6,7,50,51]),(7,[0,6,7,50,51]),(8,[0,6,7,8,50,51]),(9,[0,6,7,8,50,51]),(10,[0,6,7,8,50,51]),(11,[0,6,7,8,50,51]),(12,[0,6,7,8,50,51]),(13,[0,6,7,50,51])],ord:=[(0,[0,1,2,3,4,5,6,7,8,9,10,11,12,13,14,15,16,17,18,19])],stb:=[],pre:=[(0,[[],[0],[0,1],[0,1,2],[0,1,2,3],[],[0,1,2,3,4,5],[0,1,2,3,4,5,6],[0,1,2,3,4,5,6,7],[],[9],[9,10],[9,10,11],[9,10,11,12],[],[9,10,11,12,13,14],[9,10,11,12,13,14,15],[9,10,11,12,13,14,15,16],[0,1,2,3,4,5,6,7,8],[0,1,2,3,4,5,6,7,8,9,10,11,12,13,14,15,16,17,18]])] }
noncomputable def code:Code:=bodyOf Go.Proofs.Try.f76
def rq:Ex→FP:=retQ T0 [] [] (fun r H=>ldR (.tup []) r fun u=>K H) E
noncomputable def f1:Fr:=[(0,.pointer a),(6,.int .i64 d),(7,.slice e g k),(50,.int .i64 n),(51,.int .i64 o)]
def run:Prop:=nodeM P0 T0 A code [] [] (rq E K) (argF 0 [.pointer a,.int .i64 c]) H
def j1:Prop:=nodeM P0 T0 A code [1,1,1,1,1,1,0,0,1,1,1] [X1] (rq E K) (f1 a d e g k n o) H
def l1:Prop:=nodeM P0 T0 A code [1,1,1,1,1,1,0] [] (rq E K) (f1 a d e g k n o) H
def b1:Prop:=nodeM P0 T0 A code [1,1,1,1,1,1,0,0] [X1] (rq E K) (f1 a d e g k n o) H
variable {a c d e g k n o X1 E H K}
theorem ok:okCode A 96 code=true:=by kernel_rfl
theorem of (h:run a c E H K):call a c E H K:=
  callW_of T0_ok P0_mixed (A:=A) (fn:=Go.Proofs.Try.f76) Go.Proofs.Try.func76 rfl ok rfl h
theorem l1_rule (I:S1 Prop) (μ:S1 Nat)
 (h:∀a d e g k n o H,I a d e g k n o H→∀X:FP,(∀a' d' e' g' k' n' o' H',I a' d' e' g' k' n' o' H'→μ a' d' e' g' k' n' o' H'<μ a d e g k n o H→X (f1 a' d' e' g' k' n' o') H')→b1 a d e g k n o X E H K) (hI:I a d e g k n o H):l1 a d e g k n o E H K:=
 loop_rule2 (fun r m H=>∃a d e g k n o,r=f1 a d e g k n o∧m=μ a d e g k n o H∧I a d e g k n o H) (by rintro _ _ _ ⟨a,d,e,g,k,n,o,rfl,rfl,hI⟩ X hX; exact h _ _ _ _ _ _ _ _ hI X fun a' d' e' g' k' n' o' H' hI hl=>hX _ _ _ ⟨a',d',e',g',k',n',o',rfl,rfl,hI⟩ hl) rfl ⟨_,_,_,_,_,_,_,rfl,rfl,hI⟩
theorem nok:nodesOk code [[0,1,1,1,1,1,1],[1,1,1,0,0,1,1,1,1,1,1]]=true:=by kernel_rfl
def run_t (l1:S1 Prop)(a:OA)(c:Int)(E:VP)(H:Hp)(K:KT):Prop:=
  nn a fun B1 o1=>
  ldS (H.get B1 (o1+1)) fun x1p x1n x1c=>
  ix x1p x1n c 4 fun B2 o2=>
  ldI .i64 (H.get B2 o2) fun x2=>
  nn a fun B3 o3=>
  ldS (H.get B3 (o3+1)) fun x3p x3n x3c=>
  ix x3p x3n c 4 fun B4 o4=>
  ldI .i64 (H.get B4 (o4+1)) fun x4=>
  Q47.call a x2 x4 E H fun r1 H1=>
  nn a fun B5 o5=>
  ldI .i64 (H1.get B5 o5) fun x5=>
  mkS x5 x5 4 [.bool] 1 H1 fun B6 H2=>
  Q48.call a x2 r1 c (some ⟨B6,0,none⟩) x5.toNat x5.toNat E H2 fun H3=>
  Q48.call a x4 r1 c (some ⟨B6,0,none⟩) x5.toNat x5.toNat E H3 fun H4=>
  l1 a r1 (some ⟨B6,0,none⟩) x5.toNat x5.toNat (x5.toNat:Int) 0 H4
theorem run_eq (h:run_t (fun a d e g k n o H=>l1 a d e g k n o E H K) a c E H K):run a c E H K:=by
  exact nodeR_imp2 (fun G=>run_t (fun a d e g k n o H=>G [0,1,1,1,1,1,1] (f1 a d e g k n o) H) a c E H K) nok rfl (fun G=>by kernel_rfl) (Eq.mp (by kernel_rfl) h)
def j1_t (a:OA)(d:Int)(e:OA)(g k:Nat)(n o:Int)(X1:FP)(E:VP)(H:Hp)(K:KT):Prop:=
  X1 (f1 a d e g k n (IntKind.wrap .i64 (o+1))) H
theorem j1_eq (h:j1_t a d e g k n o X1 E H K):j1 a d e g k n o X1 E H K:=by
  exact nodeR_imp2 (fun _=>j1_t a d e g k n o X1 E H K) nok rfl (fun G=>by kernel_rfl) h
def b1_t (j1:OA→Int→OA→Nat→Nat→Int→Int→Hp→Prop)(a:OA)(d:Int)(e:OA)(g k:Nat)(n o:Int)(X1:FP)(E:VP)(H:Hp)(K:KT):Prop:=
  bcase (decide ((o:Int)<n)) (
  nn a fun B1 o1=>
  ldS (H.get B1 (o1+4)) fun x1p x1n x1c=>
  ix x1p x1n o 1 fun B2 o2=>
  ldI .i64 (H.get B2 o2) fun x2=>
  ix e g x2 1 fun B3 o3=>
  ldB (H.get B3 o3) fun x3=>
  bcase (x3) (
  nn a fun B4 o4=>
  ldS (H.get B4 (o4+4)) fun x4p x4n x4c=>
  ix x4p x4n o 1 fun B5 o5=>
  stC H B5 o5 [.int .i64 d] fun H1=>
  nn a fun B6 o6=>
  ldS (H1.get B6 (o6+6)) fun x5p x5n x5c=>
  ix x5p x5n o 1 fun B7 o7=>
  ldB (H1.get B7 o7) fun x6=>
  bcase ((!x6)) (
  nn a fun B8 o8=>
  ldS (H1.get B8 (o8+6)) fun x7p x7n x7c=>
  ix x7p x7n o 1 fun B9 o9=>
  stC H1 B9 o9 [.bool true] fun H2=>
  nn a fun B10 o10=>
  ldS (H2.get B10 (o10+7)) fun x8p x8n x8c=>
  nw H2 ⟨[.int .i64 o],3⟩ fun B11 H3=>
  appM 3 [.i .i64] 8 x8p x8n x8c (some ⟨B11,0,none⟩) 1 H3 fun a1p a1n a1c H4=>
  nn a fun B12 o11=>
  stC H4 B12 (o11+7) [.slice a1p a1n a1c] fun H5=>
  j1 a d e g k n o H5)
  (j1 a d e g k n o H1))
  (j1 a d e g k n o H))
  (K H)
theorem b1_eq (h:b1_t (fun a d e g k n o H=>j1 a d e g k n o X1 E H K) a d e g k n o X1 E H K):b1 a d e g k n o X1 E H K:=by
  exact nodeR_imp2 (fun G=>b1_t (fun a d e g k n o H=>G [1,1,1,0,0,1,1,1,1,1,1] (f1 a d e g k n o) H) a d e g k n o X1 E H K) nok rfl (fun G=>by kernel_rfl) (Eq.mp (by kernel_rfl) h)
end
end Q42
namespace Q47
abbrev KT:=Int→Hp→Prop
abbrev S1 (α:Type):=OA→Int→Int→OA→Nat→Nat→Hp→α
abbrev S2 (α:Type):=OA→Int→OA→Nat→Nat→Hp→α
section
variable (a:OA)(c d:Int)(e:OA)(g k:Nat)(X1:FP)(E:VP)(H:Hp)(K:KT)
noncomputable def A:An:={ live:=[(0,[0,1,2]),(1,[0,1,2]),(2,[0,1,2,7]),(3,[0,1,2,7]),(4,[0,1,2,7]),(5,[0,1,2,7]),(6,[0,2,7,8]),(7,[0,2,7,8]),(8,[0,2,7]),(9,[0,2,7]),(10,[2]),(11,[0,2,7]),(12,[0,7,9])],ord:=[],stb:=[],pre:=[] }
noncomputable def code:Code:=bodyOf Go.Proofs.Try.f94
def rq:Ex→FP:=retQ T0 [.tmp 6] [3] (fun r H=>ldR (.one false [.i .i64]) r fun u=>K (asI u) H) E
noncomputable def f1:Fr:=[(0,.pointer a),(1,.int .i64 c),(2,.int .i64 d),(7,.slice e g k)]
noncomputable def f2:Fr:=[(0,.pointer a),(2,.int .i64 d),(7,.slice e g k)]
def run:Prop:=nodeM P0 T0 A code [] [] (rq E K) (argF 0 [.pointer a,.int .i64 c,.int .i64 d]) H
def j1:Prop:=nodeM P0 T0 A code [1,1,1] [] (rq E K) (f2 a d e g k) H
def l1:Prop:=nodeM P0 T0 A code [1,1,0,0] [] (rq E K) (f1 a c d e g k) H
def b1:Prop:=nodeM P0 T0 A code [1,1,0,0,0] [X1] (rq E K) (f1 a c d e g k) H
def l2:Prop:=nodeM P0 T0 A code [1,1,1,0] [] (rq E K) (f2 a d e g k) H
def b2:Prop:=nodeM P0 T0 A code [1,1,1,0,0] [X1] (rq E K) (f2 a d e g k) H
variable {a c d e g k X1 E H K}
theorem ok:okCode A 80 code=true:=by kernel_rfl
theorem of (h:run a c d E H K):call a c d E H K:=
  callW_of T0_ok P0_mixed (A:=A) (fn:=Go.Proofs.Try.f94) Go.Proofs.Try.func94 rfl ok rfl h
theorem l1_rule (I:S1 Prop) (μ:S1 Nat)
 (h:∀a c d e g k H,I a c d e g k H→∀X:FP,(∀a' c' d' e' g' k' H',I a' c' d' e' g' k' H'→μ a' c' d' e' g' k' H'<μ a c d e g k H→X (f1 a' c' d' e' g' k') H')→b1 a c d e g k X E H K) (hI:I a c d e g k H):l1 a c d e g k E H K:=
 loop_rule2 (fun r m H=>∃a c d e g k,r=f1 a c d e g k∧m=μ a c d e g k H∧I a c d e g k H) (by rintro _ _ _ ⟨a,c,d,e,g,k,rfl,rfl,hI⟩ X hX; exact h _ _ _ _ _ _ _ hI X fun a' c' d' e' g' k' H' hI hl=>hX _ _ _ ⟨a',c',d',e',g',k',rfl,rfl,hI⟩ hl) rfl ⟨_,_,_,_,_,_,rfl,rfl,hI⟩
theorem l2_rule (I:S2 Prop) (μ:S2 Nat)
 (h:∀a d e g k H,I a d e g k H→∀X:FP,(∀a' d' e' g' k' H',I a' d' e' g' k' H'→μ a' d' e' g' k' H'<μ a d e g k H→X (f2 a' d' e' g' k') H')→b2 a d e g k X E H K) (hI:I a d e g k H):l2 a d e g k E H K:=
 loop_rule2 (fun r m H=>∃a d e g k,r=f2 a d e g k∧m=μ a d e g k H∧I a d e g k H) (by rintro _ _ _ ⟨a,d,e,g,k,rfl,rfl,hI⟩ X hX; exact h _ _ _ _ _ _ hI X fun a' d' e' g' k' H' hI hl=>hX _ _ _ ⟨a',d',e',g',k',rfl,rfl,hI⟩ hl) rfl ⟨_,_,_,_,_,rfl,rfl,hI⟩
theorem nok:nodesOk code [[0,0,1,1],[1,1,1],[0,1,1,1]]=true:=by kernel_rfl
def run_t (l1:S1 Prop)(a:OA)(c d:Int)(E:VP)(H:Hp)(K:KT):Prop:=
  nn a fun B1 o1=>
  ldI .i64 (H.get B1 o1) fun x1=>
  mkS x1 x1 4 [.bool] 1 H fun B2 H1=>
  l1 a c d (some ⟨B2,0,none⟩) x1.toNat x1.toNat H1
theorem run_eq (h:run_t (fun a c d e g k H=>l1 a c d e g k E H K) a c d E H K):run a c d E H K:=by
  exact nodeR_imp2 (fun G=>run_t (fun a c d e g k H=>G [0,0,1,1] (f1 a c d e g k) H) a c d E H K) nok rfl (fun G=>by kernel_rfl) (Eq.mp (by kernel_rfl) h)
def j1_t (l2:S2 Prop)(a:OA)(d:Int)(e:OA)(g k:Nat)(E:VP)(H:Hp)(K:KT):Prop:=
  l2 a d e g k H
theorem j1_eq (h:j1_t (fun a d e g k H=>l2 a d e g k E H K) a d e g k E H K):j1 a d e g k E H K:=by
  exact nodeR_imp2 (fun G=>j1_t (fun a d e g k H=>G [0,1,1,1] (f2 a d e g k) H) a d e g k E H K) nok rfl (fun G=>by kernel_rfl) (Eq.mp (by kernel_rfl) h)
def b1_t (j1:OA→Int→OA→Nat→Nat→Hp→Prop)(a:OA)(c d:Int)(e:OA)(g k:Nat)(X1:FP)(E:VP)(H:Hp)(K:KT):Prop:=
  nn a fun B1 o1=>
  ldS (H.get B1 (o1+4)) fun x1p x1n x1c=>
  ix x1p x1n c 1 fun B2 o2=>
  ldI .i64 (H.get B2 o2) fun x2=>
  ix e g x2 1 fun B3 o3=>
  stC H B3 o3 [.bool true] fun H1=>
  nn a fun B4 o4=>
  ldS (H1.get B4 (o4+3)) fun x3p x3n x3c=>
  ix x3p x3n x2 1 fun B5 o5=>
  ldI .i64 (H1.get B5 o5) fun x4=>
  bcase (decide ((x4:Int)<0)) (
  j1 a d e g k H1)
  (Q29.call a x2 E H1 fun r1 H2=>
  nn a fun B6 o6=>
  ldS (H2.get B6 (o6+5)) fun x5p x5n x5c=>
  ix x5p x5n r1 1 fun B7 o7=>
  ldI .i64 (H2.get B7 o7) fun x6=>
  bcase (decide ((x6:Int)<0)) (
  j1 a d e g k H2)
  (nn a fun B8 o8=>
  ldS (H2.get B8 (o8+5)) fun x7p x7n x7c=>
  ix x7p x7n r1 1 fun B9 o9=>
  ldI .i64 (H2.get B9 o9) fun x8=>
  Q31.call a x8 r1 E H2 fun r2 H3=>
  X1 (f1 a r2 d e g k) H3))
theorem b1_eq (h:b1_t (fun a d e g k H=>j1 a d e g k E H K) a c d e g k X1 E H K):b1 a c d e g k X1 E H K:=by
  exact nodeR_imp2 (fun G=>b1_t (fun a d e g k H=>G [1,1,1] (f2 a d e g k) H) a c d e g k X1 E H K) nok rfl (fun G=>by kernel_rfl) (Eq.mp (by kernel_rfl) h)
def b2_t (a:OA)(d:Int)(e:OA)(g k:Nat)(X1:FP)(E:VP)(H:Hp)(K:KT):Prop:=
  nn a fun B1 o1=>
  ldS (H.get B1 (o1+4)) fun x1p x1n x1c=>
  ix x1p x1n d 1 fun B2 o2=>
  ldI .i64 (H.get B2 o2) fun x2=>
  ix e g x2 1 fun B3 o3=>
  ldB (H.get B3 o3) fun x3=>
  bcase (x3) (
  K x2 H)
  (Q29.call a x2 E H fun r1 H1=>
  nn a fun B4 o4=>
  ldS (H1.get B4 (o4+5)) fun x4p x4n x4c=>
  ix x4p x4n r1 1 fun B5 o5=>
  ldI .i64 (H1.get B5 o5) fun x5=>
  Q31.call a x5 r1 E H1 fun r2 H2=>
  X1 (f2 a r2 e g k) H2)
theorem b2_eq (h:b2_t a d e g k X1 E H K):b2 a d e g k X1 E H K:=by
  exact nodeR_imp2 (fun _=>b2_t a d e g k X1 E H K) nok rfl (fun G=>by kernel_rfl) h
end
end Q47
namespace Q48
abbrev KT:=Hp→Prop
abbrev S1 (α:Type):=OA→Int→Int→Int→OA→Nat→Nat→Hp→α
section
variable (a:OA)(c d e:Int)(g:OA)(i k:Nat)(X1:FP)(E:VP)(H:Hp)(K:KT)
noncomputable def A:An:={ live:=[(0,[0,1,2,3,4]),(1,[0,1,2,3,4]),(2,[0,1,2,3,4,10]),(3,[0,1,2,3,4,10]),(4,[0,2,4,10]),(5,[0,2,3,4,10])],ord:=[(2,[0,1,2,3,4,5,6,7,8,9,10,11,12,13,14,15,16,17,18,19])],stb:=[],pre:=[(2,[[],[],[1],[1,2],[1,2,3],[],[1,2,3,4,5],[1,2,3,4,5,6],[],[],[9],[9,10],[9,10,11],[],[9,10,11,12,13],[9,10,11,12,13,14],[0,1,2,3,4,5,6,7,9,10,11,12,13,14,15],[0,1,2,3,4,5,6,7,9,10,11,12,13,14,15,16],[0,1,2,3,4,5,6,7,8,9,10,11,12,13,14,15,16,17],[0,1,2,3,4,5,6,7,8,9,10,11,12,13,14,15,16,17,18]])] }
noncomputable def code:Code:=bodyOf Go.Proofs.Try.f95
def rq:Ex→FP:=retQ T0 [] [] (fun r H=>ldR (.tup []) r fun u=>K H) E
noncomputable def f1:Fr:=[(0,.pointer a),(1,.int .i64 c),(2,.int .i64 d),(3,.int .i64 e),(4,.slice g i k)]
def run:Prop:=nodeM P0 T0 A code [] [] (rq E K) (argF 0 [.pointer a,.int .i64 c,.int .i64 d,.int .i64 e,.slice g i k]) H
def l1:Prop:=nodeM P0 T0 A code [0] [] (rq E K) (f1 a c d e g i k) H
def b1:Prop:=nodeM P0 T0 A code [0,0] [X1] (rq E K) (f1 a c d e g i k) H
variable {a c d e g i k X1 E H K}
theorem ok:okCode A 59 code=true:=by kernel_rfl
theorem of (h:run a c d e g i k E H K):call a c d e g i k E H K:=
  callW_of T0_ok P0_mixed (A:=A) (fn:=Go.Proofs.Try.f95) Go.Proofs.Try.func95 rfl ok rfl h
theorem l1_rule (I:S1 Prop) (μ:S1 Nat)
 (h:∀a c d e g i k H,I a c d e g i k H→∀X:FP,(∀a' c' d' e' g' i' k' H',I a' c' d' e' g' i' k' H'→μ a' c' d' e' g' i' k' H'<μ a c d e g i k H→X (f1 a' c' d' e' g' i' k') H')→b1 a c d e g i k X E H K) (hI:I a c d e g i k H):l1 a c d e g i k E H K:=
 loop_rule2 (fun r m H=>∃a c d e g i k,r=f1 a c d e g i k∧m=μ a c d e g i k H∧I a c d e g i k H) (by rintro _ _ _ ⟨a,c,d,e,g,i,k,rfl,rfl,hI⟩ X hX; exact h _ _ _ _ _ _ _ _ hI X fun a' c' d' e' g' i' k' H' hI hl=>hX _ _ _ ⟨a',c',d',e',g',i',k',rfl,rfl,hI⟩ hl) rfl ⟨_,_,_,_,_,_,_,rfl,rfl,hI⟩
theorem nok:nodesOk code [[0]]=true:=by kernel_rfl
def run_t (l1:S1 Prop)(a:OA)(c d e:Int)(g:OA)(i k:Nat)(E:VP)(H:Hp)(K:KT):Prop:=
  l1 a c d e g i k H
theorem run_eq (h:run_t (fun a c d e g i k H=>l1 a c d e g i k E H K) a c d e g i k E H K):run a c d e g i k E H K:=by
  exact nodeR_imp2 (fun G=>run_t (fun a c d e g i k H=>G [0] (f1 a c d e g i k) H) a c d e g i k E H K) nok rfl (fun G=>by kernel_rfl) (Eq.mp (by kernel_rfl) h)
def b1_t (a:OA)(c d e:Int)(g:OA)(i k:Nat)(X1:FP)(E:VP)(H:Hp)(K:KT):Prop:=
  nn a fun B1 o1=>
  ldS (H.get B1 (o1+4)) fun x1p x1n x1c=>
  ix x1p x1n c 1 fun B2 o2=>
  ldI .i64 (H.get B2 o2) fun x2=>
  bcase (!decide ((x2:Int)=d)) (
  Q29.call a c E H fun r1 H1=>
  nn a fun B3 o3=>
  ldS (H1.get B3 (o3+4)) fun x3p x3n x3c=>
  ix x3p x3n c 1 fun B4 o4=>
  ldI .i64 (H1.get B4 o4) fun x4=>
  nn a fun B5 o5=>
  ldS (H1.get B5 (o5+4)) fun x5p x5n x5c=>
  ix x5p x5n r1 1 fun B6 o6=>
  ldI .i64 (H1.get B6 o6) fun x6=>
  ix g i x4 1 fun B7 o7=>
  stC H1 B7 o7 [.bool true] fun H2=>
  ix g i x6 1 fun B8 o8=>
  stC H2 B8 o8 [.bool true] fun H3=>
  nn a fun B9 o9=>
  ldS (H3.get B9 (o9+5)) fun x7p x7n x7c=>
  ix x7p x7n c 1 fun B10 o10=>
  stC H3 B10 o10 [.int .i64 e] fun H4=>
  nn a fun B11 o11=>
  ldS (H4.get B11 (o11+5)) fun x8p x8n x8c=>
  ix x8p x8n r1 1 fun B12 o12=>
  ldI .i64 (H4.get B12 o12) fun x9=>
  Q31.call a x9 r1 E H4 fun r2 H5=>
  X1 (f1 a r2 d x9 g i k) H5)
  (K H)
theorem b1_eq (h:b1_t a c d e g i k X1 E H K):b1 a c d e g i k X1 E H K:=by
  exact nodeR_imp2 (fun _=>b1_t a c d e g i k X1 E H K) nok rfl (fun G=>by kernel_rfl) h
end
end Q48
end Go.Mz
