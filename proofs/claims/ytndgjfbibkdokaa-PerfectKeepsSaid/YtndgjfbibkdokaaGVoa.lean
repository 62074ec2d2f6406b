/-
  The shallow texts of functions (Voa), each with a kernel-checked equation to the translated code. It proves nothing of the program by itself.
-/
import Derived.Test.YtndgjfbibkdokaaTab
set_option linter.unusedVariables false
set_option maxRecDepth 100000
namespace Go.Mz
namespace Q10
abbrev KT:=Int→Int→Hp→Prop
section
variable (a:Int)(c:OA)(d e:Nat)(g:OA)(k n:Nat)(o:OA)(p q:Nat)(s:OA)(t v:Nat)(E:VP)(H:Hp)(K:KT)
noncomputable def A:An:={ live:=[(0,[0,1,2]),(1,[3,4,5]),(2,[3,4,5,8]),(3,[8,9])],ord:=[],stb:=[],pre:=[] }
noncomputable def code:Code:=bodyOf Go.Proofs.Try.f26
def rq:Ex→FP:=retQ T0 [.tmp 6,.tmp 7] [2,31] (fun r H=>ldR (.tup [(false,[.i .i64]),(false,[.i .i64])]) r fun u=>K (asI (tupV u 0)) (asI (tupV u 1)) H) E
def run:Prop:=nodeM P0 T0 A code [] [] (rq E K) (argF 0 [.agg ⟨[.int .i64 a,.slice c d e]⟩,.slice g k n,.agg ⟨[.slice o p q,.slice s t v]⟩]) H
variable {a c d e g k n o p q s t v E H K}
theorem ok:okCode A 14 code=true:=by kernel_rfl
theorem of (h:run a c d e g k n o p q s t v E H K):call a c d e g k n o p q s t v E H K:=
  callW_of T0_ok P0_mixed (A:=A) (fn:=Go.Proofs.Try.f26) Go.Proofs.Try.func26 rfl ok rfl h
theorem nok:nodesOk code []=true:=by kernel_rfl
def run_t (a:Int)(c:OA)(d e:Nat)(g:OA)(k n:Nat)(o:OA)(p q:Nat)(s:OA)(t v:Nat)(E:VP)(H:Hp)(K:KT):Prop:=
  nw H ⟨[.int .i64 a,.slice c d e],24⟩ fun B1 H1=>
  nw H1 ⟨[.slice g k n],26⟩ fun B2 H2=>
  nw H2 ⟨[.slice o p q,.slice s t v],30⟩ fun B3 H3=>
  nw H3 ⟨[.int .i64 0],2⟩ fun B4 H4=>
  stC H4 B4 0 [.int .i64 0] fun H5=>
  Q16.call 41 [Value.pointer (some ⟨B1,0,none⟩),Value.pointer (some ⟨B2,0,none⟩),Value.pointer (some ⟨B3,0,none⟩),Value.pointer (some ⟨B4,0,none⟩)] E H5 fun r1 H6=>
  ldI .i64 (H6.get B4 0) fun x1=>
  K x1 r1 H6
theorem run_eq (h:run_t a c d e g k n o p q s t v E H K):run a c d e g k n o p q s t v E H K:=by
  exact nodeR_imp2 (fun _=>run_t a c d e g k n o p q s t v E H K) nok rfl (fun G=>by kernel_rfl) h
end
end Q10
namespace Q17
abbrev KT:=Hp→Prop
abbrev S1 (α:Type):=Nat→Nat→Nat→Nat→Nat→Nat→Int→Nat→List Value→OA→Nat→Nat→Int→Int→Hp→α
section
variable (a p c q d t e v g w k y n:Nat)(z:Int)(o aa:Nat)(ab:List Value)(ac:OA)(ad ae:Nat)(ag ak:Int)(X1:FP)(E:VP)(H:Hp)(K:KT)
noncomputable def A:An:={ live:=[(0,[0,1,2,3]),(1,[0,1,2,3]),(2,[0,1,2,3]),(3,[0,1,2,3]),(4,[0,1,3,4,5]),(5,[0,1,3,4,5,28,29,30]),(6,[0,1,3,4,5,28,29,30]),(7,[0,1,3,4,5,7,28,29,30]),(8,[0,1,3,4,5,28,29,30]),(9,[0,1,3,4]),(10,[0,1,3])],ord:=[(7,[0,1,2,3,4,5,6,7,9,10,11,8,12,13,14])],stb:=[(7,[(8,[10])])],pre:=[(7,[[],[0],[0,1],[0,1,2],[0,1,2],[0,1,2,4],[0,1,2],[0,1,2,6],[0,1,2,3,4,5,6,7],[0,1,2],[0,1,2,9],[0,1,2,9,10],[0,1,2,3,4,5,6,7,8,9,10,11],[0,1,2,3,4,5,6,7,8,9,10,11,12],[0,1,2,3,4,5,6,7,8,9,10,11,12,13]])] }
noncomputable def code:Code:=bodyOf Go.Proofs.Try.f41
def rq:Ex→FP:=retQ T0 [] [] (fun r H=>ldR (.tup []) r fun u=>K H) E
noncomputable def f1:Fr:=[(0,.pointer (some ⟨p,q,none⟩)),(1,.pointer (some ⟨t,v,none⟩)),(3,.pointer (some ⟨w,y,none⟩)),(4,.int .i64 z),(5,.func (.func aa) ⟨[]⟩ ⟨ab⟩),(28,.slice ac ad ae),(29,.int .i64 ag),(30,.int .i64 ak)]
def run:Prop:=nodeM P0 T0 A code [] [] (rq E K) (argF 0 [.pointer (some ⟨a,c,none⟩),.pointer (some ⟨d,e,none⟩),.pointer (some ⟨g,k,none⟩),.pointer (some ⟨n,o,none⟩)]) H
def j1:Prop:=nodeM P0 T0 A code [1,1,1,1,0,1,0,0,1,1,1] [X1] (rq E K) (f1 p q t v w y z aa ab ac ad ae ag ak) H
def j2:Prop:=nodeM P0 T0 A code [1,1,1,1,1] [] (rq E K) [(0,.pointer (some ⟨p,q,none⟩)),(1,.pointer (some ⟨t,v,none⟩)),(3,.pointer (some ⟨w,y,none⟩)),(4,.int .i64 z)] H
def l1:Prop:=nodeM P0 T0 A code [1,1,1,1,0,1,0] [] (rq E K) (f1 p q t v w y z aa ab ac ad ae ag ak) H
def b1:Prop:=nodeM P0 T0 A code [1,1,1,1,0,1,0,0] [X1] (rq E K) (f1 p q t v w y z aa ab ac ad ae ag ak) H
variable {a p c q d t e v g w k y n z o aa ab ac ad ae ag ak X1 E H K}
theorem ok:okCode A 60 code=true:=by kernel_rfl
theorem of (h:run a c d e g k n o E H K):call a c d e g k n o E H K:=
  callW_of T0_ok P0_mixed (A:=A) (fn:=Go.Proofs.Try.f41) Go.Proofs.Try.func41 rfl ok rfl h
theorem l1_rule (I:S1 Prop) (μ:S1 Nat)
 (h:∀p q t v w y z aa ab ac ad ae ag ak H,I p q t v w y z aa ab ac ad ae ag ak H→∀X:FP,(∀p' q' t' v' w' y' z' aa' ab' ac' ad' ae' ag' ak' H',I p' q' t' v' w' y' z' aa' ab' ac' ad' ae' ag' ak' H'→μ p' q' t' v' w' y' z' aa' ab' ac' ad' ae' ag' ak' H'<μ p q t v w y z aa ab ac ad ae ag ak H→X (f1 p' q' t' v' w' y' z' aa' ab' ac' ad' ae' ag' ak') H')→b1 p q t v w y z aa ab ac ad ae ag ak X E H K) (hI:I p q t v w y z aa ab ac ad ae ag ak H):l1 p q t v w y z aa ab ac ad ae ag ak E H K:=
 loop_rule2 (fun r m H=>∃p q t v w y z aa ab ac ad ae ag ak,r=f1 p q t v w y z aa ab ac ad ae ag ak∧m=μ p q t v w y z aa ab ac ad ae ag ak H∧I p q t v w y z aa ab ac ad ae ag ak H) (by rintro _ _ _ ⟨p,q,t,v,w,y,z,aa,ab,ac,ad,ae,ag,ak,rfl,rfl,hI⟩ X hX; exact h _ _ _ _ _ _ _ _ _ _ _ _ _ _ _ hI X fun p' q' t' v' w' y' z' aa' ab' ac' ad' ae' ag' ak' H' hI hl=>hX _ _ _ ⟨p',q',t',v',w',y',z',aa',ab',ac',ad',ae',ag',ak',rfl,rfl,hI⟩ hl) rfl ⟨_,_,_,_,_,_,_,_,_,_,_,_,_,_,rfl,rfl,hI⟩
theorem nok:nodesOk code [[0,1,0,1,1,1,1],[1,1,1,0,0,1,0,1,1,1,1],[1,1,1,1,1]]=true:=by kernel_rfl
def run_t (l1:Nat→Nat→Nat→Nat→Nat→Nat→Int→Nat→(List Value)→OA→Nat→Nat→Int→Int→Hp→Prop)(a c d e g k n o:Nat)(E:VP)(H:Hp)(K:KT):Prop:=
  ldI .i64 (H.get a c) fun x1=>
  ldS (H.get a (c+1)) fun x2p x2n x2c=>
  Q18.call x1 x2p x2n x2c E H fun H1=>
  ldI .i64 (H1.get a c) fun x3=>
  ldS (H1.get a (c+1)) fun x4p x4n x4c=>
  ldS (H1.get d e) fun x5p x5n x5c=>
  Q19.call x3 x4p x4n x4c x5p x5n x5c 44 [] E H1 fun H2=>
  ldS (H2.get d e) fun x6p x6n x6c=>
  ldI .i64 (H2.get a c) fun x7=>
  Q21.call (decide (((IntKind.wrap .i64 (2*(x6n:Int))):Int)=x7)) 221 E H2 fun H3=>
  ldI .i64 (H3.get a c) fun x8=>
  ldS (H3.get g k) fun x9p x9n x9c=>
  ldS (H3.get g (k+1)) fun x10p x10n x10c=>
  Q22.call x8 x9p x9n x9c x10p x10n x10c E H3 fun r1 r2g r2k H4=>
  ldS (H4.get a (c+1)) fun x11p x11n x11c=>
  l1 a c d e n o r1 r2g r2k x11p x11n x11c (x11n:Int) 0 H4
theorem run_eq (h:run_t (fun p q t v w y z aa ab ac ad ae ag ak H=>l1 p q t v w y z aa ab ac ad ae ag ak E H K) a c d e g k n o E H K):run a c d e g k n o E H K:=by
  exact nodeR_imp2 (fun G=>run_t (fun p q t v w y z aa ab ac ad ae ag ak H=>G [0,1,0,1,1,1,1] (f1 p q t v w y z aa ab ac ad ae ag ak) H) a c d e g k n o E H K) nok rfl (fun G=>by kernel_rfl) (Eq.mp (by kernel_rfl) h)
def j1_t (p q t v w y:Nat)(z:Int)(aa:Nat)(ab:List Value)(ac:OA)(ad ae:Nat)(ag ak:Int)(X1:FP)(E:VP)(H:Hp)(K:KT):Prop:=
  X1 (f1 p q t v w y z aa ab ac ad ae ag (IntKind.wrap .i64 (ak+1))) H
theorem j1_eq (h:j1_t p q t v w y z aa ab ac ad ae ag ak X1 E H K):j1 p q t v w y z aa ab ac ad ae ag ak X1 E H K:=by
  exact nodeR_imp2 (fun _=>j1_t p q t v w y z aa ab ac ad ae ag ak X1 E H K) nok rfl (fun G=>by kernel_rfl) h
def j2_t (p q t v w y:Nat)(z:Int)(E:VP)(H:Hp)(K:KT):Prop:=
  ldI .i64 (H.get p q) fun x1=>
  ldS (H.get p (q+1)) fun x2p x2n x2c=>
  ldS (H.get t v) fun x3p x3n x3c=>
  Q24.call x1 x2p x2n x2c x3p x3n x3c E H fun r1 H1=>
  Q21.call (decide ((z:Int)=(IntKind.wrap .i64 (2*r1)))) 221 E H1 fun H2=>
  ldI .i64 (H2.get p q) fun x4=>
  ldS (H2.get p (q+1)) fun x5p x5n x5c=>
  ldS (H2.get t v) fun x6p x6n x6c=>
  Q24.call x4 x5p x5n x5c x6p x6n x6c E H2 fun r2 H3=>
  stC H3 w y [.int .i64 r2] fun H4=>
  K H4
theorem j2_eq (h:j2_t p q t v w y z E H K):j2 p q t v w y z E H K:=by
  exact nodeR_imp2 (fun _=>j2_t p q t v w y z E H K) nok rfl (fun G=>by kernel_rfl) h
def b1_t (j1:Nat→Nat→Nat→Nat→Nat→Nat→Int→Nat→(List Value)→OA→Nat→Nat→Int→Int→Hp→Prop)(j2:Nat→Nat→Nat→Nat→Nat→Nat→Int→Hp→Prop)(p q t v w y:Nat)(z:Int)(aa:Nat)(ab:List Value)(ac:OA)(ad ae:Nat)(ag ak:Int)(X1:FP)(E:VP)(H:Hp)(K:KT):Prop:=
  bcase (decide ((ak:Int)<ag)) (
  ix ac ad ak 4 fun B1 o1=>
  ldI .i64 (H.get B1 o1) fun x1=>
  ldI .i64 (H.get B1 (o1+1)) fun x2=>
  ldI .i64 (H.get B1 (o1+2)) fun x3=>
  ldI .i64 (H.get B1 (o1+3)) fun x4=>
  nw H ⟨[.int .i64 0,.int .i64 0,.int .i64 0,.int .i64 0],49⟩ fun B2 H1=>
  stC H1 B2 0 [.int .i64 x1,.int .i64 x2,.int .i64 x3,.int .i64 x4] fun H2=>
  ldI .i64 (H2.get B2 0) fun x5=>
  ldI .i64 (H2.get B2 1) fun x6=>
  ldI .i64 (H2.get B2 2) fun x7=>
  ldI .i64 (H2.get B2 3) fun x8=>
  Q23.call x5 x6 x7 x8 E H2 fun r1 H3=>
  bcase (r1) (
  Q21.call true 221 E H3 fun H4=>
  j1 p q t v w y z aa ab ac ad ae ag ak H4)
  (ldI .i64 (H3.get B2 0) fun x9=>
  ldI .i64 (H3.get B2 1) fun x10=>
  ldI .i64 (H3.get B2 3) fun x11=>
  dcall P0 T0 aa ([Value.int .i64 x9,Value.int .i64 x10]++ab) (.one false [.i .i64]) E H3 fun u_1 H5=>
  (ldI .i64 (H5.get B2 3) fun x12=>
  Value.int .i64 x12=Value.int .i64 x11)∧
  Q21.call (decide (((asI u_1):Int)≤(IntKind.wrap .i64 (2*x11)))) 221 E H5 fun H6=>
  j1 p q t v w y z aa ab ac ad ae ag ak H6))
  (j2 p q t v w y z H)
theorem b1_eq (h:b1_t (fun p q t v w y z aa ab ac ad ae ag ak H=>j1 p q t v w y z aa ab ac ad ae ag ak X1 E H K) (fun p q t v w y z H=>j2 p q t v w y z E H K) p q t v w y z aa ab ac ad ae ag ak X1 E H K):b1 p q t v w y z aa ab ac ad ae ag ak X1 E H K:=by
  exact nodeR_imp2 (fun G=>b1_t (fun p q t v w y z aa ab ac ad ae ag ak H=>G [1,1,1,0,0,1,0,1,1,1,1] (f1 p q t v w y z aa ab ac ad ae ag ak) H) (fun p q t v w y z H=>G [1,1,1,1,1] [(0,.pointer (some ⟨p,q,none⟩)),(1,.pointer (some ⟨t,v,none⟩)),(3,.pointer (some ⟨w,y,none⟩)),(4,.int .i64 z)] H) p q t v w y z aa ab ac ad ae ag ak X1 E H K) nok rfl (fun G=>by kernel_rfl) (Eq.mp (by kernel_rfl) h)
end
end Q17
namespace Q18
abbrev KT:=Hp→Prop
section
variable (a:Int)(c:OA)(d e:Nat)(E:VP)(H:Hp)(K:KT)
noncomputable def A:An:={ live:=[(0,[0]),(1,[1]),(2,[2])],ord:=[],stb:=[],pre:=[] }
noncomputable def code:Code:=bodyOf Go.Proofs.Try.f42
def rq:Ex→FP:=retQ T0 [] [] (fun r H=>ldR (.tup []) r fun u=>K H) E
def run:Prop:=nodeM P0 T0 A code [] [] (rq E K) (argF 0 [.agg ⟨[.int .i64 a,.slice c d e]⟩]) H
variable {a c d e E H K}
theorem ok:okCode A 11 code=true:=by kernel_rfl
theorem of (h:run a c d e E H K):call a c d e E H K:=
  callW_of T0_ok P0_mixed (A:=A) (fn:=Go.Proofs.Try.f42) Go.Proofs.Try.func42 rfl ok rfl h
theorem nok:nodesOk code []=true:=by kernel_rfl
def run_t (a:Int)(c:OA)(d e:Nat)(E:VP)(H:Hp)(K:KT):Prop:=
  nw H ⟨[.int .i64 a,.slice c d e],24⟩ fun B1 H1=>
  ldI .i64 (H1.get B1 0) fun x1=>
  ldS (H1.get B1 1) fun x2p x2n x2c=>
  Q25.call x1 x2p x2n x2c E H1 fun r1_Code r1_At H2=>
  nw H2 ⟨[.int .i64 0,.int .i64 0],97⟩ fun B2 H3=>
  stC H3 B2 0 [.int .i64 r1_Code,.int .i64 r1_At] fun H4=>
  ldI .i64 (H4.get B2 0) fun x3=>
  ldI .i64 (H4.get B2 0) fun x4=>
  Q21.call (decide ((x3:Int)=0)) x4 E H4 fun H5=>
  K H5
theorem run_eq (h:run_t a c d e E H K):run a c d e E H K:=by
  exact nodeR_imp2 (fun _=>run_t a c d e E H K) nok rfl (fun G=>by kernel_rfl) h
end
end Q18
namespace Q19
abbrev KT:=Hp→Prop
abbrev S1 (α:Type):=Nat→List Value→Nat→OA→Nat→Nat→OA→Nat→Nat→Int→Int→Hp→α
abbrev S2 (α:Type):=Nat→List Value→Nat→OA→Nat→Nat→OA→Nat→Nat→Int→Int→Int→Int→Int→Hp→α
section
variable (a:Int)(c:OA)(d e:Nat)(g:OA)(k n o:Nat)(p:List Value)(q:Nat)(t:OA)(v w:Nat)(y:OA)(z aa:Nat)(ab ac ad ae ag:Int)(X1 X2:FP)(E:VP)(H:Hp)(K:KT)
noncomputable def A:An:={ live:=[(0,[0,1,2]),(1,[1,2,3]),(2,[1,2,3]),(3,[1,2,3,6]),(4,[2,3,6,20,21,22]),(5,[2,3,6,20,21,22]),(6,[2,3,6,8,20,21,22]),(7,[2,3,6,9,20,21,22]),(8,[2,3,6,9,20,21,22]),(9,[2,3,6,20,21,22,39,40]),(10,[2,3,6,20,21,22,39,40]),(11,[2,3,6,11,20,21,22,39,40]),(12,[2,3,6,11,20,21,22,39,40]),(13,[2,3,6,20,21,22,39,40]),(14,[2,3,6,20,21,22])],ord:=[(12,[0,1,2,3,4,5,6,7,8])],stb:=[(12,[(6,[3])])],pre:=[(12,[[],[],[0,1],[0,1,2],[],[],[4,5],[0,1,2,3,4,5,6],[0,1,2,3,4,5,6,7]])] }
noncomputable def code:Code:=bodyOf Go.Proofs.Try.f43
def rq:Ex→FP:=retQ T0 [] [] (fun r H=>ldR (.tup []) r fun u=>K H) E
noncomputable def f1:Fr:=[(2,.func (.func o) ⟨[]⟩ ⟨p⟩),(3,.pointer (some ⟨q,0,none⟩)),(6,.slice t v w),(20,.slice y z aa),(21,.int .i64 ab),(22,.int .i64 ac)]
noncomputable def f2:Fr:=[(2,.func (.func o) ⟨[]⟩ ⟨p⟩),(3,.pointer (some ⟨q,0,none⟩)),(6,.slice t v w),(20,.slice y z aa),(21,.int .i64 ab),(22,.int .i64 ac),(39,.agg ⟨[.int .i64 ad,.int .i64 ae]⟩),(40,.int .i64 ag)]
def run:Prop:=nodeM P0 T0 A code [] [] (rq E K) (argF 0 [.agg ⟨[.int .i64 a,.slice c d e]⟩,.slice g k n,.func (.func o) ⟨[]⟩ ⟨p⟩]) H
def j1:Prop:=nodeM P0 T0 A code [1,1,1,1,0,0,1,1,1] [X1] (rq E K) (f1 o p q t v w y z aa ab ac) H
def l1:Prop:=nodeM P0 T0 A code [1,1,1,1,0] [] (rq E K) (f1 o p q t v w y z aa ab ac) H
def b1:Prop:=nodeM P0 T0 A code [1,1,1,1,0,0] [X1] (rq E K) (f1 o p q t v w y z aa ab ac) H
def l2:Prop:=nodeM P0 T0 A code [1,1,1,1,0,0,1,1,0,0,1,1,1,1,0] [X1] (rq E K) (f2 o p q t v w y z aa ab ac ad ae ag) H
def b2:Prop:=nodeM P0 T0 A code [1,1,1,1,0,0,1,1,0,0,1,1,1,1,0,0] [X1,X2] (rq E K) (f2 o p q t v w y z aa ab ac ad ae ag) H
variable {a c d e g k n o p q t v w y z aa ab ac ad ae ag X1 X2 E H K}
theorem ok:okCode A 60 code=true:=by kernel_rfl
theorem of (h:run a c d e g k n o p E H K):call a c d e g k n o p E H K:=
  callW_of T0_ok P0_mixed (A:=A) (fn:=Go.Proofs.Try.f43) Go.Proofs.Try.func43 rfl ok rfl h
theorem l1_rule (I:S1 Prop) (μ:S1 Nat)
 (h:∀o p q t v w y z aa ab ac H,I o p q t v w y z aa ab ac H→∀X:FP,(∀o' p' q' t' v' w' y' z' aa' ab' ac' H',I o' p' q' t' v' w' y' z' aa' ab' ac' H'→μ o' p' q' t' v' w' y' z' aa' ab' ac' H'<μ o p q t v w y z aa ab ac H→X (f1 o' p' q' t' v' w' y' z' aa' ab' ac') H')→b1 o p q t v w y z aa ab ac X E H K) (hI:I o p q t v w y z aa ab ac H):l1 o p q t v w y z aa ab ac E H K:=
 loop_rule2 (fun r m H=>∃o p q t v w y z aa ab ac,r=f1 o p q t v w y z aa ab ac∧m=μ o p q t v w y z aa ab ac H∧I o p q t v w y z aa ab ac H) (by rintro _ _ _ ⟨o,p,q,t,v,w,y,z,aa,ab,ac,rfl,rfl,hI⟩ X hX; exact h _ _ _ _ _ _ _ _ _ _ _ _ hI X fun o' p' q' t' v' w' y' z' aa' ab' ac' H' hI hl=>hX _ _ _ ⟨o',p',q',t',v',w',y',z',aa',ab',ac',rfl,rfl,hI⟩ hl) rfl ⟨_,_,_,_,_,_,_,_,_,_,_,rfl,rfl,hI⟩
theorem l2_rule (I:S2 Prop) (μ:S2 Nat)
 (h:∀o p q t v w y z aa ab ac ad ae ag H,I o p q t v w y z aa ab ac ad ae ag H→∀X:FP,(∀o' p' q' t' v' w' y' z' aa' ab' ac' ad' ae' ag' H',I o' p' q' t' v' w' y' z' aa' ab' ac' ad' ae' ag' H'→μ o' p' q' t' v' w' y' z' aa' ab' ac' ad' ae' ag' H'<μ o p q t v w y z aa ab ac ad ae ag H→X (f2 o' p' q' t' v' w' y' z' aa' ab' ac' ad' ae' ag') H')→b2 o p q t v w y z aa ab ac ad ae ag X1 X E H K) (hI:I o p q t v w y z aa ab ac ad ae ag H):l2 o p q t v w y z aa ab ac ad ae ag X1 E H K:=
 loop_rule2 (fun r m H=>∃o p q t v w y z aa ab ac ad ae ag,r=f2 o p q t v w y z aa ab ac ad ae ag∧m=μ o p q t v w y z aa ab ac ad ae ag H∧I o p q t v w y z aa ab ac ad ae ag H) (by rintro _ _ _ ⟨o,p,q,t,v,w,y,z,aa,ab,ac,ad,ae,ag,rfl,rfl,hI⟩ X hX; exact h _ _ _ _ _ _ _ _ _ _ _ _ _ _ _ hI X fun o' p' q' t' v' w' y' z' aa' ab' ac' ad' ae' ag' H' hI hl=>hX _ _ _ ⟨o',p',q',t',v',w',y',z',aa',ab',ac',ad',ae',ag',rfl,rfl,hI⟩ hl) rfl ⟨_,_,_,_,_,_,_,_,_,_,_,_,_,_,rfl,rfl,hI⟩
theorem nok:nodesOk code [[0,1,1,1,1],[0,1,1,1,1,0,0,1,1,0,0,1,1,1,1],[1,1,1,0,0,1,1,1,1]]=true:=by kernel_rfl
def run_t (l1:Nat→(List Value)→Nat→OA→Nat→Nat→OA→Nat→Nat→Int→Int→Hp→Prop)(a:Int)(c:OA)(d e:Nat)(g:OA)(k n o:Nat)(p:List Value)(E:VP)(H:Hp)(K:KT):Prop:=
  nw H ⟨[.int .i64 a,.slice c d e],24⟩ fun B1 H1=>
  ldS (H1.get B1 1) fun x1p x1n x1c=>
  Q38.call g k n (x1n:Int) E H1 fun H2=>
  ldI .i64 (H2.get B1 0) fun x2=>
  mkS x2 x2 3 [.i .i64] 8 H2 fun B2 H3=>
  l1 o p B1 (some ⟨B2,0,none⟩) x2.toNat x2.toNat g k n (k:Int) 0 H3
theorem run_eq (h:run_t (fun o p q t v w y z aa ab ac H=>l1 o p q t v w y z aa ab ac E H K) a c d e g k n o p E H K):run a c d e g k n o p E H K:=by
  exact nodeR_imp2 (fun G=>run_t (fun o p q t v w y z aa ab ac H=>G [0,1,1,1,1] (f1 o p q t v w y z aa ab ac) H) a c d e g k n o p E H K) nok rfl (fun G=>by kernel_rfl) (Eq.mp (by kernel_rfl) h)
def j1_t (o:Nat)(p:List Value)(q:Nat)(t:OA)(v w:Nat)(y:OA)(z aa:Nat)(ab ac:Int)(X1:FP)(E:VP)(H:Hp)(K:KT):Prop:=
  X1 (f1 o p q t v w y z aa ab (IntKind.wrap .i64 (ac+1))) H
theorem j1_eq (h:j1_t o p q t v w y z aa ab ac X1 E H K):j1 o p q t v w y z aa ab ac X1 E H K:=by
  exact nodeR_imp2 (fun _=>j1_t o p q t v w y z aa ab ac X1 E H K) nok rfl (fun G=>by kernel_rfl) h
def b1_t (l2:Nat→(List Value)→Nat→OA→Nat→Nat→OA→Nat→Nat→Int→Int→Int→Int→Int→Hp→Prop)(o:Nat)(p:List Value)(q:Nat)(t:OA)(v w:Nat)(y:OA)(z aa:Nat)(ab ac:Int)(X1:FP)(E:VP)(H:Hp)(K:KT):Prop:=
  bcase (decide ((ac:Int)<ab)) (
  ix y z ac 1 fun B1 o1=>
  ldI .i64 (H.get B1 o1) fun x1=>
  ldS (H.get q 1) fun x2p x2n x2c=>
  ix x2p x2n x1 4 fun B2 o2=>
  ldI .i64 (H.get B2 o2) fun x3=>
  ldI .i64 (H.get B2 (o2+1)) fun x4=>
  ldI .i64 (H.get B2 (o2+2)) fun x5=>
  ldI .i64 (H.get B2 (o2+3)) fun x6=>
  nw H ⟨[.int .i64 0,.int .i64 0,.int .i64 0,.int .i64 0],49⟩ fun B3 H1=>
  stC H1 B3 0 [.int .i64 x3,.int .i64 x4,.int .i64 x5,.int .i64 x6] fun H2=>
  ldI .i64 (H2.get B3 0) fun x7=>
  ldI .i64 (H2.get B3 1) fun x8=>
  ldI .i64 (H2.get B3 2) fun x9=>
  ldI .i64 (H2.get B3 3) fun x10=>
  Q23.call x7 x8 x9 x10 E H2 fun r1 H3=>
  Q21.call (!r1) 221 E H3 fun H4=>
  ldI .i64 (H4.get B3 0) fun x11=>
  ldI .i64 (H4.get B3 1) fun x12=>
  l2 o p q t v w y z aa ab ac x11 x12 0 H4)
  (K H)
theorem b1_eq (h:b1_t (fun o p q t v w y z aa ab ac ad ae ag H=>l2 o p q t v w y z aa ab ac ad ae ag X1 E H K) o p q t v w y z aa ab ac X1 E H K):b1 o p q t v w y z aa ab ac X1 E H K:=by
  exact nodeR_imp2 (fun G=>b1_t (fun o p q t v w y z aa ab ac ad ae ag H=>G [0,1,1,1,1,0,0,1,1,0,0,1,1,1,1] (f2 o p q t v w y z aa ab ac ad ae ag) H) o p q t v w y z aa ab ac X1 E H K) nok rfl (fun G=>by kernel_rfl) (Eq.mp (by kernel_rfl) h)
def b2_t (j1:Nat→(List Value)→Nat→OA→Nat→Nat→OA→Nat→Nat→Int→Int→Hp→Prop)(o:Nat)(p:List Value)(q:Nat)(t:OA)(v w:Nat)(y:OA)(z aa:Nat)(ab ac ad ae ag:Int)(X1 X2:FP)(E:VP)(H:Hp)(K:KT):Prop:=
  bcase (decide ((ag:Int)<2)) (
  ((0:Int)≤ag∧ag<(2:Int))∧
  ldI .i64 ([Value.int .i64 ad,Value.int .i64 ae][ag.toNat]?) fun x1=>
  ix t v x1 1 fun B1 o1=>
  ldI .i64 (H.get B1 o1) fun x2=>
  ix t v x1 1 fun B2 o2=>
  stC H B2 o2 [.int .i64 (IntKind.wrap .i64 (x2+1))] fun H1=>
  ix t v x1 1 fun B3 o3=>
  ldI .i64 (H1.get B3 o3) fun x3=>
  dcall P0 T0 o ([Value.int .i64 x1]++p) (.one false [.i .i64]) E H1 fun u_1 H2=>
  (ldI .i64 (H2.get B3 o3) fun x4=>
  Value.int .i64 x4=Value.int .i64 x3)∧
  Q21.call (decide ((x3:Int)≤(asI u_1))) 221 E H2 fun H3=>
  X2 (f2 o p q t v w y z aa ab ac ad ae (IntKind.wrap .i64 (ag+1))) H3)
  (j1 o p q t v w y z aa ab ac H)
theorem b2_eq (h:b2_t (fun o p q t v w y z aa ab ac H=>j1 o p q t v w y z aa ab ac X1 E H K) o p q t v w y z aa ab ac ad ae ag X1 X2 E H K):b2 o p q t v w y z aa ab ac ad ae ag X1 X2 E H K:=by
  exact nodeR_imp2 (fun G=>b2_t (fun o p q t v w y z aa ab ac H=>G [1,1,1,0,0,1,1,1,1] (f1 o p q t v w y z aa ab ac) H) o p q t v w y z aa ab ac ad ae ag X1 X2 E H K) nok rfl (fun G=>by kernel_rfl) (Eq.mp (by kernel_rfl) h)
end
end Q19
namespace Q20
abbrev KT:=Int→Hp→Prop
section
variable (a:Int)(E:VP)(H:Hp)(K:KT)
noncomputable def A:An:={ live:=[(0,[]),(1,[])],ord:=[],stb:=[],pre:=[] }
noncomputable def code:Code:=bodyOf Go.Proofs.Try.f44
def rq:Ex→FP:=retQ T0 [.tmp 2] [3] (fun r H=>ldR (.one false [.i .i64]) r fun u=>K (asI u) H) E
def run:Prop:=nodeM P0 T0 A code [] [] (rq E K) (argF 0 [.int .i64 a]) H
variable {a E H K}
theorem ok:okCode A 3 code=true:=by kernel_rfl
theorem of (h:run a E H K):call a E H K:=
  callW_of T0_ok P0_mixed (A:=A) (fn:=Go.Proofs.Try.f44) Go.Proofs.Try.func44 rfl ok rfl h
theorem nok:nodesOk code []=true:=by kernel_rfl
def run_t (a:Int)(E:VP)(H:Hp)(K:KT):Prop:=
  K 1 H
theorem run_eq (h:run_t a E H K):run a E H K:=by
  exact nodeR_imp2 (fun _=>run_t a E H K) nok rfl (fun G=>by kernel_rfl) h
end
end Q20
namespace Q21
abbrev KT:=Hp→Prop
section
variable (a:Bool)(c:Int)(E:VP)(H:Hp)(K:KT)
noncomputable def A:An:={ live:=[(0,[0,1]),(1,[1])],ord:=[],stb:=[],pre:=[] }
noncomputable def code:Code:=bodyOf Go.Proofs.Try.f45
def rq:Ex→FP:=retQ T0 [] [] (fun r H=>ldR (.tup []) r fun u=>K H) E
def run:Prop:=nodeM P0 T0 A code [] [] (rq E K) (argF 0 [.bool a,.int .i64 c]) H
variable {a c E H K}
theorem ok:okCode A 9 code=true:=by kernel_rfl
theorem of (h:run a c E H K):call a c E H K:=
  callW_of T0_ok P0_mixed (A:=A) (fn:=Go.Proofs.Try.f45) Go.Proofs.Try.func45 rfl ok rfl h
theorem nok:nodesOk code []=true:=by kernel_rfl
def run_t (a:Bool)(c:Int)(E:VP)(H:Hp)(K:KT):Prop:=
  bcase ((!a)) (
  E (Value.iface 130 (.agg ⟨[.int .i64 c]⟩)) H)
  (K H)
theorem run_eq (h:run_t a c E H K):run a c E H K:=by
  exact nodeR_imp2 (fun _=>run_t a c E H K) nok rfl (fun G=>by kernel_rfl) h
end
end Q21
namespace Q22
abbrev KT:=Int→Nat→(List Value)→Hp→Prop
abbrev S1 (α:Type):=Int→Nat→Int→OA→Nat→Nat→Int→Int→Hp→α
abbrev S2 (α:Type):=Int→Nat→Int→Nat→OA→Nat→Nat→Int→Int→Hp→α
section
variable (a:Int)(c:OA)(o d:Nat)(p:Int)(e z:Nat)(ag:Int)(g:OA)(ak:Nat)(q:OA)(k:Nat)(aa:OA)(t n ab v ac:Nat)(w ad y ae:Int)(X1:FP)(E:VP)(H:Hp)(K:KT)
noncomputable def A:An:={ live:=[(0,[0,1]),(1,[0,3]),(2,[0,3]),(3,[0,3,6]),(4,[0,3,6,26,27,28]),(5,[0,3,6,26,27,28]),(6,[0,3,6,8,26,27,28]),(7,[0,3,6,8,26,27,28]),(8,[0,3,6,26,27,28]),(9,[0,3,6]),(10,[0,3,6,9]),(11,[0,3,6,9,48,49,50]),(12,[0,3,6,9,48,49,50]),(13,[0,3,6,9,11,48,49,50]),(14,[0,3,6,9,11,48,49,50]),(15,[0,3,6,9,11,48,49,50]),(16,[0,3,6,9,48,49,50]),(17,[3,6,9])],ord:=[(14,[0,1,2,3,4,5,6,7])],stb:=[(14,[(4,[0])])],pre:=[(14,[[],[],[1],[],[1,2,3],[1,2,3,4],[0,1,2,3,4,5],[0,1,2,3,4,5,6]])] }
noncomputable def code:Code:=bodyOf Go.Proofs.Try.f46
def rq:Ex→FP:=retQ T0 [.tmp 4,.tmp 5] [2,92] (fun r H=>ldR (.tup [(false,[.i .i64]),(false,[.fn])]) r fun u=>K (asI (tupV u 0)) (asF1 (tupV u 1)) (asF2 (tupV u 1)) H) E
noncomputable def f1:Fr:=[(0,.int .i64 a),(3,.pointer (some ⟨o,0,none⟩)),(6,.int .i64 p),(26,.slice q t v),(27,.int .i64 w),(28,.int .i64 y)]
noncomputable def f2:Fr:=[(0,.int .i64 a),(3,.pointer (some ⟨o,0,none⟩)),(6,.int .i64 p),(9,.pointer (some ⟨z,0,none⟩)),(48,.slice aa ab ac),(49,.int .i64 ad),(50,.int .i64 ae)]
def run:Prop:=nodeM P0 T0 A code [] [] (rq E K) (argF 0 [.int .i64 a,.agg ⟨[.slice c d e,.slice g k n]⟩]) H
def j1:Prop:=nodeM P0 T0 A code [1,1] [] (rq E K) [(0,.int .i64 a),(3,.pointer (some ⟨o,0,none⟩))] H
def j2:Prop:=nodeM P0 T0 A code [1,1,1,0,1,0,0,1,1,0,0,1,1] [X1] (rq E K) [(0,.int .i64 a),(3,.pointer (some ⟨o,0,none⟩)),(6,.int .i64 p),(8,.int .i64 ag),(26,.slice q t v),(27,.int .i64 w),(28,.int .i64 y)] H
def j3:Prop:=nodeM P0 T0 A code [1,1,1,1] [] (rq E K) [(0,.int .i64 a),(3,.pointer (some ⟨o,0,none⟩)),(6,.int .i64 p)] H
def j4:Prop:=nodeM P0 T0 A code [1,1,1,1,1,0,1,0,0,1,1,0,0,1,1] [X1] (rq E K) [(0,.int .i64 a),(3,.pointer (some ⟨o,0,none⟩)),(6,.int .i64 p),(9,.pointer (some ⟨z,0,none⟩)),(11,.pointer (some ⟨ak,0,none⟩)),(48,.slice aa ab ac),(49,.int .i64 ad),(50,.int .i64 ae)] H
def j5:Prop:=nodeM P0 T0 A code [1,1,1,1,1,1] [] (rq E K) [(3,.pointer (some ⟨o,0,none⟩)),(6,.int .i64 p),(9,.pointer (some ⟨z,0,none⟩))] H
def l1:Prop:=nodeM P0 T0 A code [1,1,1,0,1,0] [] (rq E K) (f1 a o p q t v w y) H
def b1:Prop:=nodeM P0 T0 A code [1,1,1,0,1,0,0] [X1] (rq E K) (f1 a o p q t v w y) H
def l2:Prop:=nodeM P0 T0 A code [1,1,1,1,1,0,1,0] [] (rq E K) (f2 a o p z aa ab ac ad ae) H
def b2:Prop:=nodeM P0 T0 A code [1,1,1,1,1,0,1,0,0] [X1] (rq E K) (f2 a o p z aa ab ac ad ae) H
variable {a c o d p e z ag g ak q k aa t n ab v ac w ad y ae X1 E H K}
theorem ok:okCode A 95 code=true:=by kernel_rfl
theorem of (h:run a c d e g k n E H K):call a c d e g k n E H K:=
  callW_of T0_ok P0_mixed (A:=A) (fn:=Go.Proofs.Try.f46) Go.Proofs.Try.func46 rfl ok rfl h
theorem l1_rule (I:S1 Prop) (μ:S1 Nat)
 (h:∀a o p q t v w y H,I a o p q t v w y H→∀X:FP,(∀a' o' p' q' t' v' w' y' H',I a' o' p' q' t' v' w' y' H'→μ a' o' p' q' t' v' w' y' H'<μ a o p q t v w y H→X (f1 a' o' p' q' t' v' w' y') H')→b1 a o p q t v w y X E H K) (hI:I a o p q t v w y H):l1 a o p q t v w y E H K:=
 loop_rule2 (fun r m H=>∃a o p q t v w y,r=f1 a o p q t v w y∧m=μ a o p q t v w y H∧I a o p q t v w y H) (by rintro _ _ _ ⟨a,o,p,q,t,v,w,y,rfl,rfl,hI⟩ X hX; exact h _ _ _ _ _ _ _ _ _ hI X fun a' o' p' q' t' v' w' y' H' hI hl=>hX _ _ _ ⟨a',o',p',q',t',v',w',y',rfl,rfl,hI⟩ hl) rfl ⟨_,_,_,_,_,_,_,_,rfl,rfl,hI⟩
theorem l2_rule (I:S2 Prop) (μ:S2 Nat)
 (h:∀a o p z aa ab ac ad ae H,I a o p z aa ab ac ad ae H→∀X:FP,(∀a' o' p' z' aa' ab' ac' ad' ae' H',I a' o' p' z' aa' ab' ac' ad' ae' H'→μ a' o' p' z' aa' ab' ac' ad' ae' H'<μ a o p z aa ab ac ad ae H→X (f2 a' o' p' z' aa' ab' ac' ad' ae') H')→b2 a o p z aa ab ac ad ae X E H K) (hI:I a o p z aa ab ac ad ae H):l2 a o p z aa ab ac ad ae E H K:=
 loop_rule2 (fun r m H=>∃a o p z aa ab ac ad ae,r=f2 a o p z aa ab ac ad ae∧m=μ a o p z aa ab ac ad ae H∧I a o p z aa ab ac ad ae H) (by rintro _ _ _ ⟨a,o,p,z,aa,ab,ac,ad,ae,rfl,rfl,hI⟩ X hX; exact h _ _ _ _ _ _ _ _ _ _ hI X fun a' o' p' z' aa' ab' ac' ad' ae' H' hI hl=>hX _ _ _ ⟨a',o',p',z',aa',ab',ac',ad',ae',rfl,rfl,hI⟩ hl) rfl ⟨_,_,_,_,_,_,_,_,_,rfl,rfl,hI⟩
theorem nok:nodesOk code [[1,1],[0,1,0,1,1,1],[1,1,0,0,1,1,0,0,1,0,1,1,1],[1,1,1,1],[0,1,0,1,1,1,1,1],[1,1,0,0,1,1,0,0,1,0,1,1,1,1,1],[1,1,1,1,1,1]]=true:=by kernel_rfl
def run_t (j1:Int→Nat→Hp→Prop)(a:Int)(c:OA)(d e:Nat)(g:OA)(k n:Nat)(E:VP)(H:Hp)(K:KT):Prop:=
  nw H ⟨[.slice c d e,.slice g k n],30⟩ fun B1 H1=>
  ldS (H1.get B1 0) fun x1p x1n x1c=>
  bcase (decide (((x1n:Int):Int)=a)) (
  ldS (H1.get B1 1) fun x2p x2n x2c=>
  Q21.call (decide (((x2n:Int):Int)≤a)) 221 E H1 fun H2=>
  j1 a B1 H2)
  (Q21.call false 221 E H1 fun H3=>
  j1 a B1 H3)
theorem run_eq (h:run_t (fun a o H=>j1 a o E H K) a c d e g k n E H K):run a c d e g k n E H K:=by
  exact nodeR_imp2 (fun G=>run_t (fun a o H=>G [1,1] [(0,.int .i64 a),(3,.pointer (some ⟨o,0,none⟩))] H) a c d e g k n E H K) nok rfl (fun G=>by kernel_rfl) (Eq.mp (by kernel_rfl) h)
def j1_t (l1:S1 Prop)(a:Int)(o:Nat)(E:VP)(H:Hp)(K:KT):Prop:=
  ldS (H.get o 0) fun x1p x1n x1c=>
  l1 a o 0 x1p x1n x1c (x1n:Int) 0 H
theorem j1_eq (h:j1_t (fun a o p q t v w y H=>l1 a o p q t v w y E H K) a o E H K):j1 a o E H K:=by
  exact nodeR_imp2 (fun G=>j1_t (fun a o p q t v w y H=>G [0,1,0,1,1,1] (f1 a o p q t v w y) H) a o E H K) nok rfl (fun G=>by kernel_rfl) (Eq.mp (by kernel_rfl) h)
def j2_t (a:Int)(o:Nat)(p ag:Int)(q:OA)(t v:Nat)(w y:Int)(X1:FP)(E:VP)(H:Hp)(K:KT):Prop:=
  X1 (f1 a o (IntKind.wrap .i64 (p+ag)) q t v w (IntKind.wrap .i64 (y+1))) H
theorem j2_eq (h:j2_t a o p ag q t v w y X1 E H K):j2 a o p ag q t v w y X1 E H K:=by
  exact nodeR_imp2 (fun _=>j2_t a o p ag q t v w y X1 E H K) nok rfl (fun G=>by kernel_rfl) h
def j3_t (l2:S2 Prop)(a:Int)(o:Nat)(p:Int)(E:VP)(H:Hp)(K:KT):Prop:=
  ldS (H.get o 1) fun x1p x1n x1c=>
  mkS 0 (x1n:Int) 47 [.sl] 24 H fun B1 H1=>
  nw H1 ⟨[.slice none 0 0],134⟩ fun B2 H2=>
  stC H2 B2 0 [.slice (some ⟨B1,0,none⟩) 0 ((x1n:Int).toNat)] fun H3=>
  ldS (H3.get o 1) fun x2p x2n x2c=>
  l2 a o p B2 x2p x2n x2c (x2n:Int) 0 H3
theorem j3_eq (h:j3_t (fun a o p z aa ab ac ad ae H=>l2 a o p z aa ab ac ad ae E H K) a o p E H K):j3 a o p E H K:=by
  exact nodeR_imp2 (fun G=>j3_t (fun a o p z aa ab ac ad ae H=>G [0,1,0,1,1,1,1,1] (f2 a o p z aa ab ac ad ae) H) a o p E H K) nok rfl (fun G=>by kernel_rfl) (Eq.mp (by kernel_rfl) h)
def j4_t (a:Int)(o:Nat)(p:Int)(z ak:Nat)(aa:OA)(ab ac:Nat)(ad ae:Int)(X1:FP)(E:VP)(H:Hp)(K:KT):Prop:=
  ldS (H.get z 0) fun x1p x1n x1c=>
  ldS (H.get ak 0) fun x2p x2n x2c=>
  Q33.call x2p x2n x2c a E H fun r1p r1n r1c H1=>
  (ldS (H1.get z 0) fun x5p x5n x5c=>
  Value.slice x5p x5n x5c=Value.slice x1p x1n x1c)∧
  nw H1 ⟨[.slice r1p r1n r1c],47⟩ fun B1 H2=>
  appM 47 [.sl] 24 x1p x1n x1c (some ⟨B1,0,none⟩) 1 H2 fun a1p a1n a1c H3=>
  stC H3 z 0 [.slice a1p a1n a1c] fun H4=>
  ldI .i64 (H4.get ak 1) fun x3=>
  ldS (H4.get ak 0) fun x4p x4n x4c=>
  2≠(0:Int)∧
  X1 (f2 a o (IntKind.wrap .i64 (p-(IntKind.wrap .i64 (x3*(IntKind.wrap .i64 (Int.tdiv (x4n:Int) 2)))))) z aa ab ac ad (IntKind.wrap .i64 (ae+1))) H4
theorem j4_eq (h:j4_t a o p z ak aa ab ac ad ae X1 E H K):j4 a o p z ak aa ab ac ad ae X1 E H K:=by
  exact nodeR_imp2 (fun _=>j4_t a o p z ak aa ab ac ad ae X1 E H K) nok rfl (fun G=>by kernel_rfl) h
def j5_t (o:Nat)(p:Int)(z:Nat)(E:VP)(H:Hp)(K:KT):Prop:=
  K p 73 [Value.pointer (some ⟨o,0,none⟩),Value.pointer (some ⟨z,0,none⟩)] H
theorem j5_eq (h:j5_t o p z E H K):j5 o p z E H K:=by
  exact nodeR_imp2 (fun _=>j5_t o p z E H K) nok rfl (fun G=>by kernel_rfl) h
def b1_t (j2:Int→Nat→Int→Int→OA→Nat→Nat→Int→Int→Hp→Prop)(j3:Int→Nat→Int→Hp→Prop)(a:Int)(o:Nat)(p:Int)(q:OA)(t v:Nat)(w y:Int)(X1:FP)(E:VP)(H:Hp)(K:KT):Prop:=
  bcase (decide ((y:Int)<w)) (
  ix q t y 1 fun B1 o1=>
  ldI .i64 (H.get B1 o1) fun x1=>
  bcase (decide (((-4398046511104):Int)≤x1)) (
  Q21.call (decide ((x1:Int)≤4398046511104)) 221 E H fun H1=>
  j2 a o p x1 q t v w y H1)
  (Q21.call false 221 E H fun H2=>
  j2 a o p x1 q t v w y H2))
  (j3 a o p H)
theorem b1_eq (h:b1_t (fun a o p ag q t v w y H=>j2 a o p ag q t v w y X1 E H K) (fun a o p H=>j3 a o p E H K) a o p q t v w y X1 E H K):b1 a o p q t v w y X1 E H K:=by
  exact nodeR_imp2 (fun G=>b1_t (fun a o p ag q t v w y H=>G [1,1,0,0,1,1,0,0,1,0,1,1,1] [(0,.int .i64 a),(3,.pointer (some ⟨o,0,none⟩)),(6,.int .i64 p),(8,.int .i64 ag),(26,.slice q t v),(27,.int .i64 w),(28,.int .i64 y)] H) (fun a o p H=>G [1,1,1,1] [(0,.int .i64 a),(3,.pointer (some ⟨o,0,none⟩)),(6,.int .i64 p)] H) a o p q t v w y X1 E H K) nok rfl (fun G=>by kernel_rfl) (Eq.mp (by kernel_rfl) h)
def b2_t (j4:Int→Nat→Int→Nat→Nat→OA→Nat→Nat→Int→Int→Hp→Prop)(j5:Nat→Int→Nat→Hp→Prop)(a:Int)(o:Nat)(p:Int)(z:Nat)(aa:OA)(ab ac:Nat)(ad ae:Int)(X1:FP)(E:VP)(H:Hp)(K:KT):Prop:=
  bcase (decide ((ae:Int)<ad)) (
  ix aa ab ae 2 fun B1 o1=>
  ldS (H.get B1 o1) fun x1p x1n x1c=>
  ldI .i64 (H.get B1 (o1+1)) fun x2=>
  nw H ⟨[.slice none 0 0,.int .i64 0],65⟩ fun B2 H1=>
  stC H1 B2 0 [.slice x1p x1n x1c,.int .i64 x2] fun H2=>
  ldS (H2.get B2 0) fun x3p x3n x3c=>
  bcase (decide ((3:Int)≤(x3n:Int))) (
  ldS (H2.get B2 0) fun x4p x4n x4c=>
  bcase (decide (((IntKind.wrap .i64 (((BitVec.ofInt (IntKind.bits .i64) (x4n:Int) &&& BitVec.ofInt (IntKind.bits .i64) 1).toNat:Int))):Int)=1)) (
  ldI .i64 (H2.get B2 1) fun x5=>
  bcase (decide ((0:Int)≤x5)) (
  ldI .i64 (H2.get B2 1) fun x6=>
  Q21.call (decide ((x6:Int)≤4398046511104)) 221 E H2 fun H3=>
  j4 a o p z B2 aa ab ac ad ae H3)
  (Q21.call false 221 E H2 fun H4=>
  j4 a o p z B2 aa ab ac ad ae H4))
  (Q21.call false 221 E H2 fun H5=>
  j4 a o p z B2 aa ab ac ad ae H5))
  (Q21.call false 221 E H2 fun H6=>
  j4 a o p z B2 aa ab ac ad ae H6))
  (j5 o p z H)
theorem b2_eq (h:b2_t (fun a o p z ak aa ab ac ad ae H=>j4 a o p z ak aa ab ac ad ae X1 E H K) (fun o p z H=>j5 o p z E H K) a o p z aa ab ac ad ae X1 E H K):b2 a o p z aa ab ac ad ae X1 E H K:=by
  exact nodeR_imp2 (fun G=>b2_t (fun a o p z ak aa ab ac ad ae H=>G [1,1,0,0,1,1,0,0,1,0,1,1,1,1,1] [(0,.int .i64 a),(3,.pointer (some ⟨o,0,none⟩)),(6,.int .i64 p),(9,.pointer (some ⟨z,0,none⟩)),(11,.pointer (some ⟨ak,0,none⟩)),(48,.slice aa ab ac),(49,.int .i64 ad),(50,.int .i64 ae)] H) (fun o p z H=>G [1,1,1,1,1,1] [(3,.pointer (some ⟨o,0,none⟩)),(6,.int .i64 p),(9,.pointer (some ⟨z,0,none⟩))] H) a o p z aa ab ac ad ae X1 E H K) nok rfl (fun G=>by kernel_rfl) (Eq.mp (by kernel_rfl) h)
end
end Q22
namespace Q23
abbrev KT:=Bool→Hp→Prop
section
variable (a c d e:Int)(E:VP)(H:Hp)(K:KT)
noncomputable def A:An:={ live:=[(0,[0]),(1,[1])],ord:=[],stb:=[],pre:=[] }
noncomputable def code:Code:=bodyOf Go.Proofs.Try.f47
def rq:Ex→FP:=retQ T0 [.tmp 2] [4] (fun r H=>ldR (.one false [.bool]) r fun u=>K (asB u) H) E
def run:Prop:=nodeM P0 T0 A code [] [] (rq E K) (argF 0 [.agg ⟨[.int .i64 a,.int .i64 c,.int .i64 d,.int .i64 e]⟩]) H
variable {a c d e E H K}
theorem ok:okCode A 8 code=true:=by kernel_rfl
theorem of (h:run a c d e E H K):call a c d e E H K:=
  callW_of T0_ok P0_mixed (A:=A) (fn:=Go.Proofs.Try.f47) Go.Proofs.Try.func47 rfl ok rfl h
theorem nok:nodesOk code []=true:=by kernel_rfl
def run_t (a c d e:Int)(E:VP)(H:Hp)(K:KT):Prop:=
  nw H ⟨[.int .i64 a,.int .i64 c,.int .i64 d,.int .i64 e],49⟩ fun B1 H1=>
  ldI .i64 (H1.get B1 0) fun x1=>
  ldI .i64 (H1.get B1 1) fun x2=>
  K (decide ((x1:Int)=x2)) H1
theorem run_eq (h:run_t a c d e E H K):run a c d e E H K:=by
  exact nodeR_imp2 (fun _=>run_t a c d e E H K) nok rfl (fun G=>by kernel_rfl) h
end
end Q23
namespace Q24
abbrev KT:=Int→Hp→Prop
abbrev S1 (α:Type):=Nat→Int→OA→Nat→Nat→Int→Int→Hp→α
section
variable (a:Int)(o:Nat)(c:OA)(p:Int)(d:Nat)(q:OA)(e t:Nat)(g:OA)(v k:Nat)(w:Int)(n:Nat)(y:Int)(X1:FP)(E:VP)(H:Hp)(K:KT)
noncomputable def A:An:={ live:=[(0,[0,1]),(1,[1,2]),(2,[1,2,5]),(3,[2,5,8,9,10]),(4,[2,5,8,9,10]),(5,[2,5,7,8,9,10]),(6,[2,5,8,9,10]),(7,[5])],ord:=[],stb:=[],pre:=[] }
noncomputable def code:Code:=bodyOf Go.Proofs.Try.f48
def rq:Ex→FP:=retQ T0 [.tmp 4] [2] (fun r H=>ldR (.one false [.i .i64]) r fun u=>K (asI u) H) E
noncomputable def f1:Fr:=[(2,.pointer (some ⟨o,0,none⟩)),(5,.int .i64 p),(8,.slice q t v),(9,.int .i64 w),(10,.int .i64 y)]
def run:Prop:=nodeM P0 T0 A code [] [] (rq E K) (argF 0 [.agg ⟨[.int .i64 a,.slice c d e]⟩,.slice g k n]) H
def l1:Prop:=nodeM P0 T0 A code [1,1,0,1,0] [] (rq E K) (f1 o p q t v w y) H
def b1:Prop:=nodeM P0 T0 A code [1,1,0,1,0,0] [X1] (rq E K) (f1 o p q t v w y) H
variable {a o c p d q e t g v k w n y X1 E H K}
theorem ok:okCode A 24 code=true:=by kernel_rfl
theorem of (h:run a c d e g k n E H K):call a c d e g k n E H K:=
  callW_of T0_ok P0_mixed (A:=A) (fn:=Go.Proofs.Try.f48) Go.Proofs.Try.func48 rfl ok rfl h
theorem l1_rule (I:S1 Prop) (μ:S1 Nat)
 (h:∀o p q t v w y H,I o p q t v w y H→∀X:FP,(∀o' p' q' t' v' w' y' H',I o' p' q' t' v' w' y' H'→μ o' p' q' t' v' w' y' H'<μ o p q t v w y H→X (f1 o' p' q' t' v' w' y') H')→b1 o p q t v w y X E H K) (hI:I o p q t v w y H):l1 o p q t v w y E H K:=
 loop_rule2 (fun r m H=>∃o p q t v w y,r=f1 o p q t v w y∧m=μ o p q t v w y H∧I o p q t v w y H) (by rintro _ _ _ ⟨o,p,q,t,v,w,y,rfl,rfl,hI⟩ X hX; exact h _ _ _ _ _ _ _ _ hI X fun o' p' q' t' v' w' y' H' hI hl=>hX _ _ _ ⟨o',p',q',t',v',w',y',rfl,rfl,hI⟩ hl) rfl ⟨_,_,_,_,_,_,_,rfl,rfl,hI⟩
theorem nok:nodesOk code [[0,1,0,1,1]]=true:=by kernel_rfl
def run_t (l1:S1 Prop)(a:Int)(c:OA)(d e:Nat)(g:OA)(k n:Nat)(E:VP)(H:Hp)(K:KT):Prop:=
  nw H ⟨[.int .i64 a,.slice c d e],24⟩ fun B1 H1=>
  l1 B1 0 g k n (k:Int) 0 H1
theorem run_eq (h:run_t (fun o p q t v w y H=>l1 o p q t v w y E H K) a c d e g k n E H K):run a c d e g k n E H K:=by
  exact nodeR_imp2 (fun G=>run_t (fun o p q t v w y H=>G [0,1,0,1,1] (f1 o p q t v w y) H) a c d e g k n E H K) nok rfl (fun G=>by kernel_rfl) (Eq.mp (by kernel_rfl) h)
def b1_t (o:Nat)(p:Int)(q:OA)(t v:Nat)(w y:Int)(X1:FP)(E:VP)(H:Hp)(K:KT):Prop:=
  bcase (decide ((y:Int)<w)) (
  ix q t y 1 fun B1 o1=>
  ldI .i64 (H.get B1 o1) fun x1=>
  ldS (H.get o 1) fun x2p x2n x2c=>
  ix x2p x2n x1 4 fun B2 o2=>
  ldI .i64 (H.get B2 (o2+3)) fun x3=>
  X1 (f1 o (IntKind.wrap .i64 (p+x3)) q t v w (IntKind.wrap .i64 (y+1))) H)
  (K p H)
theorem b1_eq (h:b1_t o p q t v w y X1 E H K):b1 o p q t v w y X1 E H K:=by
  exact nodeR_imp2 (fun _=>b1_t o p q t v w y X1 E H K) nok rfl (fun G=>by kernel_rfl) h
end
end Q24
namespace Q33
abbrev KT:=OA→Nat→Nat→Hp→Prop
abbrev S1 (α:Type):=OA→Nat→Nat→OA→Nat→Nat→Int→Int→Hp→α
section
variable (a g:OA)(c i d k:Nat)(e:Int)(n:OA)(o p:Nat)(q t:Int)(X1:FP)(E:VP)(H:Hp)(K:KT)
noncomputable def A:An:={ live:=[(0,[0,1]),(1,[0,1]),(2,[0,1]),(3,[0,5]),(4,[5,13,14,15]),(5,[5,13,14,15]),(6,[5,7,13,14,15]),(7,[5,13,14,15]),(8,[5])],ord:=[],stb:=[],pre:=[] }
noncomputable def code:Code:=bodyOf Go.Proofs.Try.f59
def rq:Ex→FP:=retQ T0 [.tmp 4] [47] (fun r H=>ldR (.one false [.sl]) r fun u=>K (asS1 u) (asS2 u) (asS3 u) H) E
noncomputable def f1:Fr:=[(5,.slice g i k),(13,.slice n o p),(14,.int .i64 q),(15,.int .i64 t)]
def run:Prop:=nodeM P0 T0 A code [] [] (rq E K) (argF 0 [.slice a c d,.int .i64 e]) H
def l1:Prop:=nodeM P0 T0 A code [1,1,1,0,1,0] [] (rq E K) (f1 g i k n o p q t) H
def b1:Prop:=nodeM P0 T0 A code [1,1,1,0,1,0,0] [X1] (rq E K) (f1 g i k n o p q t) H
variable {a g c i d k e n o p q t X1 E H K}
theorem ok:okCode A 24 code=true:=by kernel_rfl
theorem of (h:run a c d e E H K):call a c d e E H K:=
  callW_of T0_ok P0_mixed (A:=A) (fn:=Go.Proofs.Try.f59) Go.Proofs.Try.func59 rfl ok rfl h
theorem l1_rule (I:S1 Prop) (μ:S1 Nat)
 (h:∀g i k n o p q t H,I g i k n o p q t H→∀X:FP,(∀g' i' k' n' o' p' q' t' H',I g' i' k' n' o' p' q' t' H'→μ g' i' k' n' o' p' q' t' H'<μ g i k n o p q t H→X (f1 g' i' k' n' o' p' q' t') H')→b1 g i k n o p q t X E H K) (hI:I g i k n o p q t H):l1 g i k n o p q t E H K:=
 loop_rule2 (fun r m H=>∃g i k n o p q t,r=f1 g i k n o p q t∧m=μ g i k n o p q t H∧I g i k n o p q t H) (by rintro _ _ _ ⟨g,i,k,n,o,p,q,t,rfl,rfl,hI⟩ X hX; exact h _ _ _ _ _ _ _ _ _ hI X fun g' i' k' n' o' p' q' t' H' hI hl=>hX _ _ _ ⟨g',i',k',n',o',p',q',t',rfl,rfl,hI⟩ hl) rfl ⟨_,_,_,_,_,_,_,_,rfl,rfl,hI⟩
theorem nok:nodesOk code [[0,1,0,1,1,1]]=true:=by kernel_rfl
def run_t (l1:S1 Prop)(a:OA)(c d:Nat)(e:Int)(E:VP)(H:Hp)(K:KT):Prop:=
  Q38.call a c d e E H fun H1=>
  mkS e e 4 [.bool] 1 H1 fun B1 H2=>
  l1 (some ⟨B1,0,none⟩) e.toNat e.toNat a c d (c:Int) 0 H2
theorem run_eq (h:run_t (fun g i k n o p q t H=>l1 g i k n o p q t E H K) a c d e E H K):run a c d e E H K:=by
  exact nodeR_imp2 (fun G=>run_t (fun g i k n o p q t H=>G [0,1,0,1,1,1] (f1 g i k n o p q t) H) a c d e E H K) nok rfl (fun G=>by kernel_rfl) (Eq.mp (by kernel_rfl) h)
def b1_t (g:OA)(i k:Nat)(n:OA)(o p:Nat)(q t:Int)(X1:FP)(E:VP)(H:Hp)(K:KT):Prop:=
  bcase (decide ((t:Int)<q)) (
  ix n o t 1 fun B1 o1=>
  ldI .i64 (H.get B1 o1) fun x1=>
  ix g i x1 1 fun B2 o2=>
  stC H B2 o2 [.bool true] fun H1=>
  X1 (f1 g i k n o p q (IntKind.wrap .i64 (t+1))) H1)
  (K g i k H)
theorem b1_eq (h:b1_t g i k n o p q t X1 E H K):b1 g i k n o p q t X1 E H K:=by
  exact nodeR_imp2 (fun _=>b1_t g i k n o p q t X1 E H K) nok rfl (fun G=>by kernel_rfl) h
end
end Q33
namespace Q38
abbrev KT:=Hp→Prop
abbrev S1 (α:Type):=Int→Int→OA→Nat→Nat→Int→Int→Hp→α
section
variable (a:OA)(c d:Nat)(e g:Int)(i:OA)(k n:Nat)(o p:Int)(X1:FP)(E:VP)(H:Hp)(K:KT)
noncomputable def A:An:={ live:=[(0,[0,1]),(1,[0,1,4]),(2,[1,4,7,8,9]),(3,[1,4,7,8,9]),(4,[1,4,6,7,8,9]),(5,[1,6,7,8,9]),(6,[1,4,7,8,9])],ord:=[],stb:=[],pre:=[] }
noncomputable def code:Code:=bodyOf Go.Proofs.Try.f72
def rq:Ex→FP:=retQ T0 [] [] (fun r H=>ldR (.tup []) r fun u=>K H) E
noncomputable def f1:Fr:=[(1,.int .i64 e),(4,.int .i64 g),(7,.slice i k n),(8,.int .i64 o),(9,.int .i64 p)]
def run:Prop:=nodeM P0 T0 A code [] [] (rq E K) (argF 0 [.slice a c d,.int .i64 e]) H
def j1:Prop:=nodeM P0 T0 A code [1,1,0,0,1,1,1] [X1] (rq E K) (f1 e g i k n o p) H
def l1:Prop:=nodeM P0 T0 A code [1,1,0] [] (rq E K) (f1 e g i k n o p) H
def b1:Prop:=nodeM P0 T0 A code [1,1,0,0] [X1] (rq E K) (f1 e g i k n o p) H
variable {a c d e g i k n o p X1 E H K}
theorem ok:okCode A 24 code=true:=by kernel_rfl
theorem of (h:run a c d e E H K):call a c d e E H K:=
  callW_of T0_ok P0_mixed (A:=A) (fn:=Go.Proofs.Try.f72) Go.Proofs.Try.func72 rfl ok rfl h
theorem l1_rule (I:S1 Prop) (μ:S1 Nat)
 (h:∀e g i k n o p H,I e g i k n o p H→∀X:FP,(∀e' g' i' k' n' o' p' H',I e' g' i' k' n' o' p' H'→μ e' g' i' k' n' o' p' H'<μ e g i k n o p H→X (f1 e' g' i' k' n' o' p') H')→b1 e g i k n o p X E H K) (hI:I e g i k n o p H):l1 e g i k n o p E H K:=
 loop_rule2 (fun r m H=>∃e g i k n o p,r=f1 e g i k n o p∧m=μ e g i k n o p H∧I e g i k n o p H) (by rintro _ _ _ ⟨e,g,i,k,n,o,p,rfl,rfl,hI⟩ X hX; exact h _ _ _ _ _ _ _ _ hI X fun e' g' i' k' n' o' p' H' hI hl=>hX _ _ _ ⟨e',g',i',k',n',o',p',rfl,rfl,hI⟩ hl) rfl ⟨_,_,_,_,_,_,_,rfl,rfl,hI⟩
theorem nok:nodesOk code [[0,1,1],[1,1,1,0,0,1,1]]=true:=by kernel_rfl
def run_t (l1:S1 Prop)(a:OA)(c d:Nat)(e:Int)(E:VP)(H:Hp)(K:KT):Prop:=
  l1 e (-1) a c d (c:Int) 0 H
theorem run_eq (h:run_t (fun e g i k n o p H=>l1 e g i k n o p E H K) a c d e E H K):run a c d e E H K:=by
  exact nodeR_imp2 (fun G=>run_t (fun e g i k n o p H=>G [0,1,1] (f1 e g i k n o p) H) a c d e E H K) nok rfl (fun G=>by kernel_rfl) (Eq.mp (by kernel_rfl) h)
def j1_t (e g:Int)(i:OA)(k n:Nat)(o p:Int)(X1:FP)(E:VP)(H:Hp)(K:KT):Prop:=
  X1 (f1 e g i k n o (IntKind.wrap .i64 (p+1))) H
theorem j1_eq (h:j1_t e g i k n o p X1 E H K):j1 e g i k n o p X1 E H K:=by
  exact nodeR_imp2 (fun _=>j1_t e g i k n o p X1 E H K) nok rfl (fun G=>by kernel_rfl) h
def b1_t (j1:Int→Int→OA→Nat→Nat→Int→Int→Hp→Prop)(e g:Int)(i:OA)(k n:Nat)(o p:Int)(X1:FP)(E:VP)(H:Hp)(K:KT):Prop:=
  bcase (decide ((p:Int)<o)) (
  ix i k p 1 fun B1 o1=>
  ldI .i64 (H.get B1 o1) fun x1=>
  bcase (decide ((g:Int)<x1)) (
  Q21.call (decide ((x1:Int)<e)) 221 E H fun H1=>
  j1 e x1 i k n o p H1)
  (Q21.call false 221 E H fun H2=>
  j1 e x1 i k n o p H2))
  (K H)
theorem b1_eq (h:b1_t (fun e g i k n o p H=>j1 e g i k n o p X1 E H K) e g i k n o p X1 E H K):b1 e g i k n o p X1 E H K:=by
  exact nodeR_imp2 (fun G=>b1_t (fun e g i k n o p H=>G [1,1,1,0,0,1,1] (f1 e g i k n o p) H) e g i k n o p X1 E H K) nok rfl (fun G=>by kernel_rfl) (Eq.mp (by kernel_rfl) h)
end
end Q38
namespace Q39
abbrev KT:=Int→Hp→Prop
abbrev S1 (α:Type):=Int→Int→Nat→Nat→Int→OA→Nat→Nat→Int→Int→Hp→α
section
variable (a c:Int)(d n e o g:Nat)(p:Int)(k:Nat)(q:OA)(t v:Nat)(w y:Int)(X1:FP)(E:VP)(H:Hp)(K:KT)
noncomputable def A:An:={ live:=[(0,[0,1,2,3]),(1,[0,1,2,3]),(2,[0,1,2,3,7]),(3,[0,1,3,7,22,23,24]),(4,[0,1,3,7,22,23,24]),(5,[0,1,3,7,8,9,22,23,24]),(6,[0,1,3,7,9,22,23,24]),(7,[0,1,3,7,22,23,24]),(8,[7])],ord:=[(1,[0,1,2,3,4,5,6,7,8,9,10,11])],stb:=[],pre:=[(1,[[],[0],[],[0,1,2],[0,1,2,3],[],[5],[],[5,6,7],[5,6,7,8],[0,1,2,3,4,5,6,7,8,9],[0,1,2,3,4,5,6,7,8,9,10]])] }
noncomputable def code:Code:=bodyOf Go.Proofs.Try.f73
def rq:Ex→FP:=retQ T0 [.tmp 6] [2] (fun r H=>ldR (.one false [.i .i64]) r fun u=>K (asI u) H) E
noncomputable def f1:Fr:=[(0,.int .i64 a),(1,.int .i64 c),(3,.pointer (some ⟨n,o,none⟩)),(7,.int .i64 p),(22,.slice q t v),(23,.int .i64 w),(24,.int .i64 y)]
def run:Prop:=nodeM P0 T0 A code [] [] (rq E K) (argF 0 [.int .i64 a,.int .i64 c,.pointer (some ⟨d,e,none⟩),.pointer (some ⟨g,k,none⟩)]) H
def j1:Prop:=nodeM P0 T0 A code [1,1,0,1,0,0,1,1,1] [X1] (rq E K) (f1 a c n o p q t v w y) H
def l1:Prop:=nodeM P0 T0 A code [1,1,0,1,0] [] (rq E K) (f1 a c n o p q t v w y) H
def b1:Prop:=nodeM P0 T0 A code [1,1,0,1,0,0] [X1] (rq E K) (f1 a c n o p q t v w y) H
variable {a c d n e o g p k q t v w y X1 E H K}
theorem ok:okCode A 51 code=true:=by kernel_rfl
theorem of (h:run a c d e g k E H K):call a c d e g k E H K:=
  callW_of T0_ok P0_mixed (A:=A) (fn:=Go.Proofs.Try.f73) Go.Proofs.Try.func73 rfl ok rfl h
theorem l1_rule (I:S1 Prop) (μ:S1 Nat)
 (h:∀a c n o p q t v w y H,I a c n o p q t v w y H→∀X:FP,(∀a' c' n' o' p' q' t' v' w' y' H',I a' c' n' o' p' q' t' v' w' y' H'→μ a' c' n' o' p' q' t' v' w' y' H'<μ a c n o p q t v w y H→X (f1 a' c' n' o' p' q' t' v' w' y') H')→b1 a c n o p q t v w y X E H K) (hI:I a c n o p q t v w y H):l1 a c n o p q t v w y E H K:=
 loop_rule2 (fun r m H=>∃a c n o p q t v w y,r=f1 a c n o p q t v w y∧m=μ a c n o p q t v w y H∧I a c n o p q t v w y H) (by rintro _ _ _ ⟨a,c,n,o,p,q,t,v,w,y,rfl,rfl,hI⟩ X hX; exact h _ _ _ _ _ _ _ _ _ _ _ hI X fun a' c' n' o' p' q' t' v' w' y' H' hI hl=>hX _ _ _ ⟨a',c',n',o',p',q',t',v',w',y',rfl,rfl,hI⟩ hl) rfl ⟨_,_,_,_,_,_,_,_,_,_,rfl,rfl,hI⟩
theorem nok:nodesOk code [[0,1,0,1,1],[1,1,1,0,0,1,0,1,1]]=true:=by kernel_rfl
def run_t (l1:S1 Prop)(a c:Int)(d e g k:Nat)(E:VP)(H:Hp)(K:KT):Prop:=
  ldS (H.get d e) fun x1p x1n x1c=>
  ix x1p x1n a 1 fun B1 o1=>
  ldI .i64 (H.get B1 o1) fun x2=>
  ldS (H.get d e) fun x3p x3n x3c=>
  ix x3p x3n c 1 fun B2 o2=>
  ldI .i64 (H.get B2 o2) fun x4=>
  ldS (H.get d (e+1)) fun x5p x5n x5c=>
  l1 a c g k (IntKind.wrap .i64 (x2+x4)) x5p x5n x5c (x5n:Int) 0 H
theorem run_eq (h:run_t (fun a c n o p q t v w y H=>l1 a c n o p q t v w y E H K) a c d e g k E H K):run a c d e g k E H K:=by
  exact nodeR_imp2 (fun G=>run_t (fun a c n o p q t v w y H=>G [0,1,0,1,1] (f1 a c n o p q t v w y) H) a c d e g k E H K) nok rfl (fun G=>by kernel_rfl) (Eq.mp (by kernel_rfl) h)
def j1_t (a c:Int)(n o:Nat)(p:Int)(q:OA)(t v:Nat)(w y:Int)(X1:FP)(E:VP)(H:Hp)(K:KT):Prop:=
  X1 (f1 a c n o p q t v w (IntKind.wrap .i64 (y+1))) H
theorem j1_eq (h:j1_t a c n o p q t v w y X1 E H K):j1 a c n o p q t v w y X1 E H K:=by
  exact nodeR_imp2 (fun _=>j1_t a c n o p q t v w y X1 E H K) nok rfl (fun G=>by kernel_rfl) h
def b1_t (j1:Int→Int→Nat→Nat→Int→OA→Nat→Nat→Int→Int→Hp→Prop)(a c:Int)(n o:Nat)(p:Int)(q:OA)(t v:Nat)(w y:Int)(X1:FP)(E:VP)(H:Hp)(K:KT):Prop:=
  bcase (decide ((y:Int)<w)) (
  ix q t y 2 fun B1 o1=>
  ldS (H.get B1 o1) fun x1p x1n x1c=>
  ldI .i64 (H.get B1 (o1+1)) fun x2=>
  nw H ⟨[.slice none 0 0,.int .i64 0],65⟩ fun B2 H1=>
  stC H1 B2 0 [.slice x1p x1n x1c,.int .i64 x2] fun H2=>
  ldS (H2.get n o) fun x3p x3n x3c=>
  ix x3p x3n y 1 fun B3 o2=>
  ldS (H2.get B3 o2) fun x4p x4n x4c=>
  ix x4p x4n a 1 fun B4 o3=>
  ldB (H2.get B4 o3) fun x5=>
  bcase (x5) (
  ldS (H2.get n o) fun x6p x6n x6c=>
  ix x6p x6n y 1 fun B5 o4=>
  ldS (H2.get B5 o4) fun x7p x7n x7c=>
  ix x7p x7n c 1 fun B6 o5=>
  ldB (H2.get B6 o5) fun x8=>
  bcase (x8) (
  ldI .i64 (H2.get B2 1) fun x9=>
  j1 a c n o (IntKind.wrap .i64 (p-x9)) q t v w y H2)
  (j1 a c n o p q t v w y H2))
  (j1 a c n o p q t v w y H2))
  (K p H)
theorem b1_eq (h:b1_t (fun a c n o p q t v w y H=>j1 a c n o p q t v w y X1 E H K) a c n o p q t v w y X1 E H K):b1 a c n o p q t v w y X1 E H K:=by
  exact nodeR_imp2 (fun G=>b1_t (fun a c n o p q t v w y H=>G [1,1,1,0,0,1,0,1,1] (f1 a c n o p q t v w y) H) a c n o p q t v w y X1 E H K) nok rfl (fun G=>by kernel_rfl) (Eq.mp (by kernel_rfl) h)
end
end Q39
end Go.Mz
