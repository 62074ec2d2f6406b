/-
  The shallow texts of functions (LFK), each with a kernel-checked equation to the translated code. It proves nothing of the program by itself.
-/
import Derived.Test.YtndgjfbibkdokaaTab
set_option linter.unusedVariables false
set_option maxRecDepth 100000
namespace Go.Mz
namespace Q0
abbrev KT:=Bool→Hp→Prop
abbrev S1 (α:Type):=OA→Nat→Nat→Nat→OA→Nat→Nat→Nat→Int→OA→Nat→Nat→Nat→Int→Int→Int→Hp→α
abbrev S2 (α:Type):=OA→Nat→Nat→Nat→Nat→Int→OA→Nat→Nat→Nat→Int→Int→Int→Hp→α
abbrev S3 (α:Type):=OA→Nat→Nat→Nat→Nat→Int→OA→Nat→Nat→Nat→Int→Int→Int→Hp→α
abbrev S4 (α:Type):=OA→Nat→Nat→Nat→Nat→Int→OA→Nat→Nat→Nat→Int→Int→Int→Int→Int→Int→Hp→α
abbrev S5 (α:Type):=OA→Nat→Nat→Nat→Int→OA→Nat→Nat→Nat→Int→OA→Nat→Nat→OA→Nat→Nat→Int→Int→Hp→α
abbrev S6 (α:Type):=Nat→Int→OA→Nat→Nat→Nat→Int→OA→Nat→Nat→OA→Nat→Nat→Int→Int→Hp→α
abbrev S7 (α:Type):=Nat→Int→OA→Nat→Nat→Nat→Int→OA→Nat→Nat→Int→OA→Nat→Nat→OA→Nat→Nat→Int→Int→Int→Int→Hp→α
section
variable (a:Int)(c:OA)(d e:Nat)(g:OA)(k n o:Nat)(p:OA)(q t v:Nat)(w:Int)(y:OA)(z aa ab:Nat)(ac ad ag aq:Int)(az:OA)(ae ak an:Int)(ca:Nat)(ap:Int)(cb:Nat)(av:Int)(cc:OA)(cv aw:Int)(cd:Nat)(cw:OA)(ce cz:Nat)(cg:Int)(da:Nat)(ck:Int)(cn:OA)(cp cq:Nat)(cs ct db dc:Int)(X1 X2:FP)(E:VP)(H:Hp)(K:KT)
noncomputable def A:An:={ live:=[(0,[0,1]),(1,[1,2]),(2,[]),(3,[1,2]),(4,[1,2,5]),(5,[1,2,5]),(6,[1,2,5,6,7,10]),(7,[1,2,5,6,7,10,11,12,14]),(8,[]),(9,[1,2,6,7,10,11,12,14]),(10,[1,2,6,7,10,11,12,14,79,80]),(11,[1,2,6,7,10,11,12,14,79,80]),(12,[1,2,6,7,10,11,12,14,16,79,80]),(13,[1,2,6,7,10,11,12,14,79,80]),(14,[1,2,7,10,11,12,14]),(15,[1,2,7,10,11,12,14,89,90]),(16,[1,2,7,10,11,12,14,89,90]),(17,[1,2,7,10,11,12,14,17,89,90]),(18,[1,2,7,10,11,12,14,89,90]),(19,[1,2,7,10,11,12,14]),(20,[1,2,7,10,11,12,14,100,101]),(21,[1,2,7,10,11,12,14,100,101]),(22,[1,2,7,10,11,12,14,18,100,101]),(23,[1,2,7,10,11,12,14,18,100,101,110,111]),(24,[1,2,7,10,11,12,14,18,100,101,110,111]),(25,[1,2,7,10,11,12,14,18,19,100,101,110,111]),(26,[1,2,7,10,11,12,14,18,100,101,110,111]),(27,[1,2,7,10,11,12,14,100,101]),(28,[1,2,10,11,12,14]),(29,[1,2,10,11,12,14,20]),(30,[1,2,10,11,12,14,20,124,125,126]),(31,[1,2,10,11,12,14,20,124,125,126]),(32,[1,2,10,11,12,14,20,22,124,125,126]),(33,[1,2,10,11,12,14,20,124,125,126]),(34,[1,2,10,11,12,14,20]),(35,[1,2,10,11,12,14,20]),(36,[2,10,11,12,14,20,139,140,141]),(37,[2,10,11,12,14,20,139,140,141]),(38,[2,10,11,12,14,20,23,24,139,140,141]),(39,[2,10,11,12,14,20,23,24,139,140,141,147,148]),(40,[2,10,11,12,14,20,23,24,139,140,141,147,148]),(41,[2,10,11,12,14,20,23,24,25,139,140,141,147,148]),(42,[]),(43,[2,10,11,12,14,20,23,24,139,140,141,147,148]),(44,[2,10,11,12,14,20,139,140,141]),(45,[2,10,11,12,14]),(46,[11]),(47,[2,11,12,14]),(48,[14,26,27])],ord:=[(4,[0,1,2,3,5,6,7,4,8,9,10]),(7,[0,1,2,3,4,5,6,7,8,9,10,11,12,13,14,15,16,17,18,19]),(41,[0,1,2,3,4,5,6,7,8,9,10,11])],stb:=[(4,[(4,[6])])],pre:=[(4,[[],[0],[],[2],[0,1,2,3],[],[5],[5,6],[0,1,2,3,4,5,6,7],[0,1,2,3,4,5,6,7,8],[0,1,2,3,4,5,6,7,8,9]]),(7,[[],[],[0,1],[0,1,2],[0,1,2,3],[0,1,2,3,4],[0,1,2,3,4,5],[0,1,2,3,4],[0,1,2,3,4,7],[0,1,2,3,4,7,8],[0,1,2,3,4,7,8,9],[0,1,2,3,4,5,6,7,8,9,10],[0,1,2,3,4],[0,1,2,3,4,12],[0,1,2,3,4,12,13],[0,1,2,3,4,5,6,7,8,9,10,11,12,13,14],[0,1,2,3,4,5,6,7,8,9,10,11,12,13,14,15],[0,1,2,3,4,5,6,7,8,9,10,11,12,13,14,15,16],[0,1,2,3,4,5,6,7,8,9,10,11,12,13,14,15,16,17],[0,1,2,3,4,5,6,7,8,9,10,11,12,13,14,15,16,17,18]]),(41,[[],[],[0,1],[0,1,2],[],[0,1,2,3,4],[0,1,2,3,4,5],[],[],[7,8],[7,8,9],[0,1,2,3,4,5,6,7,8,9,10]])] }
noncomputable def code:Code:=bodyOf Go.Proofs.Try.f9
def rq:Ex→FP:=retQ T0 [.tmp 4] [4] (fun r H=>ldR (.one false [.bool]) r fun u=>K (asB u) H) E
noncomputable def f1:Fr:=[(1,.slice g k n),(2,.pointer (some ⟨o,0,none⟩)),(6,.slice p q t),(7,.pointer (some ⟨v,0,none⟩)),(10,.int .i64 w),(11,.slice y z aa),(12,.pointer (some ⟨ab,0,none⟩)),(14,.int .i64 ac),(79,.int .i64 ad),(80,.int .i64 ae)]
noncomputable def f2:Fr:=[(1,.slice g k n),(2,.pointer (some ⟨o,0,none⟩)),(7,.pointer (some ⟨v,0,none⟩)),(10,.int .i64 w),(11,.slice y z aa),(12,.pointer (some ⟨ab,0,none⟩)),(14,.int .i64 ac),(89,.int .i64 ag),(90,.int .i64 ak)]
noncomputable def f3:Fr:=[(1,.slice g k n),(2,.pointer (some ⟨o,0,none⟩)),(7,.pointer (some ⟨v,0,none⟩)),(10,.int .i64 w),(11,.slice y z aa),(12,.pointer (some ⟨ab,0,none⟩)),(14,.int .i64 ac),(100,.int .i64 an),(101,.int .i64 ap)]
noncomputable def f4:Fr:=[(1,.slice g k n),(2,.pointer (some ⟨o,0,none⟩)),(7,.pointer (some ⟨v,0,none⟩)),(10,.int .i64 w),(11,.slice y z aa),(12,.pointer (some ⟨ab,0,none⟩)),(14,.int .i64 ac),(18,.int .i64 aq),(100,.int .i64 an),(101,.int .i64 ap),(110,.int .i64 av),(111,.int .i64 aw)]
noncomputable def f5:Fr:=[(1,.slice g k n),(2,.pointer (some ⟨o,0,none⟩)),(10,.int .i64 w),(11,.slice y z aa),(12,.pointer (some ⟨ab,0,none⟩)),(14,.int .i64 ac),(20,.slice az ca cb),(124,.slice cc cd ce),(125,.int .i64 cg),(126,.int .i64 ck)]
noncomputable def f6:Fr:=[(2,.pointer (some ⟨o,0,none⟩)),(10,.int .i64 w),(11,.slice y z aa),(12,.pointer (some ⟨ab,0,none⟩)),(14,.int .i64 ac),(20,.slice az ca cb),(139,.slice cn cp cq),(140,.int .i64 cs),(141,.int .i64 ct)]
noncomputable def f7:Fr:=[(2,.pointer (some ⟨o,0,none⟩)),(10,.int .i64 w),(11,.slice y z aa),(12,.pointer (some ⟨ab,0,none⟩)),(14,.int .i64 ac),(20,.slice az ca cb),(23,.int .i64 cv),(24,.slice cw cz da),(139,.slice cn cp cq),(140,.int .i64 cs),(141,.int .i64 ct),(147,.int .i64 db),(148,.int .i64 dc)]
def run:Prop:=nodeM P0 T0 A code [] [] (rq E K) (argF 0 [.agg ⟨[.int .i64 a,.slice c d e]⟩,.slice g k n]) H
def j1:Prop:=nodeM P0 T0 A code [1,1,1,1,1,1,1,1] [] (rq E K) [(1,.slice g k n),(2,.pointer (some ⟨o,0,none⟩)),(7,.pointer (some ⟨v,0,none⟩)),(10,.int .i64 w),(11,.slice y z aa),(12,.pointer (some ⟨ab,0,none⟩)),(14,.int .i64 ac)] H
def j2:Prop:=nodeM P0 T0 A code [1,1,1,1,1,1,1,1,1] [] (rq E K) [(1,.slice g k n),(2,.pointer (some ⟨o,0,none⟩)),(7,.pointer (some ⟨v,0,none⟩)),(10,.int .i64 w),(11,.slice y z aa),(12,.pointer (some ⟨ab,0,none⟩)),(14,.int .i64 ac)] H
def j3:Prop:=nodeM P0 T0 A code [1,1,1,1,1,1,1,1,1,0,1,0,0,1,1,1] [X1] (rq E K) (f3 g k n o v w y z aa ab ac an ap) H
def j4:Prop:=nodeM P0 T0 A code [1,1,1,1,1,1,1,1,1,1] [] (rq E K) [(1,.slice g k n),(2,.pointer (some ⟨o,0,none⟩)),(10,.int .i64 w),(11,.slice y z aa),(12,.pointer (some ⟨ab,0,none⟩)),(14,.int .i64 ac)] H
def j5:Prop:=nodeM P0 T0 A code [1,1,1,1,1,1,1,1,1,1,1,1] [] (rq E K) [(1,.slice g k n),(2,.pointer (some ⟨o,0,none⟩)),(10,.int .i64 w),(11,.slice y z aa),(12,.pointer (some ⟨ab,0,none⟩)),(14,.int .i64 ac),(20,.slice az ca cb)] H
def j6:Prop:=nodeM P0 T0 A code [1,1,1,1,1,1,1,1,1,1,1,1,1,0,1,0,0,1,1,1] [X1] (rq E K) (f6 o w y z aa ab ac az ca cb cn cp cq cs ct) H
def j7:Prop:=nodeM P0 T0 A code [1,1,1,1,1,1,1,1,1,1,1,1,1,1] [] (rq E K) [(2,.pointer (some ⟨o,0,none⟩)),(10,.int .i64 w),(11,.slice y z aa),(12,.pointer (some ⟨ab,0,none⟩)),(14,.int .i64 ac)] H
def l1:Prop:=nodeM P0 T0 A code [1,1,1,1,1,1,1,0,1,0] [] (rq E K) (f1 g k n o p q t v w y z aa ab ac ad ae) H
def b1:Prop:=nodeM P0 T0 A code [1,1,1,1,1,1,1,0,1,0,0] [X1] (rq E K) (f1 g k n o p q t v w y z aa ab ac ad ae) H
def l2:Prop:=nodeM P0 T0 A code [1,1,1,1,1,1,1,1,0,1,0] [] (rq E K) (f2 g k n o v w y z aa ab ac ag ak) H
def b2:Prop:=nodeM P0 T0 A code [1,1,1,1,1,1,1,1,0,1,0,0] [X1] (rq E K) (f2 g k n o v w y z aa ab ac ag ak) H
def l3:Prop:=nodeM P0 T0 A code [1,1,1,1,1,1,1,1,1,0,1,0] [] (rq E K) (f3 g k n o v w y z aa ab ac an ap) H
def b3:Prop:=nodeM P0 T0 A code [1,1,1,1,1,1,1,1,1,0,1,0,0] [X1] (rq E K) (f3 g k n o v w y z aa ab ac an ap) H
def l4:Prop:=nodeM P0 T0 A code [1,1,1,1,1,1,1,1,1,0,1,0,0,1,1,0,0,1,1,0] [X1] (rq E K) (f4 g k n o v w y z aa ab ac aq an ap av aw) H
def b4:Prop:=nodeM P0 T0 A code [1,1,1,1,1,1,1,1,1,0,1,0,0,1,1,0,0,1,1,0,0] [X1,X2] (rq E K) (f4 g k n o v w y z aa ab ac aq an ap av aw) H
def l5:Prop:=nodeM P0 T0 A code [1,1,1,1,1,1,1,1,1,1,1,0,1,0] [] (rq E K) (f5 g k n o w y z aa ab ac az ca cb cc cd ce cg ck) H
def b5:Prop:=nodeM P0 T0 A code [1,1,1,1,1,1,1,1,1,1,1,0,1,0,0] [X1] (rq E K) (f5 g k n o w y z aa ab ac az ca cb cc cd ce cg ck) H
def l6:Prop:=nodeM P0 T0 A code [1,1,1,1,1,1,1,1,1,1,1,1,1,0,1,0] [] (rq E K) (f6 o w y z aa ab ac az ca cb cn cp cq cs ct) H
def b6:Prop:=nodeM P0 T0 A code [1,1,1,1,1,1,1,1,1,1,1,1,1,0,1,0,0] [X1] (rq E K) (f6 o w y z aa ab ac az ca cb cn cp cq cs ct) H
def l7:Prop:=nodeM P0 T0 A code [1,1,1,1,1,1,1,1,1,1,1,1,1,0,1,0,0,1,1,0,0,1,1,0] [X1] (rq E K) (f7 o w y z aa ab ac az ca cb cv cw cz da cn cp cq cs ct db dc) H
def b7:Prop:=nodeM P0 T0 A code [1,1,1,1,1,1,1,1,1,1,1,1,1,0,1,0,0,1,1,0,0,1,1,0,0] [X1,X2] (rq E K) (f7 o w y z aa ab ac az ca cb cv cw cz da cn cp cq cs ct db dc) H
variable {a c d e g k n o p q t v w y z aa ab ac ad ag aq az ae ak an ca ap cb av cc cv aw cd cw ce cz cg da ck cn cp cq cs ct db dc X1 X2 E H K}
theorem ok:okCode A 184 code=true:=by kernel_rfl
theorem of (h:run a c d e g k n E H K):call a c d e g k n E H K:=
  callW_of T0_ok P0_mixed (A:=A) (fn:=Go.Proofs.Try.f9) Go.Proofs.Try.func9 rfl ok rfl h
theorem l1_rule (I:S1 Prop) (μ:S1 Nat)
 (h:∀g k n o p q t v w y z aa ab ac ad ae H,I g k n o p q t v w y z aa ab ac ad ae H→∀X:FP,(∀g' k' n' o' p' q' t' v' w' y' z' aa' ab' ac' ad' ae' H',I g' k' n' o' p' q' t' v' w' y' z' aa' ab' ac' ad' ae' H'→μ g' k' n' o' p' q' t' v' w' y' z' aa' ab' ac' ad' ae' H'<μ g k n o p q t v w y z aa ab ac ad ae H→X (f1 g' k' n' o' p' q' t' v' w' y' z' aa' ab' ac' ad' ae') H')→b1 g k n o p q t v w y z aa ab ac ad ae X E H K) (hI:I g k n o p q t v w y z aa ab ac ad ae H):l1 g k n o p q t v w y z aa ab ac ad ae E H K:=
 loop_rule2 (fun r m H=>∃g k n o p q t v w y z aa ab ac ad ae,r=f1 g k n o p q t v w y z aa ab ac ad ae∧m=μ g k n o p q t v w y z aa ab ac ad ae H∧I g k n o p q t v w y z aa ab ac ad ae H) (by rintro _ _ _ ⟨g,k,n,o,p,q,t,v,w,y,z,aa,ab,ac,ad,ae,rfl,rfl,hI⟩ X hX; exact h _ _ _ _ _ _ _ _ _ _ _ _ _ _ _ _ _ hI X fun g' k' n' o' p' q' t' v' w' y' z' aa' ab' ac' ad' ae' H' hI hl=>hX _ _ _ ⟨g',k',n',o',p',q',t',v',w',y',z',aa',ab',ac',ad',ae',rfl,rfl,hI⟩ hl) rfl ⟨_,_,_,_,_,_,_,_,_,_,_,_,_,_,_,_,rfl,rfl,hI⟩
theorem l2_rule (I:S2 Prop) (μ:S2 Nat)
 (h:∀g k n o v w y z aa ab ac ag ak H,I g k n o v w y z aa ab ac ag ak H→∀X:FP,(∀g' k' n' o' v' w' y' z' aa' ab' ac' ag' ak' H',I g' k' n' o' v' w' y' z' aa' ab' ac' ag' ak' H'→μ g' k' n' o' v' w' y' z' aa' ab' ac' ag' ak' H'<μ g k n o v w y z aa ab ac ag ak H→X (f2 g' k' n' o' v' w' y' z' aa' ab' ac' ag' ak') H')→b2 g k n o v w y z aa ab ac ag ak X E H K) (hI:I g k n o v w y z aa ab ac ag ak H):l2 g k n o v w y z aa ab ac ag ak E H K:=
 loop_rule2 (fun r m H=>∃g k n o v w y z aa ab ac ag ak,r=f2 g k n o v w y z aa ab ac ag ak∧m=μ g k n o v w y z aa ab ac ag ak H∧I g k n o v w y z aa ab ac ag ak H) (by rintro _ _ _ ⟨g,k,n,o,v,w,y,z,aa,ab,ac,ag,ak,rfl,rfl,hI⟩ X hX; exact h _ _ _ _ _ _ _ _ _ _ _ _ _ _ hI X fun g' k' n' o' v' w' y' z' aa' ab' ac' ag' ak' H' hI hl=>hX _ _ _ ⟨g',k',n',o',v',w',y',z',aa',ab',ac',ag',ak',rfl,rfl,hI⟩ hl) rfl ⟨_,_,_,_,_,_,_,_,_,_,_,_,_,rfl,rfl,hI⟩
theorem l3_rule (I:S3 Prop) (μ:S3 Nat)
 (h:∀g k n o v w y z aa ab ac an ap H,I g k n o v w y z aa ab ac an ap H→∀X:FP,(∀g' k' n' o' v' w' y' z' aa' ab' ac' an' ap' H',I g' k' n' o' v' w' y' z' aa' ab' ac' an' ap' H'→μ g' k' n' o' v' w' y' z' aa' ab' ac' an' ap' H'<μ g k n o v w y z aa ab ac an ap H→X (f3 g' k' n' o' v' w' y' z' aa' ab' ac' an' ap') H')→b3 g k n o v w y z aa ab ac an ap X E H K) (hI:I g k n o v w y z aa ab ac an ap H):l3 g k n o v w y z aa ab ac an ap E H K:=
 loop_rule2 (fun r m H=>∃g k n o v w y z aa ab ac an ap,r=f3 g k n o v w y z aa ab ac an ap∧m=μ g k n o v w y z aa ab ac an ap H∧I g k n o v w y z aa ab ac an ap H) (by rintro _ _ _ ⟨g,k,n,o,v,w,y,z,aa,ab,ac,an,ap,rfl,rfl,hI⟩ X hX; exact h _ _ _ _ _ _ _ _ _ _ _ _ _ _ hI X fun g' k' n' o' v' w' y' z' aa' ab' ac' an' ap' H' hI hl=>hX _ _ _ ⟨g',k',n',o',v',w',y',z',aa',ab',ac',an',ap',rfl,rfl,hI⟩ hl) rfl ⟨_,_,_,_,_,_,_,_,_,_,_,_,_,rfl,rfl,hI⟩
theorem l4_rule (I:S4 Prop) (μ:S4 Nat)
 (h:∀g k n o v w y z aa ab ac aq an ap av aw H,I g k n o v w y z aa ab ac aq an ap av aw H→∀X:FP,(∀g' k' n' o' v' w' y' z' aa' ab' ac' aq' an' ap' av' aw' H',I g' k' n' o' v' w' y' z' aa' ab' ac' aq' an' ap' av' aw' H'→μ g' k' n' o' v' w' y' z' aa' ab' ac' aq' an' ap' av' aw' H'<μ g k n o v w y z aa ab ac aq an ap av aw H→X (f4 g' k' n' o' v' w' y' z' aa' ab' ac' aq' an' ap' av' aw') H')→b4 g k n o v w y z aa ab ac aq an ap av aw X1 X E H K) (hI:I g k n o v w y z aa ab ac aq an ap av aw H):l4 g k n o v w y z aa ab ac aq an ap av aw X1 E H K:=
 loop_rule2 (fun r m H=>∃g k n o v w y z aa ab ac aq an ap av aw,r=f4 g k n o v w y z aa ab ac aq an ap av aw∧m=μ g k n o v w y z aa ab ac aq an ap av aw H∧I g k n o v w y z aa ab ac aq an ap av aw H) (by rintro _ _ _ ⟨g,k,n,o,v,w,y,z,aa,ab,ac,aq,an,ap,av,aw,rfl,rfl,hI⟩ X hX; exact h _ _ _ _ _ _ _ _ _ _ _ _ _ _ _ _ _ hI X fun g' k' n' o' v' w' y' z' aa' ab' ac' aq' an' ap' av' aw' H' hI hl=>hX _ _ _ ⟨g',k',n',o',v',w',y',z',aa',ab',ac',aq',an',ap',av',aw',rfl,rfl,hI⟩ hl) rfl ⟨_,_,_,_,_,_,_,_,_,_,_,_,_,_,_,_,rfl,rfl,hI⟩
theorem l5_rule (I:S5 Prop) (μ:S5 Nat)
 (h:∀g k n o w y z aa ab ac az ca cb cc cd ce cg ck H,I g k n o w y z aa ab ac az ca cb cc cd ce cg ck H→∀X:FP,(∀g' k' n' o' w' y' z' aa' ab' ac' az' ca' cb' cc' cd' ce' cg' ck' H',I g' k' n' o' w' y' z' aa' ab' ac' az' ca' cb' cc' cd' ce' cg' ck' H'→μ g' k' n' o' w' y' z' aa' ab' ac' az' ca' cb' cc' cd' ce' cg' ck' H'<μ g k n o w y z aa ab ac az ca cb cc cd ce cg ck H→X (f5 g' k' n' o' w' y' z' aa' ab' ac' az' ca' cb' cc' cd' ce' cg' ck') H')→b5 g k n o w y z aa ab ac az ca cb cc cd ce cg ck X E H K) (hI:I g k n o w y z aa ab ac az ca cb cc cd ce cg ck H):l5 g k n o w y z aa ab ac az ca cb cc cd ce cg ck E H K:=
 loop_rule2 (fun r m H=>∃g k n o w y z aa ab ac az ca cb cc cd ce cg ck,r=f5 g k n o w y z aa ab ac az ca cb cc cd ce cg ck∧m=μ g k n o w y z aa ab ac az ca cb cc cd ce cg ck H∧I g k n o w y z aa ab ac az ca cb cc cd ce cg ck H) (by rintro _ _ _ ⟨g,k,n,o,w,y,z,aa,ab,ac,az,ca,cb,cc,cd,ce,cg,ck,rfl,rfl,hI⟩ X hX; exact h _ _ _ _ _ _ _ _ _ _ _ _ _ _ _ _ _ _ _ hI X fun g' k' n' o' w' y' z' aa' ab' ac' az' ca' cb' cc' cd' ce' cg' ck' H' hI hl=>hX _ _ _ ⟨g',k',n',o',w',y',z',aa',ab',ac',az',ca',cb',cc',cd',ce',cg',ck',rfl,rfl,hI⟩ hl) rfl ⟨_,_,_,_,_,_,_,_,_,_,_,_,_,_,_,_,_,_,rfl,rfl,hI⟩
theorem l6_rule (I:S6 Prop) (μ:S6 Nat)
 (h:∀o w y z aa ab ac az ca cb cn cp cq cs ct H,I o w y z aa ab ac az ca cb cn cp cq cs ct H→∀X:FP,(∀o' w' y' z' aa' ab' ac' az' ca' cb' cn' cp' cq' cs' ct' H',I o' w' y' z' aa' ab' ac' az' ca' cb' cn' cp' cq' cs' ct' H'→μ o' w' y' z' aa' ab' ac' az' ca' cb' cn' cp' cq' cs' ct' H'<μ o w y z aa ab ac az ca cb cn cp cq cs ct H→X (f6 o' w' y' z' aa' ab' ac' az' ca' cb' cn' cp' cq' cs' ct') H')→b6 o w y z aa ab ac az ca cb cn cp cq cs ct X E H K) (hI:I o w y z aa ab ac az ca cb cn cp cq cs ct H):l6 o w y z aa ab ac az ca cb cn cp cq cs ct E H K:=
 loop_rule2 (fun r m H=>∃o w y z aa ab ac az ca cb cn cp cq cs ct,r=f6 o w y z aa ab ac az ca cb cn cp cq cs ct∧m=μ o w y z aa ab ac az ca cb cn cp cq cs ct H∧I o w y z aa ab ac az ca cb cn cp cq cs ct H) (by rintro _ _ _ ⟨o,w,y,z,aa,ab,ac,az,ca,cb,cn,cp,cq,cs,ct,rfl,rfl,hI⟩ X hX; exact h _ _ _ _ _ _ _ _ _ _ _ _ _ _ _ _ hI X fun o' w' y' z' aa' ab' ac' az' ca' cb' cn' cp' cq' cs' ct' H' hI hl=>hX _ _ _ ⟨o',w',y',z',aa',ab',ac',az',ca',cb',cn',cp',cq',cs',ct',rfl,rfl,hI⟩ hl) rfl ⟨_,_,_,_,_,_,_,_,_,_,_,_,_,_,_,rfl,rfl,hI⟩
theorem l7_rule (I:S7 Prop) (μ:S7 Nat)
 (h:∀o w y z aa ab ac az ca cb cv cw cz da cn cp cq cs ct db dc H,I o w y z aa ab ac az ca cb cv cw cz da cn cp cq cs ct db dc H→∀X:FP,(∀o' w' y' z' aa' ab' ac' az' ca' cb' cv' cw' cz' da' cn' cp' cq' cs' ct' db' dc' H',I o' w' y' z' aa' ab' ac' az' ca' cb' cv' cw' cz' da' cn' cp' cq' cs' ct' db' dc' H'→μ o' w' y' z' aa' ab' ac' az' ca' cb' cv' cw' cz' da' cn' cp' cq' cs' ct' db' dc' H'<μ o w y z aa ab ac az ca cb cv cw cz da cn cp cq cs ct db dc H→X (f7 o' w' y' z' aa' ab' ac' az' ca' cb' cv' cw' cz' da' cn' cp' cq' cs' ct' db' dc') H')→b7 o w y z aa ab ac az ca cb cv cw cz da cn cp cq cs ct db dc X1 X E H K) (hI:I o w y z aa ab ac az ca cb cv cw cz da cn cp cq cs ct db dc H):l7 o w y z aa ab ac az ca cb cv cw cz da cn cp cq cs ct db dc X1 E H K:=
 loop_rule2 (fun r m H=>∃o w y z aa ab ac az ca cb cv cw cz da cn cp cq cs ct db dc,r=f7 o w y z aa ab ac az ca cb cv cw cz da cn cp cq cs ct db dc∧m=μ o w y z aa ab ac az ca cb cv cw cz da cn cp cq cs ct db dc H∧I o w y z aa ab ac az ca cb cv cw cz da cn cp cq cs ct db dc H) (by rintro _ _ _ ⟨o,w,y,z,aa,ab,ac,az,ca,cb,cv,cw,cz,da,cn,cp,cq,cs,ct,db,dc,rfl,rfl,hI⟩ X hX; exact h _ _ _ _ _ _ _ _ _ _ _ _ _ _ _ _ _ _ _ _ _ _ hI X fun o' w' y' z' aa' ab' ac' az' ca' cb' cv' cw' cz' da' cn' cp' cq' cs' ct' db' dc' H' hI hl=>hX _ _ _ ⟨o',w',y',z',aa',ab',ac',az',ca',cb',cv',cw',cz',da',cn',cp',cq',cs',ct',db',dc',rfl,rfl,hI⟩ hl) rfl ⟨_,_,_,_,_,_,_,_,_,_,_,_,_,_,_,_,_,_,_,_,_,rfl,rfl,hI⟩
theorem nok:nodesOk code [[0,1,0,1,1,1,1,1,1,1],[1,1,1,1,1,1,1,1],[0,1,0,1,1,1,1,1,1,1,1],[1,1,1,1,1,1,1,1,1],[0,1,0,1,1,1,1,1,1,1,1,1],[0,1,1,0,0,1,1,0,0,1,0,1,1,1,1,1,1,1,1,1],[1,1,1,0,0,1,0,1,1,1,1,1,1,1,1,1],[1,1,1,1,1,1,1,1,1,1],[0,1,0,1,1,1,1,1,1,1,1,1,1,1],[1,1,1,1,1,1,1,1,1,1,1,1],[0,1,0,1,1,1,1,1,1,1,1,1,1,1,1,1],[0,1,1,0,0,1,1,0,0,1,0,1,1,1,1,1,1,1,1,1,1,1,1,1],[1,1,1,0,0,1,0,1,1,1,1,1,1,1,1,1,1,1,1,1],[1,1,1,1,1,1,1,1,1,1,1,1,1,1]]=true:=by kernel_rfl
def run_t (l1:S1 Prop)(a:Int)(c:OA)(d e:Nat)(g:OA)(k n:Nat)(E:VP)(H:Hp)(K:KT):Prop:=
  nw H ⟨[.int .i64 a,.slice c d e],24⟩ fun B1 H1=>
  Q1.call E H1 fun r1 H2=>
  bcase ((!r1)) (
  K false H2)
  (ldI .i64 (H2.get B1 0) fun x1=>
  ldS (H2.get B1 1) fun x2p x2n x2c=>
  Q7.call x1 x2p x2n x2c E H2 fun r2_Nodes r2_Edgesp r2_Edgesn r2_Edgesc H3=>
  nw H3 ⟨[.int .i64 0,.slice none 0 0],24⟩ fun B2 H4=>
  stC H4 B2 0 [.int .i64 r2_Nodes,.slice r2_Edgesp r2_Edgesn r2_Edgesc] fun H5=>
  ldS (H5.get B2 1) fun x3p x3n x3c=>
  nw H5 ⟨[.int .i64 0,.int .i64 0,.int .i64 (-7),.int .i64 0],49⟩ fun B3 H6=>
  ldS (H6.get B1 1) fun x4p x4n x4c=>
  appM 49 [.i .i64,.i .i64,.i .i64,.i .i64] 32 x3p x3n x3c (some ⟨B3,0,none⟩) 1 H6 fun a1p a1n a1c H7=>
  (ldS (H7.get B1 1) fun x17p x17n x17c=>
  Value.slice x17p x17n x17c=Value.slice x4p x4n x4c)∧
  ((0:Int)≤(x4n:Int)∧(x4n:Int)≤(a1c:Int))∧
  stC H7 B2 1 [.slice (slp a1p 0 a1c 4) ((x4n:Int).toNat) a1c] fun H8=>
  ldI .i64 (H8.get B2 0) fun x5=>
  ldS (H8.get B2 1) fun x6p x6n x6c=>
  Q3.call x5 x6p x6n x6c E H8 fun r3p r3n r3c r4_Yp r4_Yn r4_Yc r4_Setsp r4_Setsn r4_Setsc r5p r5n r5c r6 r7 H9=>
  nw H9 ⟨[.slice none 0 0,.slice none 0 0],30⟩ fun B4 H10=>
  stC H10 B4 0 [.slice r4_Yp r4_Yn r4_Yc,.slice r4_Setsp r4_Setsn r4_Setsc] fun H11=>
  ldI .i64 (H11.get B2 0) fun x7=>
  ldS (H11.get B2 1) fun x8p x8n x8c=>
  Q3.call x7 x8p x8n x8c E H11 fun r8p r8n r8c r9_Yp r9_Yn r9_Yc r9_Setsp r9_Setsn r9_Setsc r10p r10n r10c r11 r12 H12=>
  nw H12 ⟨[.slice none 0 0,.slice none 0 0],30⟩ fun B5 H13=>
  stC H13 B5 0 [.slice r9_Yp r9_Yn r9_Yc,.slice r9_Setsp r9_Setsn r9_Setsc] fun H14=>
  ldI .i64 (H14.get B2 0) fun x9=>
  ldS (H14.get B2 1) fun x10p x10n x10c=>
  ldI .i64 (H14.get B1 0) fun x11=>
  ldS (H14.get B1 1) fun x12p x12n x12c=>
  Q9.call x9 x10p x10n x10c x11 x12p x12n x12c E H14 fun r13 H15=>
  bcase ((!r13)) (
  K false H15)
  (ldS (H15.get B2 1) fun x13p x13n x13c=>
  ldS (H15.get B1 1) fun x14p x14n x14c=>
  ((0:Int)≤(IntKind.wrap .i64 ((x14n:Int)+1))∧(IntKind.wrap .i64 ((x14n:Int)+1))≤(x13c:Int))∧
  ldS (H15.get B1 1) fun x15p x15n x15c=>
  ix (slp x13p 0 x13c 4) ((IntKind.wrap .i64 ((x14n:Int)+1)).toNat) (x15n:Int) 4 fun B6 o1=>
  ldI .i64 (H15.get B6 (o1+2)) fun x16=>
  bcase (!decide ((x16:Int)=(-7))) (
  K false H15)
  (l1 g k n B1 r3p r3n r3c B4 r7 r8p r8n r8c B5 r11 (r3n:Int) 0 H15)))
theorem run_eq (h:run_t (fun g k n o p q t v w y z aa ab ac ad ae H=>l1 g k n o p q t v w y z aa ab ac ad ae E H K) a c d e g k n E H K):run a c d e g k n E H K:=by
  exact nodeR_imp2 (fun G=>run_t (fun g k n o p q t v w y z aa ab ac ad ae H=>G [0,1,0,1,1,1,1,1,1,1] (f1 g k n o p q t v w y z aa ab ac ad ae) H) a c d e g k n E H K) nok rfl (fun G=>by kernel_rfl) (Eq.mp (by kernel_rfl) h)
def j1_t (l2:S2 Prop)(g:OA)(k n o v:Nat)(w:Int)(y:OA)(z aa ab:Nat)(ac:Int)(E:VP)(H:Hp)(K:KT):Prop:=
  ldS (H.get v 0) fun x1p x1n x1c=>
  l2 g k n o v w y z aa ab ac (x1n:Int) 0 H
theorem j1_eq (h:j1_t (fun g k n o v w y z aa ab ac ag ak H=>l2 g k n o v w y z aa ab ac ag ak E H K) g k n o v w y z aa ab ac E H K):j1 g k n o v w y z aa ab ac E H K:=by
  exact nodeR_imp2 (fun G=>j1_t (fun g k n o v w y z aa ab ac ag ak H=>G [0,1,0,1,1,1,1,1,1,1,1] (f2 g k n o v w y z aa ab ac ag ak) H) g k n o v w y z aa ab ac E H K) nok rfl (fun G=>by kernel_rfl) (Eq.mp (by kernel_rfl) h)
def j2_t (l3:S3 Prop)(g:OA)(k n o v:Nat)(w:Int)(y:OA)(z aa ab:Nat)(ac:Int)(E:VP)(H:Hp)(K:KT):Prop:=
  ldS (H.get v 1) fun x1p x1n x1c=>
  l3 g k n o v w y z aa ab ac (x1n:Int) 0 H
theorem j2_eq (h:j2_t (fun g k n o v w y z aa ab ac an ap H=>l3 g k n o v w y z aa ab ac an ap E H K) g k n o v w y z aa ab ac E H K):j2 g k n o v w y z aa ab ac E H K:=by
  exact nodeR_imp2 (fun G=>j2_t (fun g k n o v w y z aa ab ac an ap H=>G [0,1,0,1,1,1,1,1,1,1,1,1] (f3 g k n o v w y z aa ab ac an ap) H) g k n o v w y z aa ab ac E H K) nok rfl (fun G=>by kernel_rfl) (Eq.mp (by kernel_rfl) h)
def j3_t (g:OA)(k n o v:Nat)(w:Int)(y:OA)(z aa ab:Nat)(ac an ap:Int)(X1:FP)(E:VP)(H:Hp)(K:KT):Prop:=
  X1 (f3 g k n o v w y z aa ab ac an (IntKind.wrap .i64 (ap+1))) H
theorem j3_eq (h:j3_t g k n o v w y z aa ab ac an ap X1 E H K):j3 g k n o v w y z aa ab ac an ap X1 E H K:=by
  exact nodeR_imp2 (fun _=>j3_t g k n o v w y z aa ab ac an ap X1 E H K) nok rfl (fun G=>by kernel_rfl) h
def j4_t (l5:S5 Prop)(g:OA)(k n o:Nat)(w:Int)(y:OA)(z aa ab:Nat)(ac:Int)(E:VP)(H:Hp)(K:KT):Prop:=
  l5 g k n o w y z aa ab ac none 0 0 g k n (k:Int) 0 H
theorem j4_eq (h:j4_t (fun g k n o w y z aa ab ac az ca cb cc cd ce cg ck H=>l5 g k n o w y z aa ab ac az ca cb cc cd ce cg ck E H K) g k n o w y z aa ab ac E H K):j4 g k n o w y z aa ab ac E H K:=by
  exact nodeR_imp2 (fun G=>j4_t (fun g k n o w y z aa ab ac az ca cb cc cd ce cg ck H=>G [0,1,0,1,1,1,1,1,1,1,1,1,1,1] (f5 g k n o w y z aa ab ac az ca cb cc cd ce cg ck) H) g k n o w y z aa ab ac E H K) nok rfl (fun G=>by kernel_rfl) (Eq.mp (by kernel_rfl) h)
def j5_t (l6:S6 Prop)(g:OA)(k n o:Nat)(w:Int)(y:OA)(z aa ab:Nat)(ac:Int)(az:OA)(ca cb:Nat)(E:VP)(H:Hp)(K:KT):Prop:=
  Q8.call az ca cb E H fun r1p r1n r1c r2_Yp r2_Yn r2_Yc r2_Setsp r2_Setsn r2_Setsc r3 r4 H1=>
  l6 o w y z aa ab ac az ca cb g k n (k:Int) 0 H1
theorem j5_eq (h:j5_t (fun o w y z aa ab ac az ca cb cn cp cq cs ct H=>l6 o w y z aa ab ac az ca cb cn cp cq cs ct E H K) g k n o w y z aa ab ac az ca cb E H K):j5 g k n o w y z aa ab ac az ca cb E H K:=by
  exact nodeR_imp2 (fun G=>j5_t (fun o w y z aa ab ac az ca cb cn cp cq cs ct H=>G [0,1,0,1,1,1,1,1,1,1,1,1,1,1,1,1] (f6 o w y z aa ab ac az ca cb cn cp cq cs ct) H) g k n o w y z aa ab ac az ca cb E H K) nok rfl (fun G=>by kernel_rfl) (Eq.mp (by kernel_rfl) h)
def j6_t (o:Nat)(w:Int)(y:OA)(z aa ab:Nat)(ac:Int)(az:OA)(ca cb:Nat)(cn:OA)(cp cq:Nat)(cs ct:Int)(X1:FP)(E:VP)(H:Hp)(K:KT):Prop:=
  X1 (f6 o w y z aa ab ac az ca cb cn cp cq cs (IntKind.wrap .i64 (ct+1))) H
theorem j6_eq (h:j6_t o w y z aa ab ac az ca cb cn cp cq cs ct X1 E H K):j6 o w y z aa ab ac az ca cb cn cp cq cs ct X1 E H K:=by
  exact nodeR_imp2 (fun _=>j6_t o w y z aa ab ac az ca cb cn cp cq cs ct X1 E H K) nok rfl (fun G=>by kernel_rfl) h
def j7_t (o:Nat)(w:Int)(y:OA)(z aa ab:Nat)(ac:Int)(E:VP)(H:Hp)(K:KT):Prop:=
  bcase (!decide ((w:Int)=0)) (
  K (decide (((z:Int):Int)=0)) H)
  (ldI .i64 (H.get o 0) fun x1=>
  ldS (H.get o 1) fun x2p x2n x2c=>
  ldS (H.get ab 0) fun x3p x3n x3c=>
  ldS (H.get ab 1) fun x4p x4n x4c=>
  Q10.call x1 x2p x2n x2c y z aa x3p x3n x3c x4p x4n x4c E H fun r1 r2 H1=>
  bcase (decide ((r2:Int)=0)) (
  K (decide ((r1:Int)=ac)) H1)
  (K false H1))
theorem j7_eq (h:j7_t o w y z aa ab ac E H K):j7 o w y z aa ab ac E H K:=by
  exact nodeR_imp2 (fun _=>j7_t o w y z aa ab ac E H K) nok rfl (fun G=>by kernel_rfl) h
def b1_t (j1:OA→Nat→Nat→Nat→Nat→Int→OA→Nat→Nat→Nat→Int→Hp→Prop)(g:OA)(k n o:Nat)(p:OA)(q t v:Nat)(w:Int)(y:OA)(z aa ab:Nat)(ac ad ae:Int)(X1:FP)(E:VP)(H:Hp)(K:KT):Prop:=
  bcase (decide ((ae:Int)<ad)) (
  ix p q ae 1 fun B1 o1=>
  stC H B1 o1 [.int .i64 (-9)] fun H1=>
  X1 (f1 g k n o p q t v w y z aa ab ac ad (IntKind.wrap .i64 (ae+1))) H1)
  (j1 g k n o v w y z aa ab ac H)
theorem b1_eq (h:b1_t (fun g k n o v w y z aa ab ac H=>j1 g k n o v w y z aa ab ac E H K) g k n o p q t v w y z aa ab ac ad ae X1 E H K):b1 g k n o p q t v w y z aa ab ac ad ae X1 E H K:=by
  exact nodeR_imp2 (fun G=>b1_t (fun g k n o v w y z aa ab ac H=>G [1,1,1,1,1,1,1,1] [(1,.slice g k n),(2,.pointer (some ⟨o,0,none⟩)),(7,.pointer (some ⟨v,0,none⟩)),(10,.int .i64 w),(11,.slice y z aa),(12,.pointer (some ⟨ab,0,none⟩)),(14,.int .i64 ac)] H) g k n o p q t v w y z aa ab ac ad ae X1 E H K) nok rfl (fun G=>by kernel_rfl) (Eq.mp (by kernel_rfl) h)
def b2_t (j2:OA→Nat→Nat→Nat→Nat→Int→OA→Nat→Nat→Nat→Int→Hp→Prop)(g:OA)(k n o v:Nat)(w:Int)(y:OA)(z aa ab:Nat)(ac ag ak:Int)(X1:FP)(E:VP)(H:Hp)(K:KT):Prop:=
  bcase (decide ((ak:Int)<ag)) (
  ldS (H.get v 0) fun x1p x1n x1c=>
  ix x1p x1n ak 1 fun B1 o1=>
  stC H B1 o1 [.int .i64 (-9)] fun H1=>
  X1 (f2 g k n o v w y z aa ab ac ag (IntKind.wrap .i64 (ak+1))) H1)
  (j2 g k n o v w y z aa ab ac H)
theorem b2_eq (h:b2_t (fun g k n o v w y z aa ab ac H=>j2 g k n o v w y z aa ab ac E H K) g k n o v w y z aa ab ac ag ak X1 E H K):b2 g k n o v w y z aa ab ac ag ak X1 E H K:=by
  exact nodeR_imp2 (fun G=>b2_t (fun g k n o v w y z aa ab ac H=>G [1,1,1,1,1,1,1,1,1] [(1,.slice g k n),(2,.pointer (some ⟨o,0,none⟩)),(7,.pointer (some ⟨v,0,none⟩)),(10,.int .i64 w),(11,.slice y z aa),(12,.pointer (some ⟨ab,0,none⟩)),(14,.int .i64 ac)] H) g k n o v w y z aa ab ac ag ak X1 E H K) nok rfl (fun G=>by kernel_rfl) (Eq.mp (by kernel_rfl) h)
def b3_t (l4:S4 Prop)(j4:OA→Nat→Nat→Nat→Int→OA→Nat→Nat→Nat→Int→Hp→Prop)(g:OA)(k n o v:Nat)(w:Int)(y:OA)(z aa ab:Nat)(ac an ap:Int)(X1:FP)(E:VP)(H:Hp)(K:KT):Prop:=
  bcase (decide ((ap:Int)<an)) (
  ldS (H.get v 1) fun x1p x1n x1c=>
  ix x1p x1n ap 2 fun B1 o1=>
  ldS (H.get B1 o1) fun x2p x2n x2c=>
  l4 g k n o v w y z aa ab ac ap an ap (x2n:Int) 0 H)
  (j4 g k n o w y z aa ab ac H)
theorem b3_eq (h:b3_t (fun g k n o v w y z aa ab ac aq an ap av aw H=>l4 g k n o v w y z aa ab ac aq an ap av aw X1 E H K) (fun g k n o w y z aa ab ac H=>j4 g k n o w y z aa ab ac E H K) g k n o v w y z aa ab ac an ap X1 E H K):b3 g k n o v w y z aa ab ac an ap X1 E H K:=by
  exact nodeR_imp2 (fun G=>b3_t (fun g k n o v w y z aa ab ac aq an ap av aw H=>G [0,1,1,0,0,1,1,0,0,1,0,1,1,1,1,1,1,1,1,1] (f4 g k n o v w y z aa ab ac aq an ap av aw) H) (fun g k n o w y z aa ab ac H=>G [1,1,1,1,1,1,1,1,1,1] [(1,.slice g k n),(2,.pointer (some ⟨o,0,none⟩)),(10,.int .i64 w),(11,.slice y z aa),(12,.pointer (some ⟨ab,0,none⟩)),(14,.int .i64 ac)] H) g k n o v w y z aa ab ac an ap X1 E H K) nok rfl (fun G=>by kernel_rfl) (Eq.mp (by kernel_rfl) h)
def b4_t (j3:OA→Nat→Nat→Nat→Nat→Int→OA→Nat→Nat→Nat→Int→Int→Int→Hp→Prop)(g:OA)(k n o v:Nat)(w:Int)(y:OA)(z aa ab:Nat)(ac aq an ap av aw:Int)(X1 X2:FP)(E:VP)(H:Hp)(K:KT):Prop:=
  bcase (decide ((aw:Int)<av)) (
  ldS (H.get v 1) fun x1p x1n x1c=>
  ix x1p x1n aq 2 fun B1 o1=>
  ldS (H.get B1 o1) fun x2p x2n x2c=>
  ix x2p x2n aw 1 fun B2 o2=>
  stC H B2 o2 [.int .i64 (-9)] fun H1=>
  X2 (f4 g k n o v w y z aa ab ac aq an ap av (IntKind.wrap .i64 (aw+1))) H1)
  (j3 g k n o v w y z aa ab ac an ap H)
theorem b4_eq (h:b4_t (fun g k n o v w y z aa ab ac an ap H=>j3 g k n o v w y z aa ab ac an ap X1 E H K) g k n o v w y z aa ab ac aq an ap av aw X1 X2 E H K):b4 g k n o v w y z aa ab ac aq an ap av aw X1 X2 E H K:=by
  exact nodeR_imp2 (fun G=>b4_t (fun g k n o v w y z aa ab ac an ap H=>G [1,1,1,0,0,1,0,1,1,1,1,1,1,1,1,1] (f3 g k n o v w y z aa ab ac an ap) H) g k n o v w y z aa ab ac aq an ap av aw X1 X2 E H K) nok rfl (fun G=>by kernel_rfl) (Eq.mp (by kernel_rfl) h)
def b5_t (j5:OA→Nat→Nat→Nat→Int→OA→Nat→Nat→Nat→Int→OA→Nat→Nat→Hp→Prop)(g:OA)(k n o:Nat)(w:Int)(y:OA)(z aa ab:Nat)(ac:Int)(az:OA)(ca cb:Nat)(cc:OA)(cd ce:Nat)(cg ck:Int)(X1:FP)(E:VP)(H:Hp)(K:KT):Prop:=
  bcase (decide ((ck:Int)<cg)) (
  ix cc cd ck 1 fun B1 o1=>
  ldS (H.get B1 o1) fun x1p x1n x1c=>
  nw H ⟨[],2⟩ fun B2 H1=>
  appM 2 [.i .i64] 8 (some ⟨B2,0,none⟩) 0 0 x1p x1n H1 fun a1p a1n a1c H2=>
  nw H2 ⟨[.slice a1p a1n a1c],27⟩ fun B3 H3=>
  appM 27 [.sl] 24 az ca cb (some ⟨B3,0,none⟩) 1 H3 fun a2p a2n a2c H4=>
  X1 (f5 g k n o w y z aa ab ac a2p a2n a2c cc cd ce cg (IntKind.wrap .i64 (ck+1))) H4)
  (j5 g k n o w y z aa ab ac az ca cb H)
theorem b5_eq (h:b5_t (fun g k n o w y z aa ab ac az ca cb H=>j5 g k n o w y z aa ab ac az ca cb E H K) g k n o w y z aa ab ac az ca cb cc cd ce cg ck X1 E H K):b5 g k n o w y z aa ab ac az ca cb cc cd ce cg ck X1 E H K:=by
  exact nodeR_imp2 (fun G=>b5_t (fun g k n o w y z aa ab ac az ca cb H=>G [1,1,1,1,1,1,1,1,1,1,1,1] [(1,.slice g k n),(2,.pointer (some ⟨o,0,none⟩)),(10,.int .i64 w),(11,.slice y z aa),(12,.pointer (some ⟨ab,0,none⟩)),(14,.int .i64 ac),(20,.slice az ca cb)] H) g k n o w y z aa ab ac az ca cb cc cd ce cg ck X1 E H K) nok rfl (fun G=>by kernel_rfl) (Eq.mp (by kernel_rfl) h)
def b6_t (l7:S7 Prop)(j7:Nat→Int→OA→Nat→Nat→Nat→Int→Hp→Prop)(o:Nat)(w:Int)(y:OA)(z aa ab:Nat)(ac:Int)(az:OA)(ca cb:Nat)(cn:OA)(cp cq:Nat)(cs ct:Int)(X1:FP)(E:VP)(H:Hp)(K:KT):Prop:=
  bcase (decide ((ct:Int)<cs)) (
  ix cn cp ct 1 fun B1 o1=>
  ldS (H.get B1 o1) fun x1p x1n x1c=>
  l7 o w y z aa ab ac az ca cb ct x1p x1n x1c cn cp cq cs ct (x1n:Int) 0 H)
  (j7 o w y z aa ab ac H)
theorem b6_eq (h:b6_t (fun o w y z aa ab ac az ca cb cv cw cz da cn cp cq cs ct db dc H=>l7 o w y z aa ab ac az ca cb cv cw cz da cn cp cq cs ct db dc X1 E H K) (fun o w y z aa ab ac H=>j7 o w y z aa ab ac E H K) o w y z aa ab ac az ca cb cn cp cq cs ct X1 E H K):b6 o w y z aa ab ac az ca cb cn cp cq cs ct X1 E H K:=by
  exact nodeR_imp2 (fun G=>b6_t (fun o w y z aa ab ac az ca cb cv cw cz da cn cp cq cs ct db dc H=>G [0,1,1,0,0,1,1,0,0,1,0,1,1,1,1,1,1,1,1,1,1,1,1,1] (f7 o w y z aa ab ac az ca cb cv cw cz da cn cp cq cs ct db dc) H) (fun o w y z aa ab ac H=>G [1,1,1,1,1,1,1,1,1,1,1,1,1,1] [(2,.pointer (some ⟨o,0,none⟩)),(10,.int .i64 w),(11,.slice y z aa),(12,.pointer (some ⟨ab,0,none⟩)),(14,.int .i64 ac)] H) o w y z aa ab ac az ca cb cn cp cq cs ct X1 E H K) nok rfl (fun G=>by kernel_rfl) (Eq.mp (by kernel_rfl) h)
def b7_t (j6:Nat→Int→OA→Nat→Nat→Nat→Int→OA→Nat→Nat→OA→Nat→Nat→Int→Int→Hp→Prop)(o:Nat)(w:Int)(y:OA)(z aa ab:Nat)(ac:Int)(az:OA)(ca cb:Nat)(cv:Int)(cw:OA)(cz da:Nat)(cn:OA)(cp cq:Nat)(cs ct db dc:Int)(X1 X2:FP)(E:VP)(H:Hp)(K:KT):Prop:=
  bcase (decide ((dc:Int)<db)) (
  ix az ca cv 1 fun B1 o1=>
  ldS (H.get B1 o1) fun x1p x1n x1c=>
  ix x1p x1n dc 1 fun B2 o2=>
  ldI .i64 (H.get B2 o2) fun x2=>
  ix cw cz dc 1 fun B3 o3=>
  ldI .i64 (H.get B3 o3) fun x3=>
  bcase (!decide ((x2:Int)=x3)) (
  K false H)
  (X2 (f7 o w y z aa ab ac az ca cb cv cw cz da cn cp cq cs ct db (IntKind.wrap .i64 (dc+1))) H))
  (j6 o w y z aa ab ac az ca cb cn cp cq cs ct H)
theorem b7_eq (h:b7_t (fun o w y z aa ab ac az ca cb cn cp cq cs ct H=>j6 o w y z aa ab ac az ca cb cn cp cq cs ct X1 E H K) o w y z aa ab ac az ca cb cv cw cz da cn cp cq cs ct db dc X1 X2 E H K):b7 o w y z aa ab ac az ca cb cv cw cz da cn cp cq cs ct db dc X1 X2 E H K:=by
  exact nodeR_imp2 (fun G=>b7_t (fun o w y z aa ab ac az ca cb cn cp cq cs ct H=>G [1,1,1,0,0,1,0,1,1,1,1,1,1,1,1,1,1,1,1,1] (f6 o w y z aa ab ac az ca cb cn cp cq cs ct) H) o w y z aa ab ac az ca cb cv cw cz da cn cp cq cs ct db dc X1 X2 E H K) nok rfl (fun G=>by kernel_rfl) (Eq.mp (by kernel_rfl) h)
end
end Q0
end Go.Mz
