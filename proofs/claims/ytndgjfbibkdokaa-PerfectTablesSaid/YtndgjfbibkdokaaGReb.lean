/-
  The shallow texts of functions (Reb), each with a kernel-checked equation to the translated code. It proves nothing of the program by itself.
-/
import Derived.Test.YtndgjfbibkdokaaTab
set_option linter.unusedVariables false
set_option maxRecDepth 100000
namespace Go.Mz
namespace Q18
abbrev KT:=Bool→Hp→Prop
abbrev S1 (α:Type):=Int→Nat→Int→Hp→α
section
variable (a:Int)(c:OA)(n d:Nat)(o:Int)(e:Nat)(X1:FP)(g:OA)(i k:Nat)(E:VP)(H:Hp)(K:KT)
noncomputable def A:An:={ live:=[(0,[0,1]),(1,[0,3]),(2,[]),(3,[0,3]),(4,[0,3,5]),(5,[0,3,5]),(6,[0,3,5]),(7,[0,3,5,6]),(8,[]),(9,[])],ord:=[],stb:=[],pre:=[] }
noncomputable def code:Code:=bodyOf Go.Proofs.Try.f36
def rq:Ex→FP:=retQ T0 [.tmp 4] [4] (fun r H=>ldR (.one false [.bool]) r fun u=>K (asB u) H) E
noncomputable def f1:Fr:=[(0,.int .i64 a),(3,.pointer (some ⟨n,0,none⟩)),(5,.int .i64 o)]
def run:Prop:=nodeM P0 T0 A code [] [] (rq E K) (argF 0 [.int .i64 a,.agg ⟨[.slice c d e,.slice g i k]⟩]) H
def l1:Prop:=nodeM P0 T0 A code [1,1,0,1,0] [] (rq E K) (f1 a n o) H
def b1:Prop:=nodeM P0 T0 A code [1,1,0,1,0,0] [X1] (rq E K) (f1 a n o) H
variable {a c n d o e X1 g i k E H K}
theorem ok:okCode A 60 code=true:=by kernel_rfl
theorem of (h:run a c d e g i k E H K):call a c d e g i k E H K:=
  callW_of T0_ok P0_mixed (A:=A) (fn:=Go.Proofs.Try.f36) Go.Proofs.Try.func36 rfl ok rfl h
theorem l1_rule (I:S1 Prop) (μ:S1 Nat)
 (h:∀a n o H,I a n o H→∀X:FP,(∀a' n' o' H',I a' n' o' H'→μ a' n' o' H'<μ a n o H→X (f1 a' n' o') H')→b1 a n o X E H K) (hI:I a n o H):l1 a n o E H K:=
 loop_rule2 (fun r m H=>∃a n o,r=f1 a n o∧m=μ a n o H∧I a n o H) (by rintro _ _ _ ⟨a,n,o,rfl,rfl,hI⟩ X hX; exact h _ _ _ _ hI X fun a' n' o' H' hI hl=>hX _ _ _ ⟨a',n',o',rfl,rfl,hI⟩ hl) rfl ⟨_,_,_,rfl,rfl,hI⟩
theorem nok:nodesOk code [[0,1,0,1,1]]=true:=by kernel_rfl
def run_t (l1:S1 Prop)(a:Int)(c:OA)(d e:Nat)(g:OA)(i k:Nat)(E:VP)(H:Hp)(K:KT):Prop:=
  nw H ⟨[.slice c d e,.slice g i k],41⟩ fun B1 H1=>
  ldS (H1.get B1 0) fun x1p x1n x1c=>
  Q34.call a none 0 0 x1p x1n x1c E H1 fun r1 H2=>
  bcase ((!r1)) (
  K false H2)
  (ldS (H2.get B1 1) fun x2p x2n x2c=>
  bcase (decide ((a:Int)<(x2n:Int))) (
  K false H2)
  (l1 a B1 0 H2))
theorem run_eq (h:run_t (fun a n o H=>l1 a n o E H K) a c d e g i k E H K):run a c d e g i k E H K:=by
  exact nodeR_imp2 (fun G=>run_t (fun a n o H=>G [0,1,0,1,1] (f1 a n o) H) a c d e g i k E H K) nok rfl (fun G=>by kernel_rfl) (Eq.mp (by kernel_rfl) h)
def b1_t (a:Int)(n:Nat)(o:Int)(X1:FP)(E:VP)(H:Hp)(K:KT):Prop:=
  ldS (H.get n 1) fun x1p x1n x1c=>
  bcase (decide ((o:Int)<(x1n:Int))) (
  ldS (H.get n 1) fun x2p x2n x2c=>
  ix x2p x2n o 2 fun B1 o1=>
  ldS (H.get B1 o1) fun x3p x3n x3c=>
  ldI .i64 (H.get B1 (o1+1)) fun x4=>
  nw H ⟨[.slice none 0 0,.int .i64 0],86⟩ fun B2 H1=>
  stC H1 B2 0 [.slice x3p x3n x3c,.int .i64 x4] fun H2=>
  ldS (H2.get B2 0) fun x5p x5n x5c=>
  bcase (decide (((x5n:Int):Int)<3)) (
  K false H2)
  (ldS (H2.get B2 0) fun x6p x6n x6c=>
  2≠(0:Int)∧
  bcase (decide (((Int.tmod (x6n:Int) 2):Int)=0)) (
  K false H2)
  (ldS (H2.get B2 0) fun x7p x7n x7c=>
  Q17.call x7p x7n x7c a E H2 fun r1 H3=>
  bcase ((!r1)) (
  K false H3)
  (ldI .i64 (H3.get B2 1) fun x8=>
  bcase (decide ((x8:Int)<0)) (
  K false H3)
  (ldI .i64 (H3.get B2 1) fun x9=>
  bcase (decide ((4398046511104:Int)<x9)) (
  K false H3)
  (X1 (f1 a n (IntKind.wrap .i64 (o+1))) H3))))))
  (K true H)
theorem b1_eq (h:b1_t a n o X1 E H K):b1 a n o X1 E H K:=by
  exact nodeR_imp2 (fun _=>b1_t a n o X1 E H K) nok rfl (fun G=>by kernel_rfl) h
end
end Q18
namespace Q19
abbrev KT:=Int→Hp→Prop
abbrev S1 (α:Type):=Int→Int→Nat→Int→Int→Hp→α
section
variable (a:OA)(c d:Nat)(e:OA)(g k:Nat)(n o:Int)(p:Nat)(q t:Int)(X1:FP)(E:VP)(H:Hp)(K:KT)
noncomputable def A:An:={ live:=[(0,[0,1,2]),(1,[1,2,3]),(2,[1,2,3,7]),(3,[1,2,3,7,8]),(4,[1,2,3,7,8]),(5,[1,2,3,7,8]),(6,[1,2,3,7,8]),(7,[7])],ord:=[(1,[0,1,2,3,4,5,6,7,8,9,10,11])],stb:=[],pre:=[(1,[[],[0],[],[0,1,2],[0,1,2,3],[],[5],[],[5,6,7],[5,6,7,8],[0,1,2,3,4,5,6,7,8,9],[0,1,2,3,4,5,6,7,8,9,10]])] }
noncomputable def code:Code:=bodyOf Go.Proofs.Try.f37
def rq:Ex→FP:=retQ T0 [.tmp 6] [2] (fun r H=>ldR (.one false [.i .i64]) r fun u=>K (asI u) H) E
noncomputable def f1:Fr:=[(1,.int .i64 n),(2,.int .i64 o),(3,.pointer (some ⟨p,0,none⟩)),(7,.int .i64 q),(8,.int .i64 t)]
def run:Prop:=nodeM P0 T0 A code [] [] (rq E K) (argF 0 [.agg ⟨[.slice a c d,.slice e g k]⟩,.int .i64 n,.int .i64 o]) H
def j1:Prop:=nodeM P0 T0 A code [1,1,0,1,0,0,1,1] [X1] (rq E K) (f1 n o p q t) H
def l1:Prop:=nodeM P0 T0 A code [1,1,0,1,0] [] (rq E K) (f1 n o p q t) H
def b1:Prop:=nodeM P0 T0 A code [1,1,0,1,0,0] [X1] (rq E K) (f1 n o p q t) H
variable {a c d e g k n o p q t X1 E H K}
theorem ok:okCode A 54 code=true:=by kernel_rfl
theorem of (h:run a c d e g k n o E H K):call a c d e g k n o E H K:=
  callW_of T0_ok P0_mixed (A:=A) (fn:=Go.Proofs.Try.f37) Go.Proofs.Try.func37 rfl ok rfl h
theorem l1_rule (I:S1 Prop) (μ:S1 Nat)
 (h:∀n o p q t H,I n o p q t H→∀X:FP,(∀n' o' p' q' t' H',I n' o' p' q' t' H'→μ n' o' p' q' t' H'<μ n o p q t H→X (f1 n' o' p' q' t') H')→b1 n o p q t X E H K) (hI:I n o p q t H):l1 n o p q t E H K:=
 loop_rule2 (fun r m H=>∃n o p q t,r=f1 n o p q t∧m=μ n o p q t H∧I n o p q t H) (by rintro _ _ _ ⟨n,o,p,q,t,rfl,rfl,hI⟩ X hX; exact h _ _ _ _ _ _ hI X fun n' o' p' q' t' H' hI hl=>hX _ _ _ ⟨n',o',p',q',t',rfl,rfl,hI⟩ hl) rfl ⟨_,_,_,_,_,rfl,rfl,hI⟩
theorem nok:nodesOk code [[0,1,0,1,1],[1,1,0,0,1,0,1,1]]=true:=by kernel_rfl
def run_t (l1:S1 Prop)(a:OA)(c d:Nat)(e:OA)(g k:Nat)(n o:Int)(E:VP)(H:Hp)(K:KT):Prop:=
  nw H ⟨[.slice a c d,.slice e g k],41⟩ fun B1 H1=>
  ldS (H1.get B1 0) fun x1p x1n x1c=>
  ix x1p x1n n 1 fun B2 o1=>
  ldI .i64 (H1.get B2 o1) fun x2=>
  ldS (H1.get B1 0) fun x3p x3n x3c=>
  ix x3p x3n o 1 fun B3 o2=>
  ldI .i64 (H1.get B3 o2) fun x4=>
  l1 n o B1 (IntKind.wrap .i64 (x2+x4)) 0 H1
theorem run_eq (h:run_t (fun n o p q t H=>l1 n o p q t E H K) a c d e g k n o E H K):run a c d e g k n o E H K:=by
  exact nodeR_imp2 (fun G=>run_t (fun n o p q t H=>G [0,1,0,1,1] (f1 n o p q t) H) a c d e g k n o E H K) nok rfl (fun G=>by kernel_rfl) (Eq.mp (by kernel_rfl) h)
def j1_t (n o:Int)(p:Nat)(q t:Int)(X1:FP)(E:VP)(H:Hp)(K:KT):Prop:=
  X1 (f1 n o p q (IntKind.wrap .i64 (t+1))) H
theorem j1_eq (h:j1_t n o p q t X1 E H K):j1 n o p q t X1 E H K:=by
  exact nodeR_imp2 (fun _=>j1_t n o p q t X1 E H K) nok rfl (fun G=>by kernel_rfl) h
def b1_t (j1:Int→Int→Nat→Int→Int→Hp→Prop)(n o:Int)(p:Nat)(q t:Int)(X1:FP)(E:VP)(H:Hp)(K:KT):Prop:=
  ldS (H.get p 1) fun x1p x1n x1c=>
  bcase (decide ((t:Int)<(x1n:Int))) (
  ldS (H.get p 1) fun x2p x2n x2c=>
  ix x2p x2n t 2 fun B1 o1=>
  ldS (H.get B1 o1) fun x3p x3n x3c=>
  Q33.call x3p x3n x3c n E H fun r1 H1=>
  bcase (r1) (
  ldS (H1.get p 1) fun x4p x4n x4c=>
  ix x4p x4n t 2 fun B2 o2=>
  ldS (H1.get B2 o2) fun x5p x5n x5c=>
  Q33.call x5p x5n x5c o E H1 fun r2 H2=>
  bcase (r2) (
  ldS (H2.get p 1) fun x6p x6n x6c=>
  ix x6p x6n t 2 fun B3 o3=>
  ldI .i64 (H2.get B3 (o3+1)) fun x7=>
  j1 n o p (IntKind.wrap .i64 (q-x7)) t H2)
  (j1 n o p q t H2))
  (j1 n o p q t H1))
  (K q H)
theorem b1_eq (h:b1_t (fun n o p q t H=>j1 n o p q t X1 E H K) n o p q t X1 E H K):b1 n o p q t X1 E H K:=by
  exact nodeR_imp2 (fun G=>b1_t (fun n o p q t H=>G [1,1,0,0,1,0,1,1] (f1 n o p q t) H) n o p q t X1 E H K) nok rfl (fun G=>by kernel_rfl) (Eq.mp (by kernel_rfl) h)
end
end Q19
namespace Q20
abbrev KT:=Int→Hp→Prop
abbrev S1 (α:Type):=Nat→Int→Int→Hp→α
abbrev S2 (α:Type):=Nat→Int→Int→Hp→α
abbrev S3 (α:Type):=Nat→Int→Int→Int→Hp→α
section
variable (a:OA)(n c:Nat)(o:Int)(d:Nat)(p q:Int)(e:OA)(t:Int)(g:Nat)(X1:FP)(k:Nat)(X2:FP)(E:VP)(H:Hp)(K:KT)
noncomputable def A:An:={ live:=[(0,[0]),(1,[1]),(2,[1,3]),(3,[1,3,4]),(4,[1,3,4]),(5,[1,3,4]),(6,[1,3]),(7,[1,3,5]),(8,[1,3,5]),(9,[1,3,5]),(10,[1,3,5,6]),(11,[1,3,5,6]),(12,[1,3,5,6]),(13,[3])],ord:=[],stb:=[],pre:=[] }
noncomputable def code:Code:=bodyOf Go.Proofs.Try.f38
def rq:Ex→FP:=retQ T0 [.tmp 2] [2] (fun r H=>ldR (.one false [.i .i64]) r fun u=>K (asI u) H) E
noncomputable def f1:Fr:=[(1,.pointer (some ⟨n,0,none⟩)),(3,.int .i64 o),(4,.int .i64 p)]
noncomputable def f2:Fr:=[(1,.pointer (some ⟨n,0,none⟩)),(3,.int .i64 o),(5,.int .i64 q)]
noncomputable def f3:Fr:=[(1,.pointer (some ⟨n,0,none⟩)),(3,.int .i64 o),(5,.int .i64 q),(6,.int .i64 t)]
def run:Prop:=nodeM P0 T0 A code [] [] (rq E K) (argF 0 [.agg ⟨[.slice a c d,.slice e g k]⟩]) H
def j1:Prop:=nodeM P0 T0 A code [1,1,1] [] (rq E K) [(1,.pointer (some ⟨n,0,none⟩)),(3,.int .i64 o)] H
def j2:Prop:=nodeM P0 T0 A code [1,1,1,0,1,0,0,1,1] [X1] (rq E K) (f2 n o q) H
def l1:Prop:=nodeM P0 T0 A code [1,1,0,1,0] [] (rq E K) (f1 n o p) H
def b1:Prop:=nodeM P0 T0 A code [1,1,0,1,0,0] [X1] (rq E K) (f1 n o p) H
def l2:Prop:=nodeM P0 T0 A code [1,1,1,0,1,0] [] (rq E K) (f2 n o q) H
def b2:Prop:=nodeM P0 T0 A code [1,1,1,0,1,0,0] [X1] (rq E K) (f2 n o q) H
def l3:Prop:=nodeM P0 T0 A code [1,1,1,0,1,0,0,1,0,0,1,0] [X1] (rq E K) (f3 n o q t) H
def b3:Prop:=nodeM P0 T0 A code [1,1,1,0,1,0,0,1,0,0,1,0,0] [X1,X2] (rq E K) (f3 n o q t) H
variable {a n c o d p q e t g X1 k X2 E H K}
theorem ok:okCode A 48 code=true:=by kernel_rfl
theorem of (h:run a c d e g k E H K):call a c d e g k E H K:=
  callW_of T0_ok P0_mixed (A:=A) (fn:=Go.Proofs.Try.f38) Go.Proofs.Try.func38 rfl ok rfl h
theorem l1_rule (I:S1 Prop) (μ:S1 Nat)
 (h:∀n o p H,I n o p H→∀X:FP,(∀n' o' p' H',I n' o' p' H'→μ n' o' p' H'<μ n o p H→X (f1 n' o' p') H')→b1 n o p X E H K) (hI:I n o p H):l1 n o p E H K:=
 loop_rule2 (fun r m H=>∃n o p,r=f1 n o p∧m=μ n o p H∧I n o p H) (by rintro _ _ _ ⟨n,o,p,rfl,rfl,hI⟩ X hX; exact h _ _ _ _ hI X fun n' o' p' H' hI hl=>hX _ _ _ ⟨n',o',p',rfl,rfl,hI⟩ hl) rfl ⟨_,_,_,rfl,rfl,hI⟩
theorem l2_rule (I:S2 Prop) (μ:S2 Nat)
 (h:∀n o q H,I n o q H→∀X:FP,(∀n' o' q' H',I n' o' q' H'→μ n' o' q' H'<μ n o q H→X (f2 n' o' q') H')→b2 n o q X E H K) (hI:I n o q H):l2 n o q E H K:=
 loop_rule2 (fun r m H=>∃n o q,r=f2 n o q∧m=μ n o q H∧I n o q H) (by rintro _ _ _ ⟨n,o,q,rfl,rfl,hI⟩ X hX; exact h _ _ _ _ hI X fun n' o' q' H' hI hl=>hX _ _ _ ⟨n',o',q',rfl,rfl,hI⟩ hl) rfl ⟨_,_,_,rfl,rfl,hI⟩
theorem l3_rule (I:S3 Prop) (μ:S3 Nat)
 (h:∀n o q t H,I n o q t H→∀X:FP,(∀n' o' q' t' H',I n' o' q' t' H'→μ n' o' q' t' H'<μ n o q t H→X (f3 n' o' q' t') H')→b3 n o q t X1 X E H K) (hI:I n o q t H):l3 n o q t X1 E H K:=
 loop_rule2 (fun r m H=>∃n o q t,r=f3 n o q t∧m=μ n o q t H∧I n o q t H) (by rintro _ _ _ ⟨n,o,q,t,rfl,rfl,hI⟩ X hX; exact h _ _ _ _ _ hI X fun n' o' q' t' H' hI hl=>hX _ _ _ ⟨n',o',q',t',rfl,rfl,hI⟩ hl) rfl ⟨_,_,_,_,rfl,rfl,hI⟩
theorem nok:nodesOk code [[0,1,0,1,1],[1,1,1],[0,1,0,1,1,1],[0,1,0,0,1,0,0,1,0,1,1,1],[1,1,0,0,1,0,1,1,1]]=true:=by kernel_rfl
def run_t (l1:S1 Prop)(a:OA)(c d:Nat)(e:OA)(g k:Nat)(E:VP)(H:Hp)(K:KT):Prop:=
  nw H ⟨[.slice a c d,.slice e g k],41⟩ fun B1 H1=>
  l1 B1 0 0 H1
theorem run_eq (h:run_t (fun n o p H=>l1 n o p E H K) a c d e g k E H K):run a c d e g k E H K:=by
  exact nodeR_imp2 (fun G=>run_t (fun n o p H=>G [0,1,0,1,1] (f1 n o p) H) a c d e g k E H K) nok rfl (fun G=>by kernel_rfl) (Eq.mp (by kernel_rfl) h)
def j1_t (l2:S2 Prop)(n:Nat)(o:Int)(E:VP)(H:Hp)(K:KT):Prop:=
  l2 n o 0 H
theorem j1_eq (h:j1_t (fun n o q H=>l2 n o q E H K) n o E H K):j1 n o E H K:=by
  exact nodeR_imp2 (fun G=>j1_t (fun n o q H=>G [0,1,0,1,1,1] (f2 n o q) H) n o E H K) nok rfl (fun G=>by kernel_rfl) (Eq.mp (by kernel_rfl) h)
def j2_t (n:Nat)(o q:Int)(X1:FP)(E:VP)(H:Hp)(K:KT):Prop:=
  X1 (f2 n o (IntKind.wrap .i64 (q+1))) H
theorem j2_eq (h:j2_t n o q X1 E H K):j2 n o q X1 E H K:=by
  exact nodeR_imp2 (fun _=>j2_t n o q X1 E H K) nok rfl (fun G=>by kernel_rfl) h
def b1_t (j1:Nat→Int→Hp→Prop)(n:Nat)(o p:Int)(X1:FP)(E:VP)(H:Hp)(K:KT):Prop:=
  ldS (H.get n 0) fun x1p x1n x1c=>
  bcase (decide ((p:Int)<(x1n:Int))) (
  ldS (H.get n 0) fun x2p x2n x2c=>
  ix x2p x2n p 1 fun B1 o1=>
  ldI .i64 (H.get B1 o1) fun x3=>
  X1 (f1 n (IntKind.wrap .i64 (o+x3)) (IntKind.wrap .i64 (p+1))) H)
  (j1 n o H)
theorem b1_eq (h:b1_t (fun n o H=>j1 n o E H K) n o p X1 E H K):b1 n o p X1 E H K:=by
  exact nodeR_imp2 (fun G=>b1_t (fun n o H=>G [1,1,1] [(1,.pointer (some ⟨n,0,none⟩)),(3,.int .i64 o)] H) n o p X1 E H K) nok rfl (fun G=>by kernel_rfl) (Eq.mp (by kernel_rfl) h)
def b2_t (l3:S3 Prop)(n:Nat)(o q:Int)(X1:FP)(E:VP)(H:Hp)(K:KT):Prop:=
  ldS (H.get n 1) fun x1p x1n x1c=>
  bcase (decide ((q:Int)<(x1n:Int))) (
  l3 n o q 2 H)
  (K o H)
theorem b2_eq (h:b2_t (fun n o q t H=>l3 n o q t X1 E H K) n o q X1 E H K):b2 n o q X1 E H K:=by
  exact nodeR_imp2 (fun G=>b2_t (fun n o q t H=>G [0,1,0,0,1,0,0,1,0,1,1,1] (f3 n o q t) H) n o q X1 E H K) nok rfl (fun G=>by kernel_rfl) (Eq.mp (by kernel_rfl) h)
def b3_t (j2:Nat→Int→Int→Hp→Prop)(n:Nat)(o q t:Int)(X1 X2:FP)(E:VP)(H:Hp)(K:KT):Prop:=
  ldS (H.get n 1) fun x1p x1n x1c=>
  ix x1p x1n q 2 fun B1 o1=>
  ldS (H.get B1 o1) fun x2p x2n x2c=>
  bcase (decide ((t:Int)<(x2n:Int))) (
  ldS (H.get n 1) fun x3p x3n x3c=>
  ix x3p x3n q 2 fun B2 o2=>
  ldI .i64 (H.get B2 (o2+1)) fun x4=>
  X2 (f3 n (IntKind.wrap .i64 (o-x4)) q (IntKind.wrap .i64 (t+2))) H)
  (j2 n o q H)
theorem b3_eq (h:b3_t (fun n o q H=>j2 n o q X1 E H K) n o q t X1 X2 E H K):b3 n o q t X1 X2 E H K:=by
  exact nodeR_imp2 (fun G=>b3_t (fun n o q H=>G [1,1,0,0,1,0,1,1,1] (f2 n o q) H) n o q t X1 X2 E H K) nok rfl (fun G=>by kernel_rfl) (Eq.mp (by kernel_rfl) h)
end
end Q20
namespace Q33
abbrev KT:=Bool→Hp→Prop
abbrev S1 (α:Type):=OA→Nat→Nat→Int→Int→Hp→α
section
variable (a:OA)(c d:Nat)(e g:Int)(X1:FP)(E:VP)(H:Hp)(K:KT)
noncomputable def A:An:={ live:=[(0,[0,1]),(1,[0,1]),(2,[0,1,5]),(3,[0,1,5]),(4,[0,1,5]),(5,[]),(6,[])],ord:=[],stb:=[],pre:=[] }
noncomputable def code:Code:=bodyOf Go.Proofs.Try.f66
def rq:Ex→FP:=retQ T0 [.tmp 4] [4] (fun r H=>ldR (.one false [.bool]) r fun u=>K (asB u) H) E
noncomputable def f1:Fr:=[(0,.slice a c d),(1,.int .i64 e),(5,.int .i64 g)]
def run:Prop:=nodeM P0 T0 A code [] [] (rq E K) (argF 0 [.slice a c d,.int .i64 e]) H
def l1:Prop:=nodeM P0 T0 A code [1,0,1,0] [] (rq E K) (f1 a c d e g) H
def b1:Prop:=nodeM P0 T0 A code [1,0,1,0,0] [X1] (rq E K) (f1 a c d e g) H
variable {a c d e g X1 E H K}
theorem ok:okCode A 18 code=true:=by kernel_rfl
theorem of (h:run a c d e E H K):call a c d e E H K:=
  callW_of T0_ok P0_mixed (A:=A) (fn:=Go.Proofs.Try.f66) Go.Proofs.Try.func66 rfl ok rfl h
theorem l1_rule (I:S1 Prop) (μ:S1 Nat)
 (h:∀a c d e g H,I a c d e g H→∀X:FP,(∀a' c' d' e' g' H',I a' c' d' e' g' H'→μ a' c' d' e' g' H'<μ a c d e g H→X (f1 a' c' d' e' g') H')→b1 a c d e g X E H K) (hI:I a c d e g H):l1 a c d e g E H K:=
 loop_rule2 (fun r m H=>∃a c d e g,r=f1 a c d e g∧m=μ a c d e g H∧I a c d e g H) (by rintro _ _ _ ⟨a,c,d,e,g,rfl,rfl,hI⟩ X hX; exact h _ _ _ _ _ _ hI X fun a' c' d' e' g' H' hI hl=>hX _ _ _ ⟨a',c',d',e',g',rfl,rfl,hI⟩ hl) rfl ⟨_,_,_,_,_,rfl,rfl,hI⟩
theorem nok:nodesOk code [[0,1,0,1]]=true:=by kernel_rfl
def run_t (l1:S1 Prop)(a:OA)(c d:Nat)(e:Int)(E:VP)(H:Hp)(K:KT):Prop:=
  l1 a c d e 0 H
theorem run_eq (h:run_t (fun a c d e g H=>l1 a c d e g E H K) a c d e E H K):run a c d e E H K:=by
  exact nodeR_imp2 (fun G=>run_t (fun a c d e g H=>G [0,1,0,1] (f1 a c d e g) H) a c d e E H K) nok rfl (fun G=>by kernel_rfl) (Eq.mp (by kernel_rfl) h)
def b1_t (a:OA)(c d:Nat)(e g:Int)(X1:FP)(E:VP)(H:Hp)(K:KT):Prop:=
  bcase (decide ((g:Int)<(c:Int))) (
  ix a c g 1 fun B1 o1=>
  ldI .i64 (H.get B1 o1) fun x1=>
  bcase (decide ((x1:Int)=e)) (
  K true H)
  (X1 (f1 a c d e (IntKind.wrap .i64 (g+1))) H))
  (K false H)
theorem b1_eq (h:b1_t a c d e g X1 E H K):b1 a c d e g X1 E H K:=by
  exact nodeR_imp2 (fun _=>b1_t a c d e g X1 E H K) nok rfl (fun G=>by kernel_rfl) h
end
end Q33
namespace Q34
abbrev KT:=Bool→Hp→Prop
abbrev S1 (α:Type):=OA→Nat→Nat→Nat→Int→Hp→α
section
variable (a:Int)(c:OA)(d e:Nat)(g:OA)(i k n:Nat)(o:Int)(X1:FP)(E:VP)(H:Hp)(K:KT)
noncomputable def A:An:={ live:=[(0,[0,1]),(1,[1,2]),(2,[]),(3,[1,2]),(4,[1,2,5]),(5,[1,2,5]),(6,[1,2,5]),(7,[]),(8,[])],ord:=[],stb:=[],pre:=[] }
noncomputable def code:Code:=bodyOf Go.Proofs.Try.f68
def rq:Ex→FP:=retQ T0 [.tmp 4] [4] (fun r H=>ldR (.one false [.bool]) r fun u=>K (asB u) H) E
noncomputable def f1:Fr:=[(1,.slice g i k),(2,.pointer (some ⟨n,0,none⟩)),(5,.int .i64 o)]
def run:Prop:=nodeM P0 T0 A code [] [] (rq E K) (argF 0 [.agg ⟨[.int .i64 a,.slice c d e]⟩,.slice g i k]) H
def l1:Prop:=nodeM P0 T0 A code [1,1,0,1,0] [] (rq E K) (f1 g i k n o) H
def b1:Prop:=nodeM P0 T0 A code [1,1,0,1,0,0] [X1] (rq E K) (f1 g i k n o) H
variable {a c d e g i k n o X1 E H K}
theorem ok:okCode A 29 code=true:=by kernel_rfl
theorem of (h:run a c d e g i k E H K):call a c d e g i k E H K:=
  callW_of T0_ok P0_mixed (A:=A) (fn:=Go.Proofs.Try.f68) Go.Proofs.Try.func68 rfl ok rfl h
theorem l1_rule (I:S1 Prop) (μ:S1 Nat)
 (h:∀g i k n o H,I g i k n o H→∀X:FP,(∀g' i' k' n' o' H',I g' i' k' n' o' H'→μ g' i' k' n' o' H'<μ g i k n o H→X (f1 g' i' k' n' o') H')→b1 g i k n o X E H K) (hI:I g i k n o H):l1 g i k n o E H K:=
 loop_rule2 (fun r m H=>∃g i k n o,r=f1 g i k n o∧m=μ g i k n o H∧I g i k n o H) (by rintro _ _ _ ⟨g,i,k,n,o,rfl,rfl,hI⟩ X hX; exact h _ _ _ _ _ _ hI X fun g' i' k' n' o' H' hI hl=>hX _ _ _ ⟨g',i',k',n',o',rfl,rfl,hI⟩ hl) rfl ⟨_,_,_,_,_,rfl,rfl,hI⟩
theorem nok:nodesOk code [[0,1,0,1,1]]=true:=by kernel_rfl
def run_t (l1:S1 Prop)(a:Int)(c:OA)(d e:Nat)(g:OA)(i k:Nat)(E:VP)(H:Hp)(K:KT):Prop:=
  nw H ⟨[.int .i64 a,.slice c d e],24⟩ fun B1 H1=>
  ldI .i64 (H1.get B1 0) fun x1=>
  bcase (!decide (((i:Int):Int)=x1)) (
  K false H1)
  (l1 g i k B1 0 H1)
theorem run_eq (h:run_t (fun g i k n o H=>l1 g i k n o E H K) a c d e g i k E H K):run a c d e g i k E H K:=by
  exact nodeR_imp2 (fun G=>run_t (fun g i k n o H=>G [0,1,0,1,1] (f1 g i k n o) H) a c d e g i k E H K) nok rfl (fun G=>by kernel_rfl) (Eq.mp (by kernel_rfl) h)
def b1_t (g:OA)(i k n:Nat)(o:Int)(X1:FP)(E:VP)(H:Hp)(K:KT):Prop:=
  ldI .i64 (H.get n 0) fun x1=>
  bcase (decide ((o:Int)<x1)) (
  ix g i o 1 fun B1 o1=>
  ldI .i64 (H.get B1 o1) fun x2=>
  bcase (decide ((x2:Int)<(-4398046511104))) (
  K false H)
  (ix g i o 1 fun B2 o2=>
  ldI .i64 (H.get B2 o2) fun x3=>
  bcase (decide ((4398046511104:Int)<x3)) (
  K false H)
  (X1 (f1 g i k n (IntKind.wrap .i64 (o+1))) H)))
  (K true H)
theorem b1_eq (h:b1_t g i k n o X1 E H K):b1 g i k n o X1 E H K:=by
  exact nodeR_imp2 (fun _=>b1_t g i k n o X1 E H K) nok rfl (fun G=>by kernel_rfl) h
end
end Q34
end Go.Mz
