/-
  The shallow texts of functions (Rea), each with a kernel-checked equation to the translated code. It proves nothing of the program by itself.
-/
import Derived.Test.YtndgjfbibkdokaaTab
set_option linter.unusedVariables false
set_option maxRecDepth 100000
namespace Go.Mz
namespace Q7
abbrev KT:=Int→Int→Hp→Prop
abbrev S1 (α:Type):=Nat→Int→Hp→α
section
variable (a:Int)(g:Nat)(c:OA)(k:Int)(d:Nat)(X1:FP)(e:Nat)(E:VP)(H:Hp)(K:KT)
noncomputable def A:An:={ live:=[(0,[0]),(1,[1]),(2,[]),(3,[1]),(4,[1,4]),(5,[1,4]),(6,[1,4]),(7,[1,4,5]),(8,[4,5]),(9,[])],ord:=[(6,[0,1,2,3,4,5,6,7,8])],stb:=[],pre:=[(6,[[],[0],[],[2],[],[2,3,4],[2,3,4,5],[0,1,2,3,4,5,6],[0,1,2,3,4,5,6,7]])] }
noncomputable def code:Code:=bodyOf Go.Proofs.Try.f13
def rq:Ex→FP:=retQ T0 [.tmp 2,.tmp 3] [3,3] (fun r H=>ldR (.tup [(false,[.i .i64]),(false,[.i .i64])]) r fun u=>K (asI (tupV u 0)) (asI (tupV u 1)) H) E
noncomputable def f1:Fr:=[(1,.pointer (some ⟨g,0,none⟩)),(4,.int .i64 k)]
def run:Prop:=nodeM P0 T0 A code [] [] (rq E K) (argF 0 [.agg ⟨[.int .i64 a,.slice c d e]⟩]) H
def l1:Prop:=nodeM P0 T0 A code [1,1,0,1,0] [] (rq E K) (f1 g k) H
def b1:Prop:=nodeM P0 T0 A code [1,1,0,1,0,0] [X1] (rq E K) (f1 g k) H
variable {a g c k d X1 e E H K}
theorem ok:okCode A 39 code=true:=by kernel_rfl
theorem of (h:run a c d e E H K):call a c d e E H K:=
  callW_of T0_ok P0_mixed (A:=A) (fn:=Go.Proofs.Try.f13) Go.Proofs.Try.func13 rfl ok rfl h
theorem l1_rule (I:S1 Prop) (μ:S1 Nat)
 (h:∀g k H,I g k H→∀X:FP,(∀g' k' H',I g' k' H'→μ g' k' H'<μ g k H→X (f1 g' k') H')→b1 g k X E H K) (hI:I g k H):l1 g k E H K:=
 loop_rule2 (fun r m H=>∃g k,r=f1 g k∧m=μ g k H∧I g k H) (by rintro _ _ _ ⟨g,k,rfl,rfl,hI⟩ X hX; exact h _ _ _ hI X fun g' k' H' hI hl=>hX _ _ _ ⟨g',k',rfl,rfl,hI⟩ hl) rfl ⟨_,_,rfl,rfl,hI⟩
theorem nok:nodesOk code [[0,1,0,1,1]]=true:=by kernel_rfl
def run_t (l1:S1 Prop)(a:Int)(c:OA)(d e:Nat)(E:VP)(H:Hp)(K:KT):Prop:=
  nw H ⟨[.int .i64 a,.slice c d e],24⟩ fun B1 H1=>
  ldI .i64 (H1.get B1 0) fun x1=>
  bcase (decide ((x1:Int)<0)) (
  K 3 0 H1)
  (ldI .i64 (H1.get B1 0) fun x2=>
  bcase (decide ((1024:Int)<x2)) (
  K 3 0 H1)
  (ldS (H1.get B1 1) fun x3p x3n x3c=>
  bcase (decide ((4096:Int)<(x3n:Int))) (
  K 3 0 H1)
  (l1 B1 0 H1)))
theorem run_eq (h:run_t (fun g k H=>l1 g k E H K) a c d e E H K):run a c d e E H K:=by
  exact nodeR_imp2 (fun G=>run_t (fun g k H=>G [0,1,0,1,1] (f1 g k) H) a c d e E H K) nok rfl (fun G=>by kernel_rfl) (Eq.mp (by kernel_rfl) h)
def b1_t (g:Nat)(k:Int)(X1:FP)(E:VP)(H:Hp)(K:KT):Prop:=
  ldS (H.get g 1) fun x1p x1n x1c=>
  bcase (decide ((k:Int)<(x1n:Int))) (
  ldI .i64 (H.get g 0) fun x2=>
  ldS (H.get g 1) fun x3p x3n x3c=>
  ix x3p x3n k 4 fun B1 o1=>
  ldI .i64 (H.get B1 o1) fun x4=>
  ldI .i64 (H.get B1 (o1+1)) fun x5=>
  ldI .i64 (H.get B1 (o1+2)) fun x6=>
  ldI .i64 (H.get B1 (o1+3)) fun x7=>
  Q16.call x2 x4 x5 x6 x7 E H fun r1 H1=>
  bcase (!decide ((r1:Int)=0)) (
  K r1 k H1)
  (X1 (f1 g (IntKind.wrap .i64 (k+1))) H1))
  (K 0 0 H)
theorem b1_eq (h:b1_t g k X1 E H K):b1 g k X1 E H K:=by
  exact nodeR_imp2 (fun _=>b1_t g k X1 E H K) nok rfl (fun G=>by kernel_rfl) h
end
end Q7
namespace Q8
abbrev KT:=Int→Hp→Prop
section
variable (a:Int)(c:OA)(d e:Nat)(g:OA)(k n:Nat)(E:VP)(H:Hp)(K:KT)
noncomputable def A:An:={ live:=[(0,[0,1]),(1,[1,2]),(2,[1,2,5]),(3,[]),(4,[5])],ord:=[],stb:=[],pre:=[] }
noncomputable def code:Code:=bodyOf Go.Proofs.Try.f19
def rq:Ex→FP:=retQ T0 [.tmp 4] [3] (fun r H=>ldR (.one false [.i .i64]) r fun u=>K (asI u) H) E
def run:Prop:=nodeM P0 T0 A code [] [] (rq E K) (argF 0 [.agg ⟨[.int .i64 a,.slice c d e]⟩,.slice g k n]) H
variable {a c d e g k n E H K}
theorem ok:okCode A 21 code=true:=by kernel_rfl
theorem of (h:run a c d e g k n E H K):call a c d e g k n E H K:=
  callW_of T0_ok P0_mixed (A:=A) (fn:=Go.Proofs.Try.f19) Go.Proofs.Try.func19 rfl ok rfl h
theorem nok:nodesOk code []=true:=by kernel_rfl
def run_t (a:Int)(c:OA)(d e:Nat)(g:OA)(k n:Nat)(E:VP)(H:Hp)(K:KT):Prop:=
  nw H ⟨[.int .i64 a,.slice c d e],24⟩ fun B1 H1=>
  ldI .i64 (H1.get B1 0) fun x1=>
  ldS (H1.get B1 1) fun x2p x2n x2c=>
  Q7.call x1 x2p x2n x2c E H1 fun r1 r2 H2=>
  bcase (decide ((r1:Int)=0)) (
  ldI .i64 (H2.get B1 0) fun x3=>
  ldS (H2.get B1 1) fun x4p x4n x4c=>
  Q18.call x3 x4p x4n x4c g k n E H2 fun r3 H3=>
  bcase ((!r3)) (
  K 221 H3)
  (K r1 H3))
  (K r1 H2)
theorem run_eq (h:run_t a c d e g k n E H K):run a c d e g k n E H K:=by
  exact nodeR_imp2 (fun _=>run_t a c d e g k n E H K) nok rfl (fun G=>by kernel_rfl) h
end
end Q8
namespace Q9
abbrev KT:=Int→Hp→Prop
abbrev S1 (α:Type):=OA→Nat→Nat→Nat→Int→Int→Hp→α
section
variable (a:Int)(c:OA)(d e:Nat)(g:OA)(k n o:Nat)(p q:Int)(X1:FP)(E:VP)(H:Hp)(K:KT)
noncomputable def A:An:={ live:=[(0,[0,1]),(1,[1,2]),(2,[1,2,5]),(3,[1,2,5,6]),(4,[1,2,5,6]),(5,[1,2,5,6]),(6,[5])],ord:=[(5,[0,1,2,3,4,5,6,7,8,9,10,11])],stb:=[],pre:=[(5,[[],[],[1],[],[],[3,4],[3,4,5],[1,2,3,4,5,6],[1,2,3,4,5,6,7],[1,2,3,4,5,6,7,8],[0,1,2,3,4,5,6,7,8,9],[0,1,2,3,4,5,6,7,8,9,10]])] }
noncomputable def code:Code:=bodyOf Go.Proofs.Try.f20
def rq:Ex→FP:=retQ T0 [.tmp 4] [2] (fun r H=>ldR (.one false [.i .i64]) r fun u=>K (asI u) H) E
noncomputable def f1:Fr:=[(1,.slice g k n),(2,.pointer (some ⟨o,0,none⟩)),(5,.int .i64 p),(6,.int .i64 q)]
def run:Prop:=nodeM P0 T0 A code [] [] (rq E K) (argF 0 [.agg ⟨[.int .i64 a,.slice c d e]⟩,.slice g k n]) H
def l1:Prop:=nodeM P0 T0 A code [1,1,0,1,0] [] (rq E K) (f1 g k n o p q) H
def b1:Prop:=nodeM P0 T0 A code [1,1,0,1,0,0] [X1] (rq E K) (f1 g k n o p q) H
variable {a c d e g k n o p q X1 E H K}
theorem ok:okCode A 25 code=true:=by kernel_rfl
theorem of (h:run a c d e g k n E H K):call a c d e g k n E H K:=
  callW_of T0_ok P0_mixed (A:=A) (fn:=Go.Proofs.Try.f20) Go.Proofs.Try.func20 rfl ok rfl h
theorem l1_rule (I:S1 Prop) (μ:S1 Nat)
 (h:∀g k n o p q H,I g k n o p q H→∀X:FP,(∀g' k' n' o' p' q' H',I g' k' n' o' p' q' H'→μ g' k' n' o' p' q' H'<μ g k n o p q H→X (f1 g' k' n' o' p' q') H')→b1 g k n o p q X E H K) (hI:I g k n o p q H):l1 g k n o p q E H K:=
 loop_rule2 (fun r m H=>∃g k n o p q,r=f1 g k n o p q∧m=μ g k n o p q H∧I g k n o p q H) (by rintro _ _ _ ⟨g,k,n,o,p,q,rfl,rfl,hI⟩ X hX; exact h _ _ _ _ _ _ _ hI X fun g' k' n' o' p' q' H' hI hl=>hX _ _ _ ⟨g',k',n',o',p',q',rfl,rfl,hI⟩ hl) rfl ⟨_,_,_,_,_,_,rfl,rfl,hI⟩
theorem nok:nodesOk code [[0,1,0,1,1]]=true:=by kernel_rfl
def run_t (l1:S1 Prop)(a:Int)(c:OA)(d e:Nat)(g:OA)(k n:Nat)(E:VP)(H:Hp)(K:KT):Prop:=
  nw H ⟨[.int .i64 a,.slice c d e],24⟩ fun B1 H1=>
  l1 g k n B1 0 0 H1
theorem run_eq (h:run_t (fun g k n o p q H=>l1 g k n o p q E H K) a c d e g k n E H K):run a c d e g k n E H K:=by
  exact nodeR_imp2 (fun G=>run_t (fun g k n o p q H=>G [0,1,0,1,1] (f1 g k n o p q) H) a c d e g k n E H K) nok rfl (fun G=>by kernel_rfl) (Eq.mp (by kernel_rfl) h)
def b1_t (g:OA)(k n o:Nat)(p q:Int)(X1:FP)(E:VP)(H:Hp)(K:KT):Prop:=
  bcase (decide ((q:Int)<(k:Int))) (
  ldS (H.get o 1) fun x1p x1n x1c=>
  ix g k q 1 fun B1 o1=>
  ldI .i64 (H.get B1 o1) fun x2=>
  ix x1p x1n x2 4 fun B2 o2=>
  ldI .i64 (H.get B2 (o2+3)) fun x3=>
  X1 (f1 g k n o (IntKind.wrap .i64 (p+x3)) (IntKind.wrap .i64 (q+1))) H)
  (K p H)
theorem b1_eq (h:b1_t g k n o p q X1 E H K):b1 g k n o p q X1 E H K:=by
  exact nodeR_imp2 (fun _=>b1_t g k n o p q X1 E H K) nok rfl (fun G=>by kernel_rfl) h
end
end Q9
namespace Q16
abbrev KT:=Int→Hp→Prop
section
variable (a c d e g:Int)(E:VP)(H:Hp)(K:KT)
noncomputable def A:An:={ live:=[(0,[0,1]),(1,[0,3]),(2,[]),(3,[3]),(4,[]),(5,[])],ord:=[],stb:=[],pre:=[] }
noncomputable def code:Code:=bodyOf Go.Proofs.Try.f33
def rq:Ex→FP:=retQ T0 [.tmp 4] [3] (fun r H=>ldR (.one false [.i .i64]) r fun u=>K (asI u) H) E
def run:Prop:=nodeM P0 T0 A code [] [] (rq E K) (argF 0 [.int .i64 a,.agg ⟨[.int .i64 c,.int .i64 d,.int .i64 e,.int .i64 g]⟩]) H
variable {a c d e g E H K}
theorem ok:okCode A 43 code=true:=by kernel_rfl
theorem of (h:run a c d e g E H K):call a c d e g E H K:=
  callW_of T0_ok P0_mixed (A:=A) (fn:=Go.Proofs.Try.f33) Go.Proofs.Try.func33 rfl ok rfl h
theorem nok:nodesOk code []=true:=by kernel_rfl
def run_t (a c d e g:Int)(E:VP)(H:Hp)(K:KT):Prop:=
  nw H ⟨[.int .i64 c,.int .i64 d,.int .i64 e,.int .i64 g],49⟩ fun B1 H1=>
  ldI .i64 (H1.get B1 0) fun x1=>
  bcase (decide ((x1:Int)<0)) (
  K 30 H1)
  (ldI .i64 (H1.get B1 1) fun x2=>
  bcase (decide ((x2:Int)<0)) (
  K 30 H1)
  (ldI .i64 (H1.get B1 0) fun x3=>
  bcase (decide ((a:Int)≤x3)) (
  K 30 H1)
  (ldI .i64 (H1.get B1 1) fun x4=>
  bcase (decide ((a:Int)≤x4)) (
  K 30 H1)
  (ldI .i64 (H1.get B1 2) fun x5=>
  bcase (decide ((x5:Int)<0)) (
  K 31 H1)
  (ldI .i64 (H1.get B1 2) fun x6=>
  bcase (decide ((1048576:Int)<x6)) (
  K 31 H1)
  (ldI .i64 (H1.get B1 3) fun x7=>
  bcase (decide ((x7:Int)<(-1048576))) (
  K 31 H1)
  (ldI .i64 (H1.get B1 3) fun x8=>
  bcase (decide ((1048576:Int)<x8)) (
  K 31 H1)
  (K 0 H1))))))))
theorem run_eq (h:run_t a c d e g E H K):run a c d e g E H K:=by
  exact nodeR_imp2 (fun _=>run_t a c d e g E H K) nok rfl (fun G=>by kernel_rfl) h
end
end Q16
namespace Q17
abbrev KT:=Bool→Hp→Prop
abbrev S1 (α:Type):=OA→Nat→Nat→Int→Int→Hp→α
section
variable (a:OA)(c d:Nat)(e g:Int)(X1:FP)(E:VP)(H:Hp)(K:KT)
noncomputable def A:An:={ live:=[(0,[0,1]),(1,[0,1]),(2,[0,1,5]),(3,[0,1,5]),(4,[0,1,5]),(5,[]),(6,[])],ord:=[(4,[0,1,2,3,4,5,6,7,8,9,10,11,12,13,14,15,16,17,18,19,20,21,22,23,24,25,26,27,28])],stb:=[],pre:=[(4,[[],[],[0,1],[0,1,2],[0,1,2,3],[0,1,2,3,4],[0,1,2,3,4,5],[0,1,2,3,4,5],[0,1,2,3,4,5,6,7],[0,1,2,3,4,5,6,7,8],[0,1,2,3,4,5],[0,1,2,3,4,5,6,7,8,9,10],[0,1,2,3,4,5,6,7,8,9,10,11],[0,1,2,3,4,5,6,7,8,9,10,11,12],[0,1,2,3,4,5,6,7,8,9,10,11,12,13],[0,1,2,3,4,5,6,7,8,9,10,11,12,13,14],[0,1,2,3,4,5,6,7,8,9,10,11,12,13,14,15],[0,1,2,3,4,5,6,7,8,9,10,11,12,13,14,15,16],[0,1,2,3,4,5,6,7,8,9,10,11,12,13,14,15,16],[0,1,2,3,4,5,6,7,8,9,10,11,12,13,14,15,16,17,18],[0,1,2,3,4,5,6,7,8,9,10,11,12,13,14,15,16,17,18,19],[0,1,2,3,4,5,6,7,8,9,10,11,12,13,14,15,16],[0,1,2,3,4,5,6,7,8,9,10,11,12,13,14,15,16],[0,1,2,3,4,5,6,7,8,9,10,11,12,13,14,15,16,22],[0,1,2,3,4,5,6,7,8,9,10,11,12,13,14,15,16,21,22,23],[0,1,2,3,4,5,6,7,8,9,10,11,12,13,14,15,16,21,22,23,24],[0,1,2,3,4,5,6,7,8,9,10,11,12,13,14,15,16,17,18,19,20,21,22,23,24,25],[0,1,2,3,4,5,6,7,8,9,10,11,12,13,14,15,16,17,18,19,20,21,22,23,24,25,26],[0,1,2,3,4,5,6,7,8,9,10,11,12,13,14,15,16,17,18,19,20,21,22,23,24,25,26,27]])] }
noncomputable def code:Code:=bodyOf Go.Proofs.Try.f34
def rq:Ex→FP:=retQ T0 [.tmp 4] [4] (fun r H=>ldR (.one false [.bool]) r fun u=>K (asB u) H) E
noncomputable def f1:Fr:=[(0,.slice a c d),(1,.int .i64 e),(5,.int .i64 g)]
def run:Prop:=nodeM P0 T0 A code [] [] (rq E K) (argF 0 [.slice a c d,.int .i64 e]) H
def j1:Prop:=nodeM P0 T0 A code [1,0,1,0,0,1,1] [X1] (rq E K) (f1 a c d e g) H
def l1:Prop:=nodeM P0 T0 A code [1,0,1,0] [] (rq E K) (f1 a c d e g) H
def b1:Prop:=nodeM P0 T0 A code [1,0,1,0,0] [X1] (rq E K) (f1 a c d e g) H
variable {a c d e g X1 E H K}
theorem ok:okCode A 41 code=true:=by kernel_rfl
theorem of (h:run a c d e E H K):call a c d e E H K:=
  callW_of T0_ok P0_mixed (A:=A) (fn:=Go.Proofs.Try.f34) Go.Proofs.Try.func34 rfl ok rfl h
theorem l1_rule (I:S1 Prop) (μ:S1 Nat)
 (h:∀a c d e g H,I a c d e g H→∀X:FP,(∀a' c' d' e' g' H',I a' c' d' e' g' H'→μ a' c' d' e' g' H'<μ a c d e g H→X (f1 a' c' d' e' g') H')→b1 a c d e g X E H K) (hI:I a c d e g H):l1 a c d e g E H K:=
 loop_rule2 (fun r m H=>∃a c d e g,r=f1 a c d e g∧m=μ a c d e g H∧I a c d e g H) (by rintro _ _ _ ⟨a,c,d,e,g,rfl,rfl,hI⟩ X hX; exact h _ _ _ _ _ _ hI X fun a' c' d' e' g' H' hI hl=>hX _ _ _ ⟨a',c',d',e',g',rfl,rfl,hI⟩ hl) rfl ⟨_,_,_,_,_,rfl,rfl,hI⟩
theorem nok:nodesOk code [[0,1,0,1],[1,1,0,0,1,0,1]]=true:=by kernel_rfl
def run_t (l1:S1 Prop)(a:OA)(c d:Nat)(e:Int)(E:VP)(H:Hp)(K:KT):Prop:=
  l1 a c d e 0 H
theorem run_eq (h:run_t (fun a c d e g H=>l1 a c d e g E H K) a c d e E H K):run a c d e E H K:=by
  exact nodeR_imp2 (fun G=>run_t (fun a c d e g H=>G [0,1,0,1] (f1 a c d e g) H) a c d e E H K) nok rfl (fun G=>by kernel_rfl) (Eq.mp (by kernel_rfl) h)
def j1_t (a:OA)(c d:Nat)(e g:Int)(X1:FP)(E:VP)(H:Hp)(K:KT):Prop:=
  X1 (f1 a c d e (IntKind.wrap .i64 (g+1))) H
theorem j1_eq (h:j1_t a c d e g X1 E H K):j1 a c d e g X1 E H K:=by
  exact nodeR_imp2 (fun _=>j1_t a c d e g X1 E H K) nok rfl (fun G=>by kernel_rfl) h
def b1_t (j1:OA→Nat→Nat→Int→Int→Hp→Prop)(a:OA)(c d:Nat)(e g:Int)(X1:FP)(E:VP)(H:Hp)(K:KT):Prop:=
  bcase (decide ((g:Int)<(c:Int))) (
  ix a c g 1 fun B1 o1=>
  ldI .i64 (H.get B1 o1) fun x1=>
  bcase (decide ((x1:Int)<0)) (
  K false H)
  (ix a c g 1 fun B2 o2=>
  ldI .i64 (H.get B2 o2) fun x2=>
  bcase (decide ((e:Int)≤x2)) (
  K false H)
  (bcase (decide ((0:Int)<g)) (
  ix a c g 1 fun B3 o3=>
  ldI .i64 (H.get B3 o3) fun x3=>
  ix a c (IntKind.wrap .i64 (g-1)) 1 fun B4 o4=>
  ldI .i64 (H.get B4 o4) fun x4=>
  bcase (decide ((x3:Int)≤x4)) (
  K false H)
  (j1 a c d e g H))
  (j1 a c d e g H))))
  (K true H)
theorem b1_eq (h:b1_t (fun a c d e g H=>j1 a c d e g X1 E H K) a c d e g X1 E H K):b1 a c d e g X1 E H K:=by
  exact nodeR_imp2 (fun G=>b1_t (fun a c d e g H=>G [1,1,0,0,1,0,1] (f1 a c d e g) H) a c d e g X1 E H K) nok rfl (fun G=>by kernel_rfl) (Eq.mp (by kernel_rfl) h)
end
end Q17
namespace Q18
abbrev KT:=Bool→Hp→Prop
section
variable (a:Int)(c:OA)(d e:Nat)(g:OA)(i k:Nat)(E:VP)(H:Hp)(K:KT)
noncomputable def A:An:={ live:=[(0,[0,1]),(1,[1,2])],ord:=[(1,[0,1,2,3,4,5])],stb:=[(1,[(3,[0])])],pre:=[(1,[[],[],[],[2],[0,1,2,3],[0,1,2,3,4]])] }
noncomputable def code:Code:=bodyOf Go.Proofs.Try.f39
def rq:Ex→FP:=retQ T0 [.tmp 4] [4] (fun r H=>ldR (.one false [.bool]) r fun u=>K (asB u) H) E
def run:Prop:=nodeM P0 T0 A code [] [] (rq E K) (argF 0 [.agg ⟨[.int .i64 a,.slice c d e]⟩,.slice g i k]) H
variable {a c d e g i k E H K}
theorem ok:okCode A 10 code=true:=by kernel_rfl
theorem of (h:run a c d e g i k E H K):call a c d e g i k E H K:=
  callW_of T0_ok P0_mixed (A:=A) (fn:=Go.Proofs.Try.f39) Go.Proofs.Try.func39 rfl ok rfl h
theorem nok:nodesOk code []=true:=by kernel_rfl
def run_t (a:Int)(c:OA)(d e:Nat)(g:OA)(i k:Nat)(E:VP)(H:Hp)(K:KT):Prop:=
  nw H ⟨[.int .i64 a,.slice c d e],24⟩ fun B1 H1=>
  ldI .i64 (H1.get B1 0) fun x1=>
  ldS (H1.get B1 1) fun x2p x2n x2c=>
  ldI .i64 (H1.get B1 0) fun x3=>
  ldS (H1.get B1 1) fun x4p x4n x4c=>
  Q32.call x3 x4p x4n x4c E H1 fun r1p r1n r1c H2=>
  (ldI .i64 (H2.get B1 0) fun x5=>
  ldS (H2.get B1 1) fun x6p x6n x6c=>
  Value.agg ⟨[.int .i64 x5,.slice x6p x6n x6c]⟩=Value.agg ⟨[.int .i64 x1,.slice x2p x2n x2c]⟩)∧
  Q31.call x1 x2p x2n x2c g i k r1p r1n r1c E H2 fun r2 H3=>
  K r2 H3
theorem run_eq (h:run_t a c d e g i k E H K):run a c d e g i k E H K:=by
  exact nodeR_imp2 (fun _=>run_t a c d e g i k E H K) nok rfl (fun G=>by kernel_rfl) h
end
end Q18
namespace Q31
abbrev KT:=Bool→Hp→Prop
abbrev S1 (α:Type):=OA→Nat→Nat→OA→Nat→Nat→Nat→Int→Hp→α
abbrev S2 (α:Type):=OA→Nat→Nat→OA→Nat→Nat→Nat→Int→Hp→α
section
variable (a:Int)(c:OA)(d e:Nat)(g:OA)(i k:Nat)(n:OA)(o p q:Nat)(t v:Int)(X1:FP)(E:VP)(H:Hp)(K:KT)
noncomputable def A:An:={ live:=[(0,[0,1,2]),(1,[1,2,3]),(2,[]),(3,[1,2,3]),(4,[1,2,3,7]),(5,[1,2,3,7]),(6,[1,2,3,7]),(7,[]),(8,[1,2,3]),(9,[1,2,3,8]),(10,[1,2,3,8]),(11,[1,2,3,8]),(12,[]),(13,[])],ord:=[(6,[0,1,2,3,4,5,6,7,8,9,10,11,12,13,14,15,16,17,18]),(11,[0,1,2,4,5,6,7,3,8])],stb:=[(11,[(3,[7])])],pre:=[(6,[[],[0],[],[],[2,3],[2,3,4],[0,1,2,3,4,5],[0,1,2,3,4,5,6],[0,1,2,3,4,5,6,7],[],[9],[],[],[11,12],[11,12,13],[9,10,11,12,13,14],[9,10,11,12,13,14,15],[9,10,11,12,13,14,15,16],[0,1,2,3,4,5,6,7,8,9,10,11,12,13,14,15,16,17]]),(11,[[],[],[],[0,1,2],[],[],[4,5],[4,5,6],[0,1,2,3,4,5,6,7]])] }
noncomputable def code:Code:=bodyOf Go.Proofs.Try.f69
def rq:Ex→FP:=retQ T0 [.tmp 6] [4] (fun r H=>ldR (.one false [.bool]) r fun u=>K (asB u) H) E
noncomputable def f1:Fr:=[(1,.slice g i k),(2,.slice n o p),(3,.pointer (some ⟨q,0,none⟩)),(7,.int .i64 t)]
noncomputable def f2:Fr:=[(1,.slice g i k),(2,.slice n o p),(3,.pointer (some ⟨q,0,none⟩)),(8,.int .i64 v)]
def run:Prop:=nodeM P0 T0 A code [] [] (rq E K) (argF 0 [.agg ⟨[.int .i64 a,.slice c d e]⟩,.slice g i k,.slice n o p]) H
def j1:Prop:=nodeM P0 T0 A code [1,1,1] [] (rq E K) [(1,.slice g i k),(2,.slice n o p),(3,.pointer (some ⟨q,0,none⟩))] H
def l1:Prop:=nodeM P0 T0 A code [1,1,0,1,0] [] (rq E K) (f1 g i k n o p q t) H
def b1:Prop:=nodeM P0 T0 A code [1,1,0,1,0,0] [X1] (rq E K) (f1 g i k n o p q t) H
def l2:Prop:=nodeM P0 T0 A code [1,1,1,0,1,0] [] (rq E K) (f2 g i k n o p q v) H
def b2:Prop:=nodeM P0 T0 A code [1,1,1,0,1,0,0] [X1] (rq E K) (f2 g i k n o p q v) H
variable {a c d e g i k n o p q t v X1 E H K}
theorem ok:okCode A 55 code=true:=by kernel_rfl
theorem of (h:run a c d e g i k n o p E H K):call a c d e g i k n o p E H K:=
  callW_of T0_ok P0_mixed (A:=A) (fn:=Go.Proofs.Try.f69) Go.Proofs.Try.func69 rfl ok rfl h
theorem l1_rule (I:S1 Prop) (μ:S1 Nat)
 (h:∀g i k n o p q t H,I g i k n o p q t H→∀X:FP,(∀g' i' k' n' o' p' q' t' H',I g' i' k' n' o' p' q' t' H'→μ g' i' k' n' o' p' q' t' H'<μ g i k n o p q t H→X (f1 g' i' k' n' o' p' q' t') H')→b1 g i k n o p q t X E H K) (hI:I g i k n o p q t H):l1 g i k n o p q t E H K:=
 loop_rule2 (fun r m H=>∃g i k n o p q t,r=f1 g i k n o p q t∧m=μ g i k n o p q t H∧I g i k n o p q t H) (by rintro _ _ _ ⟨g,i,k,n,o,p,q,t,rfl,rfl,hI⟩ X hX; exact h _ _ _ _ _ _ _ _ _ hI X fun g' i' k' n' o' p' q' t' H' hI hl=>hX _ _ _ ⟨g',i',k',n',o',p',q',t',rfl,rfl,hI⟩ hl) rfl ⟨_,_,_,_,_,_,_,_,rfl,rfl,hI⟩
theorem l2_rule (I:S2 Prop) (μ:S2 Nat)
 (h:∀g i k n o p q v H,I g i k n o p q v H→∀X:FP,(∀g' i' k' n' o' p' q' v' H',I g' i' k' n' o' p' q' v' H'→μ g' i' k' n' o' p' q' v' H'<μ g i k n o p q v H→X (f2 g' i' k' n' o' p' q' v') H')→b2 g i k n o p q v X E H K) (hI:I g i k n o p q v H):l2 g i k n o p q v E H K:=
 loop_rule2 (fun r m H=>∃g i k n o p q v,r=f2 g i k n o p q v∧m=μ g i k n o p q v H∧I g i k n o p q v H) (by rintro _ _ _ ⟨g,i,k,n,o,p,q,v,rfl,rfl,hI⟩ X hX; exact h _ _ _ _ _ _ _ _ _ hI X fun g' i' k' n' o' p' q' v' H' hI hl=>hX _ _ _ ⟨g',i',k',n',o',p',q',v',rfl,rfl,hI⟩ hl) rfl ⟨_,_,_,_,_,_,_,_,rfl,rfl,hI⟩
theorem nok:nodesOk code [[0,1,0,1,1],[1,1,1],[0,1,0,1,1,1]]=true:=by kernel_rfl
def run_t (l1:S1 Prop)(a:Int)(c:OA)(d e:Nat)(g:OA)(i k:Nat)(n:OA)(o p:Nat)(E:VP)(H:Hp)(K:KT):Prop:=
  nw H ⟨[.int .i64 a,.slice c d e],24⟩ fun B1 H1=>
  ldS (H1.get B1 1) fun x1p x1n x1c=>
  Q17.call g i k (x1n:Int) E H1 fun r1 H2=>
  bcase ((!r1)) (
  K false H2)
  (l1 g i k n o p B1 0 H2)
theorem run_eq (h:run_t (fun g i k n o p q t H=>l1 g i k n o p q t E H K) a c d e g i k n o p E H K):run a c d e g i k n o p E H K:=by
  exact nodeR_imp2 (fun G=>run_t (fun g i k n o p q t H=>G [0,1,0,1,1] (f1 g i k n o p q t) H) a c d e g i k n o p E H K) nok rfl (fun G=>by kernel_rfl) (Eq.mp (by kernel_rfl) h)
def j1_t (l2:S2 Prop)(g:OA)(i k:Nat)(n:OA)(o p q:Nat)(E:VP)(H:Hp)(K:KT):Prop:=
  l2 g i k n o p q 0 H
theorem j1_eq (h:j1_t (fun g i k n o p q v H=>l2 g i k n o p q v E H K) g i k n o p q E H K):j1 g i k n o p q E H K:=by
  exact nodeR_imp2 (fun G=>j1_t (fun g i k n o p q v H=>G [0,1,0,1,1,1] (f2 g i k n o p q v) H) g i k n o p q E H K) nok rfl (fun G=>by kernel_rfl) (Eq.mp (by kernel_rfl) h)
def b1_t (j1:OA→Nat→Nat→OA→Nat→Nat→Nat→Hp→Prop)(g:OA)(i k:Nat)(n:OA)(o p q:Nat)(t:Int)(X1:FP)(E:VP)(H:Hp)(K:KT):Prop:=
  bcase (decide ((t:Int)<(i:Int))) (
  ldS (H.get q 1) fun x1p x1n x1c=>
  ix g i t 1 fun B1 o1=>
  ldI .i64 (H.get B1 o1) fun x2=>
  ix x1p x1n x2 4 fun B2 o2=>
  ldI .i64 (H.get B2 o2) fun x3=>
  ldS (H.get q 1) fun x4p x4n x4c=>
  ix g i t 1 fun B3 o3=>
  ldI .i64 (H.get B3 o3) fun x5=>
  ix x4p x4n x5 4 fun B4 o4=>
  ldI .i64 (H.get B4 (o4+1)) fun x6=>
  bcase (decide ((x3:Int)=x6)) (
  K false H)
  (X1 (f1 g i k n o p q (IntKind.wrap .i64 (t+1))) H))
  (j1 g i k n o p q H)
theorem b1_eq (h:b1_t (fun g i k n o p q H=>j1 g i k n o p q E H K) g i k n o p q t X1 E H K):b1 g i k n o p q t X1 E H K:=by
  exact nodeR_imp2 (fun G=>b1_t (fun g i k n o p q H=>G [1,1,1] [(1,.slice g i k),(2,.slice n o p),(3,.pointer (some ⟨q,0,none⟩))] H) g i k n o p q t X1 E H K) nok rfl (fun G=>by kernel_rfl) (Eq.mp (by kernel_rfl) h)
def b2_t (g:OA)(i k:Nat)(n:OA)(o p q:Nat)(v:Int)(X1:FP)(E:VP)(H:Hp)(K:KT):Prop:=
  ldI .i64 (H.get q 0) fun x1=>
  bcase (decide ((v:Int)<x1)) (
  ldI .i64 (H.get q 0) fun x2=>
  ldS (H.get q 1) fun x3p x3n x3c=>
  ix n o v 1 fun B1 o1=>
  ldI .i64 (H.get B1 o1) fun x4=>
  Q40.call x2 x3p x3n x3c g i k v E H fun r1 H1=>
  (ldI .i64 (H1.get B1 o1) fun x5=>
  Value.int .i64 x5=Value.int .i64 x4)∧
  bcase (decide ((x4:Int)<r1)) (
  K false H1)
  (X1 (f2 g i k n o p q (IntKind.wrap .i64 (v+1))) H1))
  (K true H)
theorem b2_eq (h:b2_t g i k n o p q v X1 E H K):b2 g i k n o p q v X1 E H K:=by
  exact nodeR_imp2 (fun _=>b2_t g i k n o p q v X1 E H K) nok rfl (fun G=>by kernel_rfl) h
end
end Q31
namespace Q32
abbrev KT:=OA→Nat→Nat→Hp→Prop
abbrev S1 (α:Type):=Nat→OA→Nat→Nat→Int→Hp→α
section
variable (a:Int)(g:Nat)(c k:OA)(d n e o:Nat)(p:Int)(X1:FP)(E:VP)(H:Hp)(K:KT)
noncomputable def A:An:={ live:=[(0,[0]),(1,[1]),(2,[1,3]),(3,[1,3,4]),(4,[1,3,4]),(5,[1,3,4]),(6,[3])],ord:=[],stb:=[],pre:=[] }
noncomputable def code:Code:=bodyOf Go.Proofs.Try.f70
def rq:Ex→FP:=retQ T0 [.tmp 2] [26] (fun r H=>ldR (.one false [.sl]) r fun u=>K (asS1 u) (asS2 u) (asS3 u) H) E
noncomputable def f1:Fr:=[(1,.pointer (some ⟨g,0,none⟩)),(3,.slice k n o),(4,.int .i64 p)]
def run:Prop:=nodeM P0 T0 A code [] [] (rq E K) (argF 0 [.agg ⟨[.int .i64 a,.slice c d e]⟩]) H
def l1:Prop:=nodeM P0 T0 A code [1,1,0,1,0] [] (rq E K) (f1 g k n o p) H
def b1:Prop:=nodeM P0 T0 A code [1,1,0,1,0,0] [X1] (rq E K) (f1 g k n o p) H
variable {a g c k d n e o p X1 E H K}
theorem ok:okCode A 18 code=true:=by kernel_rfl
theorem of (h:run a c d e E H K):call a c d e E H K:=
  callW_of T0_ok P0_mixed (A:=A) (fn:=Go.Proofs.Try.f70) Go.Proofs.Try.func70 rfl ok rfl h
theorem l1_rule (I:S1 Prop) (μ:S1 Nat)
 (h:∀g k n o p H,I g k n o p H→∀X:FP,(∀g' k' n' o' p' H',I g' k' n' o' p' H'→μ g' k' n' o' p' H'<μ g k n o p H→X (f1 g' k' n' o' p') H')→b1 g k n o p X E H K) (hI:I g k n o p H):l1 g k n o p E H K:=
 loop_rule2 (fun r m H=>∃g k n o p,r=f1 g k n o p∧m=μ g k n o p H∧I g k n o p H) (by rintro _ _ _ ⟨g,k,n,o,p,rfl,rfl,hI⟩ X hX; exact h _ _ _ _ _ _ hI X fun g' k' n' o' p' H' hI hl=>hX _ _ _ ⟨g',k',n',o',p',rfl,rfl,hI⟩ hl) rfl ⟨_,_,_,_,_,rfl,rfl,hI⟩
theorem nok:nodesOk code [[0,1,0,1,1]]=true:=by kernel_rfl
def run_t (l1:S1 Prop)(a:Int)(c:OA)(d e:Nat)(E:VP)(H:Hp)(K:KT):Prop:=
  nw H ⟨[.int .i64 a,.slice c d e],24⟩ fun B1 H1=>
  ldI .i64 (H1.get B1 0) fun x1=>
  mkS x1 x1 3 [.i .i64] 8 H1 fun B2 H2=>
  l1 B1 (some ⟨B2,0,none⟩) x1.toNat x1.toNat 0 H2
theorem run_eq (h:run_t (fun g k n o p H=>l1 g k n o p E H K) a c d e E H K):run a c d e E H K:=by
  exact nodeR_imp2 (fun G=>run_t (fun g k n o p H=>G [0,1,0,1,1] (f1 g k n o p) H) a c d e E H K) nok rfl (fun G=>by kernel_rfl) (Eq.mp (by kernel_rfl) h)
def b1_t (g:Nat)(k:OA)(n o:Nat)(p:Int)(X1:FP)(E:VP)(H:Hp)(K:KT):Prop:=
  ldI .i64 (H.get g 0) fun x1=>
  bcase (decide ((p:Int)<x1)) (
  ix k n p 1 fun B1 o1=>
  stC H B1 o1 [.int .i64 1] fun H1=>
  X1 (f1 g k n o (IntKind.wrap .i64 (p+1))) H1)
  (K k n o H)
theorem b1_eq (h:b1_t g k n o p X1 E H K):b1 g k n o p X1 E H K:=by
  exact nodeR_imp2 (fun _=>b1_t g k n o p X1 E H K) nok rfl (fun G=>by kernel_rfl) h
end
end Q32
namespace Q40
abbrev KT:=Int→Hp→Prop
abbrev S1 (α:Type):=OA→Nat→Nat→Int→Nat→Int→Int→Hp→α
section
variable (a:Int)(c:OA)(d e:Nat)(g:OA)(k n:Nat)(o:Int)(p:Nat)(q t:Int)(X1:FP)(E:VP)(H:Hp)(K:KT)
noncomputable def A:An:={ live:=[(0,[0,1,2]),(1,[1,2,3]),(2,[1,2,3,7]),(3,[1,2,3,7,8]),(4,[1,2,3,7,8]),(5,[1,2,3,7,8]),(6,[1,2,3,7,8]),(7,[1,2,3,7,8]),(8,[1,2,3,7,8]),(9,[7])],ord:=[(5,[0,1,2,3,4,5,6,7,8,9,10]),(7,[0,1,2,3,4,5,6,7,8,9,10])],stb:=[],pre:=[(5,[[],[0],[],[],[2,3],[2,3,4],[0,1,2,3,4,5],[0,1,2,3,4,5,6],[0,1,2,3,4,5,6,7],[],[0,1,2,3,4,5,6,7,8,9]]),(7,[[],[0],[],[],[2,3],[2,3,4],[0,1,2,3,4,5],[0,1,2,3,4,5,6],[0,1,2,3,4,5,6,7],[],[0,1,2,3,4,5,6,7,8,9]])] }
noncomputable def code:Code:=bodyOf Go.Proofs.Try.f93
def rq:Ex→FP:=retQ T0 [.tmp 6] [3] (fun r H=>ldR (.one false [.i .i64]) r fun u=>K (asI u) H) E
noncomputable def f1:Fr:=[(1,.slice g k n),(2,.int .i64 o),(3,.pointer (some ⟨p,0,none⟩)),(7,.int .i64 q),(8,.int .i64 t)]
def run:Prop:=nodeM P0 T0 A code [] [] (rq E K) (argF 0 [.agg ⟨[.int .i64 a,.slice c d e]⟩,.slice g k n,.int .i64 o]) H
def j1:Prop:=nodeM P0 T0 A code [1,1,0,1,0,0,1,0,0,1] [X1] (rq E K) (f1 g k n o p q t) H
def j2:Prop:=nodeM P0 T0 A code [1,1,0,1,0,0,1,1] [X1] (rq E K) (f1 g k n o p q t) H
def l1:Prop:=nodeM P0 T0 A code [1,1,0,1,0] [] (rq E K) (f1 g k n o p q t) H
def b1:Prop:=nodeM P0 T0 A code [1,1,0,1,0,0] [X1] (rq E K) (f1 g k n o p q t) H
variable {a c d e g k n o p q t X1 E H K}
theorem ok:okCode A 42 code=true:=by kernel_rfl
theorem of (h:run a c d e g k n o E H K):call a c d e g k n o E H K:=
  callW_of T0_ok P0_mixed (A:=A) (fn:=Go.Proofs.Try.f93) Go.Proofs.Try.func93 rfl ok rfl h
theorem l1_rule (I:S1 Prop) (μ:S1 Nat)
 (h:∀g k n o p q t H,I g k n o p q t H→∀X:FP,(∀g' k' n' o' p' q' t' H',I g' k' n' o' p' q' t' H'→μ g' k' n' o' p' q' t' H'<μ g k n o p q t H→X (f1 g' k' n' o' p' q' t') H')→b1 g k n o p q t X E H K) (hI:I g k n o p q t H):l1 g k n o p q t E H K:=
 loop_rule2 (fun r m H=>∃g k n o p q t,r=f1 g k n o p q t∧m=μ g k n o p q t H∧I g k n o p q t H) (by rintro _ _ _ ⟨g,k,n,o,p,q,t,rfl,rfl,hI⟩ X hX; exact h _ _ _ _ _ _ _ _ hI X fun g' k' n' o' p' q' t' H' hI hl=>hX _ _ _ ⟨g',k',n',o',p',q',t',rfl,rfl,hI⟩ hl) rfl ⟨_,_,_,_,_,_,_,rfl,rfl,hI⟩
theorem nok:nodesOk code [[0,1,0,1,1],[1,0,0,1,0,0,1,0,1,1],[1,1,0,0,1,0,1,1]]=true:=by kernel_rfl
def run_t (l1:S1 Prop)(a:Int)(c:OA)(d e:Nat)(g:OA)(k n:Nat)(o:Int)(E:VP)(H:Hp)(K:KT):Prop:=
  nw H ⟨[.int .i64 a,.slice c d e],24⟩ fun B1 H1=>
  l1 g k n o B1 0 0 H1
theorem run_eq (h:run_t (fun g k n o p q t H=>l1 g k n o p q t E H K) a c d e g k n o E H K):run a c d e g k n o E H K:=by
  exact nodeR_imp2 (fun G=>run_t (fun g k n o p q t H=>G [0,1,0,1,1] (f1 g k n o p q t) H) a c d e g k n o E H K) nok rfl (fun G=>by kernel_rfl) (Eq.mp (by kernel_rfl) h)
def j1_t (j2:OA→Nat→Nat→Int→Nat→Int→Int→Hp→Prop)(g:OA)(k n:Nat)(o:Int)(p:Nat)(q t:Int)(X1:FP)(E:VP)(H:Hp)(K:KT):Prop:=
  ldS (H.get p 1) fun x1p x1n x1c=>
  ix g k t 1 fun B1 o1=>
  ldI .i64 (H.get B1 o1) fun x2=>
  ix x1p x1n x2 4 fun B2 o2=>
  ldI .i64 (H.get B2 (o2+1)) fun x3=>
  bcase (decide ((x3:Int)=o)) (
  j2 g k n o p (IntKind.wrap .i64 (q+1)) t H)
  (j2 g k n o p q t H)
theorem j1_eq (h:j1_t (fun g k n o p q t H=>j2 g k n o p q t X1 E H K) g k n o p q t X1 E H K):j1 g k n o p q t X1 E H K:=by
  exact nodeR_imp2 (fun G=>j1_t (fun g k n o p q t H=>G [1,1,0,0,1,0,1,1] (f1 g k n o p q t) H) g k n o p q t X1 E H K) nok rfl (fun G=>by kernel_rfl) (Eq.mp (by kernel_rfl) h)
def j2_t (g:OA)(k n:Nat)(o:Int)(p:Nat)(q t:Int)(X1:FP)(E:VP)(H:Hp)(K:KT):Prop:=
  X1 (f1 g k n o p q (IntKind.wrap .i64 (t+1))) H
theorem j2_eq (h:j2_t g k n o p q t X1 E H K):j2 g k n o p q t X1 E H K:=by
  exact nodeR_imp2 (fun _=>j2_t g k n o p q t X1 E H K) nok rfl (fun G=>by kernel_rfl) h
def b1_t (j1:OA→Nat→Nat→Int→Nat→Int→Int→Hp→Prop)(g:OA)(k n:Nat)(o:Int)(p:Nat)(q t:Int)(X1:FP)(E:VP)(H:Hp)(K:KT):Prop:=
  bcase (decide ((t:Int)<(k:Int))) (
  ldS (H.get p 1) fun x1p x1n x1c=>
  ix g k t 1 fun B1 o1=>
  ldI .i64 (H.get B1 o1) fun x2=>
  ix x1p x1n x2 4 fun B2 o2=>
  ldI .i64 (H.get B2 o2) fun x3=>
  bcase (decide ((x3:Int)=o)) (
  j1 g k n o p (IntKind.wrap .i64 (q+1)) t H)
  (j1 g k n o p q t H))
  (K q H)
theorem b1_eq (h:b1_t (fun g k n o p q t H=>j1 g k n o p q t X1 E H K) g k n o p q t X1 E H K):b1 g k n o p q t X1 E H K:=by
  exact nodeR_imp2 (fun G=>b1_t (fun g k n o p q t H=>G [1,0,0,1,0,0,1,0,1,1] (f1 g k n o p q t) H) g k n o p q t X1 E H K) nok rfl (fun G=>by kernel_rfl) (Eq.mp (by kernel_rfl) h)
end
end Q40
end Go.Mz
