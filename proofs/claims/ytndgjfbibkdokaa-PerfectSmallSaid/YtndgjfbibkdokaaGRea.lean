/-
  The shallow texts of functions (Rea), each with a kernel-checked equation to the translated code. It proves nothing of the program by itself.
-/
import Derived.Test.YtndgjfbibkdokaaTab
set_option linter.unusedVariables false
set_option maxRecDepth 100000
namespace Go.Mz
namespace Q7
abbrev KT:=Int→Int→Hp→Prop
abbrev S1 (α:Type):=Nat→Int→Hp→α
section
variable (a:Int)(g:Nat)(c:OA)(k:Int)(d:Nat)(X1:FP)(e:Nat)(E:VP)(H:Hp)(K:KT)
noncomputable def A:An:={ live:=[(0,[0]),(1,[1]),(2,[]),(3,[1]),(4,[1,4]),(5,[1,4]),(6,[1,4]),(7,[1,4,5]),(8,[4,5]),(9,[])],ord:=[(6,[0,1,2,3,4,5,6,7,8])],stb:=[],pre:=[(6,[[],[0],[],[2],[],[2,3,4],[2,3,4,5],[0,1,2,3,4,5,6],[0,1,2,3,4,5,6,7]])] }
noncomputable def code:Code:=bodyOf Go.Proofs.Try.f13
def rq:Ex→FP:=retQ T0 [.tmp 2,.tmp 3] [3,3] (fun r H=>ldR (.tup [(false,[.i .i64]),(false,[.i .i64])]) r fun u=>K (asI (tupV u 0)) (asI (tupV u 1)) H) E
noncomputable def f1:Fr:=[(1,.pointer (some ⟨g,0,none⟩)),(4,.int .i64 k)]
def run:Prop:=nodeM P0 T0 A code [] [] (rq E K) (argF 0 [.agg ⟨[.int .i64 a,.slice c d e]⟩]) H
def l1:Prop:=nodeM P0 T0 A code [1,1,0,1,0] [] (rq E K) (f1 g k) H
def b1:Prop:=nodeM P0 T0 A code [1,1,0,1,0,0] [X1] (rq E K) (f1 g k) H
variable {a g c k d X1 e E H K}
theorem ok:okCode A 39 code=true:=by kernel_rfl
theorem of (h:run a c d e E H K):call a c d e E H K:=
  callW_of T0_ok P0_mixed (A:=A) (fn:=Go.Proofs.Try.f13) Go.Proofs.Try.func13 rfl ok rfl h
theorem l1_rule (I:S1 Prop) (μ:S1 Nat)
 (h:∀g k H,I g k H→∀X:FP,(∀g' k' H',I g' k' H'→μ g' k' H'<μ g k H→X (f1 g' k') H')→b1 g k X E H K) (hI:I g k H):l1 g k E H K:=
 loop_rule2 (fun r m H=>∃g k,r=f1 g k∧m=μ g k H∧I g k H) (by rintro _ _ _ ⟨g,k,rfl,rfl,hI⟩ X hX; exact h _ _ _ hI X fun g' k' H' hI hl=>hX _ _ _ ⟨g',k',rfl,rfl,hI⟩ hl) rfl ⟨_,_,rfl,rfl,hI⟩
theorem nok:nodesOk code [[0,1,0,1,1]]=true:=by kernel_rfl
def run_t (l1:S1 Prop)(a:Int)(c:OA)(d e:Nat)(E:VP)(H:Hp)(K:KT):Prop:=
  nw H ⟨[.int .i64 a,.slice c d e],24⟩ fun B1 H1=>
  ldI .i64 (H1.get B1 0) fun x1=>
  bcase (decide ((x1:Int)<0)) (
  K 3 0 H1)
  (ldI .i64 (H1.get B1 0) fun x2=>
  bcase (decide ((1024:Int)<x2)) (
  K 3 0 H1)
  (ldS (H1.get B1 1) fun x3p x3n x3c=>
  bcase (decide ((4096:Int)<(x3n:Int))) (
  K 3 0 H1)
  (l1 B1 0 H1)))
theorem run_eq (h:run_t (fun g k H=>l1 g k E H K) a c d e E H K):run a c d e E H K:=by
  exact nodeR_imp2 (fun G=>run_t (fun g k H=>G [0,1,0,1,1] (f1 g k) H) a c d e E H K) nok rfl (fun G=>by kernel_rfl) (Eq.mp (by kernel_rfl) h)
def b1_t (g:Nat)(k:Int)(X1:FP)(E:VP)(H:Hp)(K:KT):Prop:=
  ldS (H.get g 1) fun x1p x1n x1c=>
  bcase (decide ((k:Int)<(x1n:Int))) (
  ldI .i64 (H.get g 0) fun x2=>
  ldS (H.get g 1) fun x3p x3n x3c=>
  ix x3p x3n k 4 fun B1 o1=>
  ldI .i64 (H.get B1 o1) fun x4=>
  ldI .i64 (H.get B1 (o1+1)) fun x5=>
  ldI .i64 (H.get B1 (o1+2)) fun x6=>
  ldI .i64 (H.get B1 (o1+3)) fun x7=>
  Q15.call x2 x4 x5 x6 x7 E H fun r1 H1=>
  bcase (!decide ((r1:Int)=0)) (
  K r1 k H1)
  (X1 (f1 g (IntKind.wrap .i64 (k+1))) H1))
  (K 0 0 H)
theorem b1_eq (h:b1_t g k X1 E H K):b1 g k X1 E H K:=by
  exact nodeR_imp2 (fun _=>b1_t g k X1 E H K) nok rfl (fun G=>by kernel_rfl) h
end
end Q7
namespace Q15
abbrev KT:=Int→Hp→Prop
section
variable (a c d e g:Int)(E:VP)(H:Hp)(K:KT)
noncomputable def A:An:={ live:=[(0,[0,1]),(1,[0,3]),(2,[]),(3,[3]),(4,[]),(5,[])],ord:=[],stb:=[],pre:=[] }
noncomputable def code:Code:=bodyOf Go.Proofs.Try.f33
def rq:Ex→FP:=retQ T0 [.tmp 4] [3] (fun r H=>ldR (.one false [.i .i64]) r fun u=>K (asI u) H) E
def run:Prop:=nodeM P0 T0 A code [] [] (rq E K) (argF 0 [.int .i64 a,.agg ⟨[.int .i64 c,.int .i64 d,.int .i64 e,.int .i64 g]⟩]) H
variable {a c d e g E H K}
theorem ok:okCode A 43 code=true:=by kernel_rfl
theorem of (h:run a c d e g E H K):call a c d e g E H K:=
  callW_of T0_ok P0_mixed (A:=A) (fn:=Go.Proofs.Try.f33) Go.Proofs.Try.func33 rfl ok rfl h
theorem nok:nodesOk code []=true:=by kernel_rfl
def run_t (a c d e g:Int)(E:VP)(H:Hp)(K:KT):Prop:=
  nw H ⟨[.int .i64 c,.int .i64 d,.int .i64 e,.int .i64 g],49⟩ fun B1 H1=>
  ldI .i64 (H1.get B1 0) fun x1=>
  bcase (decide ((x1:Int)<0)) (
  K 30 H1)
  (ldI .i64 (H1.get B1 1) fun x2=>
  bcase (decide ((x2:Int)<0)) (
  K 30 H1)
  (ldI .i64 (H1.get B1 0) fun x3=>
  bcase (decide ((a:Int)≤x3)) (
  K 30 H1)
  (ldI .i64 (H1.get B1 1) fun x4=>
  bcase (decide ((a:Int)≤x4)) (
  K 30 H1)
  (ldI .i64 (H1.get B1 2) fun x5=>
  bcase (decide ((x5:Int)<0)) (
  K 31 H1)
  (ldI .i64 (H1.get B1 2) fun x6=>
  bcase (decide ((1048576:Int)<x6)) (
  K 31 H1)
  (ldI .i64 (H1.get B1 3) fun x7=>
  bcase (decide ((x7:Int)<(-1048576))) (
  K 31 H1)
  (ldI .i64 (H1.get B1 3) fun x8=>
  bcase (decide ((1048576:Int)<x8)) (
  K 31 H1)
  (K 0 H1))))))))
theorem run_eq (h:run_t a c d e g E H K):run a c d e g E H K:=by
  exact nodeR_imp2 (fun _=>run_t a c d e g E H K) nok rfl (fun G=>by kernel_rfl) h
end
end Q15
end Go.Mz
