/-
  The shallow texts of functions (Sli), each with a kernel-checked equation to the translated code. It proves nothing of the program by itself.
-/
import Derived.Test.YtndgjfbibkdokaaTab
set_option linter.unusedVariables false
set_option maxRecDepth 100000
namespace Go.Mz
namespace Q32
abbrev KT:=Bool→Hp→Prop
section
variable (a:OA)(c d e:Nat)(g:List Value)(E:VP)(H:Hp)(K:KT)
noncomputable def A:An:={ live:=[(0,[0,1]),(1,[0,1])],ord:=[],stb:=[],pre:=[] }
noncomputable def code:Code:=bodyOf Go.Proofs.Try.f56
def rq:Ex→FP:=retQ T0 [.tmp 4] [4] (fun r H=>ldR (.one false [.bool]) r fun u=>K (asB u) H) E
def run:Prop:=nodeM P0 T0 A code [] [] (rq E K) (argF 0 [.slice a c d,.func (.func e) ⟨[]⟩ ⟨g⟩]) H
variable {a c d e g E H K}
theorem ok:okCode A 9 code=true:=by kernel_rfl
theorem of (h:run a c d e g E H K):call a c d e g E H K:=
  callW_of T0_ok P0_mixed (A:=A) (fn:=Go.Proofs.Try.f56) Go.Proofs.Try.func56 rfl ok rfl h
theorem nok:nodesOk code []=true:=by kernel_rfl
def run_t (a:OA)(c d e:Nat)(g:List Value)(E:VP)(H:Hp)(K:KT):Prop:=
  Q43.call a c d e g E H fun r1 H1=>
  K (decide ((0:Int)≤r1)) H1
theorem run_eq (h:run_t a c d e g E H K):run a c d e g E H K:=by
  exact nodeR_imp2 (fun _=>run_t a c d e g E H K) nok rfl (fun G=>by kernel_rfl) h
end
end Q32
namespace Q43
abbrev KT:=Int→Hp→Prop
abbrev S1 (α:Type):=OA→Nat→Nat→Nat→List Value→Int→Int→Hp→α
section
variable (a:OA)(c d e:Nat)(g:List Value)(k n:Int)(X1:FP)(E:VP)(H:Hp)(K:KT)
noncomputable def A:An:={ live:=[(0,[0,1]),(1,[0,1]),(2,[0,1,7,8]),(3,[0,1,7,8]),(4,[0,1,5,7,8]),(5,[5]),(6,[0,1,7,8]),(7,[])],ord:=[],stb:=[],pre:=[] }
noncomputable def code:Code:=bodyOf Go.Proofs.Try.f77
def rq:Ex→FP:=retQ T0 [.tmp 4] [3] (fun r H=>ldR (.one false [.i .i64]) r fun u=>K (asI u) H) E
noncomputable def f1:Fr:=[(0,.slice a c d),(1,.func (.func e) ⟨[]⟩ ⟨g⟩),(7,.int .i64 k),(8,.int .i64 n)]
def run:Prop:=nodeM P0 T0 A code [] [] (rq E K) (argF 0 [.slice a c d,.func (.func e) ⟨[]⟩ ⟨g⟩]) H
def l1:Prop:=nodeM P0 T0 A code [1,0,1,0] [] (rq E K) (f1 a c d e g k n) H
def b1:Prop:=nodeM P0 T0 A code [1,0,1,0,0] [X1] (rq E K) (f1 a c d e g k n) H
variable {a c d e g k n X1 E H K}
theorem ok:okCode A 19 code=true:=by kernel_rfl
theorem of (h:run a c d e g E H K):call a c d e g E H K:=
  callW_of T0_ok P0_mixed (A:=A) (fn:=Go.Proofs.Try.f77) Go.Proofs.Try.func77 rfl ok rfl h
theorem l1_rule (I:S1 Prop) (μ:S1 Nat)
 (h:∀a c d e g k n H,I a c d e g k n H→∀X:FP,(∀a' c' d' e' g' k' n' H',I a' c' d' e' g' k' n' H'→μ a' c' d' e' g' k' n' H'<μ a c d e g k n H→X (f1 a' c' d' e' g' k' n') H')→b1 a c d e g k n X E H K) (hI:I a c d e g k n H):l1 a c d e g k n E H K:=
 loop_rule2 (fun r m H=>∃a c d e g k n,r=f1 a c d e g k n∧m=μ a c d e g k n H∧I a c d e g k n H) (by rintro _ _ _ ⟨a,c,d,e,g,k,n,rfl,rfl,hI⟩ X hX; exact h _ _ _ _ _ _ _ _ hI X fun a' c' d' e' g' k' n' H' hI hl=>hX _ _ _ ⟨a',c',d',e',g',k',n',rfl,rfl,hI⟩ hl) rfl ⟨_,_,_,_,_,_,_,rfl,rfl,hI⟩
theorem nok:nodesOk code [[0,1,0,1]]=true:=by kernel_rfl
def run_t (l1:OA→Nat→Nat→Nat→(List Value)→Int→Int→Hp→Prop)(a:OA)(c d e:Nat)(g:List Value)(E:VP)(H:Hp)(K:KT):Prop:=
  l1 a c d e g (c:Int) 0 H
theorem run_eq (h:run_t (fun a c d e g k n H=>l1 a c d e g k n E H K) a c d e g E H K):run a c d e g E H K:=by
  exact nodeR_imp2 (fun G=>run_t (fun a c d e g k n H=>G [0,1,0,1] (f1 a c d e g k n) H) a c d e g E H K) nok rfl (fun G=>by kernel_rfl) (Eq.mp (by kernel_rfl) h)
def b1_t (a:OA)(c d e:Nat)(g:List Value)(k n:Int)(X1:FP)(E:VP)(H:Hp)(K:KT):Prop:=
  bcase (decide ((n:Int)<k)) (
  ix a c n 1 fun B1 o1=>
  ldI .i64 (H.get B1 o1) fun x1=>
  dcall P0 T0 e ([Value.int .i64 x1]++g) (.one false [.bool]) E H fun u_1 H1=>
  bcase ((asB u_1)) (
  K n H1)
  (X1 (f1 a c d e g k (IntKind.wrap .i64 (n+1))) H1))
  (K (-1) H)
theorem b1_eq (h:b1_t a c d e g k n X1 E H K):b1 a c d e g k n X1 E H K:=by
  exact nodeR_imp2 (fun _=>b1_t a c d e g k n X1 E H K) nok rfl (fun G=>by kernel_rfl) h
end
end Q43
end Go.Mz
