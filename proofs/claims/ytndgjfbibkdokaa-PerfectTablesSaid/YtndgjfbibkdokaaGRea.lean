/-
  The shallow texts of functions (Rea), each with a kernel-checked equation to the translated code. It proves nothing of the program by itself.
-/
import Derived.Test.YtndgjfbibkdokaaTab
set_option linter.unusedVariables false
set_option maxRecDepth 100000
namespace Go.Mz
namespace Q17
abbrev KT:=Bool→Hp→Prop
abbrev S1 (α:Type):=OA→Nat→Nat→Int→Int→Hp→α
section
variable (a:OA)(c d:Nat)(e g:Int)(X1:FP)(E:VP)(H:Hp)(K:KT)
noncomputable def A:An:={ live:=[(0,[0,1]),(1,[0,1]),(2,[0,1,5]),(3,[0,1,5]),(4,[0,1,5]),(5,[]),(6,[])],ord:=[(4,[0,1,2,3,4,5,6,7,8,9,10,11,12,13,14,15,16,17,18,19,20,21,22,23,24,25,26,27,28])],stb:=[],pre:=[(4,[[],[],[0,1],[0,1,2],[0,1,2,3],[0,1,2,3,4],[0,1,2,3,4,5],[0,1,2,3,4,5],[0,1,2,3,4,5,6,7],[0,1,2,3,4,5,6,7,8],[0,1,2,3,4,5],[0,1,2,3,4,5,6,7,8,9,10],[0,1,2,3,4,5,6,7,8,9,10,11],[0,1,2,3,4,5,6,7,8,9,10,11,12],[0,1,2,3,4,5,6,7,8,9,10,11,12,13],[0,1,2,3,4,5,6,7,8,9,10,11,12,13,14],[0,1,2,3,4,5,6,7,8,9,10,11,12,13,14,15],[0,1,2,3,4,5,6,7,8,9,10,11,12,13,14,15,16],[0,1,2,3,4,5,6,7,8,9,10,11,12,13,14,15,16],[0,1,2,3,4,5,6,7,8,9,10,11,12,13,14,15,16,17,18],[0,1,2,3,4,5,6,7,8,9,10,11,12,13,14,15,16,17,18,19],[0,1,2,3,4,5,6,7,8,9,10,11,12,13,14,15,16],[0,1,2,3,4,5,6,7,8,9,10,11,12,13,14,15,16],[0,1,2,3,4,5,6,7,8,9,10,11,12,13,14,15,16,22],[0,1,2,3,4,5,6,7,8,9,10,11,12,13,14,15,16,21,22,23],[0,1,2,3,4,5,6,7,8,9,10,11,12,13,14,15,16,21,22,23,24],[0,1,2,3,4,5,6,7,8,9,10,11,12,13,14,15,16,17,18,19,20,21,22,23,24,25],[0,1,2,3,4,5,6,7,8,9,10,11,12,13,14,15,16,17,18,19,20,21,22,23,24,25,26],[0,1,2,3,4,5,6,7,8,9,10,11,12,13,14,15,16,17,18,19,20,21,22,23,24,25,26,27]])] }
noncomputable def code:Code:=bodyOf Go.Proofs.Try.f34
def rq:Ex→FP:=retQ T0 [.tmp 4] [4] (fun r H=>ldR (.one false [.bool]) r fun u=>K (asB u) H) E
noncomputable def f1:Fr:=[(0,.slice a c d),(1,.int .i64 e),(5,.int .i64 g)]
def run:Prop:=nodeM P0 T0 A code [] [] (rq E K) (argF 0 [.slice a c d,.int .i64 e]) H
def j1:Prop:=nodeM P0 T0 A code [1,0,1,0,0,1,1] [X1] (rq E K) (f1 a c d e g) H
def l1:Prop:=nodeM P0 T0 A code [1,0,1,0] [] (rq E K) (f1 a c d e g) H
def b1:Prop:=nodeM P0 T0 A code [1,0,1,0,0] [X1] (rq E K) (f1 a c d e g) H
variable {a c d e g X1 E H K}
theorem ok:okCode A 41 code=true:=by kernel_rfl
theorem of (h:run a c d e E H K):call a c d e E H K:=
  callW_of T0_ok P0_mixed (A:=A) (fn:=Go.Proofs.Try.f34) Go.Proofs.Try.func34 rfl ok rfl h
theorem l1_rule (I:S1 Prop) (μ:S1 Nat)
 (h:∀a c d e g H,I a c d e g H→∀X:FP,(∀a' c' d' e' g' H',I a' c' d' e' g' H'→μ a' c' d' e' g' H'<μ a c d e g H→X (f1 a' c' d' e' g') H')→b1 a c d e g X E H K) (hI:I a c d e g H):l1 a c d e g E H K:=
 loop_rule2 (fun r m H=>∃a c d e g,r=f1 a c d e g∧m=μ a c d e g H∧I a c d e g H) (by rintro _ _ _ ⟨a,c,d,e,g,rfl,rfl,hI⟩ X hX; exact h _ _ _ _ _ _ hI X fun a' c' d' e' g' H' hI hl=>hX _ _ _ ⟨a',c',d',e',g',rfl,rfl,hI⟩ hl) rfl ⟨_,_,_,_,_,rfl,rfl,hI⟩
theorem nok:nodesOk code [[0,1,0,1],[1,1,0,0,1,0,1]]=true:=by kernel_rfl
def run_t (l1:S1 Prop)(a:OA)(c d:Nat)(e:Int)(E:VP)(H:Hp)(K:KT):Prop:=
  l1 a c d e 0 H
theorem run_eq (h:run_t (fun a c d e g H=>l1 a c d e g E H K) a c d e E H K):run a c d e E H K:=by
  exact nodeR_imp2 (fun G=>run_t (fun a c d e g H=>G [0,1,0,1] (f1 a c d e g) H) a c d e E H K) nok rfl (fun G=>by kernel_rfl) (Eq.mp (by kernel_rfl) h)
def j1_t (a:OA)(c d:Nat)(e g:Int)(X1:FP)(E:VP)(H:Hp)(K:KT):Prop:=
  X1 (f1 a c d e (IntKind.wrap .i64 (g+1))) H
theorem j1_eq (h:j1_t a c d e g X1 E H K):j1 a c d e g X1 E H K:=by
  exact nodeR_imp2 (fun _=>j1_t a c d e g X1 E H K) nok rfl (fun G=>by kernel_rfl) h
def b1_t (j1:OA→Nat→Nat→Int→Int→Hp→Prop)(a:OA)(c d:Nat)(e g:Int)(X1:FP)(E:VP)(H:Hp)(K:KT):Prop:=
  bcase (decide ((g:Int)<(c:Int))) (
  ix a c g 1 fun B1 o1=>
  ldI .i64 (H.get B1 o1) fun x1=>
  bcase (decide ((x1:Int)<0)) (
  K false H)
  (ix a c g 1 fun B2 o2=>
  ldI .i64 (H.get B2 o2) fun x2=>
  bcase (decide ((e:Int)≤x2)) (
  K false H)
  (bcase (decide ((0:Int)<g)) (
  ix a c g 1 fun B3 o3=>
  ldI .i64 (H.get B3 o3) fun x3=>
  ix a c (IntKind.wrap .i64 (g-1)) 1 fun B4 o4=>
  ldI .i64 (H.get B4 o4) fun x4=>
  bcase (decide ((x3:Int)≤x4)) (
  K false H)
  (j1 a c d e g H))
  (j1 a c d e g H))))
  (K true H)
theorem b1_eq (h:b1_t (fun a c d e g H=>j1 a c d e g X1 E H K) a c d e g X1 E H K):b1 a c d e g X1 E H K:=by
  exact nodeR_imp2 (fun G=>b1_t (fun a c d e g H=>G [1,1,0,0,1,0,1] (f1 a c d e g) H) a c d e g X1 E H K) nok rfl (fun G=>by kernel_rfl) (Eq.mp (by kernel_rfl) h)
end
end Q17
end Go.Mz
