/-
  The shallow texts of functions (LFB), each with a kernel-checked equation to the translated code. It proves nothing of the program by itself.
-/
import Derived.Test.YtndgjfbibkdokaaTab
set_option linter.unusedVariables false
set_option maxRecDepth 100000
namespace Go.Mz
namespace Q0
abbrev KT:=Bool→Hp→Prop
section
variable (a n:Int)(c:OA)(o:Int)(d e:Nat)(g:OA)(i k:Nat)(E:VP)(H:Hp)(K:KT)
noncomputable def A:An:={ live:=[(0,[0,1]),(1,[1,2]),(2,[]),(3,[1,2]),(4,[1,2,8,9]),(5,[8,9]),(6,[1,2,8,9])],ord:=[],stb:=[],pre:=[] }
noncomputable def code:Code:=bodyOf Go.Proofs.Try.f6
def rq:Ex→FP:=retQ T0 [.tmp 4] [4] (fun r H=>ldR (.one false [.bool]) r fun u=>K (asB u) H) E
def run:Prop:=nodeM P0 T0 A code [] [] (rq E K) (argF 0 [.agg ⟨[.int .i64 a,.slice c d e]⟩,.slice g i k]) H
def j1:Prop:=nodeM P0 T0 A code [1,1,1,0,1,0] [] (rq E K) [(8,.int .i64 n),(9,.int .i64 o)] H
variable {a n c o d e g i k E H K}
theorem ok:okCode A 48 code=true:=by kernel_rfl
theorem of (h:run a c d e g i k E H K):call a c d e g i k E H K:=
  callW_of T0_ok P0_mixed (A:=A) (fn:=Go.Proofs.Try.f6) Go.Proofs.Try.func6 rfl ok rfl h
theorem nok:nodesOk code [[0,1,0,1,1,1]]=true:=by kernel_rfl
def run_t (j1:Int→Int→Hp→Prop)(a:Int)(c:OA)(d e:Nat)(g:OA)(i k:Nat)(E:VP)(H:Hp)(K:KT):Prop:=
  nw H ⟨[.int .i64 a,.slice c d e],24⟩ fun B1 H1=>
  Q1.call E H1 fun r1 H2=>
  bcase ((!r1)) (
  K false H2)
  (ldI .i64 (H2.get B1 0) fun x1=>
  ldS (H2.get B1 1) fun x2p x2n x2c=>
  Q3.call x1 x2p x2n x2c E H2 fun r2p r2n r2c r3_Yp r3_Yn r3_Yc r3_Setsp r3_Setsn r3_Setsc r4p r4n r4c r5 r6 H3=>
  nw H3 ⟨[.slice none 0 0,.slice none 0 0],30⟩ fun B2 H4=>
  stC H4 B2 0 [.slice r3_Yp r3_Yn r3_Yc,.slice r3_Setsp r3_Setsn r3_Setsc] fun H5=>
  ldI .i64 (H5.get B1 0) fun x3=>
  ldS (H5.get B1 1) fun x4p x4n x4c=>
  Q8.call x3 x4p x4n x4c g i k E H5 fun r7 H6=>
  bcase (decide ((r7:Int)=0)) (
  ldI .i64 (H6.get B1 0) fun x5=>
  bcase ((!(decide (((IntKind.wrap .i64 (2*(i:Int))):Int)=x5)))) (
  j1 r5 r6 H6)
  (bcase (decide ((r6:Int)=0)) (
  ldI .i64 (H6.get B1 0) fun x6=>
  ldS (H6.get B1 1) fun x7p x7n x7c=>
  Q9.call x6 x7p x7n x7c g i k E H6 fun r8 H7=>
  K (decide ((r5:Int)≤r8)) H7)
  (K false H6)))
  (j1 r5 r6 H6))
theorem run_eq (h:run_t (fun n o H=>j1 n o E H K) a c d e g i k E H K):run a c d e g i k E H K:=by
  exact nodeR_imp2 (fun G=>run_t (fun n o H=>G [0,1,0,1,1,1] [(8,.int .i64 n),(9,.int .i64 o)] H) a c d e g i k E H K) nok rfl (fun G=>by kernel_rfl) (Eq.mp (by kernel_rfl) h)
def j1_t (n o:Int)(E:VP)(H:Hp)(K:KT):Prop:=
  bcase (decide ((o:Int)=0)) (
  K true H)
  (K (decide ((n:Int)=0)) H)
theorem j1_eq (h:j1_t n o E H K):j1 n o E H K:=by
  exact nodeR_imp2 (fun _=>j1_t n o E H K) nok rfl (fun G=>by kernel_rfl) h
end
end Q0
end Go.Mz
