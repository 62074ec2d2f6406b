/-
  The shallow texts of functions (LFA), each with a kernel-checked equation to the translated code. It proves nothing of the program by itself.
-/
import Derived.Test.YtndgjfbibkdokaaTab
set_option linter.unusedVariables false
set_option maxRecDepth 100000
namespace Go.Mz
namespace Q0
abbrev KT:=Bool→Hp→Prop
section
variable (a:OA)(c d:Nat)(E:VP)(H:Hp)(K:KT)
noncomputable def A:An:={ live:=[(0,[0]),(1,[0]),(2,[]),(3,[0]),(4,[0,3,4,5,6]),(5,[0,3,4,5,6,7]),(6,[3,4,5,6,7]),(7,[0,3,4,5,6]),(8,[0,4,5,6,8,9])],ord:=[],stb:=[],pre:=[] }
noncomputable def code:Code:=bodyOf Go.Proofs.Try.f7
def rq:Ex→FP:=retQ T0 [.tmp 2] [4] (fun r H=>ldR (.one false [.bool]) r fun u=>K (asB u) H) E
def run:Prop:=nodeM P0 T0 A code [] [] (rq E K) (argF 0 [.slice a c d]) H
variable {a c d E H K}
theorem ok:okCode A 70 code=true:=by kernel_rfl
theorem of (h:run a c d E H K):call a c d E H K:=
  callW_of T0_ok P0_mixed (A:=A) (fn:=Go.Proofs.Try.f7) Go.Proofs.Try.func7 rfl ok rfl h
theorem nok:nodesOk code []=true:=by kernel_rfl
def run_t (a:OA)(c d:Nat)(E:VP)(H:Hp)(K:KT):Prop:=
  Q1.call E H fun r1 H1=>
  bcase ((!r1)) (
  K false H1)
  (Q8.call a c d E H1 fun r2p r2n r2c r3_Yp r3_Yn r3_Yc r3_Setsp r3_Setsn r3_Setsc r4 r5 H2=>
  nw H2 ⟨[.slice none 0 0,.slice none 0 0],30⟩ fun B1 H3=>
  stC H3 B1 0 [.slice r3_Yp r3_Yn r3_Yc,.slice r3_Setsp r3_Setsn r3_Setsc] fun H4=>
  Q9.call a c d E H4 fun r6 H5=>
  bcase (!decide ((r6:Int)=0)) (
  bcase (decide ((r5:Int)=r6)) (
  bcase (decide (((r2n:Int):Int)=0)) (
  ldS (H5.get B1 0) fun x1p x1n x1c=>
  bcase (decide (((x1n:Int):Int)=0)) (
  ldS (H5.get B1 1) fun x2p x2n x2c=>
  bcase (decide (((x2n:Int):Int)=0)) (
  K (decide ((r4:Int)=0)) H5)
  (K false H5))
  (K false H5))
  (K false H5))
  (K false H5))
  (Q10.call a c d r2p r2n r2c E H5 fun r7 r8 H6=>
  bcase (decide ((r5:Int)=0)) (
  bcase (r8) (
  bcase (decide ((r7:Int)=r4)) (
  ldS (H6.get B1 0) fun x3p x3n x3c=>
  ldS (H6.get B1 1) fun x4p x4n x4c=>
  Q7.call x3p x3n x3c x4p x4n x4c E H6 fun r9_Yp r9_Yn r9_Yc r9_Setsp r9_Setsn r9_Setsc H7=>
  Q11.call a c d r9_Yp r9_Yn r9_Yc r9_Setsp r9_Setsn r9_Setsc r4 E H7 fun r10 H8=>
  K r10 H8)
  (K false H6))
  (K false H6))
  (K false H6)))
theorem run_eq (h:run_t a c d E H K):run a c d E H K:=by
  exact nodeR_imp2 (fun _=>run_t a c d E H K) nok rfl (fun G=>by kernel_rfl) h
end
end Q0
end Go.Mz
