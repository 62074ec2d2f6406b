/-
  The shallow texts of functions (LFP), each with a kernel-checked equation to the translated code. It proves nothing of the program by itself.
-/
import Derived.Test.YtndgjfbibkdokaaTab
set_option linter.unusedVariables false
set_option maxRecDepth 100000
namespace Go.Mz
namespace Q0
abbrev KT:=Bool→Hp→Prop
section
variable (a:Int)(c:OA)(d e:Nat)(E:VP)(H:Hp)(K:KT)
noncomputable def A:An:={ live:=[(0,[0]),(1,[1]),(2,[]),(3,[1]),(4,[1,3,4,5,6,7]),(5,[1,3,4,5,6,7,8,10]),(6,[6,7,10]),(7,[1,3,4,5,6,7,8]),(8,[1,5,7]),(9,[1,3,4,6,7,8]),(10,[3,6,7,8,11,12])],ord:=[],stb:=[],pre:=[] }
noncomputable def code:Code:=bodyOf Go.Proofs.Try.f10
def rq:Ex→FP:=retQ T0 [.tmp 2] [4] (fun r H=>ldR (.one false [.bool]) r fun u=>K (asB u) H) E
def run:Prop:=nodeM P0 T0 A code [] [] (rq E K) (argF 0 [.agg ⟨[.int .i64 a,.slice c d e]⟩]) H
variable {a c d e E H K}
theorem ok:okCode A 77 code=true:=by kernel_rfl
theorem of (h:run a c d e E H K):call a c d e E H K:=
  callW_of T0_ok P0_mixed (A:=A) (fn:=Go.Proofs.Try.f10) Go.Proofs.Try.func10 rfl ok rfl h
theorem nok:nodesOk code []=true:=by kernel_rfl
def run_t (a:Int)(c:OA)(d e:Nat)(E:VP)(H:Hp)(K:KT):Prop:=
  nw H ⟨[.int .i64 a,.slice c d e],24⟩ fun B1 H1=>
  Q1.call E H1 fun r1 H2=>
  bcase ((!r1)) (
  K false H2)
  (ldI .i64 (H2.get B1 0) fun x1=>
  ldS (H2.get B1 1) fun x2p x2n x2c=>
  Q3.call x1 x2p x2n x2c E H2 fun r2p r2n r2c r3_Yp r3_Yn r3_Yc r3_Setsp r3_Setsn r3_Setsc r4p r4n r4c r5 r6 H3=>
  nw H3 ⟨[.slice none 0 0,.slice none 0 0],30⟩ fun B2 H4=>
  stC H4 B2 0 [.slice r3_Yp r3_Yn r3_Yc,.slice r3_Setsp r3_Setsn r3_Setsc] fun H5=>
  ldI .i64 (H5.get B1 0) fun x3=>
  ldS (H5.get B1 1) fun x4p x4n x4c=>
  Q9.call x3 x4p x4n x4c E H5 fun r7p r7n r7c r8p r8n r8c r9 H6=>
  bcase (!decide ((r9:Int)=0)) (
  bcase (decide ((r6:Int)=r9)) (
  K (decide ((r5:Int)=0)) H6)
  (K false H6))
  (ldI .i64 (H6.get B1 0) fun x5=>
  bcase (decide (((IntKind.wrap .i64 (2*(r7n:Int))):Int)<x5)) (
  bcase (decide ((r6:Int)=5)) (
  ldI .i64 (H6.get B1 0) fun x6=>
  ldS (H6.get B1 1) fun x7p x7n x7c=>
  Q10.call x6 x7p x7n x7c r4p r4n r4c E H6 fun r10 H7=>
  K (decide ((r10:Int)=0)) H7)
  (K false H6))
  (ldI .i64 (H6.get B1 0) fun x8=>
  ldS (H6.get B1 1) fun x9p x9n x9c=>
  ldS (H6.get B2 0) fun x10p x10n x10c=>
  ldS (H6.get B2 1) fun x11p x11n x11c=>
  Q8.call x8 x9p x9n x9c r2p r2n r2c x10p x10n x10c x11p x11n x11c E H6 fun r11 r12 H8=>
  bcase (decide ((r6:Int)=0)) (
  bcase (decide ((r12:Int)=0)) (
  bcase (decide ((r11:Int)=r5)) (
  K (decide (((r2n:Int):Int)=(r7n:Int))) H8)
  (K false H8))
  (K false H8))
  (K false H8))))
theorem run_eq (h:run_t a c d e E H K):run a c d e E H K:=by
  exact nodeR_imp2 (fun _=>run_t a c d e E H K) nok rfl (fun G=>by kernel_rfl) h
end
end Q0
end Go.Mz
