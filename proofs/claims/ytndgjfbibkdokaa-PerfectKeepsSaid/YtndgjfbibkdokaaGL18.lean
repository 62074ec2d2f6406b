/-
  The shallow texts of functions (L18), each with a kernel-checked equation to the translated code. It proves nothing of the program by itself.
-/
import Derived.Test.YtndgjfbibkdokaaTab
set_option linter.unusedVariables false
set_option maxRecDepth 100000
namespace Go.Mz
namespace Q1
abbrev KT:=Bool→Hp→Prop
section
variable (E:VP)(H:Hp)(K:KT)
noncomputable def A:An:={ live:=[(0,[]),(1,[]),(2,[1,2,4,5]),(3,[1,2,4,5,8,10]),(4,[1,2,4,5,8,10,11,13,14])],ord:=[],stb:=[],pre:=[] }
noncomputable def code:Code:=bodyOf Go.Proofs.Try.f11
def rq:Ex→FP:=retQ T0 [.tmp 0] [4] (fun r H=>ldR (.one false [.bool]) r fun u=>K (asB u) H) E
def run:Prop:=nodeM P0 T0 A code [] [] (rq E K) (argF 0 []) H
variable {E H K}
theorem ok:okCode A 99 code=true:=by kernel_rfl
theorem of (h:run E H K):call E H K:=
  callW_of T0_ok P0_mixed (A:=A) (fn:=Go.Proofs.Try.f11) Go.Proofs.Try.func11 rfl ok rfl h
theorem nok:nodesOk code []=true:=by kernel_rfl
def run_t (E:VP)(H:Hp)(K:KT):Prop:=
  Q12.call E H fun r1_Nodes r1_Edgesp r1_Edgesn r1_Edgesc H1=>
  Q3.call r1_Nodes r1_Edgesp r1_Edgesn r1_Edgesc E H1 fun r2p r2n r2c r3_Yp r3_Yn r3_Yc r3_Setsp r3_Setsn r3_Setsc r4p r4n r4c r5 r6 H2=>
  nw H2 ⟨[.slice none 0 0,.slice none 0 0],30⟩ fun B1 H3=>
  stC H3 B1 0 [.slice r3_Yp r3_Yn r3_Yc,.slice r3_Setsp r3_Setsn r3_Setsc] fun H4=>
  Q3.call 1 none 0 0 E H4 fun r7p r7n r7c r8_Yp r8_Yn r8_Yc r8_Setsp r8_Setsn r8_Setsc r9p r9n r9c r10 r11 H5=>
  nw H5 ⟨[.slice none 0 0,.slice none 0 0],30⟩ fun B2 H6=>
  stC H6 B2 0 [.slice r8_Yp r8_Yn r8_Yc,.slice r8_Setsp r8_Setsn r8_Setsc] fun H7=>
  nw H7 ⟨[.int .i64 0,.int .i64 4],2⟩ fun B3 H8=>
  nw H8 ⟨[.int .i64 4,.int .i64 0],2⟩ fun B4 H9=>
  nw H9 ⟨[.slice (some ⟨B3,0,none⟩) 2 2,.slice (some ⟨B4,0,none⟩) 2 2],27⟩ fun B5 H10=>
  Q8.call (some ⟨B5,0,none⟩) 2 2 E H10 fun r12p r12n r12c r13_Yp r13_Yn r13_Yc r13_Setsp r13_Setsn r13_Setsc r14 r15 H11=>
  nw H11 ⟨[.slice none 0 0,.slice none 0 0],30⟩ fun B6 H12=>
  stC H12 B6 0 [.slice r13_Yp r13_Yn r13_Yc,.slice r13_Setsp r13_Setsn r13_Setsc] fun H13=>
  bcase (decide ((r6:Int)=0)) (
  bcase (decide (((r2n:Int):Int)=2)) (
  ix r2p r2n 0 1 fun B7 o1=>
  ldI .i64 (H13.get B7 o1) fun x1=>
  bcase (decide ((x1:Int)=1)) (
  ix r2p r2n 1 1 fun B8 o2=>
  ldI .i64 (H13.get B8 o2) fun x2=>
  bcase (decide ((x2:Int)=3)) (
  bcase (decide ((r5:Int)=3)) (
  ldS (H13.get B1 0) fun x3p x3n x3c=>
  bcase (decide (((x3n:Int):Int)=4)) (
  bcase (decide ((r11:Int)=5)) (
  bcase (decide (((r9n:Int):Int)=0)) (
  bcase (decide ((r15:Int)=0)) (
  bcase (decide (((r12n:Int):Int)=2)) (
  ix r12p r12n 0 1 fun B9 o3=>
  ldI .i64 (H13.get B9 o3) fun x4=>
  bcase (decide ((x4:Int)=1)) (
  bcase (decide ((r14:Int)=4)) (
  K true H13)
  (K false H13))
  (K false H13))
  (K false H13))
  (K false H13))
  (K false H13))
  (K false H13))
  (K false H13))
  (K false H13))
  (K false H13))
  (K false H13))
  (K false H13))
  (K false H13)
theorem run_eq (h:run_t E H K):run E H K:=by
  exact nodeR_imp2 (fun _=>run_t E H K) nok rfl (fun G=>by kernel_rfl) h
end
end Q1
namespace Q12
abbrev KT:=Int→OA→Nat→Nat→Hp→Prop
section
variable (E:VP)(H:Hp)(K:KT)
noncomputable def A:An:={ live:=[(0,[]),(1,[0])],ord:=[],stb:=[],pre:=[] }
noncomputable def code:Code:=bodyOf Go.Proofs.Try.f29
def rq:Ex→FP:=retQ T0 [.cell 0 24] [24] (fun r H=>ldR (.one true [.i .i64,.sl]) r fun u=>K (asI (cellV u 0)) (asS1 (cellV u 1)) (asS2 (cellV u 1)) (asS3 (cellV u 1)) H) E
def run:Prop:=nodeM P0 T0 A code [] [] (rq E K) (argF 0 []) H
variable {E H K}
theorem ok:okCode A 7 code=true:=by kernel_rfl
theorem of (h:run E H K):call E H K:=
  callW_of T0_ok P0_mixed (A:=A) (fn:=Go.Proofs.Try.f29) Go.Proofs.Try.func29 rfl ok rfl h
theorem nok:nodesOk code []=true:=by kernel_rfl
def run_t (E:VP)(H:Hp)(K:KT):Prop:=
  nw H ⟨[.int .i64 0,.slice none 0 0],24⟩ fun B1 H1=>
  nw H1 ⟨[.int .i64 0,.int .i64 1,.int .i64 0,.int .i64 5,.int .i64 1,.int .i64 2,.int .i64 0,.int .i64 1,.int .i64 2,.int .i64 3,.int .i64 0,.int .i64 5,.int .i64 3,.int .i64 0,.int .i64 0,.int .i64 2],49⟩ fun B2 H2=>
  stC H2 B1 0 [.int .i64 4,.slice (some ⟨B2,0,none⟩) 4 4] fun H3=>
  ldI .i64 (H3.get B1 0) fun x1=>
  ldS (H3.get B1 1) fun x2p x2n x2c=>
  K x1 x2p x2n x2c H3
theorem run_eq (h:run_t E H K):run E H K:=by
  exact nodeR_imp2 (fun _=>run_t E H K) nok rfl (fun G=>by kernel_rfl) h
end
end Q12
end Go.Mz
