/-
  The shallow texts of functions (LFM), each with a kernel-checked equation to the translated code. It proves nothing of the program by itself.
-/
import Derived.Test.YtndgjfbibkdokaaTab
set_option linter.unusedVariables false
set_option maxRecDepth 100000
namespace Go.Mz
namespace Q0
abbrev KT:=Bool→Hp→Prop
section
variable (a k:Int)(c:OA)(g:Int)(d:Nat)(i:Int)(n e:Nat)(E:VP)(H:Hp)(K:KT)
noncomputable def A:An:={ live:=[(0,[0]),(1,[1]),(2,[]),(3,[1]),(4,[1,6,7]),(5,[1,6,7,8]),(6,[7,8]),(7,[1,6,7]),(8,[6,7,10]),(9,[6,7]),(10,[6,7,10])],ord:=[(7,[0,1,2,3,4,5,6])],stb:=[],pre:=[(7,[[],[],[1],[1,2],[0,1,2,3],[],[0,1,2,3,4,5]])],alt:=[(7,.one 5 [4] [0,1,2,3,4] [6])] }
noncomputable def code:Code:=bodyOf Go.Proofs.Try.f4
def rq:Ex→FP:=retQ T0 [.tmp 2] [4] (fun r H=>ldR (.one false [.bool]) r fun u=>K (asB u) H) E
def run:Prop:=nodeM P0 T0 A code [] [] (rq E K) (argF 0 [.agg ⟨[.int .i64 a,.slice c d e]⟩]) H
def j1:Prop:=nodeM P0 T0 A code [1,1,1,1,0,1,0] [] (rq E K) [(7,.int .i64 g),(8,.int .i64 i)] H
def j2:Prop:=nodeM P0 T0 A code [1,1,1,1,1,1] [] (rq E K) [(6,.int .i64 k),(7,.int .i64 g),(10,.pointer (some ⟨n,0,none⟩))] H
variable {a k c g d i n e E H K}
theorem ok:okCode A 68 code=true:=by kernel_rfl
theorem of (h:run a c d e E H K):call a c d e E H K:=
  callW_of T0_ok P0_mixed (A:=A) (fn:=Go.Proofs.Try.f4) Go.Proofs.Try.func4 rfl ok rfl h
theorem nok:nodesOk code [[0,1,0,1,1,1,1],[1,1,1,1,1,1]]=true:=by kernel_rfl
def run_t (j1:Int→Int→Hp→Prop)(j2:Int→Int→Nat→Hp→Prop)(a:Int)(c:OA)(d e:Nat)(E:VP)(H:Hp)(K:KT):Prop:=
  nw H ⟨[.int .i64 a,.slice c d e],24⟩ fun B1 H1=>
  Q1.call E H1 fun r1 H2=>
  bcase ((!r1)) (
  K false H2)
  (ldI .i64 (H2.get B1 0) fun x1=>
  ldS (H2.get B1 1) fun x2p x2n x2c=>
  Q3.call x1 x2p x2n x2c E H2 fun r2p r2n r2c r3_Yp r3_Yn r3_Yc r3_Setsp r3_Setsn r3_Setsc r4p r4n r4c r5 r6 H3=>
  nw H3 ⟨[.slice none 0 0,.slice none 0 0],30⟩ fun B2 H4=>
  stC H4 B2 0 [.slice r3_Yp r3_Yn r3_Yc,.slice r3_Setsp r3_Setsn r3_Setsc] fun H5=>
  ldI .i64 (H5.get B1 0) fun x3=>
  ldS (H5.get B1 1) fun x4p x4n x4c=>
  Q7.call x3 x4p x4n x4c E H5 fun r7 r8 H6=>
  bcase (!decide ((r7:Int)=0)) (
  j1 r6 r7 H6)
  (ldI .i64 (H6.get B1 0) fun x5=>
  bcase (decide ((10:Int)<x5)) (
  j1 r6 r7 H6)
  (ldS (H6.get B1 1) fun x6p x6n x6c=>
  bcase (decide ((24:Int)<(x6n:Int))) (
  j1 r6 r7 H6)
  (ldI .i64 (H6.get B1 0) fun x7=>
  ldS (H6.get B1 1) fun x8p x8n x8c=>
  ldI .i64 (H6.get B1 0) fun x9=>
  mkS x9 x9 4 [.bool] 1 H6 fun B3 H7=>
  (
  nw H7 ⟨[.bool false,.int .i64 0],45⟩ fun B4 H8=>
  Q8.call x7 x8p x8n x8c (some ⟨B3,0,none⟩) x9.toNat x9.toNat E H8 fun r9_Any r9_Cost H9=>
  stC H9 B4 0 [.bool r9_Any,.int .i64 r9_Cost] fun H10=>
  j2 r5 r6 B4 H10)∧
  Q8.call x7 x8p x8n x8c (some ⟨B3,0,none⟩) x9.toNat x9.toNat E H7 fun r10_Any r10_Cost H11=>
  nw H11 ⟨[.bool false,.int .i64 0],45⟩ fun B5 H12=>
  stC H12 B5 0 [.bool r10_Any,.int .i64 r10_Cost] fun H13=>
  j2 r5 r6 B5 H13))))
theorem run_eq (h:run_t (fun g i H=>j1 g i E H K) (fun k g n H=>j2 k g n E H K) a c d e E H K):run a c d e E H K:=by
  exact nodeR_imp2 (fun G=>run_t (fun g i H=>G [0,1,0,1,1,1,1] [(7,.int .i64 g),(8,.int .i64 i)] H) (fun k g n H=>G [1,1,1,1,1,1] [(6,.int .i64 k),(7,.int .i64 g),(10,.pointer (some ⟨n,0,none⟩))] H) a c d e E H K) nok rfl (fun G=>by kernel_rfl) (Eq.mp (by kernel_rfl) h)
def j1_t (g i:Int)(E:VP)(H:Hp)(K:KT):Prop:=
  bcase (decide ((i:Int)=0)) (
  K true H)
  (K (decide ((g:Int)=i)) H)
theorem j1_eq (h:j1_t g i E H K):j1 g i E H K:=by
  exact nodeR_imp2 (fun _=>j1_t g i E H K) nok rfl (fun G=>by kernel_rfl) h
def j2_t (k g:Int)(n:Nat)(E:VP)(H:Hp)(K:KT):Prop:=
  ldB (H.get n 0) fun x1=>
  bcase ((!x1)) (
  bcase (decide ((g:Int)=5)) (
  K (decide ((k:Int)=0)) H)
  (K false H))
  (bcase (decide ((g:Int)=0)) (
  ldI .i64 (H.get n 1) fun x2=>
  K (decide ((k:Int)=x2)) H)
  (K false H))
theorem j2_eq (h:j2_t k g n E H K):j2 k g n E H K:=by
  exact nodeR_imp2 (fun _=>j2_t k g n E H K) nok rfl (fun G=>by kernel_rfl) h
end
end Q0
end Go.Mz
