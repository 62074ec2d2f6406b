/-
  The shallow texts of functions (Rfc), each with a kernel-checked equation to the translated code. It proves nothing of the program by itself.
-/
import Derived.Test.YtndgjfbibkdokaaTab
set_option linter.unusedVariables false
set_option maxRecDepth 100000
namespace Go.Mz
namespace Q7
abbrev KT:=Int→OA→Nat→Nat→Hp→Prop
abbrev S1 (α:Type):=Nat→Nat→Nat→Int→Hp→α
section
variable (a:Int)(g:Nat)(c:OA)(k d n e:Nat)(o:Int)(X1:FP)(E:VP)(H:Hp)(K:KT)
noncomputable def A:An:={ live:=[(0,[0]),(1,[1,2]),(2,[1,2,3]),(3,[1,2,3,4]),(4,[1,2,3,4]),(5,[1,2,3,4]),(6,[2,3])],ord:=[(5,[0,1,2,3,4,5,6,7,8,9,10])],stb:=[],pre:=[(5,[[],[0],[],[2],[],[2,3,4],[2,3,4,5],[2,3,4,5,6],[0,1,2,3,4,5,6,7],[0,1,2,3,4,5,6,7,8],[0,1,2,3,4,5,6,7,8,9]])] }
noncomputable def code:Code:=bodyOf Go.Proofs.Try.f18
def rq:Ex→FP:=retQ T0 [.cell 2 24] [24] (fun r H=>ldR (.one true [.i .i64,.sl]) r fun u=>K (asI (cellV u 0)) (asS1 (cellV u 1)) (asS2 (cellV u 1)) (asS3 (cellV u 1)) H) E
noncomputable def f1:Fr:=[(1,.pointer (some ⟨g,0,none⟩)),(2,.pointer (some ⟨k,0,none⟩)),(3,.pointer (some ⟨n,0,none⟩)),(4,.int .i64 o)]
def run:Prop:=nodeM P0 T0 A code [] [] (rq E K) (argF 0 [.agg ⟨[.int .i64 a,.slice c d e]⟩]) H
def j1:Prop:=nodeM P0 T0 A code [1,1,1] [] (rq E K) [(2,.pointer (some ⟨k,0,none⟩)),(3,.pointer (some ⟨n,0,none⟩))] H
def l1:Prop:=nodeM P0 T0 A code [1,1,0,1,0] [] (rq E K) (f1 g k n o) H
def b1:Prop:=nodeM P0 T0 A code [1,1,0,1,0,0] [X1] (rq E K) (f1 g k n o) H
variable {a g c k d n e o X1 E H K}
theorem ok:okCode A 26 code=true:=by kernel_rfl
theorem of (h:run a c d e E H K):call a c d e E H K:=
  callW_of T0_ok P0_mixed (A:=A) (fn:=Go.Proofs.Try.f18) Go.Proofs.Try.func18 rfl ok rfl h
theorem l1_rule (I:S1 Prop) (μ:S1 Nat)
 (h:∀g k n o H,I g k n o H→∀X:FP,(∀g' k' n' o' H',I g' k' n' o' H'→μ g' k' n' o' H'<μ g k n o H→X (f1 g' k' n' o') H')→b1 g k n o X E H K) (hI:I g k n o H):l1 g k n o E H K:=
 loop_rule2 (fun r m H=>∃g k n o,r=f1 g k n o∧m=μ g k n o H∧I g k n o H) (by rintro _ _ _ ⟨g,k,n,o,rfl,rfl,hI⟩ X hX; exact h _ _ _ _ _ hI X fun g' k' n' o' H' hI hl=>hX _ _ _ ⟨g',k',n',o',rfl,rfl,hI⟩ hl) rfl ⟨_,_,_,_,rfl,rfl,hI⟩
theorem nok:nodesOk code [[0,1,0,1,1],[1,1,1]]=true:=by kernel_rfl
def run_t (l1:S1 Prop)(a:Int)(c:OA)(d e:Nat)(E:VP)(H:Hp)(K:KT):Prop:=
  nw H ⟨[.int .i64 a,.slice c d e],24⟩ fun B1 H1=>
  nw H1 ⟨[.int .i64 0,.slice none 0 0],24⟩ fun B2 H2=>
  ldI .i64 (H2.get B1 0) fun x1=>
  nw H2 ⟨[.int .i64 0,.slice none 0 0],24⟩ fun B3 H3=>
  stC H3 B3 0 [.int .i64 x1,.slice none 0 0] fun H4=>
  l1 B1 B2 B3 0 H4
theorem run_eq (h:run_t (fun g k n o H=>l1 g k n o E H K) a c d e E H K):run a c d e E H K:=by
  exact nodeR_imp2 (fun G=>run_t (fun g k n o H=>G [0,1,0,1,1] (f1 g k n o) H) a c d e E H K) nok rfl (fun G=>by kernel_rfl) (Eq.mp (by kernel_rfl) h)
def j1_t (k n:Nat)(E:VP)(H:Hp)(K:KT):Prop:=
  ldI .i64 (H.get n 0) fun x1=>
  ldS (H.get n 1) fun x2p x2n x2c=>
  stC H k 0 [.int .i64 x1,.slice x2p x2n x2c] fun H1=>
  ldI .i64 (H1.get k 0) fun x3=>
  ldS (H1.get k 1) fun x4p x4n x4c=>
  K x3 x4p x4n x4c H1
theorem j1_eq (h:j1_t k n E H K):j1 k n E H K:=by
  exact nodeR_imp2 (fun _=>j1_t k n E H K) nok rfl (fun G=>by kernel_rfl) h
def b1_t (j1:Nat→Nat→Hp→Prop)(g k n:Nat)(o:Int)(X1:FP)(E:VP)(H:Hp)(K:KT):Prop:=
  ldS (H.get g 1) fun x1p x1n x1c=>
  bcase (decide ((o:Int)<(x1n:Int))) (
  ldS (H.get n 1) fun x2p x2n x2c=>
  ldS (H.get g 1) fun x3p x3n x3c=>
  ix x3p x3n o 4 fun B1 o1=>
  ldI .i64 (H.get B1 o1) fun x4=>
  ldI .i64 (H.get B1 (o1+1)) fun x5=>
  ldI .i64 (H.get B1 (o1+2)) fun x6=>
  ldI .i64 (H.get B1 (o1+3)) fun x7=>
  nw H ⟨[.int .i64 x4,.int .i64 x5,.int .i64 x6,.int .i64 x7],49⟩ fun B2 H1=>
  appM 49 [.i .i64,.i .i64,.i .i64,.i .i64] 32 x2p x2n x2c (some ⟨B2,0,none⟩) 1 H1 fun a1p a1n a1c H2=>
  stC H2 n 1 [.slice a1p a1n a1c] fun H3=>
  X1 (f1 g k n (IntKind.wrap .i64 (o+1))) H3)
  (j1 k n H)
theorem b1_eq (h:b1_t (fun k n H=>j1 k n E H K) g k n o X1 E H K):b1 g k n o X1 E H K:=by
  exact nodeR_imp2 (fun G=>b1_t (fun k n H=>G [1,1,1] [(2,.pointer (some ⟨k,0,none⟩)),(3,.pointer (some ⟨n,0,none⟩))] H) g k n o X1 E H K) nok rfl (fun G=>by kernel_rfl) (Eq.mp (by kernel_rfl) h)
end
end Q7
namespace Q9
abbrev KT:=Bool→Hp→Prop
abbrev S1 (α:Type):=Nat→Nat→Int→Hp→α
section
variable (a:Int)(o:Nat)(c:OA)(p d:Nat)(q:Int)(e:Nat)(X1:FP)(g:Int)(i:OA)(k n:Nat)(E:VP)(H:Hp)(K:KT)
noncomputable def A:An:={ live:=[(0,[0,1]),(1,[2,3]),(2,[]),(3,[2,3]),(4,[2,3,5]),(5,[2,3,5]),(6,[2,3,5]),(7,[]),(8,[])],ord:=[(6,[0,1,2,3,4,5,6,7,8,9,10])],stb:=[],pre:=[(6,[[],[0],[],[0,1,2],[0,1,2,3],[],[5],[],[5,6,7],[5,6,7,8],[0,1,2,3,4,5,6,7,8,9]])] }
noncomputable def code:Code:=bodyOf Go.Proofs.Try.f25
def rq:Ex→FP:=retQ T0 [.tmp 4] [4] (fun r H=>ldR (.one false [.bool]) r fun u=>K (asB u) H) E
noncomputable def f1:Fr:=[(2,.pointer (some ⟨o,0,none⟩)),(3,.pointer (some ⟨p,0,none⟩)),(5,.int .i64 q)]
def run:Prop:=nodeM P0 T0 A code [] [] (rq E K) (argF 0 [.agg ⟨[.int .i64 a,.slice c d e]⟩,.agg ⟨[.int .i64 g,.slice i k n]⟩]) H
def l1:Prop:=nodeM P0 T0 A code [1,1,0,1,0] [] (rq E K) (f1 o p q) H
def b1:Prop:=nodeM P0 T0 A code [1,1,0,1,0,0] [X1] (rq E K) (f1 o p q) H
variable {a o c p d q e X1 g i k n E H K}
theorem ok:okCode A 38 code=true:=by kernel_rfl
theorem of (h:run a c d e g i k n E H K):call a c d e g i k n E H K:=
  callW_of T0_ok P0_mixed (A:=A) (fn:=Go.Proofs.Try.f25) Go.Proofs.Try.func25 rfl ok rfl h
theorem l1_rule (I:S1 Prop) (μ:S1 Nat)
 (h:∀o p q H,I o p q H→∀X:FP,(∀o' p' q' H',I o' p' q' H'→μ o' p' q' H'<μ o p q H→X (f1 o' p' q') H')→b1 o p q X E H K) (hI:I o p q H):l1 o p q E H K:=
 loop_rule2 (fun r m H=>∃o p q,r=f1 o p q∧m=μ o p q H∧I o p q H) (by rintro _ _ _ ⟨o,p,q,rfl,rfl,hI⟩ X hX; exact h _ _ _ _ hI X fun o' p' q' H' hI hl=>hX _ _ _ ⟨o',p',q',rfl,rfl,hI⟩ hl) rfl ⟨_,_,_,rfl,rfl,hI⟩
theorem nok:nodesOk code [[0,1,0,1,1]]=true:=by kernel_rfl
def run_t (l1:S1 Prop)(a:Int)(c:OA)(d e:Nat)(g:Int)(i:OA)(k n:Nat)(E:VP)(H:Hp)(K:KT):Prop:=
  nw H ⟨[.int .i64 a,.slice c d e],24⟩ fun B1 H1=>
  nw H1 ⟨[.int .i64 g,.slice i k n],24⟩ fun B2 H2=>
  ldI .i64 (H2.get B1 0) fun x1=>
  ldI .i64 (H2.get B2 0) fun x2=>
  bcase (!decide ((x1:Int)=x2)) (
  K false H2)
  (ldS (H2.get B1 1) fun x3p x3n x3c=>
  ldS (H2.get B2 1) fun x4p x4n x4c=>
  bcase (!decide (((x3n:Int):Int)=(x4n:Int))) (
  K false H2)
  (l1 B1 B2 0 H2))
theorem run_eq (h:run_t (fun o p q H=>l1 o p q E H K) a c d e g i k n E H K):run a c d e g i k n E H K:=by
  exact nodeR_imp2 (fun G=>run_t (fun o p q H=>G [0,1,0,1,1] (f1 o p q) H) a c d e g i k n E H K) nok rfl (fun G=>by kernel_rfl) (Eq.mp (by kernel_rfl) h)
def b1_t (o p:Nat)(q:Int)(X1:FP)(E:VP)(H:Hp)(K:KT):Prop:=
  ldS (H.get o 1) fun x1p x1n x1c=>
  bcase (decide ((q:Int)<(x1n:Int))) (
  ldS (H.get o 1) fun x2p x2n x2c=>
  ix x2p x2n q 4 fun B1 o1=>
  ldI .i64 (H.get B1 o1) fun x3=>
  ldI .i64 (H.get B1 (o1+1)) fun x4=>
  ldI .i64 (H.get B1 (o1+2)) fun x5=>
  ldI .i64 (H.get B1 (o1+3)) fun x6=>
  ldS (H.get p 1) fun x7p x7n x7c=>
  ix x7p x7n q 4 fun B2 o2=>
  ldI .i64 (H.get B2 o2) fun x8=>
  ldI .i64 (H.get B2 (o2+1)) fun x9=>
  ldI .i64 (H.get B2 (o2+2)) fun x10=>
  ldI .i64 (H.get B2 (o2+3)) fun x11=>
  bcase (!(decide ((x3:Int)=x8) && (decide ((x4:Int)=x9) && (decide ((x5:Int)=x10) && (decide ((x6:Int)=x11) && true))))) (
  K false H)
  (X1 (f1 o p (IntKind.wrap .i64 (q+1))) H))
  (K true H)
theorem b1_eq (h:b1_t o p q X1 E H K):b1 o p q X1 E H K:=by
  exact nodeR_imp2 (fun _=>b1_t o p q X1 E H K) nok rfl (fun G=>by kernel_rfl) h
end
end Q9
end Go.Mz
