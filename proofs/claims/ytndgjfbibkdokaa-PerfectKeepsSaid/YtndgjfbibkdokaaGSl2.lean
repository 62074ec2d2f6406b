/-
  The shallow texts of functions (Sl2), each with a kernel-checked equation to the translated code. It proves nothing of the program by itself.
-/
import Derived.Test.YtndgjfbibkdokaaTab
set_option linter.unusedVariables false
set_option maxRecDepth 100000
namespace Go.Mz
namespace Q34
abbrev KT:=Int→Int→Int→Hp→Prop
abbrev S1 (α:Type):=OA→Nat→Nat→Nat→List Value→Nat→Nat→Int→Hp→α
section
variable (a:OA)(c d e:Nat)(g:List Value)(k n:Nat)(o:Int)(X1:FP)(E:VP)(H:Hp)(K:KT)
noncomputable def A:An:={ live:=[(0,[0,1]),(1,[0,1,4]),(2,[0,1,4]),(3,[0,1,4]),(4,[0,1,4,5]),(5,[0,1,4,5,6]),(6,[0,1,4,5,6]),(7,[0,1,4,5,6]),(8,[0,1,4,5,6]),(9,[4,5])],ord:=[(7,[0,1,2,3,4,5,6,7])],stb:=[],pre:=[(7,[[],[],[],[1,2],[1,2,3],[],[0,1,2,3,4,5],[0,1,2,3,4,5,6]])] }
noncomputable def code:Code:=bodyOf Go.Proofs.Try.f60
def rq:Ex→FP:=retQ T0 [.cell 4 75] [75] (fun r H=>ldR (.one true [.i .i64,.i .i64,.i .i64]) r fun u=>K (asI (cellV u 0)) (asI (cellV u 1)) (asI (cellV u 2)) H) E
noncomputable def f1:Fr:=[(0,.slice a c d),(1,.func (.func e) ⟨[]⟩ ⟨g⟩),(4,.pointer (some ⟨k,0,none⟩)),(5,.pointer (some ⟨n,0,none⟩)),(6,.int .i64 o)]
def run:Prop:=nodeM P0 T0 A code [] [] (rq E K) (argF 0 [.slice a c d,.func (.func e) ⟨[]⟩ ⟨g⟩]) H
def j1:Prop:=nodeM P0 T0 A code [1,1,1,0,1,0,0,1,1] [X1] (rq E K) (f1 a c d e g k n o) H
def j2:Prop:=nodeM P0 T0 A code [1,1,1,1] [] (rq E K) [(4,.pointer (some ⟨k,0,none⟩)),(5,.pointer (some ⟨n,0,none⟩))] H
def l1:Prop:=nodeM P0 T0 A code [1,1,1,0,1,0] [] (rq E K) (f1 a c d e g k n o) H
def b1:Prop:=nodeM P0 T0 A code [1,1,1,0,1,0,0] [X1] (rq E K) (f1 a c d e g k n o) H
variable {a c d e g k n o X1 E H K}
theorem ok:okCode A 33 code=true:=by kernel_rfl
theorem of (h:run a c d e g E H K):call a c d e g E H K:=
  callW_of T0_ok P0_mixed (A:=A) (fn:=Go.Proofs.Try.f60) Go.Proofs.Try.func60 rfl ok rfl h
theorem l1_rule (I:S1 Prop) (μ:S1 Nat)
 (h:∀a c d e g k n o H,I a c d e g k n o H→∀X:FP,(∀a' c' d' e' g' k' n' o' H',I a' c' d' e' g' k' n' o' H'→μ a' c' d' e' g' k' n' o' H'<μ a c d e g k n o H→X (f1 a' c' d' e' g' k' n' o') H')→b1 a c d e g k n o X E H K) (hI:I a c d e g k n o H):l1 a c d e g k n o E H K:=
 loop_rule2 (fun r m H=>∃a c d e g k n o,r=f1 a c d e g k n o∧m=μ a c d e g k n o H∧I a c d e g k n o H) (by rintro _ _ _ ⟨a,c,d,e,g,k,n,o,rfl,rfl,hI⟩ X hX; exact h _ _ _ _ _ _ _ _ _ hI X fun a' c' d' e' g' k' n' o' H' hI hl=>hX _ _ _ ⟨a',c',d',e',g',k',n',o',rfl,rfl,hI⟩ hl) rfl ⟨_,_,_,_,_,_,_,_,rfl,rfl,hI⟩
theorem nok:nodesOk code [[0,1,0,1,1,1],[1,1,0,0,1,0,1,1,1],[1,1,1,1]]=true:=by kernel_rfl
def run_t (l1:OA→Nat→Nat→Nat→(List Value)→Nat→Nat→Int→Hp→Prop)(a:OA)(c d e:Nat)(g:List Value)(E:VP)(H:Hp)(K:KT):Prop:=
  nw H ⟨[.int .i64 0,.int .i64 0,.int .i64 0],75⟩ fun B1 H1=>
  bcase (decide (((c:Int):Int)<1)) (
  E (Value.iface 9 (.string (ByteArray.mk #[115,108,105,99,101,115,46,77,105,110,70,117,110,99,58,32,101,109,112,116,121,32,108,105,115,116]))) H1)
  (ix a c 0 3 fun B2 o1=>
  ldI .i64 (H1.get B2 o1) fun x1=>
  ldI .i64 (H1.get B2 (o1+1)) fun x2=>
  ldI .i64 (H1.get B2 (o1+2)) fun x3=>
  nw H1 ⟨[.int .i64 0,.int .i64 0,.int .i64 0],75⟩ fun B3 H2=>
  stC H2 B3 0 [.int .i64 x1,.int .i64 x2,.int .i64 x3] fun H3=>
  l1 a c d e g B1 B3 1 H3)
theorem run_eq (h:run_t (fun a c d e g k n o H=>l1 a c d e g k n o E H K) a c d e g E H K):run a c d e g E H K:=by
  exact nodeR_imp2 (fun G=>run_t (fun a c d e g k n o H=>G [0,1,0,1,1,1] (f1 a c d e g k n o) H) a c d e g E H K) nok rfl (fun G=>by kernel_rfl) (Eq.mp (by kernel_rfl) h)
def j1_t (a:OA)(c d e:Nat)(g:List Value)(k n:Nat)(o:Int)(X1:FP)(E:VP)(H:Hp)(K:KT):Prop:=
  X1 (f1 a c d e g k n (IntKind.wrap .i64 (o+1))) H
theorem j1_eq (h:j1_t a c d e g k n o X1 E H K):j1 a c d e g k n o X1 E H K:=by
  exact nodeR_imp2 (fun _=>j1_t a c d e g k n o X1 E H K) nok rfl (fun G=>by kernel_rfl) h
def j2_t (k n:Nat)(E:VP)(H:Hp)(K:KT):Prop:=
  ldI .i64 (H.get n 0) fun x1=>
  ldI .i64 (H.get n 1) fun x2=>
  ldI .i64 (H.get n 2) fun x3=>
  stC H k 0 [.int .i64 x1,.int .i64 x2,.int .i64 x3] fun H1=>
  ldI .i64 (H1.get k 0) fun x4=>
  ldI .i64 (H1.get k 1) fun x5=>
  ldI .i64 (H1.get k 2) fun x6=>
  K x4 x5 x6 H1
theorem j2_eq (h:j2_t k n E H K):j2 k n E H K:=by
  exact nodeR_imp2 (fun _=>j2_t k n E H K) nok rfl (fun G=>by kernel_rfl) h
def b1_t (j1:OA→Nat→Nat→Nat→(List Value)→Nat→Nat→Int→Hp→Prop)(j2:Nat→Nat→Hp→Prop)(a:OA)(c d e:Nat)(g:List Value)(k n:Nat)(o:Int)(X1:FP)(E:VP)(H:Hp)(K:KT):Prop:=
  bcase (decide ((o:Int)<(c:Int))) (
  ix a c o 3 fun B1 o1=>
  ldI .i64 (H.get B1 o1) fun x1=>
  ldI .i64 (H.get B1 (o1+1)) fun x2=>
  ldI .i64 (H.get B1 (o1+2)) fun x3=>
  ldI .i64 (H.get n 0) fun x4=>
  ldI .i64 (H.get n 1) fun x5=>
  ldI .i64 (H.get n 2) fun x6=>
  dcall P0 T0 e ([Value.agg ⟨[.int .i64 x1,.int .i64 x2,.int .i64 x3]⟩,Value.agg ⟨[.int .i64 x4,.int .i64 x5,.int .i64 x6]⟩]++g) (.one false [.i .i64]) E H fun u_1 H1=>
  bcase (decide (((asI u_1):Int)<0)) (
  ix a c o 3 fun B2 o2=>
  ldI .i64 (H1.get B2 o2) fun x7=>
  ldI .i64 (H1.get B2 (o2+1)) fun x8=>
  ldI .i64 (H1.get B2 (o2+2)) fun x9=>
  stC H1 n 0 [.int .i64 x7,.int .i64 x8,.int .i64 x9] fun H2=>
  j1 a c d e g k n o H2)
  (j1 a c d e g k n o H1))
  (j2 k n H)
theorem b1_eq (h:b1_t (fun a c d e g k n o H=>j1 a c d e g k n o X1 E H K) (fun k n H=>j2 k n E H K) a c d e g k n o X1 E H K):b1 a c d e g k n o X1 E H K:=by
  exact nodeR_imp2 (fun G=>b1_t (fun a c d e g k n o H=>G [1,1,0,0,1,0,1,1,1] (f1 a c d e g k n o) H) (fun k n H=>G [1,1,1,1] [(4,.pointer (some ⟨k,0,none⟩)),(5,.pointer (some ⟨n,0,none⟩))] H) a c d e g k n o X1 E H K) nok rfl (fun G=>by kernel_rfl) (Eq.mp (by kernel_rfl) h)
end
end Q34
namespace Q59
abbrev KT:=Int→Hp→Prop
abbrev S1 (α:Type):=OA→Nat→Nat→Int→Int→Int→Hp→α
section
variable (a:OA)(c d:Nat)(e g k:Int)(X1:FP)(E:VP)(H:Hp)(K:KT)
noncomputable def A:An:={ live:=[(0,[0,1]),(1,[0,1]),(2,[0,1,7,8]),(3,[0,1,7,8]),(4,[0,1,5,7,8]),(5,[5]),(6,[0,1,7,8]),(7,[])],ord:=[],stb:=[],pre:=[] }
noncomputable def code:Code:=bodyOf Go.Proofs.Try.f113
def rq:Ex→FP:=retQ T0 [.tmp 4] [3] (fun r H=>ldR (.one false [.i .i64]) r fun u=>K (asI u) H) E
noncomputable def f1:Fr:=[(0,.slice a c d),(1,.int .i64 e),(7,.int .i64 g),(8,.int .i64 k)]
def run:Prop:=nodeM P0 T0 A code [] [] (rq E K) (argF 0 [.slice a c d,.int .i64 e]) H
def l1:Prop:=nodeM P0 T0 A code [1,0,1,0] [] (rq E K) (f1 a c d e g k) H
def b1:Prop:=nodeM P0 T0 A code [1,0,1,0,0] [X1] (rq E K) (f1 a c d e g k) H
variable {a c d e g k X1 E H K}
theorem ok:okCode A 19 code=true:=by kernel_rfl
theorem of (h:run a c d e E H K):call a c d e E H K:=
  callW_of T0_ok P0_mixed (A:=A) (fn:=Go.Proofs.Try.f113) Go.Proofs.Try.func113 rfl ok rfl h
theorem l1_rule (I:S1 Prop) (μ:S1 Nat)
 (h:∀a c d e g k H,I a c d e g k H→∀X:FP,(∀a' c' d' e' g' k' H',I a' c' d' e' g' k' H'→μ a' c' d' e' g' k' H'<μ a c d e g k H→X (f1 a' c' d' e' g' k') H')→b1 a c d e g k X E H K) (hI:I a c d e g k H):l1 a c d e g k E H K:=
 loop_rule2 (fun r m H=>∃a c d e g k,r=f1 a c d e g k∧m=μ a c d e g k H∧I a c d e g k H) (by rintro _ _ _ ⟨a,c,d,e,g,k,rfl,rfl,hI⟩ X hX; exact h _ _ _ _ _ _ _ hI X fun a' c' d' e' g' k' H' hI hl=>hX _ _ _ ⟨a',c',d',e',g',k',rfl,rfl,hI⟩ hl) rfl ⟨_,_,_,_,_,_,rfl,rfl,hI⟩
theorem nok:nodesOk code [[0,1,0,1]]=true:=by kernel_rfl
def run_t (l1:S1 Prop)(a:OA)(c d:Nat)(e:Int)(E:VP)(H:Hp)(K:KT):Prop:=
  l1 a c d e (c:Int) 0 H
theorem run_eq (h:run_t (fun a c d e g k H=>l1 a c d e g k E H K) a c d e E H K):run a c d e E H K:=by
  exact nodeR_imp2 (fun G=>run_t (fun a c d e g k H=>G [0,1,0,1] (f1 a c d e g k) H) a c d e E H K) nok rfl (fun G=>by kernel_rfl) (Eq.mp (by kernel_rfl) h)
def b1_t (a:OA)(c d:Nat)(e g k:Int)(X1:FP)(E:VP)(H:Hp)(K:KT):Prop:=
  bcase (decide ((k:Int)<g)) (
  ix a c k 1 fun B1 o1=>
  ldI .i64 (H.get B1 o1) fun x1=>
  bcase (decide ((e:Int)=x1)) (
  K k H)
  (X1 (f1 a c d e g (IntKind.wrap .i64 (k+1))) H))
  (K (-1) H)
theorem b1_eq (h:b1_t a c d e g k X1 E H K):b1 a c d e g k X1 E H K:=by
  exact nodeR_imp2 (fun _=>b1_t a c d e g k X1 E H K) nok rfl (fun G=>by kernel_rfl) h
end
end Q59
end Go.Mz
