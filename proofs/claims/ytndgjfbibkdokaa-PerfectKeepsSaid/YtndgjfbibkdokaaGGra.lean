/-
  The shallow texts of functions (Gra), each with a kernel-checked equation to the translated code. It proves nothing of the program by itself.
-/
import Derived.Test.YtndgjfbibkdokaaTab
set_option linter.unusedVariables false
set_option maxRecDepth 100000
namespace Go.Mz
namespace Q25
abbrev KT:=Int→Int→Hp→Prop
abbrev S1 (α:Type):=Nat→Nat→OA→Nat→Nat→Int→Int→Hp→α
section
variable (a:Int)(g:Nat)(c:OA)(k d:Nat)(n:OA)(v:Int)(e o p:Nat)(q t:Int)(X1:FP)(E:VP)(H:Hp)(K:KT)
noncomputable def A:An:={ live:=[(0,[0]),(1,[1,2]),(2,[2]),(3,[1,2]),(4,[1,2,21,22,23]),(5,[1,2,21,22,23]),(6,[1,2,3,4,21,22,23]),(7,[2,3]),(8,[1,2,3,4,21,22,23]),(9,[2,3]),(10,[1,2,21,22,23]),(11,[2])],ord:=[],stb:=[],pre:=[] }
noncomputable def code:Code:=bodyOf Go.Proofs.Try.f49
def rq:Ex→FP:=retQ T0 [.cell 2 97] [97] (fun r H=>ldR (.one true [.i .i64,.i .i64]) r fun u=>K (asI (cellV u 0)) (asI (cellV u 1)) H) E
noncomputable def f1:Fr:=[(1,.pointer (some ⟨g,0,none⟩)),(2,.pointer (some ⟨k,0,none⟩)),(21,.slice n o p),(22,.int .i64 q),(23,.int .i64 t)]
def run:Prop:=nodeM P0 T0 A code [] [] (rq E K) (argF 0 [.agg ⟨[.int .i64 a,.slice c d e]⟩]) H
def j1:Prop:=nodeM P0 T0 A code [1,0,1,0] [] (rq E K) [(2,.pointer (some ⟨k,0,none⟩))] H
def j2:Prop:=nodeM P0 T0 A code [1,1,0,1,0,0,1,1,0,0,1,0,1,0] [X1] (rq E K) [(2,.pointer (some ⟨k,0,none⟩)),(3,.int .i64 v)] H
def j3:Prop:=nodeM P0 T0 A code [1,1,1] [] (rq E K) [(2,.pointer (some ⟨k,0,none⟩))] H
def l1:Prop:=nodeM P0 T0 A code [1,1,0,1,0] [] (rq E K) (f1 g k n o p q t) H
def b1:Prop:=nodeM P0 T0 A code [1,1,0,1,0,0] [X1] (rq E K) (f1 g k n o p q t) H
variable {a g c k d n v e o p q t X1 E H K}
theorem ok:okCode A 61 code=true:=by kernel_rfl
theorem of (h:run a c d e E H K):call a c d e E H K:=
  callW_of T0_ok P0_mixed (A:=A) (fn:=Go.Proofs.Try.f49) Go.Proofs.Try.func49 rfl ok rfl h
theorem l1_rule (I:S1 Prop) (μ:S1 Nat)
 (h:∀g k n o p q t H,I g k n o p q t H→∀X:FP,(∀g' k' n' o' p' q' t' H',I g' k' n' o' p' q' t' H'→μ g' k' n' o' p' q' t' H'<μ g k n o p q t H→X (f1 g' k' n' o' p' q' t') H')→b1 g k n o p q t X E H K) (hI:I g k n o p q t H):l1 g k n o p q t E H K:=
 loop_rule2 (fun r m H=>∃g k n o p q t,r=f1 g k n o p q t∧m=μ g k n o p q t H∧I g k n o p q t H) (by rintro _ _ _ ⟨g,k,n,o,p,q,t,rfl,rfl,hI⟩ X hX; exact h _ _ _ _ _ _ _ _ hI X fun g' k' n' o' p' q' t' H' hI hl=>hX _ _ _ ⟨g',k',n',o',p',q',t',rfl,rfl,hI⟩ hl) rfl ⟨_,_,_,_,_,_,_,rfl,rfl,hI⟩
theorem nok:nodesOk code [[0,1,0,1],[0,1,0,1,1],[0,1,0,1,0,0,1,1,0,0,1,0,1,1],[1,1,1]]=true:=by kernel_rfl
def run_t (j1:Nat→Hp→Prop)(l1:S1 Prop)(a:Int)(c:OA)(d e:Nat)(E:VP)(H:Hp)(K:KT):Prop:=
  nw H ⟨[.int .i64 a,.slice c d e],24⟩ fun B1 H1=>
  nw H1 ⟨[.int .i64 0,.int .i64 0],97⟩ fun B2 H2=>
  ldI .i64 (H2.get B1 0) fun x1=>
  bcase (decide ((x1:Int)<0)) (
  j1 B2 H2)
  (ldI .i64 (H2.get B1 0) fun x2=>
  bcase (decide ((1024:Int)<x2)) (
  j1 B2 H2)
  (ldS (H2.get B1 1) fun x3p x3n x3c=>
  bcase (decide ((4096:Int)<(x3n:Int))) (
  j1 B2 H2)
  (ldS (H2.get B1 1) fun x4p x4n x4c=>
  l1 B1 B2 x4p x4n x4c (x4n:Int) 0 H2)))
theorem run_eq (h:run_t (fun k H=>j1 k E H K) (fun g k n o p q t H=>l1 g k n o p q t E H K) a c d e E H K):run a c d e E H K:=by
  exact nodeR_imp2 (fun G=>run_t (fun k H=>G [0,1,0,1] [(2,.pointer (some ⟨k,0,none⟩))] H) (fun g k n o p q t H=>G [0,1,0,1,1] (f1 g k n o p q t) H) a c d e E H K) nok rfl (fun G=>by kernel_rfl) (Eq.mp (by kernel_rfl) h)
def j1_t (k:Nat)(E:VP)(H:Hp)(K:KT):Prop:=
  stC H k 0 [.int .i64 3,.int .i64 0] fun H1=>
  ldI .i64 (H1.get k 0) fun x1=>
  ldI .i64 (H1.get k 1) fun x2=>
  K x1 x2 H1
theorem j1_eq (h:j1_t k E H K):j1 k E H K:=by
  exact nodeR_imp2 (fun _=>j1_t k E H K) nok rfl (fun G=>by kernel_rfl) h
def j2_t (k:Nat)(v:Int)(X1:FP)(E:VP)(H:Hp)(K:KT):Prop:=
  stC H k 0 [.int .i64 30,.int .i64 v] fun H1=>
  ldI .i64 (H1.get k 0) fun x1=>
  ldI .i64 (H1.get k 1) fun x2=>
  K x1 x2 H1
theorem j2_eq (h:j2_t k v X1 E H K):j2 k v X1 E H K:=by
  exact nodeR_imp2 (fun _=>j2_t k v X1 E H K) nok rfl (fun G=>by kernel_rfl) h
def j3_t (k:Nat)(E:VP)(H:Hp)(K:KT):Prop:=
  stC H k 0 [.int .i64 0,.int .i64 0] fun H1=>
  ldI .i64 (H1.get k 0) fun x1=>
  ldI .i64 (H1.get k 1) fun x2=>
  K x1 x2 H1
theorem j3_eq (h:j3_t k E H K):j3 k E H K:=by
  exact nodeR_imp2 (fun _=>j3_t k E H K) nok rfl (fun G=>by kernel_rfl) h
def b1_t (j2:Nat→Int→Hp→Prop)(j3:Nat→Hp→Prop)(g k:Nat)(n:OA)(o p:Nat)(q t:Int)(X1:FP)(E:VP)(H:Hp)(K:KT):Prop:=
  bcase (decide ((t:Int)<q)) (
  ix n o t 4 fun B1 o1=>
  ldI .i64 (H.get B1 o1) fun x1=>
  ldI .i64 (H.get B1 (o1+1)) fun x2=>
  ldI .i64 (H.get B1 (o1+2)) fun x3=>
  ldI .i64 (H.get B1 (o1+3)) fun x4=>
  nw H ⟨[.int .i64 0,.int .i64 0,.int .i64 0,.int .i64 0],49⟩ fun B2 H1=>
  stC H1 B2 0 [.int .i64 x1,.int .i64 x2,.int .i64 x3,.int .i64 x4] fun H2=>
  ldI .i64 (H2.get B2 0) fun x5=>
  bcase (decide ((x5:Int)<0)) (
  j2 k t H2)
  (ldI .i64 (H2.get B2 0) fun x6=>
  ldI .i64 (H2.get g 0) fun x7=>
  bcase (decide ((x7:Int)≤x6)) (
  j2 k t H2)
  (ldI .i64 (H2.get B2 1) fun x8=>
  bcase (decide ((x8:Int)<0)) (
  j2 k t H2)
  (ldI .i64 (H2.get B2 1) fun x9=>
  ldI .i64 (H2.get g 0) fun x10=>
  bcase (decide ((x10:Int)≤x9)) (
  j2 k t H2)
  (ldI .i64 (H2.get B2 0) fun x11=>
  ldI .i64 (H2.get B2 1) fun x12=>
  ldI .i64 (H2.get B2 2) fun x13=>
  ldI .i64 (H2.get B2 3) fun x14=>
  Q40.call x11 x12 x13 x14 E H2 fun r1 H3=>
  bcase ((!r1)) (
  stC H3 k 0 [.int .i64 31,.int .i64 t] fun H4=>
  ldI .i64 (H4.get k 0) fun x15=>
  ldI .i64 (H4.get k 1) fun x16=>
  K x15 x16 H4)
  (X1 (f1 g k n o p q (IntKind.wrap .i64 (t+1))) H3))))))
  (j3 k H)
theorem b1_eq (h:b1_t (fun k v H=>j2 k v X1 E H K) (fun k H=>j3 k E H K) g k n o p q t X1 E H K):b1 g k n o p q t X1 E H K:=by
  exact nodeR_imp2 (fun G=>b1_t (fun k v H=>G [0,1,0,1,0,0,1,1,0,0,1,0,1,1] [(2,.pointer (some ⟨k,0,none⟩)),(3,.int .i64 v)] H) (fun k H=>G [1,1,1] [(2,.pointer (some ⟨k,0,none⟩))] H) g k n o p q t X1 E H K) nok rfl (fun G=>by kernel_rfl) (Eq.mp (by kernel_rfl) h)
end
end Q25
namespace Q40
abbrev KT:=Bool→Hp→Prop
section
variable (a c d e:Int)(E:VP)(H:Hp)(K:KT)
noncomputable def A:An:={ live:=[(0,[0]),(1,[1])],ord:=[],stb:=[],pre:=[] }
noncomputable def code:Code:=bodyOf Go.Proofs.Try.f74
def rq:Ex→FP:=retQ T0 [.tmp 2] [4] (fun r H=>ldR (.one false [.bool]) r fun u=>K (asB u) H) E
def run:Prop:=nodeM P0 T0 A code [] [] (rq E K) (argF 0 [.agg ⟨[.int .i64 a,.int .i64 c,.int .i64 d,.int .i64 e]⟩]) H
variable {a c d e E H K}
theorem ok:okCode A 21 code=true:=by kernel_rfl
theorem of (h:run a c d e E H K):call a c d e E H K:=
  callW_of T0_ok P0_mixed (A:=A) (fn:=Go.Proofs.Try.f74) Go.Proofs.Try.func74 rfl ok rfl h
theorem nok:nodesOk code []=true:=by kernel_rfl
def run_t (a c d e:Int)(E:VP)(H:Hp)(K:KT):Prop:=
  nw H ⟨[.int .i64 a,.int .i64 c,.int .i64 d,.int .i64 e],49⟩ fun B1 H1=>
  ldI .i64 (H1.get B1 2) fun x1=>
  bcase (decide ((0:Int)≤x1)) (
  ldI .i64 (H1.get B1 2) fun x2=>
  bcase (decide ((x2:Int)≤1048576)) (
  ldI .i64 (H1.get B1 3) fun x3=>
  bcase (decide (((-1048576):Int)≤x3)) (
  ldI .i64 (H1.get B1 3) fun x4=>
  K (decide ((x4:Int)≤1048576)) H1)
  (K false H1))
  (K false H1))
  (K false H1)
theorem run_eq (h:run_t a c d e E H K):run a c d e E H K:=by
  exact nodeR_imp2 (fun _=>run_t a c d e E H K) nok rfl (fun G=>by kernel_rfl) h
end
end Q40
end Go.Mz
