/-
  The shallow texts of functions (R18), each with a kernel-checked equation to the translated code. It proves nothing of the program by itself.
-/
import Derived.Test.YtndgjfbibkdokaaTab
set_option linter.unusedVariables false
set_option maxRecDepth 100000
namespace Go.Mz
namespace Q9
abbrev KT:=Int→Hp→Prop
abbrev S1 (α:Type):=OA→Nat→Nat→Int→Int→Hp→α
abbrev S2 (α:Type):=OA→Nat→Nat→Int→Int→Hp→α
abbrev S3 (α:Type):=OA→Nat→Nat→Int→Int→Int→Hp→α
section
variable (a:OA)(c d:Nat)(e g k n:Int)(X1 X2:FP)(E:VP)(H:Hp)(K:KT)
noncomputable def A:An:={ live:=[(0,[0]),(1,[0]),(2,[0,3]),(3,[]),(4,[0,3]),(5,[0,3,4]),(6,[0,3,4]),(7,[0,3,4]),(8,[]),(9,[0,3]),(10,[0,3,5]),(11,[0,3,5]),(12,[0,3,5]),(13,[0,3,5,6]),(14,[0,3,5,6]),(15,[0,3,5,6]),(16,[]),(17,[3]),(18,[]),(19,[])],ord:=[],stb:=[],pre:=[] }
noncomputable def code:Code:=bodyOf Go.Proofs.Try.f22
def rq:Ex→FP:=retQ T0 [.tmp 2] [3] (fun r H=>ldR (.one false [.i .i64]) r fun u=>K (asI u) H) E
noncomputable def f1:Fr:=[(0,.slice a c d),(3,.int .i64 e),(4,.int .i64 g)]
noncomputable def f2:Fr:=[(0,.slice a c d),(3,.int .i64 e),(5,.int .i64 k)]
noncomputable def f3:Fr:=[(0,.slice a c d),(3,.int .i64 e),(5,.int .i64 k),(6,.int .i64 n)]
def run:Prop:=nodeM P0 T0 A code [] [] (rq E K) (argF 0 [.slice a c d]) H
def j1:Prop:=nodeM P0 T0 A code [1,1,1,1] [] (rq E K) [(0,.slice a c d),(3,.int .i64 e)] H
def j2:Prop:=nodeM P0 T0 A code [1,1,1,1,0,1,0,0,1,1] [X1] (rq E K) (f2 a c d e k) H
def j3:Prop:=nodeM P0 T0 A code [1,1,1,1,1] [] (rq E K) [(3,.int .i64 e)] H
def l1:Prop:=nodeM P0 T0 A code [1,1,1,0,1,0] [] (rq E K) (f1 a c d e g) H
def b1:Prop:=nodeM P0 T0 A code [1,1,1,0,1,0,0] [X1] (rq E K) (f1 a c d e g) H
def l2:Prop:=nodeM P0 T0 A code [1,1,1,1,0,1,0] [] (rq E K) (f2 a c d e k) H
def b2:Prop:=nodeM P0 T0 A code [1,1,1,1,0,1,0,0] [X1] (rq E K) (f2 a c d e k) H
def l3:Prop:=nodeM P0 T0 A code [1,1,1,1,0,1,0,0,1,0,0,1,0] [X1] (rq E K) (f3 a c d e k n) H
def b3:Prop:=nodeM P0 T0 A code [1,1,1,1,0,1,0,0,1,0,0,1,0,0] [X1,X2] (rq E K) (f3 a c d e k n) H
variable {a c d e g k n X1 X2 E H K}
theorem ok:okCode A 56 code=true:=by kernel_rfl
theorem of (h:run a c d E H K):call a c d E H K:=
  callW_of T0_ok P0_mixed (A:=A) (fn:=Go.Proofs.Try.f22) Go.Proofs.Try.func22 rfl ok rfl h
theorem l1_rule (I:S1 Prop) (μ:S1 Nat)
 (h:∀a c d e g H,I a c d e g H→∀X:FP,(∀a' c' d' e' g' H',I a' c' d' e' g' H'→μ a' c' d' e' g' H'<μ a c d e g H→X (f1 a' c' d' e' g') H')→b1 a c d e g X E H K) (hI:I a c d e g H):l1 a c d e g E H K:=
 loop_rule2 (fun r m H=>∃a c d e g,r=f1 a c d e g∧m=μ a c d e g H∧I a c d e g H) (by rintro _ _ _ ⟨a,c,d,e,g,rfl,rfl,hI⟩ X hX; exact h _ _ _ _ _ _ hI X fun a' c' d' e' g' H' hI hl=>hX _ _ _ ⟨a',c',d',e',g',rfl,rfl,hI⟩ hl) rfl ⟨_,_,_,_,_,rfl,rfl,hI⟩
theorem l2_rule (I:S2 Prop) (μ:S2 Nat)
 (h:∀a c d e k H,I a c d e k H→∀X:FP,(∀a' c' d' e' k' H',I a' c' d' e' k' H'→μ a' c' d' e' k' H'<μ a c d e k H→X (f2 a' c' d' e' k') H')→b2 a c d e k X E H K) (hI:I a c d e k H):l2 a c d e k E H K:=
 loop_rule2 (fun r m H=>∃a c d e k,r=f2 a c d e k∧m=μ a c d e k H∧I a c d e k H) (by rintro _ _ _ ⟨a,c,d,e,k,rfl,rfl,hI⟩ X hX; exact h _ _ _ _ _ _ hI X fun a' c' d' e' k' H' hI hl=>hX _ _ _ ⟨a',c',d',e',k',rfl,rfl,hI⟩ hl) rfl ⟨_,_,_,_,_,rfl,rfl,hI⟩
theorem l3_rule (I:S3 Prop) (μ:S3 Nat)
 (h:∀a c d e k n H,I a c d e k n H→∀X:FP,(∀a' c' d' e' k' n' H',I a' c' d' e' k' n' H'→μ a' c' d' e' k' n' H'<μ a c d e k n H→X (f3 a' c' d' e' k' n') H')→b3 a c d e k n X1 X E H K) (hI:I a c d e k n H):l3 a c d e k n X1 E H K:=
 loop_rule2 (fun r m H=>∃a c d e k n,r=f3 a c d e k n∧m=μ a c d e k n H∧I a c d e k n H) (by rintro _ _ _ ⟨a,c,d,e,k,n,rfl,rfl,hI⟩ X hX; exact h _ _ _ _ _ _ _ hI X fun a' c' d' e' k' n' H' hI hl=>hX _ _ _ ⟨a',c',d',e',k',n',rfl,rfl,hI⟩ hl) rfl ⟨_,_,_,_,_,_,rfl,rfl,hI⟩
theorem nok:nodesOk code [[0,1,0,1,1,1],[1,1,1,1],[0,1,0,1,1,1,1],[0,1,0,0,1,0,0,1,0,1,1,1,1],[1,1,0,0,1,0,1,1,1,1],[1,1,1,1,1]]=true:=by kernel_rfl
def run_t (l1:S1 Prop)(a:OA)(c d:Nat)(E:VP)(H:Hp)(K:KT):Prop:=
  bcase (decide ((1024:Int)<(c:Int))) (
  K 3 H)
  (l1 a c d (c:Int) 0 H)
theorem run_eq (h:run_t (fun a c d e g H=>l1 a c d e g E H K) a c d E H K):run a c d E H K:=by
  exact nodeR_imp2 (fun G=>run_t (fun a c d e g H=>G [0,1,0,1,1,1] (f1 a c d e g) H) a c d E H K) nok rfl (fun G=>by kernel_rfl) (Eq.mp (by kernel_rfl) h)
def j1_t (l2:S2 Prop)(a:OA)(c d:Nat)(e:Int)(E:VP)(H:Hp)(K:KT):Prop:=
  l2 a c d e 0 H
theorem j1_eq (h:j1_t (fun a c d e k H=>l2 a c d e k E H K) a c d e E H K):j1 a c d e E H K:=by
  exact nodeR_imp2 (fun G=>j1_t (fun a c d e k H=>G [0,1,0,1,1,1,1] (f2 a c d e k) H) a c d e E H K) nok rfl (fun G=>by kernel_rfl) (Eq.mp (by kernel_rfl) h)
def j2_t (a:OA)(c d:Nat)(e k:Int)(X1:FP)(E:VP)(H:Hp)(K:KT):Prop:=
  X1 (f2 a c d e (IntKind.wrap .i64 (k+1))) H
theorem j2_eq (h:j2_t a c d e k X1 E H K):j2 a c d e k X1 E H K:=by
  exact nodeR_imp2 (fun _=>j2_t a c d e k X1 E H K) nok rfl (fun G=>by kernel_rfl) h
def j3_t (e:Int)(E:VP)(H:Hp)(K:KT):Prop:=
  2≠(0:Int)∧
  bcase (decide (((Int.tmod e 2):Int)=1)) (
  K 170 H)
  (K 0 H)
theorem j3_eq (h:j3_t e E H K):j3 e E H K:=by
  exact nodeR_imp2 (fun _=>j3_t e E H K) nok rfl (fun G=>by kernel_rfl) h
def b1_t (j1:OA→Nat→Nat→Int→Hp→Prop)(a:OA)(c d:Nat)(e g:Int)(X1:FP)(E:VP)(H:Hp)(K:KT):Prop:=
  bcase (decide ((g:Int)<e)) (
  ix a c g 1 fun B1 o1=>
  ldS (H.get B1 o1) fun x1p x1n x1c=>
  bcase (!decide (((x1n:Int):Int)=e)) (
  K 3 H)
  (X1 (f1 a c d e (IntKind.wrap .i64 (g+1))) H))
  (j1 a c d e H)
theorem b1_eq (h:b1_t (fun a c d e H=>j1 a c d e E H K) a c d e g X1 E H K):b1 a c d e g X1 E H K:=by
  exact nodeR_imp2 (fun G=>b1_t (fun a c d e H=>G [1,1,1,1] [(0,.slice a c d),(3,.int .i64 e)] H) a c d e g X1 E H K) nok rfl (fun G=>by kernel_rfl) (Eq.mp (by kernel_rfl) h)
def b2_t (l3:S3 Prop)(j3:Int→Hp→Prop)(a:OA)(c d:Nat)(e k:Int)(X1:FP)(E:VP)(H:Hp)(K:KT):Prop:=
  bcase (decide ((k:Int)<e)) (
  l3 a c d e k (IntKind.wrap .i64 (k+1)) H)
  (j3 e H)
theorem b2_eq (h:b2_t (fun a c d e k n H=>l3 a c d e k n X1 E H K) (fun e H=>j3 e E H K) a c d e k X1 E H K):b2 a c d e k X1 E H K:=by
  exact nodeR_imp2 (fun G=>b2_t (fun a c d e k n H=>G [0,1,0,0,1,0,0,1,0,1,1,1,1] (f3 a c d e k n) H) (fun e H=>G [1,1,1,1,1] [(3,.int .i64 e)] H) a c d e k X1 E H K) nok rfl (fun G=>by kernel_rfl) (Eq.mp (by kernel_rfl) h)
def b3_t (j2:OA→Nat→Nat→Int→Int→Hp→Prop)(a:OA)(c d:Nat)(e k n:Int)(X1 X2:FP)(E:VP)(H:Hp)(K:KT):Prop:=
  bcase (decide ((n:Int)<e)) (
  ix a c k 1 fun B1 o1=>
  ldS (H.get B1 o1) fun x1p x1n x1c=>
  ix x1p x1n n 1 fun B2 o2=>
  ldI .i64 (H.get B2 o2) fun x2=>
  bcase (decide ((x2:Int)<(-2147483648))) (
  K 31 H)
  (ix a c k 1 fun B3 o3=>
  ldS (H.get B3 o3) fun x3p x3n x3c=>
  ix x3p x3n n 1 fun B4 o4=>
  ldI .i64 (H.get B4 o4) fun x4=>
  bcase (decide ((2147483648:Int)<x4)) (
  K 31 H)
  (X2 (f3 a c d e k (IntKind.wrap .i64 (n+1))) H)))
  (j2 a c d e k H)
theorem b3_eq (h:b3_t (fun a c d e k H=>j2 a c d e k X1 E H K) a c d e k n X1 X2 E H K):b3 a c d e k n X1 X2 E H K:=by
  exact nodeR_imp2 (fun G=>b3_t (fun a c d e k H=>G [1,1,0,0,1,0,1,1,1,1] (f2 a c d e k) H) a c d e k n X1 X2 E H K) nok rfl (fun G=>by kernel_rfl) (Eq.mp (by kernel_rfl) h)
end
end Q9
namespace Q10
abbrev KT:=Int→Bool→Hp→Prop
abbrev S1 (α:Type):=OA→Nat→Nat→OA→Nat→Nat→Int→Int→Hp→α
section
variable (a:OA)(c d:Nat)(e:OA)(g k:Nat)(n o:Int)(X1:FP)(E:VP)(H:Hp)(K:KT)
noncomputable def A:An:={ live:=[(0,[0,1]),(1,[0,1]),(2,[0,1,6]),(3,[]),(4,[0,1,6]),(5,[0,1,6,7]),(6,[0,1,6,7]),(7,[0,1,6,7]),(8,[0,1,6,7,8]),(9,[]),(10,[0,1,6,7,8]),(11,[0,1,6,7,8]),(12,[6])],ord:=[],stb:=[],pre:=[] }
noncomputable def code:Code:=bodyOf Go.Proofs.Try.f23
def rq:Ex→FP:=retQ T0 [.tmp 4,.tmp 5] [2,4] (fun r H=>ldR (.tup [(false,[.i .i64]),(false,[.bool])]) r fun u=>K (asI (tupV u 0)) (asB (tupV u 1)) H) E
noncomputable def f1:Fr:=[(0,.slice a c d),(1,.slice e g k),(6,.int .i64 n),(7,.int .i64 o)]
def run:Prop:=nodeM P0 T0 A code [] [] (rq E K) (argF 0 [.slice a c d,.slice e g k]) H
def j1:Prop:=nodeM P0 T0 A code [1,1,1,0,1,0,0,1,1] [X1] (rq E K) (f1 a c d e g k n o) H
def l1:Prop:=nodeM P0 T0 A code [1,1,1,0,1,0] [] (rq E K) (f1 a c d e g k n o) H
def b1:Prop:=nodeM P0 T0 A code [1,1,1,0,1,0,0] [X1] (rq E K) (f1 a c d e g k n o) H
variable {a c d e g k n o X1 E H K}
theorem ok:okCode A 58 code=true:=by kernel_rfl
theorem of (h:run a c d e g k E H K):call a c d e g k E H K:=
  callW_of T0_ok P0_mixed (A:=A) (fn:=Go.Proofs.Try.f23) Go.Proofs.Try.func23 rfl ok rfl h
theorem l1_rule (I:S1 Prop) (μ:S1 Nat)
 (h:∀a c d e g k n o H,I a c d e g k n o H→∀X:FP,(∀a' c' d' e' g' k' n' o' H',I a' c' d' e' g' k' n' o' H'→μ a' c' d' e' g' k' n' o' H'<μ a c d e g k n o H→X (f1 a' c' d' e' g' k' n' o') H')→b1 a c d e g k n o X E H K) (hI:I a c d e g k n o H):l1 a c d e g k n o E H K:=
 loop_rule2 (fun r m H=>∃a c d e g k n o,r=f1 a c d e g k n o∧m=μ a c d e g k n o H∧I a c d e g k n o H) (by rintro _ _ _ ⟨a,c,d,e,g,k,n,o,rfl,rfl,hI⟩ X hX; exact h _ _ _ _ _ _ _ _ _ hI X fun a' c' d' e' g' k' n' o' H' hI hl=>hX _ _ _ ⟨a',c',d',e',g',k',n',o',rfl,rfl,hI⟩ hl) rfl ⟨_,_,_,_,_,_,_,_,rfl,rfl,hI⟩
theorem nok:nodesOk code [[0,1,0,1,1,1],[1,1,0,0,1,0,1,1,1]]=true:=by kernel_rfl
def run_t (l1:S1 Prop)(a:OA)(c d:Nat)(e:OA)(g k:Nat)(E:VP)(H:Hp)(K:KT):Prop:=
  bcase (!decide (((g:Int):Int)=(c:Int))) (
  K 0 false H)
  (l1 a c d e g k 0 0 H)
theorem run_eq (h:run_t (fun a c d e g k n o H=>l1 a c d e g k n o E H K) a c d e g k E H K):run a c d e g k E H K:=by
  exact nodeR_imp2 (fun G=>run_t (fun a c d e g k n o H=>G [0,1,0,1,1,1] (f1 a c d e g k n o) H) a c d e g k E H K) nok rfl (fun G=>by kernel_rfl) (Eq.mp (by kernel_rfl) h)
def j1_t (a:OA)(c d:Nat)(e:OA)(g k:Nat)(n o:Int)(X1:FP)(E:VP)(H:Hp)(K:KT):Prop:=
  X1 (f1 a c d e g k n (IntKind.wrap .i64 (o+1))) H
theorem j1_eq (h:j1_t a c d e g k n o X1 E H K):j1 a c d e g k n o X1 E H K:=by
  exact nodeR_imp2 (fun _=>j1_t a c d e g k n o X1 E H K) nok rfl (fun G=>by kernel_rfl) h
def b1_t (j1:OA→Nat→Nat→OA→Nat→Nat→Int→Int→Hp→Prop)(a:OA)(c d:Nat)(e:OA)(g k:Nat)(n o:Int)(X1:FP)(E:VP)(H:Hp)(K:KT):Prop:=
  bcase (decide ((o:Int)<(g:Int))) (
  ix e g o 1 fun B1 o1=>
  ldI .i64 (H.get B1 o1) fun x1=>
  bcase (decide ((x1:Int)<0)) (
  K 0 false H)
  (bcase (decide (((g:Int):Int)≤x1)) (
  K 0 false H)
  (bcase (decide ((x1:Int)=o)) (
  K 0 false H)
  (ix e g x1 1 fun B2 o2=>
  ldI .i64 (H.get B2 o2) fun x2=>
  bcase (!decide ((x2:Int)=o)) (
  K 0 false H)
  (bcase (decide ((o:Int)<x1)) (
  ix a c o 1 fun B3 o3=>
  ldS (H.get B3 o3) fun x3p x3n x3c=>
  ix x3p x3n x1 1 fun B4 o4=>
  ldI .i64 (H.get B4 o4) fun x4=>
  j1 a c d e g k (IntKind.wrap .i64 (n+x4)) o H)
  (j1 a c d e g k n o H))))))
  (K n true H)
theorem b1_eq (h:b1_t (fun a c d e g k n o H=>j1 a c d e g k n o X1 E H K) a c d e g k n o X1 E H K):b1 a c d e g k n o X1 E H K:=by
  exact nodeR_imp2 (fun G=>b1_t (fun a c d e g k n o H=>G [1,1,0,0,1,0,1,1,1] (f1 a c d e g k n o) H) a c d e g k n o X1 E H K) nok rfl (fun G=>by kernel_rfl) (Eq.mp (by kernel_rfl) h)
end
end Q10
namespace Q11
abbrev KT:=Bool→Hp→Prop
abbrev S1 (α:Type):=OA→Nat→Nat→Nat→Int→Int→Hp→α
abbrev S2 (α:Type):=OA→Nat→Nat→Nat→Int→Int→Int→Hp→α
section
variable (a:OA)(c d:Nat)(e:OA)(q g:Nat)(t:Int)(i:Nat)(v:Int)(k:OA)(w:Int)(n:Nat)(X1:FP)(o:Nat)(X2:FP)(p:Int)(E:VP)(H:Hp)(K:KT)
noncomputable def A:An:={ live:=[(0,[0,1,2]),(1,[0,2,4]),(2,[0,2,4,7]),(3,[]),(4,[0,4,7]),(5,[0,4,7,8]),(6,[0,4,7,8]),(7,[0,4,7,8]),(8,[0,4,7,8,9]),(9,[0,4,7,8,9]),(10,[0,4,7,8,9]),(11,[]),(12,[])],ord:=[(10,[0,1,2,4,5,6,7,8,9,10,11,12,13,14,15,16,17,18,3,19])],stb:=[(10,[(3,[7,10,14,17])])],pre:=[(10,[[],[],[],[0,1,2],[],[],[4,5],[4,5,6],[],[4,5,6,7,8],[4,5,6,7,8,9],[],[],[11,12],[11,12,13],[],[11,12,13,14,15],[11,12,13,14,15,16],[4,5,6,7,8,9,10,11,12,13,14,15,16,17],[0,1,2,3,4,5,6,7,8,9,10,11,12,13,14,15,16,17,18]])] }
noncomputable def code:Code:=bodyOf Go.Proofs.Try.f24
def rq:Ex→FP:=retQ T0 [.tmp 6] [4] (fun r H=>ldR (.one false [.bool]) r fun u=>K (asB u) H) E
noncomputable def f1:Fr:=[(0,.slice a c d),(4,.pointer (some ⟨q,0,none⟩)),(7,.int .i64 t),(8,.int .i64 v)]
noncomputable def f2:Fr:=[(0,.slice a c d),(4,.pointer (some ⟨q,0,none⟩)),(7,.int .i64 t),(8,.int .i64 v),(9,.int .i64 w)]
def run:Prop:=nodeM P0 T0 A code [] [] (rq E K) (argF 0 [.slice a c d,.agg ⟨[.slice e g i,.slice k n o]⟩,.int .i64 p]) H
def j1:Prop:=nodeM P0 T0 A code [1,1,1,0,1,0,0,1,1] [X1] (rq E K) (f1 a c d q t v) H
def l1:Prop:=nodeM P0 T0 A code [1,1,1,0,1,0] [] (rq E K) (f1 a c d q t v) H
def b1:Prop:=nodeM P0 T0 A code [1,1,1,0,1,0,0] [X1] (rq E K) (f1 a c d q t v) H
def l2:Prop:=nodeM P0 T0 A code [1,1,1,0,1,0,0,1,0,0,1,0] [X1] (rq E K) (f2 a c d q t v w) H
def b2:Prop:=nodeM P0 T0 A code [1,1,1,0,1,0,0,1,0,0,1,0,0] [X1,X2] (rq E K) (f2 a c d q t v w) H
variable {a c d e q g t i v k w n X1 o X2 p E H K}
theorem ok:okCode A 56 code=true:=by kernel_rfl
theorem of (h:run a c d e g i k n o p E H K):call a c d e g i k n o p E H K:=
  callW_of T0_ok P0_mixed (A:=A) (fn:=Go.Proofs.Try.f24) Go.Proofs.Try.func24 rfl ok rfl h
theorem l1_rule (I:S1 Prop) (μ:S1 Nat)
 (h:∀a c d q t v H,I a c d q t v H→∀X:FP,(∀a' c' d' q' t' v' H',I a' c' d' q' t' v' H'→μ a' c' d' q' t' v' H'<μ a c d q t v H→X (f1 a' c' d' q' t' v') H')→b1 a c d q t v X E H K) (hI:I a c d q t v H):l1 a c d q t v E H K:=
 loop_rule2 (fun r m H=>∃a c d q t v,r=f1 a c d q t v∧m=μ a c d q t v H∧I a c d q t v H) (by rintro _ _ _ ⟨a,c,d,q,t,v,rfl,rfl,hI⟩ X hX; exact h _ _ _ _ _ _ _ hI X fun a' c' d' q' t' v' H' hI hl=>hX _ _ _ ⟨a',c',d',q',t',v',rfl,rfl,hI⟩ hl) rfl ⟨_,_,_,_,_,_,rfl,rfl,hI⟩
theorem l2_rule (I:S2 Prop) (μ:S2 Nat)
 (h:∀a c d q t v w H,I a c d q t v w H→∀X:FP,(∀a' c' d' q' t' v' w' H',I a' c' d' q' t' v' w' H'→μ a' c' d' q' t' v' w' H'<μ a c d q t v w H→X (f2 a' c' d' q' t' v' w') H')→b2 a c d q t v w X1 X E H K) (hI:I a c d q t v w H):l2 a c d q t v w X1 E H K:=
 loop_rule2 (fun r m H=>∃a c d q t v w,r=f2 a c d q t v w∧m=μ a c d q t v w H∧I a c d q t v w H) (by rintro _ _ _ ⟨a,c,d,q,t,v,w,rfl,rfl,hI⟩ X hX; exact h _ _ _ _ _ _ _ _ hI X fun a' c' d' q' t' v' w' H' hI hl=>hX _ _ _ ⟨a',c',d',q',t',v',w',rfl,rfl,hI⟩ hl) rfl ⟨_,_,_,_,_,_,_,rfl,rfl,hI⟩
theorem nok:nodesOk code [[0,1,0,1,1,1],[0,1,0,0,1,0,0,1,0,1,1,1],[1,1,0,0,1,0,1,1,1]]=true:=by kernel_rfl
def run_t (l1:S1 Prop)(a:OA)(c d:Nat)(e:OA)(g i:Nat)(k:OA)(n o:Nat)(p:Int)(E:VP)(H:Hp)(K:KT):Prop:=
  nw H ⟨[.slice e g i,.slice k n o],41⟩ fun B1 H1=>
  ldS (H1.get B1 0) fun x1p x1n x1c=>
  ldS (H1.get B1 1) fun x2p x2n x2c=>
  Q18.call (c:Int) x1p x1n x1c x2p x2n x2c E H1 fun r1 H2=>
  bcase ((!r1)) (
  K false H2)
  (ldS (H2.get B1 0) fun x3p x3n x3c=>
  ldS (H2.get B1 1) fun x4p x4n x4c=>
  Q20.call x3p x3n x3c x4p x4n x4c E H2 fun r2 H3=>
  bcase (!decide ((r2:Int)=(IntKind.wrap .i64 (p+p)))) (
  K false H3)
  (l1 a c d B1 (c:Int) 0 H3))
theorem run_eq (h:run_t (fun a c d q t v H=>l1 a c d q t v E H K) a c d e g i k n o p E H K):run a c d e g i k n o p E H K:=by
  exact nodeR_imp2 (fun G=>run_t (fun a c d q t v H=>G [0,1,0,1,1,1] (f1 a c d q t v) H) a c d e g i k n o p E H K) nok rfl (fun G=>by kernel_rfl) (Eq.mp (by kernel_rfl) h)
def j1_t (a:OA)(c d q:Nat)(t v:Int)(X1:FP)(E:VP)(H:Hp)(K:KT):Prop:=
  X1 (f1 a c d q t (IntKind.wrap .i64 (v+1))) H
theorem j1_eq (h:j1_t a c d q t v X1 E H K):j1 a c d q t v X1 E H K:=by
  exact nodeR_imp2 (fun _=>j1_t a c d q t v X1 E H K) nok rfl (fun G=>by kernel_rfl) h
def b1_t (l2:S2 Prop)(a:OA)(c d q:Nat)(t v:Int)(X1:FP)(E:VP)(H:Hp)(K:KT):Prop:=
  bcase (decide ((v:Int)<t)) (
  l2 a c d q t v (IntKind.wrap .i64 (v+1)) H)
  (K true H)
theorem b1_eq (h:b1_t (fun a c d q t v w H=>l2 a c d q t v w X1 E H K) a c d q t v X1 E H K):b1 a c d q t v X1 E H K:=by
  exact nodeR_imp2 (fun G=>b1_t (fun a c d q t v w H=>G [0,1,0,0,1,0,0,1,0,1,1,1] (f2 a c d q t v w) H) a c d q t v X1 E H K) nok rfl (fun G=>by kernel_rfl) (Eq.mp (by kernel_rfl) h)
def b2_t (j1:OA→Nat→Nat→Nat→Int→Int→Hp→Prop)(a:OA)(c d q:Nat)(t v w:Int)(X1 X2:FP)(E:VP)(H:Hp)(K:KT):Prop:=
  bcase (decide ((w:Int)<t)) (
  ldS (H.get q 0) fun x1p x1n x1c=>
  ldS (H.get q 1) fun x2p x2n x2c=>
  ix a c v 1 fun B1 o1=>
  ldS (H.get B1 o1) fun x3p x3n x3c=>
  ix x3p x3n w 1 fun B2 o2=>
  ldI .i64 (H.get B2 o2) fun x4=>
  ix a c v 1 fun B3 o3=>
  ldS (H.get B3 o3) fun x5p x5n x5c=>
  ix x5p x5n w 1 fun B4 o4=>
  ldI .i64 (H.get B4 o4) fun x6=>
  Q19.call x1p x1n x1c x2p x2n x2c v w E H fun r1 H1=>
  (ldS (H1.get B1 o1) fun x10p x10n x10c=>
  Value.slice x10p x10n x10c=Value.slice x3p x3n x3c)∧
  (ldI .i64 (H1.get B2 o2) fun x9=>
  Value.int .i64 x9=Value.int .i64 x4)∧
  (ldS (H1.get B3 o3) fun x8p x8n x8c=>
  Value.slice x8p x8n x8c=Value.slice x5p x5n x5c)∧
  (ldI .i64 (H1.get B4 o4) fun x7=>
  Value.int .i64 x7=Value.int .i64 x6)∧
  bcase (decide (((IntKind.wrap .i64 (x4+x6)):Int)<r1)) (
  K false H1)
  (X2 (f2 a c d q t v (IntKind.wrap .i64 (w+1))) H1))
  (j1 a c d q t v H)
theorem b2_eq (h:b2_t (fun a c d q t v H=>j1 a c d q t v X1 E H K) a c d q t v w X1 X2 E H K):b2 a c d q t v w X1 X2 E H K:=by
  exact nodeR_imp2 (fun G=>b2_t (fun a c d q t v H=>G [1,1,0,0,1,0,1,1,1] (f1 a c d q t v) H) a c d q t v w X1 X2 E H K) nok rfl (fun G=>by kernel_rfl) (Eq.mp (by kernel_rfl) h)
end
end Q11
end Go.Mz
