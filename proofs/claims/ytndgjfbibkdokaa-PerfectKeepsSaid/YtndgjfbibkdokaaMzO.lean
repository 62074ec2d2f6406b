/-
  Code over plain heaps, and that it is sound: from it to contracts of calls. It proves nothing of the program by itself.
-/
import Derived.Test.YtndgjfbibkdokaaMzN
import Derived.Scope
set_option linter.unusedSimpArgs false
set_option linter.unusedVariables false
namespace Go.Mz
open Go.RowKit
/-! ### What is told of a function's regions: the slots that live, an order, loads to be held -/
inductive Alt where
  | none | one (a:Nat) (cs M D:List Nat)
structure An where
  live:List (Nat × List Nat)
  ord:List (Nat × List Nat)
  stb:List (Nat × List (Nat × List Nat))
  pre:List (Nat × List (List Nat))
  alt:List (Nat × Alt):=[]
def fnd {β:Type} (d:β):List (Nat × β)→Nat→β
  | [],_=>d
  | x :: r,i=>bif Nat.beq x.1 i then x.2 else fnd d r i
def An.al (A:An) (id:Nat):Alt:=fnd .none A.alt id
def An.lv (A:An) (id:Nat):List Nat:=fnd [] A.live id
def An.od (A:An) (id:Nat):List Nat:=fnd [] A.ord id
def An.st (A:An) (id:Nat):Nat→List Nat:=fun i=>fnd [] (fnd [] A.stb id) i
def nthL:List (List Nat)→Nat→List Nat
  | [],_=>[]
  | x :: _,0=>x
  | _ :: r,n+1=>nthL r n
def An.pr (A:An) (id:Nat):Nat→List Nat:=nthL (fnd [] A.pre id)
def rngF:Nat→Nat→List Nat
  | 0,_=>[]
  | n+1,k=>k :: rngF n (k+1)
def rng (n:Nat):List Nat:=rngF n 0
/-! ### The checks -/
def allN (p:Nat→Bool):List Nat→Bool
  | []=>true
  | x :: r=>match p x with | true=>allN p r | false=>false
theorem allN_iff {p:Nat→Bool} {l:List Nat}:allN p l=true↔∀x∈l,p x=true:=by
  induction l with
  | nil=>simp [allN]
  | cons x l ih=>
    unfold allN
    cases hp:p x with
    | true=>simp [ih,hp]
    | false=>simp [hp]
theorem mem_rngF {n k i:Nat}:i∈rngF n k↔k≤i∧i<k+n:=by
  induction n generalizing k with
  | zero=>simp [rngF]
  | succ n ih=>simp only [rngF,List.mem_cons,ih]; omega
theorem mem_rng {n i:Nat}:i∈rng n↔i<n:=by unfold rng; rw [mem_rngF]; omega
theorem rng_eq (n:Nat):rng n=List.range n:=by
  have key:∀n k,rngF n k=List.range' k n:=by
    intro n
    induction n with
    | zero=>intro k; rfl
    | succ n ih=>intro k; simp [rngF,ih,List.range'_succ]
  rw [rng,key,List.range_eq_range']
def nodB:List Nat→Bool
  | []=>true
  | x :: r=>match hasN r x with | true=>false | false=>nodB r
theorem nodB_spec {l:List Nat} (h:nodB l=true):l.Nodup:=by
  induction l with
  | nil=>exact List.nodup_nil
  | cons x l ih=>
    unfold nodB at h
    split at h
    · cases h
    · rename_i hx; exact List.nodup_cons.2 ⟨hasN_false.1 hx,ih h⟩
def leB (pre:Nat→List Nat):List Nat→List Nat→Bool
  | _,[]=>true
  | done,i :: l=>allN (hasN done) (pre i) && leB pre (i :: done) l
theorem leB_spec {pre:Nat→List Nat}:∀{l done:List Nat},leB pre done l=true→LE pre done l
  | [],_,_=>trivial
  | i :: l,done,h=>by
    simp only [leB,Bool.and_eq_true] at h
    exact ⟨fun k hk=>hasN_iff.1 (allN_iff.1 h.1 k hk),leB_spec h.2⟩
def selfB (ops:Array Oper) (o:Oper):Bool:=match o.dst with | some d=>!(hasN (o.looksAt ops) d) | none=>true
def pairB (ops:Array Oper) (st:Nat→List Nat) (t i:Nat):Bool:=
  match ops.toList[t]?,ops.toList[i]? with
  | some ot,some oi=>ot.apart ops oi && clsOk st t i ot oi && selfB ops ot
  | _,_=>false
def prB (ops:Array Oper) (st pre:Nat→List Nat) (t i:Nat):Bool:=match hasN (pre i) t with | true=>true | false=>pairB ops st t i
theorem prB_spec {ops:Array Oper} {st pre:Nat→List Nat} {t i:Nat} (this:prB ops st pre t i=true):Pr ops st pre t i:=by
  unfold prB at this
  split at this
  · rename_i hh; exact .inl (hasN_iff.1 hh)
  · right
    unfold pairB at this
    split at this
    · rename_i ot oi hot hoi
      simp only [Bool.and_eq_true] at this
      refine ⟨ot,oi,by simpa using hot,by simpa using hoi,this.1.1,this.1.2,fun d hd=>?_⟩
      have hs:=this.2
      unfold selfB at hs
      rw [hd] at hs
      simp at hs
      exact hasN_false.1 hs
    · cases this
def poB (ops:Array Oper) (st pre:Nat→List Nat):List Nat→Bool
  | []=>true
  | t :: l=>allN (prB ops st pre t) l && poB ops st pre l
theorem poB_spec {ops:Array Oper} {st pre:Nat→List Nat}:∀{l:List Nat},poB ops st pre l=true→PO ops st pre l
  | [],_=>trivial
  | t :: l,h=>by
    simp only [poB,Bool.and_eq_true] at h
    exact ⟨fun i hi=>prB_spec (allN_iff.1 h.1 i hi),poB_spec h.2⟩
def onB (ops:Array Oper) (p:Nat→Oper→Bool):Bool:=allN (fun i=>match ops.toList[i]? with | some o=>p i o | none=>true) (rng ops.toList.length)
theorem onB_spec {ops:Array Oper} {p:Nat→Oper→Bool} (h:onB ops p=true):∀(i:Nat) (o:Oper),ops[i]?=some o→p i o=true:=by
  intro i o ho
  have hlt:i<ops.toList.length:=by have:=(Array.getElem?_eq_some_iff.1 ho).1; simpa using this
  have:=allN_iff.1 h i (mem_rng.2 hlt)
  have ho':ops.toList[i]?=some o:=by simpa using ho
  rw [ho'] at this
  exact this
def edB (l:List Edge) (p:Edge→Bool):Bool:=match l with | []=>true | e :: r=>(match Region.binds .any e with | true=>p e | false=>true) && edB r p
theorem edB_spec {l:List Edge} {p:Edge→Bool} (h:edB l p=true):∀e∈l,Region.binds .any e=true→p e=true:=by
  induction l with
  | nil=>simp
  | cons x l ih=>
    simp only [edB,Bool.and_eq_true] at h
    intro e he hb
    cases he with
    | head=>have:=h.1; rw [hb] at this; exact this
    | tail _ he=>exact ih h.2 e he hb
def exB (l:List Edge) (p:Edge→Bool):Bool:=match l with | []=>false | e :: r=>(match Region.binds .any e with | true=>p e | false=>false) || exB r p
theorem exB_spec {l:List Edge} {p:Edge→Bool} (h:exB l p=true):∃e∈l,Region.binds .any e=true∧p e=true:=by
  induction l with
  | nil=>simp [exB] at h
  | cons x l ih=>
    simp only [exB,Bool.or_eq_true] at h
    rcases h with h | h
    · split at h
      · rename_i hb; exact ⟨x,by simp,hb,h⟩
      · cases h
    · obtain ⟨e,he,hh⟩:=ih h; exact ⟨e,by simp [he],hh⟩
def safeB (ops:Array Oper) (y x:Oper):Bool:=match y.dst with | some d=>!(hasN (x.looksAt ops) d) && (match x.dst with | some d'=>!(Nat.beq d d') | none=>true) | none=>true
theorem safeB_spec {ops:Array Oper} {y x:Oper} (h:safeB ops y x=true):safe ops y x:=by
  intro d hd
  unfold safeB at h
  rw [hd] at h
  simp only [Bool.and_eq_true,Bool.not_eq_true'] at h
  refine ⟨hasN_false.1 h.1,fun e=>?_⟩
  have h2:=h.2
  rw [e] at h2
  simp at h2
def okOrd (ops:Array Oper) (pre:Nat→List Nat) (ord:List Nat):Bool:=
  Nat.ble ord.length ops.toList.length && allN (fun i=>Nat.blt i ops.toList.length) ord && allN (hasN ord) (rng ops.toList.length) && nodB ord && leB pre [] ord
def okC (ops:Array Oper) (st pre:Nat→List Nat) (n:Nat):Bool:=
  onB ops (fun i o=>edB o.after.toList fun e=>hasN (pre i) e.on) &&
  onB ops (fun i o=>allN (fun k=>exB o.after.toList fun e=>Nat.beq e.on k || hasN (pre e.on) k) (pre i)) &&
  onB ops (fun i o=>match Nat.ble (ocl o.op) 2 with | true=>(match st i with | []=>true | _=>false) | false=>true) &&
  allN (fun i=>allN (fun x=>match ops.toList[x]? with
    | some ox=>allN (fun t=>match ops.toList[t]? with | some ot=>Nat.beq t x || hasN (pre x) t || safeB ops ot ox | none=>true) (rng ops.toList.length)
    | none=>true) (st i)) (rng ops.toList.length) &&
  onB ops (fun i o=>match o.dst with | some d=>Nat.blt d n | none=>true)
theorem okOrd_spec {ops:Array Oper} {pre:Nat→List Nat} {ord:List Nat} (h:okOrd ops pre ord=true):OrdOk ops pre ord:=by
  unfold okOrd at h
  simp only [Bool.and_eq_true] at h
  obtain ⟨⟨⟨⟨h0,h1⟩,h2⟩,h3⟩,h6⟩:=h
  have hmem:∀i,i∈ord↔i<ops.size:=fun i=>⟨fun hi=>by
      have:=allN_iff.1 h1 i hi
      have:=Nat.le_of_ble_eq_true this
      simp at this
      omega,fun hi=>hasN_iff.1 (allN_iff.1 h2 i (mem_rng.2 (by simpa using hi)))⟩
  exact ⟨hmem,nodB_spec h3,by simpa using Nat.le_of_ble_eq_true h0,leB_spec h6⟩
theorem okC_spec {ops:Array Oper} {st pre:Nat→List Nat} {n:Nat} (hst:∀i,ops.size≤i→st i=[]) (h:okC ops st pre n=true):RegC ops st pre n:=by
  unfold okC at h
  simp only [Bool.and_eq_true] at h
  obtain ⟨⟨⟨⟨h4,h5⟩,h8⟩,h9⟩,h10⟩:=h
  refine ⟨?_,?_,?_,?_,?_⟩
  · intro i o ho e he hb
    exact hasN_iff.1 (edB_spec (onB_spec h4 i o ho) e (by simpa using he) hb)
  · intro i o ho k hk
    obtain ⟨e,he,hb,hp⟩:=exB_spec (allN_iff.1 (onB_spec h5 i o ho) k hk)
    refine ⟨e,by simpa using he,hb,?_⟩
    rw [Bool.or_eq_true] at hp
    rcases hp with hp | hp
    · exact .inl (Nat.eq_of_beq_eq_true hp)
    · exact .inr (hasN_iff.1 hp)
  · intro i o ho hc
    have:=onB_spec h8 i o ho
    rw [Nat.ble_eq_true_of_le hc] at this
    simp only at this
    split at this
    · assumption
    · cases this
  · intro i x hx ox hox t ot hot hne
    by_cases hi:i<ops.size
    · have h:=allN_iff.1 (allN_iff.1 h9 i (mem_rng.2 (by simpa using hi))) x hx
      have hox':ops.toList[x]?=some ox:=by simpa using hox
      have hot':ops.toList[t]?=some ot:=by simpa using hot
      rw [hox'] at h
      simp only at h
      have htl:t<ops.toList.length:=by have:=(Array.getElem?_eq_some_iff.1 hot).1; simpa using this
      have:=allN_iff.1 h t (mem_rng.2 htl)
      rw [hot'] at this
      simp only [Bool.or_eq_true] at this
      rcases this with (h | h) | h
      · exact absurd (Nat.eq_of_beq_eq_true h) hne
      · exact .inl (hasN_iff.1 h)
      · exact .inr (safeB_spec h)
    · rw [hst i (by omega)] at hx; cases hx
  · intro i o ho d hd
    have:=onB_spec h10 i o ho
    rw [hd] at this
    exact Nat.le_of_ble_eq_true this
def ltB (pre:Nat→List Nat) (a:Nat) (cs D:List Nat):List Nat→List Nat→Bool
  | done,[]=>leB pre done (a :: D)
  | done,i :: M=>allN (hasN done) (pre i) && (match hasN cs i with | true=>leB pre done (a :: i :: (M++D)) | false=>true) && ltB pre a cs D (i :: done) M
theorem ltB_spec {pre:Nat→List Nat} {a:Nat} {cs D:List Nat}:∀{M done:List Nat},ltB pre a cs D done M=true→LT pre a cs D done M
  | [],_,h=>leB_spec h
  | i :: M,done,h=>by
    simp only [ltB,Bool.and_eq_true] at h
    refine ⟨fun k hk=>hasN_iff.1 (allN_iff.1 h.1.1 k hk),fun hc=>?_,ltB_spec h.2⟩
    have h2:=h.1.2
    rw [hasN_iff.2 hc] at h2
    exact leB_spec h2
def c2B (ops:Array Oper) (i:Nat):Bool:=match ops.toList[i]? with | some o=>Nat.ble (ocl o.op) 2 | none=>false
theorem c2B_spec {ops:Array Oper} {i:Nat} (h:c2B ops i=true):∃oi,ops[i]?=some oi∧ocl oi.op≤2:=by
  unfold c2B at h
  split at h
  · rename_i o ho; exact ⟨o,by simpa using ho,Nat.le_of_ble_eq_true h⟩
  · cases h
def mokB (ops:Array Oper) (st pre:Nat→List Nat) (a:Nat) (cs:List Nat) (i:Nat):Bool:=
  match hasN cs i with
  | true=>allN (fun c=>Nat.beq c i || hasN (pre i) c || hasN (pre c) i) cs
  | false=>prB ops st pre i a && ((c2B ops i && prB ops st pre a i) || hasN (pre a) i || allN (fun c=>Nat.beq c i || hasN (pre i) c || hasN (pre c) i) cs)
theorem mokB_spec {ops:Array Oper} {st pre:Nat→List Nat} {a:Nat} {cs:List Nat} {i:Nat} (h:mokB ops st pre a cs i=true):MOk ops st pre a cs i:=by
  have hall:allN (fun c=>Nat.beq c i || hasN (pre i) c || hasN (pre c) i) cs=true→∀c∈cs,c=i∨c∈pre i∨i∈pre c:=by
    intro h c hc
    have:=allN_iff.1 h c hc
    simp only [Bool.or_eq_true] at this
    rcases this with (h | h) | h
    · exact .inl (Nat.eq_of_beq_eq_true h)
    · exact .inr (.inl (hasN_iff.1 h))
    · exact .inr (.inr (hasN_iff.1 h))
  unfold mokB at h
  split at h
  · rename_i e; exact ⟨fun hc=>absurd (hasN_iff.1 e) hc,.inr (.inr (hall h))⟩
  · rename_i e
    simp only [Bool.and_eq_true,Bool.or_eq_true] at h
    refine ⟨fun _=>prB_spec h.1,?_⟩
    rcases h.2 with (⟨h1,h2⟩ | h) | h
    · exact .inl ⟨hasN_false.1 e,c2B_spec h1,prB_spec h2⟩
    · exact .inr (.inl (hasN_iff.1 h))
    · exact .inr (.inr (hall h))
def okAny (ops:Array Oper) (st pre:Nat→List Nat) (ord:List Nat) (n:Nat):Alt→Bool
  | .none=>okOrd ops pre ord && okC ops st pre n && poB ops st pre ord
  | .one a cs M D=>okOrd ops pre (M++a :: D) && okC ops st pre n && poB ops st pre (M++D) && ltB pre a cs D [] M && allN (mokB ops st pre a cs) M && allN (fun i=>hasN (pre i) a) D
def stIn (ops:Array Oper) (l:List (Nat × List Nat)):Bool:=match l with | []=>true | x :: r=>Nat.blt x.1 ops.toList.length && stIn ops r
theorem stIn_spec {ops:Array Oper} {l:List (Nat × List Nat)} (h:stIn ops l=true):∀i,ops.size≤i→fnd [] l i=[]:=by
  induction l with
  | nil=>intro i _; rfl
  | cons x l ih=>
    simp only [stIn,Bool.and_eq_true] at h
    intro i hi
    have hlt:=Nat.le_of_ble_eq_true h.1
    simp at hlt
    unfold fnd
    have:Nat.beq x.1 i=false:=by
      cases e:Nat.beq x.1 i with
      | false=>rfl
      | true=>have:=Nat.eq_of_beq_eq_true e; omega
    rw [this]; exact ih h.2 i hi
def okCode (A:An) (n:Nat):Code→Bool
  | .region id ops false=>onB ops (fun i o=>match o.dst with | some d=>Nat.blt d n | none=>true)
  | .region id ops true=>stIn ops (fnd [] A.stb id) && okAny ops (A.st id) (A.pr id) (A.od id) n (A.al id)
  | .seq a b=>okCode A n a && okCode A n b
  | .cond _ a b=>okCode A n a && okCode A n b
  | .block _ c=>okCode A n c
  | .scope c=>okCode A n c
  | .loop c=>okCode A n c
  | .skip=>true
  | .label _=>true
  | .exit _=>true
  | .ret=>true
  | _=>false
/-! ### Code -/
inductive Ex where
  | normal | exit (id:Nat) | ret | pan (v:Value)
def thenM (K:FP) (Q:Ex→FP):Ex→FP
  | .normal,F,H=>K F H
  | e,F,H=>Q e F H
def blkM (id:Nat) (Q:Ex→FP):Ex→FP
  | .exit i,F,H=>match Nat.beq i id with | true=>Q .normal F H | false=>Q (.exit i) F H
  | e,F,H=>Q e F H
def hdR:Code→Nat
  | .region id _ _=>id
  | .seq a _=>hdR a
  | .block _ c=>hdR c
  | .scope c=>hdR c
  | .loop c=>hdR c
  | _=>0
def regD (P:Program) (T:Tab) (A:An) (id:Nat) (ops:Array Oper) (dr:Bool) (F:Fr × List Nat) (K:Fr × List Nat→Hp→Prop) (E:VP) (H:Hp):Prop:=match dr with
  | false=>regG fmF P T ops.toList (fun _=>[]) (rng ops.toList.length) [] F K E H
  | true=>match A.al id with
    | .none=>regG fmF P T ops.toList (A.st id) (A.od id) [] F K E H
    | .one a cs M D=>regT fmF P T ops.toList (A.st id) a cs D M [] F K E H
def codeM (P:Program) (T:Tab) (A:An):Code→(Ex→FP)→FP
  | .skip,Q,F,H=>Q .normal F H
  | .label _,Q,F,H=>Q .normal F H
  | .exit id,Q,F,H=>Q (.exit id) F H
  | .ret,Q,F,H=>Q .ret F H
  | .seq a b,Q,F,H=>codeM P T A a (thenM (fun F H=>codeM P T A b Q F H) Q) F H
  | .cond c a b,Q,F,H=>match F.ev c with
    | .bool x=>bcase x (codeM P T A a Q F H) (codeM P T A b Q F H)
    | _=>False
  | .block id c,Q,F,H=>codeM P T A c (blkM id Q) F H
  | .scope c,Q,F,H=>codeM P T A c Q F H
  | .region id ops dr,Q,F,H=>regD P T A id ops dr (F.keep (A.lv id),[]) (fun F H=>Q .normal F.1 H) (fun v H=>Q (.pan v) [] H) H
  | .loop c,Q,F,H=>∀X:FP,(∀F H,codeM P T A c (thenM (fun F H=>X (F.keep (A.lv (hdR c))) H) Q) F H→X F H)→X (F.keep (A.lv (hdR c))) H
  | _,_,_,_=>False
def postW (n:Nat) (Q:Ex→FP) (w0:World):Exit→Act→World→Prop
  | .normal,a,w=>a.defers=[]∧Rest w0 w∧∃F,FR n F a∧Q .normal F (hp w)
  | .exit id,a,w=>a.defers=[]∧Rest w0 w∧∃F,FR n F a∧Q (.exit id) F (hp w)
  | .ret,a,w=>a.defers=[]∧Rest w0 w∧∃F,FR n F a∧Q .ret F (hp w)
  | .panic [c],a,w=>a.defers=[]∧Rest w0 w∧c.recovered=false∧c.goexit=false∧Q (.pan c.v) [] (hp w)
  | _,_,_=>False
theorem postW_rest {n:Nat} {Q:Ex→FP} {w0 w1:World} (hr:Rest w0 w1) {e:Exit} {a:Act} {w:World} (h:postW n Q w1 e a w):postW n Q w0 e a w:=by
  unfold postW at *
  split at h
  · exact ⟨h.1,hr.trans h.2.1,h.2.2⟩
  · exact ⟨h.1,hr.trans h.2.1,h.2.2⟩
  · exact ⟨h.1,hr.trans h.2.1,h.2.2⟩
  · exact ⟨h.1,hr.trans h.2.1,h.2.2⟩
  · exact h.elim
def codeW (P:Program) (n:Nat) (c:Code) (Q:Ex→FP) (F:Fr) (H:Hp):Prop:=
  ∀a w,FR n F a→a.defers=[]→hp w=H→c.wp P (postW n Q w) a w
section
variable {P:Program} {T:Tab} {A:An} {n:Nat}
theorem regT_lift {ops:List Oper} {st:Nat→List Nat} {n:Nat} (hd:∀o∈ops,∀d,o.dst=some d→d<n) {K:FP} {E:VP} {a0:Nat} {cs D:List Nat}:∀(M done:List Nat) {F:Fr × List Nat} {a:Act} {H:Hp},FS n F a→Fin H→
    regT fmF P T ops st a0 cs D M done F (fun F H=>K F.1 H) E H→regT fmA P T ops st a0 cs D M done a (fun a' H'=>∃F',FR n F' a'∧K F' H') E H
  | [],done,F,a,H,hF,hf,h=>reg_lift hd _ _ hF hf h
  | i :: M,done,F,a,H,hF,hf,h=>by
    unfold regT at h ⊢
    cases e:hasN cs i with
    | true=>
      rw [e] at h
      exact ⟨reg_lift hd _ _ hF hf h.1,step_lift hF hd hf (fun F' a' H' hf' hF' h'=>regT_lift hd M (i :: done) hF' hf' h') h.2⟩
    | false=>
      rw [e] at h
      exact step_lift hF hd hf (fun F' a' H' hf' hF' h'=>regT_lift hd M (i :: done) hF' hf' h') h
theorem regF_sound (hT:TabOk P T) (hm:P.follows .mixedOrders=true) {id:Nat} {ops:Array Oper} {dr:Bool} (hok:okCode A n (.region id ops dr)=true) {Q:Ex→FP} {F:Fr} {H:Hp}
    (h:codeM P T A (.region id ops dr) Q F H):codeW P n (.region id ops dr) Q F H:=by
  intro a w hF hd hw
  subst hw
  have hQ:∀w',Rest w w'→Ends (postW n Q w) (fun v H=>Q (.pan v) [] H) n w':=fun w' hr=>⟨fun a' w'' v hd' hr' hE=>⟨hd',hr.trans hr',rfl,rfl,hE⟩⟩
  cases dr with
  | false=>
    have h':regG fmF P T ops.toList (fun _=>[]) (rng ops.toList.length) [] (F.keep (A.lv id),[]) (fun F H=>Q .normal F.1 H) (fun v H=>Q (.pan v) [] H) (hp w):=h
    have hdst:∀o∈ops.toList,∀d,o.dst=some d→d<n:=by
      intro o ho d hd'
      obtain ⟨i,hi⟩:=List.mem_iff_getElem?.1 ho
      have:=onB_spec hok i o (by simpa using hi)
      rw [hd'] at this
      exact Nat.le_of_ble_eq_true this
    have h1:=reg_lift hdst _ [] ⟨hF.keep (A.lv id),by simp⟩ (fin_hp w) h'
    refine wp_region ?_
    have e:rng ops.toList.length=List.range ops.size:=by rw [rng_eq]; simp
    rw [e] at h1
    exact reg_wpOps hT (hQ w (Rest.refl w)) (fun a' w' hd' hn' hr' hk=>⟨hd',hr',hk⟩) _ [] hd hF.size (Rest.refl w) h1
  | true=>
    simp only [okCode,Bool.and_eq_true] at hok
    have hst:=stIn_spec hok.1
    have hok2:=hok.2
    have hr0:=Rest.drew w (w.drawn+1) (Nat.le_succ _)
    have hsz:∀l:List Nat,(∀i,i∈l↔i<ops.size)→∀i,i∈l↔i<ops.size∧(Array.replicate ops.size false).getD i true=false:=by
      intro l hmem i
      rw [hmem]
      constructor
      · intro hi; exact ⟨hi,by simp [Array.getD_eq_getD_getElem?,hi]⟩
      · exact fun hi=>hi.1
    have hnone:∀x,x∈([]:List Nat)↔(Array.replicate ops.size false).getD x false=true:=by
      intro x
      simp only [List.not_mem_nil,false_iff,Array.getD_eq_getD_getElem?,Bool.not_eq_true]
      by_cases hx:x<ops.size
      · simp [hx]
      · simp [Array.getElem?_eq_none (by simpa using hx:(Array.replicate ops.size false).size≤x)]
    have hdst:RegC ops (A.st id) (A.pr id) n→∀o∈ops.toList,∀d,o.dst=some d→d<n:=by
      intro hR o ho d hd'
      obtain ⟨i,hi⟩:=List.mem_iff_getElem?.1 ho
      exact hR.dst i o (by simpa using hi) d hd'
    have h0:regD P T A id ops true (F.keep (A.lv id),[]) (fun F H=>Q .normal F.1 H) (fun v H=>Q (.pan v) [] H) (hp w):=h
    unfold regD at h0
    simp only at h0
    refine wp_region_any hm ?_
    cases hal:A.al id with
    | none=>
      rw [hal] at h0 hok2
      simp only [okAny,Bool.and_eq_true] at hok2 h0
      have hR:=okC_spec hst hok2.1.2
      have hO:=okOrd_spec hok2.1.1
      have h1:=reg_lift (hdst hR) _ [] ⟨hF.keep (A.lv id),by simp⟩ (fin_hp w) h0
      exact reg_wpAny hT hR (hQ _ hr0) (fun a' w' hd' hn' hr' hk=>⟨hd',hr0.trans hr',hk⟩) ops.size (A.od id) [] _ (by simp) (hsz _ hO.mem) hnone hO.len hO.nodup (by simp) hO.le (poB_spec hok2.2) hd hF.size (Rest.refl _) h1
    | one a0 cs M D=>
      rw [hal] at h0 hok2
      simp only [okAny,Bool.and_eq_true] at hok2 h0
      obtain ⟨⟨⟨⟨⟨k1,k2⟩,k3⟩,k4⟩,k5⟩,k6⟩:=hok2
      have hR:=okC_spec hst k2
      have hO:=okOrd_spec k1
      have h1:=regT_lift (hdst hR) _ [] ⟨hF.keep (A.lv id),by simp⟩ (fin_hp w) h0
      exact reg_wpTree hT hR (hQ _ hr0) (fun a' w' hd' hn' hr' hk=>⟨hd',hr0.trans hr',hk⟩) (fun i hi=>hasN_iff.1 (allN_iff.1 k6 i hi)) ops.size M [] _ (by simp) (hsz _ hO.mem) hnone hO.len hO.nodup (by simp) (ltB_spec k4) (poB_spec k3) (fun i hi=>mokB_spec (allN_iff.1 k5 i hi)) hd hF.size (Rest.refl _) h1
theorem codeM_sound (hT:TabOk P T) (hm:P.follows .mixedOrders=true):∀(c:Code),okCode A n c=true→∀(Q:Ex→FP) (F:Fr) (H:Hp),codeM P T A c Q F H→codeW P n c Q F H:=by
  intro c
  induction c with
  | skip=>intro _ Q F H h a w hF hd hw; subst hw; exact wp_skip ⟨hd,Rest.refl w,F,hF,h⟩
  | label l=>intro _ Q F H h a w hF hd hw; subst hw; exact wp_label ⟨hd,Rest.refl w,F,hF,h⟩
  | exit id=>intro _ Q F H h a w hF hd hw; subst hw; exact wp_exit ⟨hd,Rest.refl w,F,hF,h⟩
  | ret=>intro _ Q F H h a w hF hd hw; subst hw; exact wp_ret ⟨hd,Rest.refl w,F,hF,h⟩
  | region id ops dr=>intro hok Q F H h; exact regF_sound hT hm hok h
  | seq x y ihx ihy=>
    intro hok Q F H h a w hF hd hw
    subst hw
    simp only [okCode,Bool.and_eq_true] at hok
    refine wp_seq (wp_mono (ihx hok.1 _ F _ h a w hF hd rfl) ?_)
    intro e a' w' hq
    cases e with
    | normal=>
      obtain ⟨hd',hr',F',hF',h'⟩:=hq
      exact wp_mono (ihy hok.2 _ F' _ h' a' w' hF' hd' rfl) fun e a w h=>postW_rest hr' h
    | exit id=>exact hq
    | ret=>exact hq
    | goto l=>exact hq
    | panic ch=>cases ch with
      | nil=>exact hq
      | cons c r=>cases r<;>exact hq
    | outgrown=>exact hq
  | cond c x y ihx ihy=>
    intro hok Q F H h a w hF hd hw
    subst hw
    simp only [okCode,Bool.and_eq_true] at hok
    simp only [codeM] at h
    split at h
    · rename_i b hb
      have hc:=hF.known hb (by simp [undef])
      refine wp_cond hc ?_
      cases b with
      | true=>exact ihx hok.1 _ F _ h a w hF hd rfl
      | false=>exact ihy hok.2 _ F _ h a w hF hd rfl
    · exact h.elim
  | block id c ih=>
    intro hok Q F H h a w hF hd hw
    subst hw
    refine wp_block (wp_mono (ih hok _ F _ h a w hF hd rfl) ?_)
    intro e a' w' hq
    cases e with
    | normal=>exact hq
    | exit i=>
      obtain ⟨hd',hr',F',hF',h'⟩:=hq
      simp only [blkM] at h'
      simp only [Exit.inBlock]
      split at h'
      · rename_i e
        rw [if_pos (Nat.eq_of_beq_eq_true e)]
        exact ⟨hd',hr',F',hF',h'⟩
      · rename_i e
        rw [if_neg (fun e'=>by subst e'; rw [Nat.beq_refl] at e; cases e)]
        exact ⟨hd',hr',F',hF',h'⟩
    | ret=>exact hq
    | goto l=>exact hq
    | panic ch=>cases ch with
      | nil=>exact hq
      | cons c r=>cases r<;>exact hq
    | outgrown=>exact hq
  | scope c ih=>
    intro hok Q F H h a w hF hd hw
    subst hw
    refine wp_scope_straight (wp_mono (ih hok _ F _ h a w hF hd rfl) ?_)
    intro e a' w' hq
    cases e<;>first | exact hq | exact hq.elim
  | loop c ih=>
    intro hok Q F H h a w hF hd hw
    subst hw
    have key:=h (fun F H=>∀a w,FR n F a→a.defers=[]→hp w=H→∀(b:Frame) (k:List Item) (cs:List Frame),∃e a' w',postW n Q w e a' w'∧Arrives P (lone (b.at a (.code c :: .inLoop c :: k)) cs w) b k cs e a' w') (by
      intro F H hh a w hF hd hw b k cs
      subst hw
      obtain ⟨e,a1,w1,hq,harr⟩:=ih hok _ F _ hh a w hF hd rfl b (.inLoop c :: k) cs
      cases e with
      | normal=>
        obtain ⟨hd',hr',F',hF',h'⟩:=hq
        obtain ⟨e2,a2,w2,hq2,harr2⟩:=h' a1 w1 (hF'.keep _) hd' rfl b k cs
        exact ⟨e2,a2,w2,postW_rest hr' hq2,.of_steps (Steps.trans harr (.one step_inLoop)) harr2⟩
      | exit id=>exact ⟨.exit id,a1,w1,(show postW n Q w (.exit id) a1 w1 from hq),.pass (x:=.inLoop c) rfl (fun _ _=>.inl (by simp)) harr⟩
      | goto l=>exact hq.elim
      | ret=>exact ⟨.ret,a1,w1,(show postW n Q w .ret a1 w1 from hq),.pass (x:=.inLoop c) rfl (fun _ _=>.inl (by simp)) harr⟩
      | panic ch=>
        refine ⟨.panic ch,a1,w1,?_,.pass (x:=.inLoop c) rfl (fun _ _=>.inl (by simp)) harr⟩
        cases ch with
        | nil=>exact hq
        | cons c r=>cases r<;>exact hq
      | outgrown=>exact hq.elim)
    intro b k cs
    obtain ⟨e,a',w',hq,harr⟩:=key a w (hF.keep _) hd rfl b k cs
    exact ⟨e,a',w',hq,.of_steps (.one step_loop) harr⟩
  | _=>intro hok; cases hok
end
end Go.Mz
