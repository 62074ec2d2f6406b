/-
  Regions are sound: in the text's order, and in any order. It proves nothing of the program by itself.
-/
import Derived.Test.YtndgjfbibkdokaaMzM
set_option linter.unusedSimpArgs false
set_option linter.unusedVariables false
namespace Go.Mz
open Go.RowKit
section
variable {P:Program} {T:Tab} {ops:Array Oper} {st:Nat→List Nat} {Q:Exit→Act→World→Prop}
theorem put_defers' (a:Act) (d:Option Nat) (v:Value):(a.put d v).defers=a.defers:=by cases d<;>rfl
structure Ends (Q:Exit→Act→World→Prop) (E:VP) (n:Nat) (w0:World):Prop where
  pan:∀a w v,a.defers=[]→Rest w0 w→E v (hp w)→Q (.panic [{ v,recovered:=false }]) a w
theorem wanted_of {a:Act} {o:Oper} {b:Bool} (h:goesA ops.toList a o.guard=some b):Region.wanted o (yielded ops a.tmps)=b:=by
  unfold goesA at h
  unfold Region.wanted
  cases hg:o.guard with
  | none=>rw [hg] at h; simp at h; subst h; rfl
  | some jw=>
    obtain ⟨j,want⟩:=jw
    rw [hg] at h
    simp only at h ⊢
    split at h
    · rename_i oj hj
      split at h
      · rename_i d hd
        split at h
        · rename_i hu
          simp at h
          subst h
          have hj':ops[j]?=some oj:=by simpa using hj
          have:yielded ops a.tmps j=none:=by
            simp only [yielded,hj',hd,Option.bind_some]
            have hu':a.eval (.tmp d)=.tuple ⟨[]⟩:=by
              unfold isU at hu; split at hu
              · assumption
              · cases hu
            simp only [Act.eval,Array.getD_eq_getD_getElem?] at hu'
            cases hh:a.tmps[d]? with
            | none=>rfl
            | some x=>rw [hh] at hu'; simp at hu'; rw [hu']
          rw [this]; rfl
        split at h
        · rename_i b' hb'
          simp at h
          have hj':ops[j]?=some oj:=by simpa using hj
          have ht:a.tmps[d]?=some (.bool b'):=by
            simp only [Act.eval,Array.getD_eq_getD_getElem?] at hb'
            cases hh:a.tmps[d]? with
            | none=>rw [hh] at hb'; simp [undef] at hb'
            | some x=>rw [hh] at hb'; simp at hb'; rw [hb']
          simp [yielded,hj',hd,ht]
          rw [←h]
        · cases h
      · cases h
    · cases h
theorem step_wpOp (hT:TabOk P T) {n:Nat} {w0 w:World} {i:Nat} {done:List Nat} {a:Act} {C:Act→Hp→Prop} {E:VP} {K:Act→World→Prop} (hQ:Ends Q E n w0) (hr:Rest w0 w) (hd:a.defers=[])
    (hK:∀a' w',a'.defers=[]→a'.tmps.size=a.tmps.size→Rest w0 w'→C a' (hp w')→K a' w') (h:stepG fmA P T ops.toList st i done a C E (hp w)):wpOp P ops Q i K a w:=by
  unfold stepG at h
  split at h
  · exact h.elim
  · rename_i o ho
    have ho':ops[i]?=some o:=by simpa using ho
    rw [gate_iff] at h
    unfold wpOp
    rw [ho']
    simp only
    rcases h with ⟨hg,h⟩ | ⟨hg,h⟩
    · rw [wanted_of hg]
      simp only [if_true]
      left
      unfold Oper.wp
      have hs:=shp_sound hT o (fun _=>rfl) h
      have hput:∀(v:Value) (w':World),Rest w w'→(spl (isG ops.toList i o.dst) v fun v=>stabG fmA T ops.toList done (fmA.put a o.dst v) (hp w') (st i) (C (fmA.put a o.dst v) (hp w')))→K (a.put o.dst v) w':=by
        intro v w' hr' hk
        rw [spl_iff] at hk
        exact hK _ _ (by rw [put_defers']; exact hd) (put_size _ _ _) (hr.trans hr') (stab_end hk)
      simp only [fmA_ev] at hs
      generalize (execOp a.eval o).run P w=r at hs ⊢
      cases r with
      | ok nx w'=>
        cases nx with
        | value v=>exact hput v w' hs.1 hs.2
        | skip=>exact hput undef w' hs.1 hs.2
        | enter f args=>
          obtain ⟨rfl,hs⟩:=hs
          refine (hs w' rfl).mono ?_
          intro e w'' ⟨hr',he⟩
          split at he
          · exact hput _ _ hr' he
          · rename_i c
            obtain ⟨v,rec,gx⟩:=c
            obtain ⟨hrec,hgx,he⟩:=he
            simp only at hrec hgx
            subst hrec
            subst hgx
            exact hQ.pan _ _ _ hd (hr.trans hr') he
          · exact he.elim
        | _=>exact hs.elim
      | halt x w'=>
        cases x with
        | panic v=>
          obtain ⟨rfl,hs⟩:=hs
          exact hQ.pan _ _ _ hd hr hs
        | _=>exact hs.elim
    · rw [wanted_of hg]
      simp only [Bool.false_eq_true,if_false]
      exact hK _ _ (by rw [put_defers']; exact hd) (put_size _ _ _) hr h
theorem reg_wpOps (hT:TabOk P T) {n:Nat} {w0:World} {K:Act→Hp→Prop} {E:VP} (hQ:Ends Q E n w0)
    (hK:∀a' w',a'.defers=[]→a'.tmps.size=n→Rest w0 w'→K a' (hp w')→Q .normal a' w'):∀(l done:List Nat) {a:Act} {w:World},a.defers=[]→a.tmps.size=n→Rest w0 w→
    regG fmA P T ops.toList st l done a K E (hp w)→wpOps P ops Q l a w
  | [],done,a,w,hd,hn,hr,h=>hK _ _ hd hn hr h
  | i :: l,done,a,w,hd,hn,hr,h=>by
    rw [wpOps_cons]
    exact step_wpOp hT hQ hr hd (fun a' w' hd' hn' hr' h'=>reg_wpOps hT hQ hK l (i :: done) hd' (hn'.trans hn) hr' h') h
/-! ### Any order -/
def LE (pre:Nat→List Nat):List Nat→List Nat→Prop
  | _,[]=>True
  | done,i :: l=>(∀k∈pre i,k∈done)∧LE pre (i :: done) l
def Pr (ops:Array Oper) (st pre:Nat→List Nat) (t i:Nat):Prop:=t∈pre i∨∃(ot oi:Oper),ops[t]?=some ot∧ops[i]?=some oi∧ot.apart ops oi=true∧clsOk st t i ot oi=true∧(∀d,ot.dst=some d→d ∉ ot.looksAt ops)
def PO (ops:Array Oper) (st pre:Nat→List Nat):List Nat→Prop
  | []=>True
  | t :: l=>(∀i∈l,t∈pre i∨∃(ot oi:Oper),ops[t]?=some ot∧ops[i]?=some oi∧ot.apart ops oi=true∧clsOk st t i ot oi=true∧(∀d,ot.dst=some d→d ∉ ot.looksAt ops))∧PO ops st pre l
structure RegC (ops:Array Oper) (st:Nat→List Nat) (pre:Nat→List Nat) (n:Nat):Prop where
  after:∀(i:Nat) (o:Oper),ops[i]?=some o→∀e∈o.after,Region.binds .any e=true→e.on∈pre i
  clos:∀(i:Nat) (o:Oper),ops[i]?=some o→∀k∈pre i,∃e∈o.after,Region.binds .any e=true∧(e.on=k∨k∈pre e.on)
  calm:∀(i:Nat) (o:Oper),ops[i]?=some o→ocl o.op≤2→st i=[]
  safe:∀i x,x∈st i→∀(ox:Oper),ops[x]?=some ox→∀(t:Nat) (ot:Oper),ops[t]?=some ot→t≠x→t∈pre x∨safe ops ot ox
  dst:∀(i:Nat) (o:Oper),ops[i]?=some o→∀d,o.dst=some d→d<n
structure OrdOk (ops:Array Oper) (pre:Nat→List Nat) (ord:List Nat):Prop where
  mem:∀i,i∈ord↔i<ops.size
  nodup:ord.Nodup
  len:ord.length≤ops.size
  le:LE pre [] ord
theorem LE.sub {pre:Nat→List Nat}:∀{l done done':List Nat},(∀x∈done,x∈done')→LE pre done l→LE pre done' l
  | [],_,_,_,_=>trivial
  | i :: l,done,done',h,hl=>⟨fun k hk=>h k (hl.1 k hk),LE.sub (fun x hx=>by
      rcases List.mem_cons.1 hx with rfl | hx
      · simp
      · simp [h x hx]) hl.2⟩
theorem LE.out {pre:Nat→List Nat} {i:Nat}:∀{l1 l2 done:List Nat},LE pre done (l1++i :: l2)→LE pre (i :: done) (l1++l2)
  | [],l2,done,h=>h.2
  | t :: l1,l2,done,h=>⟨fun k hk=>by simp [h.1 k hk],LE.sub (fun x hx=>by simp at hx ⊢; rcases hx with h | h | h<;>simp [h]) (LE.out h.2)⟩
theorem PO.out {st pre:Nat→List Nat} {i:Nat}:∀{l1 l2:List Nat},PO ops st pre (l1++i :: l2)→PO ops st pre (l1++l2)
  | [],l2,h=>h.2
  | t :: l1,l2,h=>⟨fun j hj=>h.1 j (by simp at hj ⊢; rcases hj with h | h<;>simp [h]),PO.out h.2⟩
theorem PO.pairOf {st pre:Nat→List Nat} {i:Nat}:∀{l1 l2:List Nat},PO ops st pre (l1++i :: l2)→∀t∈l1,t∈pre i∨∃ot oi,ops[t]?=some ot∧ops[i]?=some oi∧ot.apart ops oi=true∧clsOk st t i ot oi=true∧(∀d,ot.dst=some d→d ∉ ot.looksAt ops)
  | [],_,_,t,ht=>by cases ht
  | x :: l1,l2,h,t,ht=>by
    cases ht with
    | head=>exact h.1 i (by simp)
    | tail _ ht=>exact PO.pairOf h.2 t ht
theorem LE.left {pre:Nat→List Nat}:∀{l1 l2 done:List Nat},LE pre done (l1++l2)→LE pre done l1
  | [],_,_,_=>trivial
  | _ :: _,_,_,h=>⟨h.1,LE.left h.2⟩
theorem swapAt {pre:Nat→List Nat} {n:Nat} (hR:RegC ops st pre n) {t i:Nat} {done:List Nat} {a:Act} {C:Act→Hp→Prop} {E:VP} {H:Hp} (hf:Fin H) (hn:a.tmps.size=n)
    (hcl:∀x∈done,∀k∈pre x,k∈done) (htd:t ∉ done) (hi:∀k∈pre i,k∈done) (hpr:Pr ops st pre t i)
    (h:stepG fmA P T ops.toList st t done a (fun a1 H1=>stepG fmA P T ops.toList st i (t :: done) a1 C E H1) E H) :
    stepG fmA P T ops.toList st i done a (fun a1 H1=>stepG fmA P T ops.toList st t (i :: done) a1 C E H1) E H:=by
  rcases hpr with e | ⟨ot,oi,hot,hoi,hap,hcls,hself⟩
  · exact absurd (hi t e) htd
  · exact swap hot hoi hap hcls (hR.calm t ot hot) (hR.calm i oi hoi) (fun x hx hxd ox hox=>by
      have hxd':x∈done:=hasN_iff.1 hxd
      rcases hR.safe i x hx ox hox t ot hot (fun e=>htd (e▸hxd')) with e | e
      · exact absurd (hcl x hxd' t e) htd
      · exact e) (fun d hd=>⟨hself d hd,by rw [hn]; exact hR.dst t ot hot d hd⟩) hf h
theorem front {pre:Nat→List Nat} {n:Nat} (hR:RegC ops st pre n) {K:Act→Hp→Prop} {E:VP} {i:Nat}:∀(l1:List Nat) {l2 done:List Nat} {a:Act} {H:Hp},Fin H→a.tmps.size=n→
    (∀x∈done,∀k∈pre x,k∈done)→LE pre done l1→(∀t∈l1,Pr ops st pre t i)→l1.Nodup→(∀x∈l1,x ∉ done)→(∀k∈pre i,k∈done)→
    regG fmA P T ops.toList st (l1++i :: l2) done a K E H→regG fmA P T ops.toList st (i :: (l1++l2)) done a K E H
  | [],l2,done,a,H,_,_,_,_,_,_,_,_,h=>h
  | t :: l1,l2,done,a,H,hf,hn,hcl,hle,hpo,hnd,hdis,hi,h=>by
    have hnd':=List.nodup_cons.1 hnd
    have htd:t ∉ done:=hdis t (by simp)
    have h1:stepG fmA P T ops.toList st t done a (fun a1 H1=>stepG fmA P T ops.toList st i (t :: done) a1 (fun a2 H2=>regG fmA P T ops.toList st (l1++l2) (i :: t :: done) a2 K E H2) E H1) E H:=by
      refine step_mono hf (fun a' H' hf' hs h'=>?_) (show stepG fmA P T ops.toList st t done a (fun a' H'=>regG fmA P T ops.toList st (l1++i :: l2) (t :: done) a' K E H') E H from h)
      refine front hR l1 hf' (hs.trans hn) ?_ hle.2 (fun t ht=>hpo t (by simp [ht])) hnd'.2 ?_ (fun k hk=>by simp [hi k hk]) h'
      · intro x hx k hk
        rcases List.mem_cons.1 hx with rfl | hx
        · simp [hle.1 k hk]
        · simp [hcl x hx k hk]
      · intro x hx hxd
        rcases List.mem_cons.1 hxd with rfl | hxd
        · exact hnd'.1 hx
        · exact hdis x (by simp [hx]) hxd
    have h2:=swapAt hR hf hn hcl htd hi (hpo t (by simp)) h1
    exact step_mono hf (fun a' H' hf' _ h'=>step_mono hf' (fun a'' H'' hf'' _ h''=>reg_done _ hf'' (fun x hx=>by simp at hx ⊢; rcases hx with h | h | h<;>simp [h]) h'') h') h2
theorem reg_wpAny (hT:TabOk P T) {pre:Nat→List Nat} {n:Nat} (hR:RegC ops st pre n) {w0:World} {K:Act→Hp→Prop} {E:VP} (hQ:Ends Q E n w0)
    (hK:∀a' w',a'.defers=[]→a'.tmps.size=n→Rest w0 w'→K a' (hp w')→Q .normal a' w'):∀(fuel:Nat) (l done:List Nat) (listed:Array Bool) {a:Act} {w:World},listed.size=ops.size→
    (∀i,i∈l↔i<ops.size∧listed.getD i true=false)→(∀x,x∈done↔listed.getD x false=true)→l.length≤fuel→l.Nodup→(∀x∈done,∀k∈pre x,k∈done)→LE pre done l→PO ops st pre l→
    a.defers=[]→a.tmps.size=n→Rest w0 w→regG fmA P T ops.toList st l done a K E (hp w)→wpAny P .any ops Q fuel listed a w:=by
  intro fuel
  induction fuel with
  | zero=>
    intro l done listed a w hsz hl hdn hlen hnd hcl hle hpo hd hn hr h
    have:l=[]:=List.length_eq_zero_iff.1 (by omega)
    subst this
    refine ⟨?_,hK _ _ hd hn hr h⟩
    unfold Region.ready
    rw [List.filter_eq_nil_iff]
    intro i hi hx
    simp at hi
    have:=(hl i).2 ⟨hi,by simp only [Bool.and_eq_true,Bool.not_eq_true'] at hx; exact hx.1⟩
    cases this
  | succ fuel ih=>
    intro l done listed a w hsz hl hdn hlen hnd hcl hle hpo hd hn hr h
    constructor
    · intro hno
      cases l with
      | nil=>exact hK _ _ hd hn hr h
      | cons i l=>
        exfalso
        have hi:=(hl i).1 (by simp)
        have hmem:i∈Region.ready .any ops listed:=by
          unfold Region.ready
          rw [List.mem_filter]
          refine ⟨by simp [hi.1],?_⟩
          obtain ⟨o,ho⟩:∃o,ops[i]?=some o:=⟨_,Array.getElem?_eq_getElem hi.1⟩
          simp only [hi.2,Bool.not_false,Bool.true_and,ho,Option.map_some,Option.getD_some,Array.all_eq_true']
          intro e he
          cases hb:Region.binds .any e with
          | false=>rfl
          | true=>
            have:e.on∈done:=hle.1 _ (hR.after i o ho e (by simpa using he) hb)
            rw [(hdn _).1 this]; rfl
        rw [hno] at hmem; cases hmem
    · intro i hi
      have hi':i<ops.size∧listed.getD i true=false∧((ops[i]?).map (·.after.all fun e=>!Region.binds .any e || listed.getD e.on false)).getD false=true:=by
        unfold Region.ready at hi
        rw [List.mem_filter] at hi
        obtain ⟨h1,h2⟩:=hi
        simp only [Bool.and_eq_true,Bool.not_eq_true'] at h2
        exact ⟨by simpa using h1,h2.1,h2.2⟩
      obtain ⟨hlt,hlf,haft⟩:=hi'
      have hil:i∈l:=(hl i).2 ⟨hlt,hlf⟩
      obtain ⟨o,ho⟩:∃o,ops[i]?=some o:=⟨_,Array.getElem?_eq_getElem hlt⟩
      have hpre:∀k∈pre i,k∈done:=by
        intro k hk
        obtain ⟨e,he,hb,hor⟩:=hR.clos i o ho k hk
        rw [ho] at haft
        simp only [Option.map_some,Option.getD_some,Array.all_eq_true'] at haft
        have:=haft e he
        rw [hb] at this
        simp at this
        have hed:e.on∈done:=(hdn _).2 (by simpa using this)
        rcases hor with rfl | hk'
        · exact hed
        · exact hcl _ hed k hk'
      obtain ⟨l1,l2,rfl⟩:=List.append_of_mem hil
      have hdis:∀x∈l1++i :: l2,x ∉ done:=by
        intro x hx hxd
        have h1:=((hl x).1 hx)
        have h2:=(hdn x).1 hxd
        simp only [Array.getD_eq_getD_getElem?] at h1 h2
        have h3:=h1.2
        cases hx2:listed[x]? with
        | none=>rw [hx2] at h2; simp at h2
        | some b=>rw [hx2] at h2 h3; simp at h2 h3; rw [h2] at h3; cases h3
      have h1:=front hR l1 (fin_hp w) hn hcl (LE.left hle) (PO.pairOf hpo) (List.nodup_append.1 hnd).1 (fun x hx=>hdis x (by simp [hx])) hpre h
      refine step_wpOp hT hQ hr hd (fun a' w' hd' hn' hr' h'=>?_) h1
      have hii:i<listed.size:=by omega
      have hnd2:(i :: (l1++l2)).Nodup:=(List.perm_middle.nodup_iff).1 hnd
      refine ih (l1++l2) (i :: done) (listed.setIfInBounds i true) (by simp [hsz]) ?_ ?_ (by simp at hlen ⊢; omega) (List.nodup_cons.1 hnd2).2 ?_ hle.out hpo.out hd' (hn'.trans hn) hr' h'
      · intro j
        have hj:=hl j
        by_cases e:j=i
        · subst e
          have:j ∉ l1++l2:=(List.nodup_cons.1 hnd2).1
          simp [Array.getD_eq_getD_getElem?,hii,this]
        · have:(j∈l1++l2)↔(j∈l1++i :: l2):=by simp [e]
          rw [this,hj]
          simp [Array.getD_eq_getD_getElem?,Array.getElem?_setIfInBounds_ne (Ne.symm e)]
      · intro j
        have hj:=hdn j
        by_cases e:j=i
        · subst e; simp [Array.getD_eq_getD_getElem?,hii]
        · simp only [List.mem_cons,e,false_or,hj]
          simp [Array.getD_eq_getD_getElem?,Array.getElem?_setIfInBounds_ne (Ne.symm e)]
      · intro x hx k hk
        rcases List.mem_cons.1 hx with rfl | hx
        · simp [hpre k hk]
        · simp [hcl x hx k hk]
/-! ### One operation that may stand anywhere among a chain of others -/
def regT {φ:Type} (fm:Fm φ) (P:Program) (T:Tab) (ops:List Oper) (st:Nat→List Nat) (a:Nat) (cs D:List Nat):List Nat→List Nat→φ→(φ→Hp→Prop)→(VP)→Hp→Prop
  | [],done,F,K,E,H=>regG fm P T ops st (a :: D) done F K E H
  | i :: M,done,F,K,E,H=>match hasN cs i with
    | true=>regG fm P T ops st (a :: i :: (M++D)) done F K E H∧stepG fm P T ops st i done F (fun F' H'=>regT fm P T ops st a cs D M (i :: done) F' K E H') E H
    | false=>stepG fm P T ops st i done F (fun F' H'=>regT fm P T ops st a cs D M (i :: done) F' K E H') E H
theorem step_done {i:Nat} {done done':List Nat} {a:Act} {C:Act→Hp→Prop} {E:VP} {H:Hp} (hf:Fin H) (hd:∀x,x∈done'→x∈done)
    (h:stepG fmA P T ops.toList st i done a C E H):stepG fmA P T ops.toList st i done' a C E H:=by
  unfold stepG at *
  split
  · rename_i hn; rw [hn] at h; exact h
  · rename_i o ho
    rw [ho] at h
    simp only at h
    rw [gate_iff] at h ⊢
    rcases h with ⟨hg,h⟩ | ⟨hg,h⟩
    · refine .inl ⟨hg,Shp.run_mono hf (fun v H' hf' hk=>?_) h⟩
      rw [spl_iff] at hk ⊢
      exact stab_sub hd hk
    · exact .inr ⟨hg,h⟩
theorem regT_done {a0:Nat} {cs D:List Nat} {K:Act→Hp→Prop} {E:VP}:∀(M:List Nat) {done done':List Nat} {a:Act} {H:Hp},Fin H→(∀x,x∈done'→x∈done)→
    regT fmA P T ops.toList st a0 cs D M done a K E H→regT fmA P T ops.toList st a0 cs D M done' a K E H
  | [],_,_,_,_,hf,hd,h=>reg_done _ hf hd h
  | i :: M,done,done',a,H,hf,hd,h=>by
    have hstep:∀{a H},Fin H→stepG fmA P T ops.toList st i done a (fun F' H'=>regT fmA P T ops.toList st a0 cs D M (i :: done) F' K E H') E H→stepG fmA P T ops.toList st i done' a (fun F' H'=>regT fmA P T ops.toList st a0 cs D M (i :: done') F' K E H') E H:=by
      intro a H hf h
      exact step_done hf hd (step_mono hf (fun a H hf' _=>regT_done M hf' (fun x hx=>by
        rcases List.mem_cons.1 hx with rfl | hx
        · simp
        · simp [hd x hx])) h)
    unfold regT at h ⊢
    cases e:hasN cs i with
    | true=>rw [e] at h; exact ⟨reg_done _ hf hd h.1,hstep hf h.2⟩
    | false=>rw [e] at h; exact hstep hf h
theorem shp_and {o:Oper} {ρ:Operand→Value} (hc:ocl o.op≤2) {K K' E:VP} {H:Hp} (h:(shp T o ρ).run P T K E H) (h':(shp T o ρ).run P T K' E H):(shp T o ρ).run P T (fun v H=>K v H∧K' v H) E H:=by
  have h012:ocl o.op=0∨ocl o.op=1∨ocl o.op=2:=by omega
  rcases h012 with e | e | e
  · obtain ⟨Q,hu,hiff⟩:=vs_op (P:=P) (T:=T) (ρ:=ρ) e
    rw [hiff] at h h' ⊢
    obtain ⟨v,hv,hk⟩:=h
    obtain ⟨v',hv',hk'⟩:=h'
    rw [hu _ _ hv' hv] at hk'
    exact ⟨v,hv,hk,hk'⟩
  · rcases load_shape (P:=P) (T:=T) (ρ:=ρ) e with hno | ⟨ty,x,b,of,_,_,_,hiff⟩
    · exact absurd h (hno _ _ _)
    · rw [hiff] at h h' ⊢
      rw [rdV_iff] at h h' ⊢
      obtain ⟨v,hv,hk⟩:=h
      obtain ⟨v',hv',hk'⟩:=h'
      rw [rdV_fun hv' hv] at hk'
      exact ⟨v,hv,hk,hk'⟩
  · obtain ⟨p,x,f,hiff⟩:=ns_op (P:=P) (T:=T) (ρ:=ρ) e
    rw [hiff] at h h' ⊢
    exact ⟨h.1,fun b hb=>⟨h.2 b hb,h'.2 b hb⟩⟩
theorem step_and {i:Nat} {done:List Nat} {a:Act} {C C':Act→Hp→Prop} {E:VP} {H:Hp} {oi:Oper} (hoi:ops[i]?=some oi) (hc:ocl oi.op≤2) (hst:st i=[])
    (h:stepG fmA P T ops.toList st i done a C E H) (h':stepG fmA P T ops.toList st i done a C' E H):stepG fmA P T ops.toList st i done a (fun a H=>C a H∧C' a H) E H:=by
  have hoi':ops.toList[i]?=some oi:=by simpa using hoi
  unfold stepG at *
  simp only [hoi',hst,stabG,spl_iff,gate_iff] at h h' ⊢
  rcases h with ⟨hg,h⟩ | ⟨hg,h⟩
  · rcases h' with ⟨hg',h'⟩ | ⟨hg',h'⟩
    · exact .inl ⟨hg,shp_and hc h h'⟩
    · rw [hg] at hg'; cases hg'
  · rcases h' with ⟨hg',h'⟩ | ⟨hg',h'⟩
    · rw [hg] at hg'; cases hg'
    · exact .inr ⟨hg,h,h'⟩
def LT (pre:Nat→List Nat) (a:Nat) (cs D:List Nat):List Nat→List Nat→Prop
  | done,[]=>LE pre done (a :: D)
  | done,i :: M=>(∀k∈pre i,k∈done)∧(i∈cs→LE pre done (a :: i :: (M++D)))∧LT pre a cs D (i :: done) M
theorem LT.sub {pre:Nat→List Nat} {a:Nat} {cs D:List Nat}:∀{l done done':List Nat},(∀x∈done,x∈done')→LT pre a cs D done l→LT pre a cs D done' l
  | [],_,_,h,hl=>LE.sub h hl
  | i :: l,done,done',h,hl=>⟨fun k hk=>h k (hl.1 k hk),fun hc=>LE.sub h (hl.2.1 hc),LT.sub (fun x hx=>by
      rcases List.mem_cons.1 hx with rfl | hx
      · simp
      · simp [h x hx]) hl.2.2⟩
theorem LT.out {pre:Nat→List Nat} {a i:Nat} {cs D:List Nat}:∀{l1 l2 done:List Nat},LT pre a cs D done (l1++i :: l2)→LT pre a cs D (i :: done) (l1++l2)
  | [],l2,done,h=>h.2.2
  | t :: l1,l2,done,h=>⟨fun k hk=>by simp [h.1 k hk],fun hc=>by
      have:=h.2.1 hc
      rw [show l1.append (i :: l2)=l1++i :: l2 from rfl] at this
      have e:a :: t :: ((l1++i :: l2)++D)=(a :: t :: l1)++i :: (l2++D):=by simp
      rw [e] at this
      have:=this.out
      simpa using this,LT.sub (fun x hx=>by simp at hx ⊢; rcases hx with h | h | h<;>simp [h]) (LT.out h.2.2)⟩
theorem LT.le {pre:Nat→List Nat} {a:Nat} {cs D:List Nat}:∀{l done:List Nat},LT pre a cs D done l→LE pre done (l++a :: D)
  | [],_,h=>h
  | _ :: _,_,h=>⟨h.1,LT.le h.2.2⟩
theorem regT_one {pre:Nat→List Nat} {n:Nat} (hR:RegC ops st pre n) {a0:Nat} {cs D:List Nat} {K:Act→Hp→Prop} {E:VP}:∀(M:List Nat) {done:List Nat} {a:Act} {H:Hp},Fin H→a.tmps.size=n→
    (∀x∈done,∀k∈pre x,k∈done)→LE pre done M→(∀t∈M,t ∉ cs→Pr ops st pre t a0)→M.Nodup→(∀x∈M,x ∉ done)→(∀k∈pre a0,k∈done)→
    regT fmA P T ops.toList st a0 cs D M done a K E H→regG fmA P T ops.toList st (a0 :: (M++D)) done a K E H
  | [],_,_,_,_,_,_,_,_,_,_,_,h=>h
  | t :: M,done,a,H,hf,hn,hcl,hle,hpo,hnd,hdis,ha,h=>by
    unfold regT at h
    split at h
    · exact h.1
    · rename_i e
      have hnd':=List.nodup_cons.1 hnd
      have h1:stepG fmA P T ops.toList st t done a (fun a1 H1=>stepG fmA P T ops.toList st a0 (t :: done) a1 (fun a2 H2=>regG fmA P T ops.toList st (M++D) (a0 :: t :: done) a2 K E H2) E H1) E H:=by
        refine step_mono hf (fun a' H' hf' hs h'=>?_) h
        refine regT_one hR M hf' (hs.trans hn) ?_ hle.2 (fun t ht=>hpo t (by simp [ht])) hnd'.2 ?_ (fun k hk=>by simp [ha k hk]) h'
        · intro x hx k hk
          rcases List.mem_cons.1 hx with rfl | hx
          · simp [hle.1 k hk]
          · simp [hcl x hx k hk]
        · intro x hx hxd
          rcases List.mem_cons.1 hxd with rfl | hxd
          · exact hnd'.1 hx
          · exact hdis x (by simp [hx]) hxd
      have h2:=swapAt hR hf hn hcl (hdis t (by simp)) ha (hpo t (by simp) (hasN_false.1 e)) h1
      exact step_mono hf (fun a' H' hf' _ h'=>step_mono hf' (fun a'' H'' hf'' _ h''=>reg_done _ hf'' (fun x hx=>by simp at hx ⊢; rcases hx with h | h | h<;>simp [h]) h'') h') h2
theorem regT_other {pre:Nat→List Nat} {n:Nat} (hR:RegC ops st pre n) {a0 i:Nat} {cs D:List Nat} {K:Act→Hp→Prop} {E:VP} (hia:i≠a0):∀(M1:List Nat) {M2 done:List Nat} {a:Act} {H:Hp},Fin H→a.tmps.size=n→
    (∀x∈done,∀k∈pre x,k∈done)→LT pre a0 cs D done (M1++i :: M2)→(∀t∈M1,Pr ops st pre t i)→(M1++[a0]).Nodup→(∀x∈a0 :: M1,x ∉ done)→(∀k∈pre i,k∈done)→
    ((∀t∈M1,t ∉ cs)∨((∃oi,ops[i]?=some oi∧ocl oi.op≤2)∧Pr ops st pre a0 i))→
    regT fmA P T ops.toList st a0 cs D (M1++i :: M2) done a K E H→stepG fmA P T ops.toList st i done a (fun a' H'=>regT fmA P T ops.toList st a0 cs D (M1++M2) (i :: done) a' K E H') E H
  | [],M2,done,a,H,_,_,_,_,_,_,_,_,_,h=>by
    unfold regT at h
    simp only [List.nil_append] at h
    split at h
    · exact h.2
    · exact h
  | t :: M1,M2,done,a,H,hf,hn,hcl,hle,hpo,hnd,hdis,hi,hor,h=>by
    have hnd':=List.nodup_cons.1 (show (t :: (M1++[a0])).Nodup from hnd)
    have htd:t ∉ done:=hdis t (by simp)
    have hthru:∀{a:Act} {H:Hp},Fin H→a.tmps.size=n→stepG fmA P T ops.toList st t done a (fun a1 H1=>regT fmA P T ops.toList st a0 cs D (M1++i :: M2) (t :: done) a1 K E H1) E H→
        stepG fmA P T ops.toList st i done a (fun a1 H1=>stepG fmA P T ops.toList st t (i :: done) a1 (fun a2 H2=>regT fmA P T ops.toList st a0 cs D (M1++M2) (t :: i :: done) a2 K E H2) E H1) E H:=by
      intro a H hf hn h
      have h1:stepG fmA P T ops.toList st t done a (fun a1 H1=>stepG fmA P T ops.toList st i (t :: done) a1 (fun a2 H2=>regT fmA P T ops.toList st a0 cs D (M1++M2) (i :: t :: done) a2 K E H2) E H1) E H:=by
        refine step_mono hf (fun a' H' hf' hs h'=>?_) h
        refine regT_other hR hia M1 hf' (hs.trans hn) ?_ hle.2.2 (fun t ht=>hpo t (by simp [ht])) hnd'.2 ?_ (fun k hk=>by simp [hi k hk]) (hor.imp (fun h t ht=>h t (by simp [ht])) id) h'
        · intro x hx k hk
          rcases List.mem_cons.1 hx with rfl | hx
          · simp [hle.1 k hk]
          · simp [hcl x hx k hk]
        · intro x hx hxd
          rcases List.mem_cons.1 hxd with rfl | hxd
          · exact hnd'.1 (by simp at hx ⊢; rcases hx with h | h<;>simp [h])
          · exact hdis x (by simp at hx ⊢; rcases hx with h | h<;>simp [h]) hxd
      have h2:=swapAt hR hf hn hcl htd hi (hpo t (by simp)) h1
      exact step_mono hf (fun a' H' hf' _ h'=>step_mono hf' (fun a'' H'' hf'' _ h''=>regT_done _ hf'' (fun x hx=>by simp at hx ⊢; rcases hx with h | h | h<;>simp [h]) h'') h') h2
    simp only [List.cons_append] at h
    rw [regT] at h
    split at h
    · rename_i e
      have hg:(fun (a':Act) (H':Hp)=>regT fmA P T ops.toList st a0 cs D (t :: M1++M2) (i :: done) a' K E H')=fun a' H'=>regG fmA P T ops.toList st (a0 :: t :: ((M1++M2)++D)) (i :: done) a' K E H'∧stepG fmA P T ops.toList st t (i :: done) a' (fun a2 H2=>regT fmA P T ops.toList st a0 cs D (M1++M2) (t :: i :: done) a2 K E H2) E H':=by
        funext a' H'
        simp only [List.cons_append,regT,e]
      rw [hg]
      have hc:t∈cs:=hasN_iff.1 e
      rcases hor with h' | ⟨⟨oi,hoi,ho2⟩,hpa⟩
      · exact absurd hc (h' t (by simp))
      · refine step_and hoi ho2 (hR.calm i oi hoi ho2) ?_ (hthru hf hn h.2)
        have hle1:=hle.2.1 hc
        rw [show M1.append (i :: M2)=M1++i :: M2 from rfl] at hle1
        have e2:a0 :: t :: ((M1++i :: M2)++D)=(a0 :: t :: M1)++i :: (M2++D):=by simp
        have h1:=h.1
        rw [e2] at h1 hle1
        have hndr:(a0 :: t :: M1).Nodup:=by
          have:(a0 :: (t :: M1++[])).Nodup:=(List.perm_middle.nodup_iff).1 (by simpa using hnd)
          simpa using this
        have:=front hR (a0 :: t :: M1) hf hn hcl (LE.left hle1) (fun x hx=>by
          rcases List.mem_cons.1 hx with rfl | hx
          · exact hpa
          · exact hpo x hx) hndr (fun x hx=>hdis x hx) hi h1
        have e3:(a0 :: t :: M1)++(M2++D)=a0 :: t :: ((M1++M2)++D):=by simp
        rw [e3] at this
        exact this
    · rename_i e
      have hg:(fun (a':Act) (H':Hp)=>regT fmA P T ops.toList st a0 cs D (t :: M1++M2) (i :: done) a' K E H')=fun a' H'=>stepG fmA P T ops.toList st t (i :: done) a' (fun a2 H2=>regT fmA P T ops.toList st a0 cs D (M1++M2) (t :: i :: done) a2 K E H2) E H':=by
        funext a' H'
        simp only [List.cons_append,regT,e]
      rw [hg]
      exact hthru hf hn h
def MOk (ops:Array Oper) (st pre:Nat→List Nat) (a:Nat) (cs:List Nat) (i:Nat):Prop:=
  (i ∉ cs→Pr ops st pre i a)∧((i ∉ cs∧(∃oi,ops[i]?=some oi∧ocl oi.op≤2)∧Pr ops st pre a i)∨i∈pre a∨∀c∈cs,c=i∨c∈pre i∨i∈pre c)
theorem LE.bef {pre:Nat→List Nat} {t:Nat}:∀{l1 l2 done:List Nat},LE pre done (l1++t :: l2)→∀k∈pre t,k∈done∨k∈l1
  | [],_,_,h,k,hk=>.inl (h.1 k hk)
  | x :: l1,l2,done,h,k,hk=>by
    rcases LE.bef h.2 k hk with h | h
    · cases h with
      | head=>right; simp
      | tail _ h=>exact .inl h
    · right; simp [h]
theorem LT.bef {pre:Nat→List Nat} {a t:Nat} {cs D:List Nat} (ht:t∈cs):∀{l1 l2 done:List Nat},LT pre a cs D done (l1++t :: l2)→∀k∈pre a,k∈done∨k∈l1
  | [],_,_,h,k,hk=>.inl ((h.2.1 ht).1 k hk)
  | x :: l1,l2,done,h,k,hk=>by
    rcases LT.bef ht h.2.2 k hk with h | h
    · cases h with
      | head=>right; simp
      | tail _ h=>exact .inl h
    · right; simp [h]
theorem reg_wpTree (hT:TabOk P T) {pre:Nat→List Nat} {n:Nat} (hR:RegC ops st pre n) {w0:World} {K:Act→Hp→Prop} {E:VP} (hQ:Ends Q E n w0)
    (hK:∀a' w',a'.defers=[]→a'.tmps.size=n→Rest w0 w'→K a' (hp w')→Q .normal a' w') {a0:Nat} {cs D:List Nat} (hD:∀i∈D,a0∈pre i):∀(fuel:Nat) (M done:List Nat) (listed:Array Bool) {a:Act} {w:World},listed.size=ops.size→
    (∀i,i∈M++a0 :: D↔i<ops.size∧listed.getD i true=false)→(∀x,x∈done↔listed.getD x false=true)→(M++a0 :: D).length≤fuel→(M++a0 :: D).Nodup→(∀x∈done,∀k∈pre x,k∈done)→LT pre a0 cs D done M→PO ops st pre (M++D)→(∀i∈M,MOk ops st pre a0 cs i)→
    a.defers=[]→a.tmps.size=n→Rest w0 w→regT fmA P T ops.toList st a0 cs D M done a K E (hp w)→wpAny P .any ops Q fuel listed a w:=by
  intro fuel
  induction fuel with
  | zero=>
    intro M done listed a w hsz hl hdn hlen
    simp at hlen
  | succ fuel ih=>
    intro M done listed a w hsz hl hdn hlen hnd hcl hlt hpo hmo hd hn hr h
    have hle:=hlt.le
    constructor
    · intro hno
      exfalso
      cases hm:M++a0 :: D with
      | nil=>simp at hm
      | cons i l=>
        rw [hm] at hle hl
        have hi:=(hl i).1 (by simp)
        have hmem:i∈Region.ready .any ops listed:=by
          unfold Region.ready
          rw [List.mem_filter]
          refine ⟨by simp [hi.1],?_⟩
          obtain ⟨o,ho⟩:∃o,ops[i]?=some o:=⟨_,Array.getElem?_eq_getElem hi.1⟩
          simp only [hi.2,Bool.not_false,Bool.true_and,ho,Option.map_some,Option.getD_some,Array.all_eq_true']
          intro e he
          cases hb:Region.binds .any e with
          | false=>rfl
          | true=>
            have:e.on∈done:=hle.1 _ (hR.after i o ho e (by simpa using he) hb)
            rw [(hdn _).1 this]; rfl
        rw [hno] at hmem; cases hmem
    · intro i hi
      have hi':i<ops.size∧listed.getD i true=false∧((ops[i]?).map (·.after.all fun e=>!Region.binds .any e || listed.getD e.on false)).getD false=true:=by
        unfold Region.ready at hi
        rw [List.mem_filter] at hi
        obtain ⟨h1,h2⟩:=hi
        simp only [Bool.and_eq_true,Bool.not_eq_true'] at h2
        exact ⟨by simpa using h1,h2.1,h2.2⟩
      obtain ⟨hlt',hlf,haft⟩:=hi'
      have hil:i∈M++a0 :: D:=(hl i).2 ⟨hlt',hlf⟩
      obtain ⟨o,ho⟩:∃o,ops[i]?=some o:=⟨_,Array.getElem?_eq_getElem hlt'⟩
      have hpre:∀k∈pre i,k∈done:=by
        intro k hk
        obtain ⟨e,he,hb,hor⟩:=hR.clos i o ho k hk
        rw [ho] at haft
        simp only [Option.map_some,Option.getD_some,Array.all_eq_true'] at haft
        have:=haft e he
        rw [hb] at this
        simp at this
        have hed:e.on∈done:=(hdn _).2 (by simpa using this)
        rcases hor with rfl | hk'
        · exact hed
        · exact hcl _ hed k hk'
      have hdis:∀x∈M++a0 :: D,x ∉ done:=by
        intro x hx hxd
        have h1:=((hl x).1 hx)
        have h2:=(hdn x).1 hxd
        simp only [Array.getD_eq_getD_getElem?] at h1 h2
        have h3:=h1.2
        cases hx2:listed[x]? with
        | none=>rw [hx2] at h2; simp at h2
        | some b=>rw [hx2] at h2 h3; simp at h2 h3; rw [h2] at h3; cases h3
      have hii:i<listed.size:=by omega
      have hdone':∀x,x∈i :: done↔(listed.setIfInBounds i true).getD x false=true:=by
        intro j
        have hj:=hdn j
        by_cases e:j=i
        · subst e; simp [Array.getD_eq_getD_getElem?,hii]
        · simp only [List.mem_cons,e,false_or,hj]
          simp [Array.getD_eq_getD_getElem?,Array.getElem?_setIfInBounds_ne (Ne.symm e)]
      have hcl':∀x∈i :: done,∀k∈pre x,k∈i :: done:=by
        intro x hx k hk
        rcases List.mem_cons.1 hx with rfl | hx
        · simp [hpre k hk]
        · simp [hcl x hx k hk]
      have hleft:∀l1 l2,M++a0 :: D=l1++i :: l2→(∀j,j∈l1++l2↔j<ops.size∧(listed.setIfInBounds i true).getD j true=false)∧(l1++l2).length≤fuel∧(l1++l2).Nodup:=by
        intro l1 l2 e
        rw [e] at hlen hnd hl
        have hnd2:(i :: (l1++l2)).Nodup:=(List.perm_middle.nodup_iff).1 hnd
        refine ⟨?_,by simp at hlen ⊢; omega,(List.nodup_cons.1 hnd2).2⟩
        intro j
        have hj:=hl j
        by_cases e:j=i
        · subst e
          have:j ∉ l1++l2:=(List.nodup_cons.1 hnd2).1
          simp [Array.getD_eq_getD_getElem?,hii,this]
        · have:(j∈l1++l2)↔(j∈l1++i :: l2):=by simp [e]
          rw [this,hj]
          simp [Array.getD_eq_getD_getElem?,Array.getElem?_setIfInBounds_ne (Ne.symm e)]
      have hMn:M.Nodup:=(List.nodup_append.1 hnd).1
      rcases List.mem_append.1 hil with him | hid
      · -- one of the tree's trunk
        obtain ⟨M1,M2,rfl⟩:=List.append_of_mem him
        have hna:i≠a0:=fun e=>by
          rw [List.nodup_append] at hnd
          exact hnd.2.2 i him a0 (by simp) e
        have hpo':PO ops st pre (M1++i :: (M2++D)):=by simpa using hpo
        have hor:(∀t∈M1,t ∉ cs)∨((∃oi,ops[i]?=some oi∧ocl oi.op≤2)∧Pr ops st pre a0 i):=by
          rcases (hmo i him).2 with ⟨_,h1,h2⟩ | hpa | hcs
          · exact .inr ⟨h1,h2⟩
          · left
            intro t ht hc
            obtain ⟨k1,k2,rfl⟩:=List.append_of_mem ht
            have hlt2:LT pre a0 cs D done (k1++t :: (k2++i :: M2)):=by simpa using hlt
            rcases LT.bef hc hlt2 i hpa with h2 | h2
            · exact hdis i hil h2
            · exact absurd rfl ((List.nodup_append.1 hMn).2.2 i (by simp [h2]) i (by simp))
          · left
            intro t ht hc
            have htd:t ∉ done:=hdis t (by simp [ht])
            rcases hcs t hc with rfl | h1 | h1
            · exact absurd rfl ((List.nodup_append.1 hMn).2.2 t ht t (by simp))
            · exact htd (hpre t h1)
            · obtain ⟨k1,k2,rfl⟩:=List.append_of_mem ht
              have hle2:LE pre done (k1++t :: (k2++i :: M2++a0 :: D)):=by simpa using hle
              rcases LE.bef hle2 i h1 with h2 | h2
              · exact hdis i hil h2
              · exact absurd rfl ((List.nodup_append.1 hMn).2.2 i (by simp [h2]) i (by simp))
        have hnd3:(M1++[a0]).Nodup:=by
          have:(M1++i :: M2++a0 :: D).Nodup:=hnd
          rw [List.nodup_append] at this ⊢
          refine ⟨(List.nodup_append.1 hMn).1,by simp,fun x hx y hy=>?_⟩
          simp at hy; subst hy
          exact this.2.2 x (by simp [hx]) y (by simp)
        have h1:=regT_other hR hna M1 (fin_hp w) hn hcl hlt (PO.pairOf hpo') hnd3 (fun x hx=>hdis x (by simp at hx ⊢; rcases hx with h | h<;>simp [h])) hpre hor h
        refine step_wpOp hT hQ hr hd (fun a' w' hd' hn' hr' h'=>?_) h1
        obtain ⟨q1,q2,q3⟩:=hleft M1 (M2++a0 :: D) (by simp)
        refine ih (M1++M2) (i :: done) (listed.setIfInBounds i true) (by simp [hsz]) (by simpa using q1) hdone' (by simpa using q2) (by simpa using q3) hcl' hlt.out ?_ (fun x hx=>hmo x (by simp at hx ⊢; rcases hx with h | h<;>simp [h])) hd' (hn'.trans hn) hr' h'
        have:=hpo'.out
        simpa using this
      · rcases List.mem_cons.1 hid with rfl | hid
        · -- the one
          have h1:=regT_one hR M (fin_hp w) hn hcl (LE.left hle) (fun t ht=>(hmo t ht).1) hMn (fun x hx=>hdis x (by simp [hx])) hpre h
          refine step_wpOp hT hQ hr hd (fun a' w' hd' hn' hr' h'=>?_) h1
          obtain ⟨q1,q2,q3⟩:=hleft M D rfl
          exact reg_wpAny hT hR hQ hK fuel (M++D) (i :: done) (listed.setIfInBounds i true) (by simp [hsz]) q1 hdone' q2 q3 hcl' hle.out hpo hd' (hn'.trans hn) hr' h'
        · exact absurd (hpre a0 (hD i hid)) (hdis a0 (by simp))
end
end Go.Mz
