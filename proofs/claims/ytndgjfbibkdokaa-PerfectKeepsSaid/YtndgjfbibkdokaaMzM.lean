/-
  Regions whose order is drawn: any order does as one order does. It proves nothing of the program by itself.
-/
import Derived.Test.YtndgjfbibkdokaaMzL
set_option linter.unusedSimpArgs false
set_option linter.unusedVariables false
namespace Go.Mz
open Go.RowKit
section
variable {P:Program} {T:Tab} {ops:Array Oper} {st:Nat→List Nat}
def goesA (ops:List Oper) (a:Act) (g:Option (Nat × Bool)):Option Bool:=
  match g with
  | none=>some true
  | some (j,want)=>match ops[j]? with
    | some o=>match o.dst with
      | some d=>match isU (a.eval (.tmp d)) with
        | true=>some false
        | false=>match a.eval (.tmp d) with
          | .bool b=>some (b == want)
          | _=>none
      | none=>none
    | none=>none
theorem gate_iff {l:List Oper} {a:Act} {g:Option (Nat × Bool)} {X Y:Prop}:gateG fmA l a g X Y↔(goesA l a g=some true∧X)∨(goesA l a g=some false∧Y):=by
  unfold gateG goesA
  cases g with
  | none=>simp
  | some jw=>
    obtain ⟨j,want⟩:=jw
    simp only
    cases l[j]? with
    | none=>simp
    | some o=>
      simp only
      cases o.dst with
      | none=>simp
      | some d=>
        simp only [fmA]
        cases hu:isU (a.eval (.tmp d)) with
        | true=>simp
        | false=>
          simp only
          cases a.eval (.tmp d) with
          | bool b=>cases b<;>cases want<;>simp
          | _=>simp
def safe (ops:Array Oper) (y x:Oper):Prop:=∀d,y.dst=some d→d ∉ x.looksAt ops∧x.dst≠some d
theorem goes_put {o:Oper} {a:Act} {dst:Option Tmp} {v:Value} (h:∀d,dst=some d→d ∉ o.looksAt ops):goesA ops.toList (a.put dst v) o.guard=goesA ops.toList a o.guard:=by
  unfold goesA
  cases hg:o.guard with
  | none=>rfl
  | some jw=>
    obtain ⟨j,want⟩:=jw
    simp only
    cases hj:ops.toList[j]? with
    | none=>rfl
    | some oj=>
      simp only
      cases hd:oj.dst with
      | none=>rfl
      | some d=>
        simp only
        have hlook:d∈o.looksAt ops:=by
          have hj':ops[j]?=some oj:=by simpa using hj
          simp [Oper.looksAt,hg,hj',hd]
        rw [Act.eval_put fun d' hd' e=>by cases e; exact h _ hd' hlook]
theorem mem_looks {o:Oper} {t:Tmp} (h:Operand.tmp t∈o.op.operands):t∈o.looksAt ops:=by
  unfold Oper.looksAt
  rw [List.mem_append]
  exact .inl (List.mem_filterMap.2 ⟨_,Array.mem_toList_iff.2 h,rfl⟩)
theorem shp_put {o:Oper} {a:Act} {dst:Option Tmp} {v:Value} (h:∀d,dst=some d→d ∉ o.looksAt ops):shp T o (a.put dst v).eval=shp T o a.eval:=
  shp_congr fun x hx=>Act.eval_put fun d hd e=>h d hd (mem_looks (e▸hx))
theorem loadG_put {o:Oper} {a:Act} {dst:Option Tmp} {v:Value} {H:Hp} (hs:∀d,dst=some d→d ∉ o.looksAt ops∧o.dst≠some d) :
    loadG fmA T (a.put dst v) H o=loadG fmA T a H o:=by
  unfold loadG
  split
  · rename_i ty x d hop hd
    have e1:fmA.ev (a.put dst v) x=fmA.ev a x:=Act.eval_put (a:=a) (x:=x) fun d' hd' e=>(hs d' hd').1 (mem_looks (by rw [hop]; simp [Op.operands,e]))
    have e2:fmA.ev (a.put dst v) (.tmp d)=fmA.ev a (.tmp d):=Act.eval_put (a:=a) (x:=.tmp d) fun d' hd' e=>by
      injection e with e; subst e; exact (hs _ hd').2 hd
    rw [e1,e2]
  · rfl
theorem same_put {t:Nat} {a:Act} {dst:Option Tmp} {v:Value} {H:Hp} (h:∀o,ops[t]?=some o→∀d,dst=some d→d ∉ o.looksAt ops∧o.dst≠some d) :
    sameG fmA T ops.toList (a.put dst v) H t↔sameG fmA T ops.toList a H t:=by
  unfold sameG
  cases ho:ops.toList[t]? with
  | none=>exact Iff.rfl
  | some o=>
    have ho':ops[t]?=some o:=by simpa using ho
    have hs:=h o ho'
    simp only [gate_iff,goes_put (fun d hd=>(hs d hd).1),loadG_put hs]
theorem stab_put {a:Act} {dst:Option Tmp} {v:Value} {H:Hp} {done:List Nat} {X:Prop}:∀{l:List Nat},(∀t∈l,hasN done t=true→∀o,ops[t]?=some o→∀d,dst=some d→d ∉ o.looksAt ops∧o.dst≠some d)→
    (stabG fmA T ops.toList done (a.put dst v) H l X↔stabG fmA T ops.toList done a H l X)
  | [],_=>Iff.rfl
  | t :: l,h=>by
    unfold stabG
    cases hd:hasN done t with
    | true=>simp only; rw [same_put (h t (by simp) hd),stab_put (l:=l) fun x hx=>h x (by simp [hx])]
    | false=>simp only; exact stab_put (l:=l) fun x hx=>h x (by simp [hx])
theorem stab_mono {a:Act} {H:Hp} {done:List Nat} {X X':Prop} (hx:X→X'):∀{l:List Nat},stabG fmA T ops.toList done a H l X→stabG fmA T ops.toList done a H l X'
  | [],h=>hx h
  | t :: l,h=>by
    unfold stabG at *
    split
    · rename_i hd; rw [hd] at h; exact ⟨h.1,stab_mono hx h.2⟩
    · rename_i hd; rw [hd] at h; exact stab_mono hx h
theorem stab_end {a:Act} {H:Hp} {done:List Nat} {X:Prop}:∀{l:List Nat},stabG fmA T ops.toList done a H l X→X
  | [],h=>h
  | t :: l,h=>by
    unfold stabG at h
    split at h
    · exact stab_end h.2
    · exact stab_end h
theorem stab_mem {a:Act} {H:Hp} {done:List Nat} {X:Prop} {t:Nat} (hd:hasN done t=true):∀{l:List Nat},t∈l→stabG fmA T ops.toList done a H l X→sameG fmA T ops.toList a H t
  | [],h,_=>by cases h
  | x :: l,hm,h=>by
    unfold stabG at h
    cases hm with
    | head=>rw [hd] at h; exact h.1
    | tail _ hm=>
      split at h
      · exact stab_mem hd hm h.2
      · exact stab_mem hd hm h
theorem hasN_iff {l:List Nat} {x:Nat}:hasN l x=true↔x∈l:=by
  induction l with
  | nil=>simp [hasN]
  | cons y l ih=>
    unfold hasN
    cases e:Nat.beq y x with
    | true=>have:=Nat.eq_of_beq_eq_true e; subst this; simp
    | false=>
      simp only [cond_false,ih,List.mem_cons]
      have:¬x=y:=fun h=>by subst h; rw [Nat.beq_refl] at e; cases e
      simp [this]
theorem hasN_false {l:List Nat} {x:Nat}:hasN l x=false↔x ∉ l:=by
  rw [←hasN_iff]; cases hasN l x<;>simp
theorem stab_sub {a:Act} {H:Hp} {done done':List Nat} {X:Prop} (h:∀x,x∈done'→x∈done):∀{l:List Nat},stabG fmA T ops.toList done a H l X→stabG fmA T ops.toList done' a H l X
  | [],hh=>hh
  | t :: l,hh=>by
    unfold stabG at *
    split
    · rename_i hd
      have:hasN done t=true:=hasN_iff.2 (h t (hasN_iff.1 hd))
      rw [this] at hh
      exact ⟨hh.1,stab_sub h hh.2⟩
    · split at hh
      · exact stab_sub h hh.2
      · exact stab_sub h hh
theorem put_size (a:Act) (d:Option Nat) (v:Value):(a.put d v).tmps.size=a.tmps.size:=by cases d<;>simp [Act.put]
theorem step_mono {i:Nat} {done:List Nat} {a:Act} {C C':Act→Hp→Prop} {E:VP} {H:Hp} (hf:Fin H) (hc:∀a' H,Fin H→a'.tmps.size=a.tmps.size→C a' H→C' a' H)
    (h:stepG fmA P T ops.toList st i done a C E H):stepG fmA P T ops.toList st i done a C' E H:=by
  unfold stepG at *
  split at h
  · exact h.elim
  · rename_i o ho
    rw [gate_iff] at h ⊢
    rcases h with ⟨hg,h⟩ | ⟨hg,h⟩
    · refine .inl ⟨hg,Shp.run_mono hf (fun v H' hf' hk=>?_) h⟩
      rw [spl_iff] at hk ⊢
      exact stab_mono (hc _ _ hf' (put_size _ _ _)) hk
    · exact .inr ⟨hg,hc _ _ hf (put_size _ _ _) h⟩
theorem reg_done {K:Act→Hp→Prop} {E:VP}:∀(l:List Nat) {done done':List Nat} {a:Act} {H:Hp},Fin H→(∀x,x∈done'→x∈done)→
    regG fmA P T ops.toList st l done a K E H→regG fmA P T ops.toList st l done' a K E H
  | [],_,_,_,_,_,_,h=>h
  | i :: l,done,done',a,H,hf,hd,h=>by
    unfold regG at *
    have h1:=step_mono hf (fun a H hf' _=>reg_done (K:=K) (E:=E) l (done':=i :: done') hf' (fun x hx=>by
      rcases List.mem_cons.1 hx with rfl | hx
      · simp
      · simp [hd x hx])) h
    unfold stepG at *
    split
    · rename_i hn; rw [hn] at h1; exact h1
    · rename_i o ho
      rw [ho] at h1
      simp only at h1
      rw [gate_iff] at h1 ⊢
      rcases h1 with ⟨hg,h1⟩ | ⟨hg,h1⟩
      · refine .inl ⟨hg,Shp.run_mono hf (fun v H' hf' hk=>?_) h1⟩
        rw [spl_iff] at hk ⊢
        exact stab_sub hd hk
      · exact .inr ⟨hg,h1⟩
theorem upd_comm {H:Hp} {b c:Nat} {x y:Blk} (h:b≠c):(H.upd b x).upd c y=(H.upd c y).upd b x:=by
  funext d
  unfold Hp.upd
  by_cases h1:d=b<;>by_cases h2:d=c<;>simp_all
theorem load_shape {o:Oper} {ρ:Operand→Value} (hc:ocl o.op=1):(∀K E H,¬(shp T o ρ).run P T K E H)∨
    ∃ty x b of,o.op=.load ty x∧ρ x=.pointer (some ⟨b,of,none⟩)∧(T.find ty).kinds≠[]∧∀K E H,(shp T o ρ).run P T K E H↔rdV (T.find ty).agg (T.find ty).kinds H b of fun v=>K v H:=by
  obtain ⟨dst,op,ty,pos,after,guard⟩:=o
  cases op<;>simp only [ocl] at hc<;>(try exact absurd hc (by decide))
  case load t x=>
    simp only [shp]
    split
    · rename_i b of hx
      split
      · exact .inl fun _ _ _ h=>h
      · rename_i hk
        exact .inr ⟨t,x,b,of,rfl,hx,by rw [hk]; simp,fun K E H=>Iff.rfl⟩
    · exact .inl fun _ _ _ h=>h
  case call c=>
    obtain ⟨callee,args,ats⟩:=c
    cases callee with
    | builtin b=>cases b<;>simp at hc
    | value f=>simp at hc
    | invoke r n=>simp at hc
theorem store_shape {o:Oper} {ρ:Operand→Value} {ty:TypeId} {x y:Operand} (ho:o.op=.store ty x y):(∀K E H,¬(shp T o ρ).run P T K E H)∨
    ∃(p:Prop) (b of:Nat) (vs:List Value),∀K E H,(shp T o ρ).run P T K E H↔p∧stC H b of vs fun H'=>K undef H':=by
  simp only [shp,ho]
  split
  · rename_i b of hx
    exact .inr ⟨_,b,of,_,fun K E H=>ldT_const⟩
  · exact .inl fun _ _ _ h=>h
def clsOk (st:Nat→List Nat) (t i:Nat) (ot oi:Oper):Bool:=
  match ocl ot.op,ocl oi.op with
  | 0,0 | 0,1 | 0,2 | 0,3 | 0,4=>true
  | 1,0 | 1,1 | 1,2=>true
  | 1,3 | 1,4=>hasN (st i) t
  | 2,0 | 2,1 | 2,2=>true
  | 2,3=>match oi.op,st i with | .store _ _ _,[]=>true | _,_=>false
  | _,_=>false
theorem fmA_put (a:Act) (d:Option Nat) (v:Value):fmA.put a d v=a.put d v:=rfl
theorem fmA_skip (a:Act) (d:Option Nat):fmA.skip a d=a.put d undef:=rfl
theorem fmA_ev (a:Act):fmA.ev a=a.eval:=rfl
theorem upd_ne {H:Hp} {b c:Nat} {x:Blk} (h:c≠b):H.upd b x c=H c:=by unfold Hp.upd; rw [if_neg h]
theorem swap {t i:Nat} {ot oi:Oper} (ht:ops[t]?=some ot) (hi:ops[i]?=some oi) (hap:ot.apart ops oi=true) (hcl:clsOk st t i ot oi=true) (hst:ocl ot.op≤2→st t=[]) (hsti:ocl oi.op≤2→st i=[])
    {done:List Nat} (hsafe:∀x∈st i,hasN done x=true→∀o,ops[x]?=some o→safe ops ot o)
    {a:Act} (hself:∀d,ot.dst=some d→d ∉ ot.looksAt ops∧d<a.tmps.size) {C:Act→Hp→Prop} {E:VP} {H:Hp} (hf:Fin H)
    (h:stepG fmA P T ops.toList st t done a (fun a1 H1=>stepG fmA P T ops.toList st i (t :: done) a1 C E H1) E H) :
    stepG fmA P T ops.toList st i done a (fun a1 H1=>stepG fmA P T ops.toList st t (i :: done) a1 C E H1) E H:=by
  have ht':ops.toList[t]?=some ot:=by simpa using ht
  have hi':ops.toList[i]?=some oi:=by simpa using hi
  obtain ⟨ap1,ap2,ap3⟩:=Oper.apart_spec hap
  have hot:ocl ot.op≤2:=by unfold clsOk at hcl; split at hcl<;>simp_all
  have hst0:=hst hot
  have hcomm:∀(v u:Value),(a.put ot.dst v).put oi.dst u=(a.put oi.dst u).put ot.dst v:=fun v u=>Act.put_comm a v u ap2
  unfold stepG at h ⊢
  simp only [ht',hi'] at h ⊢
  have gi:∀v,goesA ops.toList (a.put ot.dst v) oi.guard=goesA ops.toList a oi.guard:=fun v=>goes_put ap1
  have gt:∀v,goesA ops.toList (a.put oi.dst v) ot.guard=goesA ops.toList a ot.guard:=fun v=>goes_put ap3
  have si:∀v,shp T oi (a.put ot.dst v).eval=shp T oi a.eval:=fun v=>shp_put ap1
  have stt:∀v,shp T ot (a.put oi.dst v).eval=shp T ot a.eval:=fun v=>shp_put ap3
  simp only [gate_iff,hst0,stabG,spl_iff,fmA_put,fmA_skip,fmA_ev,gi,gt,si,stt] at h ⊢
  have hstab:∀(v u:Value) (H':Hp) (X:Prop),stabG fmA T ops.toList (t :: done) ((a.put ot.dst v).put oi.dst u) H' (st i) X→stabG fmA T ops.toList done (a.put oi.dst u) H' (st i) X:=by
    intro v u H' X hs
    have hs':=stab_sub (done':=done) (fun x hx=>by simp [hx]) hs
    rw [hcomm] at hs'
    exact (stab_put fun x hx hd o ho d hd'=>hsafe x hx hd o ho d hd').1 hs'
  rcases h with ⟨hgt,h⟩ | ⟨hgt,h⟩
  · -- the first one goes
    have h3:ocl ot.op=0∨ocl ot.op=1∨ocl ot.op=2:=by omega
    rcases h3 with h0 | h1 | h2
    · obtain ⟨Q,_,hQ⟩:=vs_op (P:=P) (T:=T) (ρ:=a.eval) h0
      rw [hQ] at h
      obtain ⟨v,hq,h⟩:=h
      rcases h with ⟨hgi,h⟩ | ⟨hgi,h⟩
      · refine .inl ⟨hgi,Shp.run_mono hf (fun u H' hf' hk=>?_) h⟩
        refine stab_mono (fun hc=>?_) (hstab v u H' _ hk)
        exact .inl ⟨hgt,(hQ _ _ _).2 ⟨v,hq,by rw [←hcomm]; exact hc⟩⟩
      · exact .inr ⟨hgi,.inl ⟨hgt,(hQ _ _ _).2 ⟨v,hq,by rw [←hcomm]; exact h⟩⟩⟩
    · rcases load_shape (P:=P) (T:=T) (ρ:=a.eval) h1 with hno | ⟨ty,x,b,of,hop,hx,hks,hL⟩
      · exact absurd h (hno _ _ _)
      · rw [hL,rdV_iff] at h
        obtain ⟨v,hv,h⟩:=h
        have hb:H b≠none:=fun e=>rdV_none (o:=of) (v:=v) e (fun _=>hks) hv
        have hre:∀(u:Value) (H':Hp) (X:Prop),rdV (T.find ty).agg (T.find ty).kinds H' b of (·=v)→C ((a.put ot.dst v).put oi.dst u) H'→
            (goesA ops.toList a ot.guard=some true∧(shp T ot a.eval).run P T (fun v H'=>C ((a.put oi.dst u).put ot.dst v) H') E H'):=by
          intro u H' X hr hc
          refine ⟨hgt,(hL _ _ _).2 (rdV_mono (fun w hw=>?_) hr)⟩
          rw [hw,←hcomm]; exact hc
        rcases h with ⟨hgi,h⟩ | ⟨hgi,h⟩
        · refine .inl ⟨hgi,?_⟩
          have hc5:ocl oi.op=0∨ocl oi.op=1∨ocl oi.op=2∨((ocl oi.op=3∨ocl oi.op=4)∧hasN (st i) t=true):=by
            unfold clsOk at hcl
            rw [h1] at hcl
            split at hcl<;>simp_all
          rcases hc5 with c0 | c1 | c2 | ⟨_,hm⟩
          · obtain ⟨Q,_,hQ⟩:=vs_op (P:=P) (T:=T) (ρ:=a.eval) c0
            rw [hQ] at h ⊢
            obtain ⟨u,hq,h⟩:=h
            refine ⟨u,hq,?_⟩
            rw [hsti (by omega)] at h ⊢
            exact .inl (hre u H True hv h)
          · rcases load_shape (P:=P) (T:=T) (ρ:=a.eval) c1 with hno | ⟨ty',x',b',of',_,_,_,hL'⟩
            · exact absurd h (hno _ _ _)
            · rw [hL',rdV_iff] at h
              obtain ⟨u,hu,h⟩:=h
              rw [hL',rdV_iff]
              refine ⟨u,hu,?_⟩
              rw [hsti (by omega)] at h ⊢
              exact .inl (hre u H True hv h)
          · obtain ⟨p,y,f,hN⟩:=ns_op (P:=P) (T:=T) (ρ:=a.eval) c2
            rw [hN] at h ⊢
            refine ⟨h.1,fun b' hb'=>?_⟩
            have h':=h.2 b' hb'
            rw [hsti (by omega)] at h' ⊢
            have hne:b≠b':=fun e=>hb (e▸hb')
            exact .inl (hre (f b') _ True ((rdV_local (by rw [upd_ne hne])).1 hv) h')
          · refine Shp.run_mono hf (fun u H' hf' hk=>?_) h
            have hs:=stab_mem (t:=t) (hasN_iff.2 (by simp)) (hasN_iff.1 hm) hk
            refine stab_mono (fun hc=>?_) (hstab v u H' _ hk)
            refine .inl (hre u H' True ?_ hc)
            unfold sameG at hs
            simp only [ht',gate_iff] at hs
            have hg2:goesA ops.toList ((a.put ot.dst v).put oi.dst u) ot.guard=some true:=by
              rw [goes_put ap3,goes_put fun d hd=>(hself d hd).1]; exact hgt
            rw [hg2] at hs
            rcases hs with ⟨_,hs⟩ | ⟨hs,_⟩
            · unfold loadG at hs
              split at hs
              · rename_i ty2 x2 d2 hop2 hd2
                rw [hop] at hop2; cases hop2
                have e1:fmA.ev ((a.put ot.dst v).put oi.dst u) x=.pointer (some ⟨b,of,none⟩):=by
                  rw [fmA_ev,Act.eval_put (x:=x) fun d' hd' e=>ap3 d' hd' (mem_looks (by rw [hop]; simp [Op.operands,e])),Act.eval_put (x:=x) fun d' hd' e=>(hself d' hd').1 (mem_looks (by rw [hop]; simp [Op.operands,e])),hx]
                have e2:fmA.ev ((a.put ot.dst v).put oi.dst u) (.tmp d2)=v:=by
                  rw [fmA_ev,Act.eval_put (x:=.tmp d2) fun d' hd' e=>by injection e with e; subst e; exact ap2 _ hd2 hd']
                  simp [Act.put,hd2,Act.eval,(hself d2 hd2).2]
                rw [e1,e2] at hs
                exact hs
              · exact hs.elim
            · cases hs
        · refine .inr ⟨hgi,.inl ⟨hgt,(hL _ _ _).2 (rdV_mono (fun w hw=>?_) hv)⟩⟩
          rw [hw,←hcomm]; exact h
    · obtain ⟨p,x,f,hN⟩:=ns_op (P:=P) (T:=T) (ρ:=a.eval) h2
      rw [hN] at h
      obtain ⟨hp,h⟩:=h
      obtain ⟨b0,hb0,_⟩:=hf.fresh 0
      rcases h b0 hb0 with ⟨hgi,_⟩ | ⟨hgi,_⟩
      · have h':∀b,H b=none→(shp T oi a.eval).run P T (fun v_1 H'=>stabG fmA T ops.toList (t :: done) ((a.put ot.dst (f b)).put oi.dst v_1) H' (st i) (C ((a.put ot.dst (f b)).put oi.dst v_1) H')) E (H.upd b x):=by
          intro b hb
          rcases h b hb with ⟨_,hh⟩ | ⟨hh,_⟩
          · exact hh
          · rw [hgi] at hh; cases hh
        refine .inl ⟨hgi,?_⟩
        have hc4:ocl oi.op=0∨ocl oi.op=1∨ocl oi.op=2∨(st i=[]∧∃ty x y,oi.op=.store ty x y):=by
          unfold clsOk at hcl
          rw [h2] at hcl
          split at hcl<;>simp_all
          split at hcl<;>simp_all
        rcases hc4 with c0 | c1 | c2 | ⟨hsi,ty',x',y',hop'⟩
        · obtain ⟨Q,hQf,hQ⟩:=vs_op (P:=P) (T:=T) (ρ:=a.eval) c0
          have hsi:=hsti (by omega)
          simp only [hQ,hsi,stabG] at h' ⊢
          obtain ⟨u0,hq0,_⟩:=h' b0 hb0
          refine ⟨u0,hq0,.inl ⟨hgt,(hN _ _ _).2 ⟨hp,fun b hb=>?_⟩⟩⟩
          obtain ⟨u,hq,hc⟩:=h' b hb
          rw [hQf _ _ hq0 hq,←hcomm]; exact hc
        · have hsi:=hsti (by omega)
          rcases load_shape (P:=P) (T:=T) (ρ:=a.eval) c1 with hno | ⟨ty',x',b',of',_,_,hks',hL'⟩
          · exact absurd (h' b0 hb0) (hno _ _ _)
          · simp only [hL',hsi,stabG] at h' ⊢
            obtain ⟨b1,hb1,hne1⟩:=hf.fresh b'
            obtain ⟨u0,hu0,_⟩:=rdV_iff.1 (h' b1 hb1)
            have hu0':=(rdV_local (upd_ne (Ne.symm hne1))).1 hu0
            have hb':H b'≠none:=fun e=>rdV_none (o:=of') (v:=u0) e (fun _=>hks') hu0'
            rw [rdV_iff]
            refine ⟨u0,hu0',.inl ⟨hgt,(hN _ _ _).2 ⟨hp,fun b hb=>?_⟩⟩⟩
            have hne:b'≠b:=fun e=>hb' (e▸hb)
            obtain ⟨u,hu,hc⟩:=rdV_iff.1 (h' b hb)
            have hu':=(rdV_local (upd_ne hne)).1 hu
            rw [rdV_fun hu0' hu',←hcomm]; exact hc
        · have hsi:=hsti (by omega)
          obtain ⟨q,y,g,hM⟩:=ns_op (P:=P) (T:=T) (ρ:=a.eval) c2
          simp only [hM,hsi,stabG] at h' ⊢
          refine ⟨(h' b0 hb0).1,fun b' hb'=>.inl ⟨hgt,(hN _ _ _).2 ⟨hp,fun b hb=>?_⟩⟩⟩
          have hne:b≠b':=by
            rintro rfl
            simp [Hp.upd] at hb
          have hbn:H b=none:=by rw [upd_ne hne] at hb; exact hb
          have hc:=(h' b hbn).2 b' (by rw [upd_ne (Ne.symm hne)]; exact hb')
          rw [←hcomm,upd_comm (Ne.symm hne)]; exact hc
        · rcases store_shape (P:=P) (T:=T) (ρ:=a.eval) hop' with hno | ⟨q,b',of',vs,hS⟩
          · exact absurd (h' b0 hb0) (hno _ _ _)
          · simp only [hS,hsi,stabG] at h' ⊢
            obtain ⟨b1,hb1,hne1⟩:=hf.fresh b'
            obtain ⟨hq,blk,hblk,hlen,_⟩:=h' b1 hb1
            rw [upd_ne (Ne.symm hne1)] at hblk
            refine ⟨hq,blk,hblk,hlen,.inl ⟨hgt,(hN _ _ _).2 ⟨hp,fun b hb=>?_⟩⟩⟩
            have hne:b≠b':=by
              rintro rfl
              simp [Hp.upd] at hb
            have hbn:H b=none:=by rw [upd_ne hne] at hb; exact hb
            obtain ⟨_,blk',hblk',_,hc⟩:=h' b hbn
            rw [upd_ne (Ne.symm hne),hblk] at hblk'
            cases hblk'
            rw [←hcomm,upd_comm (Ne.symm hne)]; exact hc
      · refine .inr ⟨hgi,.inl ⟨hgt,(hN _ _ _).2 ⟨hp,fun b hb=>?_⟩⟩⟩
        rcases h b hb with ⟨hh,_⟩ | ⟨_,hh⟩
        · rw [hgi] at hh; cases hh
        · rw [←hcomm]; exact hh
  · rcases h with ⟨hgi,h⟩ | ⟨hgi,h⟩
    · refine .inl ⟨hgi,Shp.run_mono hf (fun u H' hf' hk=>?_) h⟩
      refine stab_mono (fun hc=>?_) (hstab undef u H' _ hk)
      exact .inr ⟨hgt,by rw [←hcomm]; exact hc⟩
    · exact .inr ⟨hgi,.inr ⟨hgt,by rw [←hcomm]; exact h⟩⟩
end
end Go.Mz
