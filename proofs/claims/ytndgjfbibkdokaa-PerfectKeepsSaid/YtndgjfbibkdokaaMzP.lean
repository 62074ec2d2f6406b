/-
  From code over plain heaps to contracts of calls; places in code; loops. It proves nothing of the program by itself.
-/
import Derived.Test.YtndgjfbibkdokaaMzO
import Derived.KernelRfl
set_option linter.unusedSimpArgs false
set_option linter.unusedVariables false
namespace Go.Mz
open Go.RowKit
/-! ### Results -/
def retV:List Value→Value
  | [v]=>v
  | vs=>.tuple ⟨vs⟩
def resM (T:Tab):List ResultVar→List TypeId→Fr→Hp→(List Value→Prop)→Prop
  | [],_,_,_,K=>K []
  | .tmp t :: r,ty :: ts,F,H,K=>let i:=T.find ty; ldT i.agg i.kinds (F.get t) fun v=>resM T r ts F H fun vs=>K (v :: vs)
  | .cell a ty :: r,_ :: ts,F,H,K=>match F.get a with
    | .pointer (some ⟨b,o,none⟩)=>let i:=T.find ty; match i.kinds with
      | []=>False
      | _ :: _=>rdV i.agg i.kinds H b o fun v=>resM T r ts F H fun vs=>K (v :: vs)
    | _=>False
  | _,[],_,_,_=>False
def retQ (T:Tab) (rs:List ResultVar) (ts:List TypeId) (K E:VP):Ex→FP
  | .normal,F,H=>resM T rs ts F H fun vs=>K (retV vs) H
  | .ret,F,H=>resM T rs ts F H fun vs=>K (retV vs) H
  | .pan v,_,H=>E v H
  | .exit _,_,_=>False
def argF:Nat→List Value→Fr
  | _,[]=>[]
  | k,v :: vs=>(k,v) :: argF (k+1) vs
def resF (tmps:Array Value):ResultVar→Sem Value
  | .tmp t=>pure (tmps.getD t undef)
  | .cell ad t=>do loadVar t (←asAddr (tmps.getD ad undef))
theorem results_eq (fn:Func) (tmps:Array Value):results fn tmps=(do
    let vs ←fn.results.mapM (resF tmps)
    pure (if h:vs.size=1 then vs[0] else .tuple vs)):=by
  unfold results
  congr 1
section
variable {P:Program} {T:Tab}
theorem resM_spec (hT:TabOk P T) {n:Nat} {F:Fr} {a:Act} (hF:FR n F a) {w:World}:∀(rs:List ResultVar) (ts:List TypeId) {K:List Value→Prop},resM T rs ts F (hp w) K→
    ∃vs,K vs∧(rs.mapM (resF a.tmps)).run P w=.ok vs w
  | [],_,K,h=>⟨[],h,rfl⟩
  | .tmp t :: r,ty :: ts,K,h=>by
    simp only [resM] at h
    obtain ⟨hu,h,_,_⟩:=ldT_spec h
    obtain ⟨vs,hk,hr⟩:=resM_spec hT hF r ts h
    refine ⟨F.get t :: vs,hk,?_⟩
    have ht:a.tmps.getD t undef=F.get t:=hF.known (x:=.tmp t) rfl hu
    have h1:(resF a.tmps (.tmp t)).run P w=.ok (F.get t) w:=by simp only [resF,Sem.run_pure,ht]
    simp only [List.mapM_cons,Sem.run_bind,Sem.run_pure,Result.andThen_ok,h1,hr]
  | .cell ad ty :: r,_ :: ts,K,h=>by
    simp only [resM] at h
    split at h
    · rename_i b o e
      split at h
      · exact h.elim
      · rename_i hk
        rw [rdV_iff] at h
        obtain ⟨v,hv,h⟩:=h
        obtain ⟨vs,hkk,hr⟩:=resM_spec hT hF r ts h
        refine ⟨v :: vs,hkk,?_⟩
        have ht:a.tmps.getD ad undef=.pointer (some ⟨b,o,none⟩):=hF.known (x:=.tmp ad) e (by simp [undef])
        have hl:=sat_rd hT (K:=fun u _=>u=v) (E:=fun _ _=>False) (t:=ty) (b:=b) (o:=o) (w:=w) hv
        have hrun:(loadVar ty ⟨b,o,none⟩).run P w=.ok v w:=by
          have e0:(Instr.loadAt ty (.pointer (some ⟨b,o,none⟩))).run P w=(loadVar ty ⟨b,o,none⟩).run P w:=rfl
          rw [e0] at hl
          have hw:∀v' w',(loadVar ty ⟨b,o,none⟩).run P w=.ok v' w'→w'=w:=by
            intro v' w' hh
            have hkn:(T.find ty).kinds≠[]:=by rw [hk]; simp
            have hty:=hT.of_kinds hkn
            unfold loadVar at hh
            simp only [Sem.run_bind,hty.run_agg,Result.andThen_ok] at hh
            cases hag:(T.find ty).agg with
            | true=>
              rw [hag] at hv
              simp only [rdV] at hv
              obtain ⟨xs,hxl,hg,_,_⟩:=lds_spec hv
              have hc:=run_cells_hp (P:=P) hg
              rw [hxl] at hc
              simp [hag,hty.run_size,hc] at hh
              exact hh.2.symm
            | false=>
              rw [hag] at hv
              simp only [rdV] at hv
              split at hv
              · obtain ⟨x,hx,_,_,_⟩:=ld_spec hv
                have hc:=run_load_hp (P:=P) hx
                simp only [hag,Bool.false_eq_true,if_false] at hh
                rw [hc] at hh; cases hh; rfl
              · exact hv.elim
          generalize hgen:(loadVar ty ⟨b,o,none⟩).run P w=res at hl hw
          cases res with
          | ok v' w'=>have:=hw v' w' rfl; subst this; have:=hl.2; subst this; rfl
          | halt x w'=>cases x<;>first | exact hl.elim | exact hl.2.elim
        have h1:(resF a.tmps (.cell ad ty)).run P w=.ok v w:=by simp only [resF,Sem.run_bind,ht,asAddr,Sem.run_pure,Result.andThen_ok,hrun]
        simp only [List.mapM_cons,Sem.run_bind,Sem.run_pure,Result.andThen_ok,h1,hr]
    · exact h.elim
theorem argF_get:∀(vs:List Value) (k t:Nat),(argF k vs).get t=undef∨(k≤t∧vs[t-k]?=some ((argF k vs).get t))
  | [],_,_=>.inl rfl
  | v :: vs,k,t=>by
    simp only [argF,Fr.get]
    cases e:Nat.beq k t with
    | true=>have:=Nat.eq_of_beq_eq_true e; subst this; right; simp
    | false=>
      have hne:k≠t:=fun h=>by subst h; rw [Nat.beq_refl] at e; cases e
      rcases argF_get vs (k+1) t with h | ⟨h1,h2⟩
      · exact .inl h
      · right
        refine ⟨by omega,?_⟩
        have:t-k=(t-(k+1))+1:=by omega
        rw [this]; simpa using h2
theorem callW_of (hT:TabOk P T) (hm:P.follows .mixedOrders=true) {A:An} {f:FuncId} {fn:Func} {c:Code} (hf:P.funcs[f]?=some fn) (hb:fn.body=some c) (hok:okCode A fn.ntmps c=true)
    {args:List Value} (hl:Nat.ble args.length fn.ntmps=true) {K E:VP} {H:Hp} (h:codeM P T A c (retQ T fn.results.toList fn.resultTypes.toList K E) (argF 0 args) H):callW P f args K E H:=by
  intro w hw
  subst hw
  have hl':=Nat.le_of_ble_eq_true hl
  refine calls_of_wp hf hb ?_
  have hF:FR fn.ntmps (argF 0 args) { tmps:=(⟨args⟩:Array Value)++Array.replicate (fn.ntmps-(⟨args⟩:Array Value).size) undef,defers:=[] }:=by
    refine ⟨by simp; omega,fun t=>?_⟩
    rcases argF_get args 0 t with h | ⟨_,h⟩
    · exact .inl h
    · right
      have hlt:t<args.length:=(List.getElem?_eq_some_iff.1 h).1
      simp at h
      rw [Array.getElem?_append_left (by simpa using hlt)]
      simpa using h
  refine wp_mono (codeM_sound hT hm c hok _ _ _ h _ w hF rfl rfl) ?_
  intro e a' w' hq
  have hret:∀F,FR fn.ntmps F a'→a'.defers=[]→Rest w w'→(resM T fn.results.toList fn.resultTypes.toList F (hp w') fun vs=>K (retV vs) (hp w'))→
      a'.defers=[]∧∃v,(results fn a'.tmps).run P w'=.ok v w'∧(Rest w w'∧K v (hp w')):=by
    intro F hF hd hr hk
    obtain ⟨vs,hkk,hrun⟩:=resM_spec hT hF _ _ hk
    refine ⟨hd,retV vs,?_,hr,hkk⟩
    rw [results_eq]
    simp only [Sem.run_bind,Array.mapM_eq_mapM_toList,Sem.run_map,hrun,Result.andThen_ok,Sem.run_pure]
    congr 1
    cases vs with
    | nil=>simp [retV]
    | cons v vs=>cases vs with
      | nil=>simp [retV]
      | cons v' vs=>simp [retV]
  cases e with
  | normal=>obtain ⟨hd,hr,F,hF,hk⟩:=hq; exact hret F hF hd hr hk
  | ret=>obtain ⟨hd,hr,F,hF,hk⟩:=hq; exact hret F hF hd hr hk
  | exit id=>obtain ⟨_,_,_,_,hk⟩:=hq; exact hk.elim
  | goto l=>exact hq.elim
  | panic ch=>cases ch with
    | nil=>exact hq.elim
    | cons c r=>cases r with
      | nil=>obtain ⟨hd,hr,h1,h2,hk⟩:=hq; exact ⟨hd,hr,h1,h2,hk⟩
      | cons _ _=>exact hq.elim
  | outgrown=>exact hq.elim
end
/-! ### Places in code -/
def nav:Code→List Nat→Code
  | .seq a _,0 :: p=>nav a p
  | .seq _ b,1 :: p=>nav b p
  | .cond _ a _,0 :: p=>nav a p
  | .cond _ _ b,1 :: p=>nav b p
  | .block _ c,0 :: p=>nav c p
  | .scope c,0 :: p=>nav c p
  | .loop c,0 :: p=>nav c p
  | c,_=>c
def ctx (P:Program) (T:Tab) (A:An):Code→List Nat→List (FP)→(Ex→FP)→Ex→FP
  | .seq a b,0 :: p,Xs,Q=>ctx P T A a p Xs (thenM (fun F H=>codeM P T A b Q F H) Q)
  | .seq _ b,1 :: p,Xs,Q=>ctx P T A b p Xs Q
  | .cond _ a _,0 :: p,Xs,Q=>ctx P T A a p Xs Q
  | .cond _ _ b,1 :: p,Xs,Q=>ctx P T A b p Xs Q
  | .block id c,0 :: p,Xs,Q=>ctx P T A c p Xs (blkM id Q)
  | .scope c,0 :: p,Xs,Q=>ctx P T A c p Xs Q
  | .loop c,0 :: p,X :: Xs,Q=>ctx P T A c p Xs (thenM (fun F H=>X (F.keep (A.lv (hdR c))) H) Q)
  | _,_,_,Q=>Q
def pathOk:Code→List Nat→Nat→Bool
  | _,[],_=>true
  | .seq a _,0 :: p,k=>pathOk a p k
  | .seq _ b,1 :: p,k=>pathOk b p k
  | .cond _ a _,0 :: p,k=>pathOk a p k
  | .cond _ _ b,1 :: p,k=>pathOk b p k
  | .block _ c,0 :: p,k=>pathOk c p k
  | .scope c,0 :: p,k=>pathOk c p k
  | .loop c,0 :: p,k+1=>pathOk c p k
  | _,_,_=>false
def nodeM (P:Program) (T:Tab) (A:An) (body:Code) (p:List Nat) (Xs:List (FP)) (Q:Ex→FP) (F:Fr) (H:Hp):Prop:=
  codeM P T A (nav body p) (ctx P T A body p Xs Q) F H
def bodyOf (f:Func):Code:=match f.body with | some c=>c | none=>.skip
theorem loop_rule {P:Program} {T:Tab} {A:An} {c:Code} {Q:Ex→FP} {S:Type} (fr:S→Fr) (I:S→Hp→Prop) (μ:S→Hp→Nat)
    (h:∀s H,I s H→∀X:FP,(∀s' H',I s' H'→μ s' H'<μ s H→X (fr s') H')→codeM P T A c (thenM (fun F H=>X (F.keep (A.lv (hdR c))) H) Q) (fr s) H)
    {s:S} {F:Fr} {H:Hp} (hF:F.keep (A.lv (hdR c))=fr s) (hI:I s H):codeM P T A (.loop c) Q F H:=by
  intro X hX
  rw [hF]
  clear hF
  have key:∀n s H,μ s H=n→I s H→X (fr s) H:=by
    intro n
    induction n using Nat.strongRecOn with
    | _ n ih=>
      intro s H hn hI
      exact hX _ _ (h s H hI X fun s' H' hI' hlt=>ih _ (hn▸hlt) s' H' rfl hI')
  exact key _ s H rfl hI
theorem loop_rule2 {P:Program} {T:Tab} {A:An} {c:Code} {Q:Ex→FP} (J:Fr→Nat→Hp→Prop)
    (h:∀r m H,J r m H→∀X:FP,(∀r' m' H',J r' m' H'→m'<m→X r' H')→codeM P T A c (thenM (fun F H=>X (F.keep (A.lv (hdR c))) H) Q) r H)
    {r F:Fr} {m:Nat} {H:Hp} (hF:F.keep (A.lv (hdR c))=r) (hJ:J r m H):codeM P T A (.loop c) Q F H:=
  loop_rule (S:=Fr × Nat) (·.1) (fun s H=>J s.1 s.2 H) (fun s _=>s.2) (fun s H hI X hX=>h s.1 s.2 H hI X fun r' m' H' hJ hl=>hX (r',m') H' hJ hl) (s:=(r,m)) hF hJ
/-! ### The table, checked by computing -/
def allT (P:Program):List TI→Bool
  | []=>true
  | x :: r=>match x.ok P with | true=>allT P r | false=>false
theorem allT_spec {P:Program} {l:List TI} (h:allT P l=true):∀x∈l,x.ok P=true:=by
  induction l with
  | nil=>simp
  | cons x l ih=>
    unfold allT at h
    split at h
    · rename_i hx
      intro y hy
      cases hy with
      | head=>exact hx
      | tail _ hy=>exact ih h y hy
    · cases h
def fnsOk (P:Program) (T:Tab):Bool:=allN (fun f=>match T.fok f with
  | true=>(match P.funcs.toList[f]? with
    | some fn => !fn.body.isNone && !(fn.name == "runtime.NumGoroutine")
    | none=>false)
  | false=>true) (rng T.fns)
theorem tabOk_of {P:Program} {T:Tab} (h1:allT P T.tys=true) (h2:allN (eqOk P) T.eqs=true) (h3:fnsOk P T=true) (h4:T.meths=[]):TabOk P T where
  ty:=findT_ok (allT_spec h1)
  eqt:=fun t ht=>allN_iff.1 h2 t (hasN_iff.1 ht)
  fn:=fun f hf=>by
    have hlt:f<T.fns:=by
      unfold Tab.fok at hf
      cases hb:Nat.blt f T.fns with
      | true=>exact Nat.le_of_ble_eq_true hb
      | false=>rw [hb] at hf; cases hf
    have:=allN_iff.1 h3 f (mem_rng.2 hlt)
    rw [hf] at this
    simp only at this
    split at this
    · rename_i fn hfn
      simp only [Bool.and_eq_true,Bool.not_eq_true'] at this
      exact ⟨fn,by simpa using hfn,this.1,this.2⟩
    · cases this
  meth:=fun t name f hf=>by rw [h4] at hf; cases hf
  mfn:=fun t name f hf=>by rw [h4] at hf; cases hf
/-! ### Values, taken apart -/
def asI:Value→Int | .int _ n=>n | _=>0
def asB:Value→Bool | .bool b=>b | _=>false
def asP:Value→OA | .pointer p=>p | _=>none
def asS1:Value→OA | .slice p _ _=>p | _=>none
def asS2:Value→Nat | .slice _ n _=>n | _=>0
def asS3:Value→Nat | .slice _ _ c=>c | _=>0
def asF1:Value→Nat | .func (.func g) _ _=>g | _=>0
def asF2:Value→List Value | .func _ _ c=>c.toList | _=>[]
def asStr:Value→ByteArray | .string s=>s | _=>ByteArray.empty
def nthV:List Value→Nat→Value
  | [],_=>undef
  | x :: _,0=>x
  | _ :: r,n+1=>nthV r n
def cellV:Value→Nat→Value | .agg cs,i=>nthV cs.toList i | _,_=>undef
def tupV:Value→Nat→Value | .tuple cs,i=>nthV cs.toList i | _,_=>undef
def nw (H:Hp) (x:Blk) (K:Nat→Hp→Prop):Prop:=∀b,H b=none→K b (H.upd b x)
def mkS (l c:Int) (e:TypeId) (ks:List CK) (bytes:Nat) (H:Hp) (K:Nat→Hp→Prop):Prop:=
  (0≤l∧l≤c∧c<2 ^ 63∧(bytes:Int)*c≤2 ^ 48)∧nw H ⟨zr c.toNat ks,e⟩ K
def ix (p:OA) (n:Nat) (i:Int) (sz:Nat) (G:Nat→Nat→Prop):Prop:=nn p fun b o=>(0≤i∧i<(n:Int))∧G b (o+i.toNat*sz)
def dcall (P:Program) (T:Tab) (g:Nat) (args:List Value) (r:RK) (E:VP) (H:Hp) (K:VP):Prop:=
  T.fok g=true∧callW P g args (fun v H'=>ldR r v fun v=>K v H') E H
def icall (P:Program) (T:Tab) (v:Value) (name:String) (args:List Value) (r:RK) (E:VP) (H:Hp) (K:VP):Prop:=
  invW P T v name args (fun v H'=>ldR r v fun v=>K v H') E H
end Go.Mz
