/-
  Regions of operations over plain heaps, over a frame that knows some slots and over the model's own. It proves nothing of the program by itself.
-/
import Derived.Test.YtndgjfbibkdokaaMzI
set_option linter.unusedSimpArgs false
set_option linter.unusedVariables false
namespace Go.Mz
open Go.RowKit
/-! ### Frames -/
abbrev Fr:=List (Nat × Value)
abbrev FP:=Fr→Hp→Prop
def Fr.get:Fr→Nat→Value
  | [],_=>undef
  | x :: r,t=>bif Nat.beq x.1 t then x.2 else Fr.get r t
def Fr.ev (F:Fr):Operand→Value
  | .tmp t=>F.get t
  | .const v=>v
  | .global g=>.pointer (some ⟨g,0,none⟩)
  | .func f=>.func (.func f) #[] #[]
def Fr.put (F:Fr):Option Nat→Value→Fr
  | some d,v=>(d,v) :: F
  | none,_=>F
def Fr.keep (F:Fr):List Nat→Fr
  | []=>[]
  | t :: r=>(t,F.get t) :: Fr.keep F r
def remN:List Nat→Nat→List Nat
  | [],_=>[]
  | x :: r,d=>bif Nat.beq x d then remN r d else x :: remN r d
def remO (l:List Nat):Option Nat→List Nat
  | some d=>remN l d
  | none=>l
def addO (l:List Nat):Option Nat→List Nat
  | some d=>d :: l
  | none=>l
def isU:Value→Bool
  | .tuple ⟨[]⟩=>true
  | _=>false
structure Fm (φ:Type) where
  ev:φ→Operand→Value
  put:φ→Option Nat→Value→φ
  skip:φ→Option Nat→φ
  isSk:φ→Nat→Bool
def fmF:Fm (Fr × List Nat):=⟨fun F=>Fr.ev F.1,fun F d v=>(F.1.put d v,remO F.2 d),fun F d=>(F.1.put d undef,addO F.2 d),fun F d=>hasN F.2 d⟩
def fmA:Fm Act:=⟨Act.eval,Act.put,fun a d=>a.put d undef,fun a d=>isU (a.eval (.tmp d))⟩
/-! ### Regions -/
def bcase (b:Bool) (X Y:Prop):Prop:=match b with | true=>X | false=>Y
def spl (g:Bool) (v:Value) (K:Value→Prop):Prop:=
  match g with
  | true=>match v with
    | .bool b=>bcase b (K (.bool true)) (K (.bool false))
    | v=>K v
  | false=>K v
theorem spl_iff (g:Bool) (v:Value) (K:Value→Prop):spl g v K=K v:=by
  cases g with
  | false=>rfl
  | true=>cases v with
    | bool b=>cases b<;>rfl
    | _=>rfl
def isPk:Op→Option Nat→Bool
  | .pick (.tmp c) _ _,some d=>Nat.beq c d
  | _,_=>false
def isG:List Oper→Nat→Option Nat→Bool
  | [],_,_=>false
  | o :: r,i,d=>match isPk o.op d with
    | true=>true
    | false=>match o.guard with
      | some (j,_)=>bif Nat.beq j i then true else isG r i d
      | none=>isG r i d
section
variable {φ:Type} (fm:Fm φ) (P:Program) (T:Tab) (ops:List Oper) (st:Nat→List Nat)
def gateG (F:φ) (g:Option (Nat × Bool)) (X Y:Prop):Prop:=
  match g with
  | none=>X
  | some (j,want)=>match ops[j]? with
    | some o=>match o.dst with
      | some d=>match fm.isSk F d with
        | true=>Y
        | false=>match fm.ev F (.tmp d),want with
          | .bool true,true=>X
          | .bool false,false=>X
          | .bool true,false=>Y
          | .bool false,true=>Y
          | _,_=>False
      | none=>False
    | none=>False
def loadG (F:φ) (H:Hp) (o:Oper):Prop:=
  match o.op,o.dst with
  | .load ty a,some d=>match fm.ev F a with
    | .pointer (some ⟨b,o,none⟩)=>let i:=T.find ty; rdV i.agg i.kinds H b o fun v=>v=fm.ev F (.tmp d)
    | _=>False
  | _,_=>False
def sameG (F:φ) (H:Hp) (t:Nat):Prop:=
  match ops[t]? with
  | some o=>gateG fm ops F o.guard (loadG fm T F H o) True
  | none=>False
def stabG (done:List Nat) (F:φ) (H:Hp):List Nat→Prop→Prop
  | [],X=>X
  | t :: r,X=>match hasN done t with
    | true=>sameG fm T ops F H t∧stabG done F H r X
    | false=>stabG done F H r X
def stepG (i:Nat) (done:List Nat) (F:φ) (C:φ→Hp→Prop) (E:VP) (H:Hp):Prop:=
  match ops[i]? with
  | none=>False
  | some o=>gateG fm ops F o.guard
      ((shp T o (fm.ev F)).run P T (fun v H'=>spl (isG ops i o.dst) v fun v=>stabG fm T ops done (fm.put F o.dst v) H' (st i) (C (fm.put F o.dst v) H')) E H)
      (C (fm.skip F o.dst) H)
def regG:List Nat→List Nat→φ→(φ→Hp→Prop)→(VP)→Hp→Prop
  | [],_,F,K,_,H=>K F H
  | i :: l,done,F,K,E,H=>stepG fm P T ops st i done F (fun F' H'=>regG l (i :: done) F' K E H') E H
end
/-! ### Shapes do with what they are told -/
theorem rdV_mono {agg:Bool} {ks:List CK} {H:Hp} {b o:Nat} {K K':Value→Prop} (hk:∀v,K v→K' v) (h:rdV agg ks H b o K):rdV agg ks H b o K':=by
  unfold rdV at *
  cases agg with
  | true=>exact lds_mono (fun _=>hk _) h
  | false=>
    simp only at *
    split at h
    · exact ld_mono hk h
    · exact h.elim
def Fin (H:Hp):Prop:=∃N,∀b,N≤b→H b=none
theorem fin_hp (w:World):Fin (hp w):=⟨w.heap.size,fun b hb=>by unfold hp; rw [Array.getElem?_eq_none hb]; rfl⟩
theorem Fin.upd {H:Hp} (h:Fin H) (b:Nat) (x:Blk):Fin (H.upd b x):=by
  obtain ⟨N,h⟩:=h
  refine ⟨max N (b+1),fun c hc=>?_⟩
  unfold Hp.upd
  rw [if_neg (by omega),h c (by omega)]
theorem Fin.fresh {H:Hp} (h:Fin H) (c:Nat):∃b,H b=none∧b≠c:=by
  obtain ⟨N,h⟩:=h
  exact ⟨max N (c+1),h _ (by omega),by omega⟩
section
variable {P:Program} {T:Tab}
theorem stC_mono {H:Hp} {b o:Nat} {vs:List Value} {K K':Hp→Prop} (hf:Fin H) (hk:∀H',Fin H'→K H'→K' H') (h:stC H b o vs K):stC H b o vs K':=by
  obtain ⟨x,hx,hl,h⟩:=h
  exact ⟨x,hx,hl,hk _ (hf.upd _ _) h⟩
theorem callW_mono' {f:FuncId} {args:List Value} {K E K':VP} {H:Hp} (hk:∀v H',Fin H'→K v H'→K' v H')
    (h:callW P f args K E H):callW P f args K' E H:=fun w hw=>(h w hw).mono fun e w' ⟨hr,h⟩=>⟨hr,by
      split at h
      · exact hk _ _ (fin_hp _) h
      · exact h
      · exact h.elim⟩
theorem Shp.run_mono {s:Shp}:∀{K K' E:VP} {H:Hp},Fin H→(∀v H',Fin H'→K v H'→K' v H')→s.run P T K E H→s.run P T K' E H:=by
  induction s with
  | fail=>intro _ _ _ _ _ _ h; exact h
  | val v=>intro _ _ _ _ hf hk h; exact hk _ _ hf h
  | dec k v=>intro _ _ _ _ hf hk h; exact ld_mono (fun v=>hk v _ hf) h
  | rd agg ks b o=>intro _ _ _ _ hf hk h; exact rdV_mono (fun v=>hk v _ hf) h
  | new x f=>intro _ _ _ _ hf hk h b hb; exact hk _ _ (hf.upd _ _) (h b hb)
  | wr b o vs=>intro _ _ _ _ hf hk h; exact stC_mono hf (fun H' hf'=>hk _ H' hf') h
  | app e ks bytes p n c p2 m=>
    intro K K' E H hf hk h
    have h0:appM e ks bytes p n c p2 m H (fun p n c H'=>K (.slice p n c) H'):=h
    show appM e ks bytes p n c p2 m H (fun p n c H'=>K' (.slice p n c) H')
    have key:∀p2 m,appO e ks bytes p n c p2 m H (fun p n c H'=>K (.slice p n c) H')→appO e ks bytes p n c p2 m H (fun p n c H'=>K' (.slice p n c) H'):=by
      intro p2 m h0
      unfold appO at h0 ⊢
      refine rdN_mono (fun src ⟨h1,h2⟩=>⟨h1,?_⟩) h0
      split
      · rename_i hle
        rw [if_pos hle] at h2
        split
        · exact stC_mono hf (fun H' hf'=>hk _ H' hf') h2
        · exact hk _ _ hf h2
        · rename_i h3 h4; split at h2
          · exact absurd rfl (h3 _ _)
          · exact absurd rfl h4
          · exact h2
      · rename_i hle
        rw [if_neg hle] at h2
        exact ⟨h2.1,rdN_mono (fun old h c' b hc hc2 hb=>hk _ _ (hf.upd _ _) (h c' b hc hc2 hb)) h2.2⟩
    exact h0.imp (key _ _) fun ⟨a,b⟩=>⟨a,key _ _ b⟩
  | cpy sz p n p2 m=>
    intro K K' E H hf hk h
    have h0:cpyM sz p n p2 m H (fun i H'=>K (.int .i64 i) H'):=h
    show cpyM sz p n p2 m H (fun i H'=>K' (.int .i64 i) H')
    unfold cpyM at h0 ⊢
    refine rdN_mono (fun src ⟨h1,h2⟩=>⟨h1,?_⟩) h0
    split
    · exact stC_mono hf (fun H' hf'=>hk _ H' hf') h2
    · exact hk _ _ hf h2
    · rename_i h3 h4; split at h2
      · exact absurd rfl (h3 _ _)
      · exact absurd rfl h4
      · exact h2
  | clr ks p n=>
    intro K K' E H hf hk h
    have h':clrM ks p n H (fun H'=>K (.tuple #[]) H'):=h
    show clrM ks p n H (fun H'=>K' (.tuple #[]) H')
    unfold clrM at *
    split
    · exact stC_mono hf (fun H' hf'=>hk _ H' hf') h'
    · rename_i h3; split at h'
      · exact absurd rfl (h3 _ _)
      · exact h'
  | call f args r=>intro K K' E H hf hk h; exact callW_mono' (fun v H' hf'=>ldR_mono fun v=>hk v H' hf') h
  | inv v name args r=>
    intro K K' E H hf hk h
    have h':invW P T v name args (fun v H'=>ldR r v fun v=>K v H') E H:=h
    show invW P T v name args (fun v H'=>ldR r v fun v=>K' v H') E H
    unfold invW at *
    split at h'
    · obtain ⟨f,hf',h'⟩:=h'
      exact ⟨f,hf',callW_mono' (fun v H' hf'=>ldR_mono fun v=>hk v H' hf') h'⟩
    · exact h'.elim
  | pan v=>intro _ _ _ _ _ _ h; exact h
  | req p s ih=>intro _ _ _ _ hf hk h; exact ⟨h.1,ih hf hk h.2⟩
  | fit agg ks v s ih=>intro _ _ _ _ hf hk h; exact ldT_mono (fun _=>ih hf hk) h
  | opt p f ih=>
    intro K K' E H hf hk h
    obtain ⟨b,o,rfl,h⟩:=nn_spec h
    exact ih _ _ hf hk h
theorem shp_congr {o:Oper} {ρ ρ':Operand→Value} (h:∀x∈o.op.operands,ρ x=ρ' x):shp T o ρ=shp T o ρ':=by
  obtain ⟨dst,op,ty,pos,after,guard⟩:=o
  cases op<;>simp only [Op.operands] at h<;>simp only [shp]<;>try rfl
  case move x=>rw [h x (by simp)]
  case assign x=>rw [h x (by simp)]
  case pick c a b=>rw [h c (by simp),h a (by simp),h b (by simp)]
  case box t x=>rw [h x (by simp)]
  case build t ps=>
    have:ps.toList.map (fun p=>(p.1,ρ p.2))=ps.toList.map (fun p=>(p.1,ρ' p.2)):=List.map_congr_left fun p hp=>by rw [h p.2 (by simp; exact ⟨_,Array.mem_toList_iff.1 hp⟩)]
    rw [this]
  case buildSlice t n ps=>
    have:ps.toList.map (fun p=>(p.1,ρ p.2))=ps.toList.map (fun p=>(p.1,ρ' p.2)):=List.map_congr_left fun p hp=>by rw [h p.2 (by simp; exact ⟨_,Array.mem_toList_iff.1 hp⟩)]
    rw [this]
  case load t a=>rw [h a (by simp)]
  case store t a x=>rw [h a (by simp),h x (by simp)]
  case nilCheck x=>rw [h x (by simp)]
  case binOp op t x y yt=>rw [h x (by simp),h y (by simp)]
  case unOp op t x=>rw [h x (by simp)]
  case convert s d x=>rw [h x (by simp)]
  case makeInterface t x=>rw [h x (by simp)]
  case makeFunc fn first cap=>
    cases fn<;>try rfl
    have:cap.toList.map ρ=cap.toList.map ρ':=List.map_congr_left fun x hx=>h x (by simp; exact .inr (Array.mem_toList_iff.1 hx))
    simp only [this]
  case makeSlice t l c=>rw [h l (by simp),h c (by simp)]
  case slice t x lo hi mx=>
    have h1:lo.map ρ=lo.map ρ':=by cases lo<;>simp; exact h _ (by simp)
    have h2:hi.map ρ=hi.map ρ':=by cases hi<;>simp; exact h _ (by simp)
    have h3:mx.map ρ=mx.map ρ':=by cases mx<;>simp; exact h _ (by simp)
    rw [h x (by simp),h1,h2,h3]
  case fieldAddr t x f=>rw [h x (by simp)]
  case field t x f=>rw [h x (by simp)]
  case indexAddr t x i=>rw [h x (by simp),h i (by simp)]
  case index t x i=>rw [h x (by simp),h i (by simp)]
  case extract x n=>rw [h x (by simp)]
  case call c=>
    obtain ⟨callee,args,ats⟩:=c
    have ha:args.toList.map ρ=args.toList.map ρ':=List.map_congr_left fun x hx=>h x (by simp [Call.operands]; exact .inr (Array.mem_toList_iff.1 hx))
    cases callee with
    | builtin b=>simp only [ha]
    | value f=>
      have hf:=h f (by simp [Call.operands])
      cases f<;>simp only [ha,hf]
    | invoke r n=>simp only [ha,h r (by simp [Call.operands])]
  case panic x=>rw [h x (by simp)]
end
end Go.Mz
