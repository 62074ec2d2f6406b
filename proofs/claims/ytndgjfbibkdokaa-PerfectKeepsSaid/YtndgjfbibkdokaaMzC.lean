/-
  The shape of an operation is sound: what it asks is enough for the model's own run of the operation. It proves nothing of the program by itself.
-/
import Derived.Test.YtndgjfbibkdokaaMzB
import Derived.Laws.Cells
set_option linter.unusedSimpArgs false
set_option linter.unusedVariables false
namespace Go.Mz
open Go.RowKit
/-! ### The table is right -/
def isZ:CK→Value→Bool
  | .i k,.int k' n=>kEq k k' && n == 0
  | .bool,.bool b=>!b
  | .str,.string s=>s.size == 0
  | .ptr,.pointer p=>p.isNone
  | .sl,.slice p n c=>p.isNone && n == 0 && c == 0
  | .fn,.nilFunc=>true
  | .ifc,.nilIface=>true
  | _,_=>false
theorem kEq_eq {k k':IntKind} (h:kEq k k'=true):k=k':=by cases k<;>cases k'<;>first | rfl | cases h
theorem isZ_eq {k:CK} {v:Value} (h:isZ k v=true):v=zeroCK k:=by
  cases k<;>cases v<;>simp only [isZ,Bool.and_eq_true,Bool.false_eq_true] at h<;>first | exact h.elim | skip
  · obtain ⟨h1,h2⟩:=h; rw [←kEq_eq h1]; simp at h2; subst h2; rfl
  · rename_i b; cases b<;>first | rfl | cases h
  · rename_i s
    obtain ⟨d⟩:=s
    have h':d.size=0:=eq_of_beq h
    have e:d=#[]:=Array.eq_empty_of_size_eq_zero h'
    subst e; rfl
  · rename_i p; cases p<;>first | rfl | cases h
  · rename_i p n c; obtain ⟨⟨h1,h2⟩,h3⟩:=h; cases p<;>simp at h1 h2 h3; subst h2; subst h3; rfl
  · rfl
  · rfl
def isZs:List CK→List Value→Bool
  | [],[]=>true
  | k :: ks,v :: vs=>isZ k v && isZs ks vs
  | _,_=>false
theorem isZs_eq {ks:List CK} {vs:List Value} (h:isZs ks vs=true):vs=ks.map zeroCK:=by
  induction ks generalizing vs with
  | nil=>cases vs<;>first | rfl | cases h
  | cons k ks ih=>cases vs with
    | nil=>cases h
    | cons v vs=>simp [isZs] at h; rw [isZ_eq h.1,ih h.2]; rfl
def TI.ok (P:Program) (t:TI):Bool:=
  (match P.info? t.id with
   | some i=>i.size == t.kinds.length && i.bytes == t.bytes && (match i.zero with | some z=>isZs t.kinds (vcells z) | none=>false)
   | none=>false) &&
  (match P.underlying t.id with
   | some d=>decide (dOf d=t.d) && (t.ifc || !(match d with | .interface _=>true | _=>false))
   | none=>false)
structure TyOk (P:Program) (t:TypeId) (ti:TI):Prop where
  info:∃i,P.info? t=some i∧i.size=ti.kinds.length∧i.bytes=ti.bytes∧∃z,i.zero=some z∧vcells z=ti.kinds.map zeroCK
  und:∃d,P.underlying t=some d∧dOf d=ti.d∧(ti.ifc=false→∀ms,d≠.interface ms)
theorem TI.ok_spec {P:Program} {t:TI} (h:t.ok P=true):TyOk P t.id t:=by
  unfold TI.ok at h
  rw [Bool.and_eq_true] at h
  obtain ⟨h1,h2⟩:=h
  constructor
  · split at h1
    · rename_i i hi
      simp at h1
      obtain ⟨⟨ha,hb⟩,hc⟩:=h1
      refine ⟨i,hi,ha,hb,?_⟩
      split at hc
      · rename_i z hz; exact ⟨z,hz,isZs_eq hc⟩
      · cases hc
    · cases h1
  · split at h2
    · rename_i d hd
      simp at h2
      refine ⟨d,hd,h2.1,fun hf ms e=>?_⟩
      subst e
      rcases h2.2 with h | h
      · rw [h] at hf; cases hf
      · cases h
    · cases h2
def fldOk (P:Program):Nat→List Field→Bool
  | _,[]=>true
  | k, f :: r => (f.name != "_") && f.offset == k && (match P.underlying f.type with | some (.int _) => true | _ => false) && fldOk P (k + 1) r
def eqOk (P:Program) (t:TypeId):Bool:=
  (match P.underlying t,P.info? t with | some (.struct fs),some i=>fldOk P 0 fs.toList && i.size == fs.toList.length | _,_=>false) && !P.stoodInHeld t && !P.eqGuardType P.depth t
structure TabOk (P:Program) (T:Tab):Prop where
  ty:∀t,T.find t=TI.bad∨TyOk P t (T.find t)
  eqt:∀t,hasN T.eqs t=true→eqOk P t=true
  fn : ∀ f, T.fok f = true → ∃ fn, P.funcs[f]? = some fn ∧ fn.body.isNone = false ∧ (fn.name == "runtime.NumGoroutine") = false
  meth:∀t name f,findM T.meths t name=some f→∀a w,(method (P.types.size+Made.depth) t (.pointer (some a)) name).run P w=.ok (f,.pointer (some a)) w
  mfn:∀t name f,findM T.meths t name=some f→T.fok f=true
theorem findT_ok {P:Program} {l:List TI} (h:∀x∈l,x.ok P=true) (t:TypeId):findT l t=TI.bad∨TyOk P t (findT l t):=by
  induction l with
  | nil=>exact .inl rfl
  | cons x l ih=>
    unfold findT
    by_cases hx:Nat.beq x.id t=true
    · rw [hx]; right
      have e:x.id=t:=Nat.eq_of_beq_eq_true hx
      have:=TI.ok_spec (h x (by simp))
      rw [e] at this; exact this
    · have hx':Nat.beq x.id t=false:=by cases hh:Nat.beq x.id t<;>first | rfl | exact absurd hh hx
      rw [hx']; exact ih fun y hy=>h y (by simp [hy])
section
variable {P:Program} {T:Tab}
theorem TabOk.of_kinds (hT:TabOk P T) {t:TypeId} (h:(T.find t).kinds≠[]):TyOk P t (T.find t):=(hT.ty t).resolve_left fun e=>h (by rw [e]; rfl)
theorem TabOk.of_d (hT:TabOk P T) {t:TypeId} (h:(T.find t).d≠.other):TyOk P t (T.find t):=(hT.ty t).resolve_left fun e=>h (by rw [e]; rfl)
theorem TabOk.of_ifc (hT:TabOk P T) {t:TypeId} (h:(T.find t).ifc=false):TyOk P t (T.find t):=(hT.ty t).resolve_left fun e=>by rw [e] at h; cases h
theorem TyOk.run_info {t:TypeId} {ti:TI} (h:TyOk P t ti):∃i,(∀w,(typeInfo t).run P w=.ok i w)∧i.size=ti.kinds.length∧i.bytes=ti.bytes∧∃z,i.zero=some z∧vcells z=ti.kinds.map zeroCK:=by
  obtain ⟨i,hi,h⟩:=h.info
  exact ⟨i,fun w=>by simp [typeInfo,hi],h⟩
theorem TyOk.run_size {t:TypeId} {ti:TI} (h:TyOk P t ti) (w:World):(sizeOf t).run P w=.ok ti.kinds.length w:=by
  obtain ⟨i,hi,hs,_⟩:=h.run_info
  simp [sizeOf,hi,hs]
theorem TyOk.run_zero {t:TypeId} {ti:TI} (h:TyOk P t ti):∃z,(∀w,(zeroValue t).run P w=.ok z w)∧vcells z=ti.kinds.map zeroCK:=by
  obtain ⟨i,hi,_,_,z,hz,hv⟩:=h.run_info
  exact ⟨z,fun w=>by simp [zeroValue,hi,hz],hv⟩
theorem TyOk.run_und {t:TypeId} {ti:TI} (h:TyOk P t ti):∃d,(∀w,(underlying t).run P w=.ok d w)∧dOf d=ti.d∧(ti.ifc=false→∀ms,d≠.interface ms):=by
  obtain ⟨d,hd,h⟩:=h.und
  exact ⟨d,fun w=>by simp [underlying,hd],h⟩
theorem dOf_sl {d:TypeDesc} {e:TypeId} (h:dOf d=.sl e):d=.slice e:=by cases d<;>simp [dOf] at h; subst h; rfl
theorem dOf_int {d:TypeDesc} {k:IntKind} (h:dOf d=.int k):d=.int k:=by cases d<;>simp [dOf] at h; subst h; rfl
theorem dOf_bool {d:TypeDesc} (h:dOf d=.bool):d=.bool:=by cases d<;>simp [dOf] at h; rfl
theorem dOf_ptr {d:TypeDesc} (h:dOf d=.ptr):∃e,d=.pointer e:=by cases d<;>simp [dOf] at h; exact ⟨_,rfl⟩
theorem dOf_arr {d:TypeDesc} {n:Nat} {e:TypeId} (h:dOf d=.arr n e):d=.array n e:=by cases d<;>simp [dOf] at h; obtain ⟨rfl,rfl⟩:=h; rfl
theorem dOf_str {d:TypeDesc} (h:dOf d=.str):d=.string:=by cases d<;>simp [dOf] at h; rfl
theorem dOf_st {d:TypeDesc} {l:List (Nat × TypeId)} (h:dOf d=.st l):∃fs,d=.struct fs∧fs.toList.map (fun f=>(f.offset,f.type))=l:=by cases d<;>simp [dOf] at h; exact ⟨_,rfl,by simpa using h⟩
theorem TyOk.run_agg {t:TypeId} {ti:TI} (h:TyOk P t ti) (w:World):(isAgg t).run P w=.ok ti.agg w:=by
  obtain ⟨d,hd,he,_⟩:=h.run_und
  simp only [isAgg,Sem.run_bind,hd,Result.andThen_ok,TI.agg,←he]
  cases d<;>rfl
/-! ### Cells -/
theorem hp_upd_self {H:Hp} {b:Nat} {x:Blk} (h:H b=some x):H.upd b x=H:=by
  funext b'; unfold Hp.upd; split
  · rename_i e; rw [e,h]
  · rfl
theorem hp_setCell {w:World} {b o:Nat} {x:Blk} (h:hp w b=some x) (v:Value):hp (w.setCell ⟨b,o,none⟩ v)=(hp w).upd b ⟨x.cells.set o v,x.ty⟩:=by
  have ho:=hp_obj h
  funext b'
  by_cases e:b'=b
  · subst e
    simp [hp,World.setCell,ho,vis,Hp.upd,Array.getElem?_modify]
  · simp only [Hp.upd,e,if_false]
    simp only [hp,World.setCell,Array.getElem?_modify]
    rw [if_neg (Ne.symm e)]
theorem rest_setCell {w:World} {b o:Nat} {x:Blk} (h:hp w b=some x) (v:Value):Rest w (w.setCell ⟨b,o,none⟩ v):=by
  refine ⟨rfl,rfl,rfl,by simp [World.setCell],fun b' hb' hn=>?_,fun b' hb'=>?_,Nat.le_refl _⟩
  · have e:b≠b':=fun e=>by subst e; rw [h] at hn; cases hn
    simp only [World.setCell,Array.getElem?_modify,e,if_false]
  · rw [hp_setCell h]; unfold Hp.upd; split<;>simp_all
theorem hp_push (w:World) (c:Array Value) (e:TypeId):hp { w with heap:=w.heap.push (.cells c e) }=(hp w).upd w.heap.size ⟨c.toList,e⟩:=by
  funext b
  unfold Hp.upd hp
  simp only [Array.getElem?_push]
  split<;>simp [vis, *]
theorem hp_size (w:World):hp w w.heap.size=none:=by simp [hp]
theorem rest_push (w:World) (o:Obj):Rest w { w with heap:=w.heap.push o }:=by
  refine ⟨rfl,rfl,rfl,by simp,fun b hb hn=>?_,fun b hb=>?_,Nat.le_refl _⟩
  · simp only [Array.getElem?_push]; rw [if_neg (by omega)]
  · cases hx:hp w b with
    | none=>exact absurd hx hb
    | some x=>
      have:=hp_lt hx
      have e:hp { w with heap:=w.heap.push o } b=hp w b:=by unfold hp; simp only [Array.getElem?_push]; rw [if_neg (by omega)]
      rw [e,hx]; simp
theorem addr_add (b o j:Nat):(⟨b,o,none⟩:Addr).add j=⟨b,o+j,none⟩:=by
  unfold Addr.add
  by_cases h:j=0
  · simp [h]
  · simp [h]
theorem run_load_hp {w:World} {b o:Nat} {v:Value} (h:(hp w).get b o=some v):(load ⟨b,o,none⟩).run P w=.ok v w:=by
  simp [cell_of_hp h]
theorem run_cells_hp {w:World} {b o:Nat} {vs:List Value} (h:∀j,j<vs.length→(hp w).get b (o+j)=vs[j]?):(loadCells ⟨b,o,none⟩ vs.length).run P w=.ok ⟨vs⟩ w:=by
  rw [run_loadCells_list w ⟨b,o,none⟩ vs]
  intro j v hj
  rw [addr_add]
  have hl:j<vs.length:=(List.getElem?_eq_some_iff.1 hj).1
  exact cell_of_hp ((h j hl).trans hj)
theorem Hp.get_of {H:Hp} {b o:Nat} {x:Blk} (h:H b=some x):H.get b o=x.cells[o]?:=by simp [Hp.get,h]
theorem run_store_hp {w:World} {b o:Nat} {x:Blk} (h:hp w b=some x) (hl:o<x.cells.length) (hz:x.ty.fz=(0,0)) (v:Value) (hv:v.oneC=true):(store ⟨b,o,none⟩ v).run P w=.ok () (w.setCell ⟨b,o,none⟩ v):=by
  have hv':v.oneCell'=true:=by cases v<;>first | rfl | cases hv
  rw [run_store P w _ v .plain hv']
  have:w.cell? ⟨b,o,none⟩=some x.cells[o]:=cell_of_hp (by rw [Hp.get_of h,List.getElem?_eq_getElem hl])
  simp [this,frozen_of_hp h hz]
theorem run_storeCells_hp:∀(vs:List Value) (w:World) (b o i:Nat) (x:Blk),hp w b=some x→o+i+vs.length≤x.cells.length→x.ty.fz=(0,0)→(∀v∈vs,v.oneC=true)→
    ∃w',(storeCells ⟨b,o,none⟩ vs i).run P w=.ok () w'∧Rest w w'∧hp w'=(hp w).upd b ⟨putL x.cells (o+i) vs,x.ty⟩
  | [],w,b,o,i,x,h,_,_,_=>⟨w,rfl,Rest.refl w,(hp_upd_self h).symm⟩
  | v :: vs,w,b,o,i,x,h,hl,hz,hv=>by
    have h1:=hp_setCell (o:=o+i) h v
    have h1b:hp (w.setCell ⟨b,o+i,none⟩ v) b=some ⟨x.cells.set (o+i) v,x.ty⟩:=by rw [h1]; simp [Hp.upd]
    obtain ⟨w',hr,hrest,hh⟩:=run_storeCells_hp vs (w.setCell ⟨b,o+i,none⟩ v) b o (i+1) _ h1b (by simp at hl ⊢; omega) hz (fun u hu=>hv u (by simp [hu]))
    refine ⟨w',?_,(rest_setCell h v).trans hrest,?_⟩
    · simp only [storeCells,Sem.run_bind,addr_add]
      rw [run_store_hp h (by simp at hl; omega) hz v (hv v (by simp))]
      exact hr
    · rw [hh,h1]
      funext b'
      unfold Hp.upd
      split<;>simp_all [putL,Nat.add_assoc]
theorem rdN_spec {H:Hp} {p:OA} {k:Nat} {G:List Value→Prop} (h:rdN H p k G) :
    ∃vs,vs.length=k∧G vs∧((p=none∧k=0)∨∃b o,p=some ⟨b,o,none⟩∧∃x,H b=some x∧o+k≤x.cells.length∧∀j,j<k→H.get b (o+j)=vs[j]?):=by
  unfold rdN at h
  split at h
  · rename_i b o
    obtain ⟨x,hx,hl,hg⟩:=h
    refine ⟨_,by simp; omega,hg,.inr ⟨b,o,rfl,x,hx,hl,fun j hj=>?_⟩⟩
    rw [Hp.get_of hx]
    simp [List.getElem?_take,hj]
  · exact ⟨[],by simp [h.1],h.2,.inl ⟨rfl,h.1⟩⟩
  · exact h.elim
theorem rdN_mono {H:Hp} {p:OA} {k:Nat} {G G':List Value→Prop} (hg:∀l,G l→G' l) (h:rdN H p k G):rdN H p k G':=by
  unfold rdN at *
  split
  · obtain ⟨x,hx,hl,h⟩:=h; exact ⟨x,hx,hl,hg _ h⟩
  · exact ⟨h.1,hg _ h.2⟩
  · rename_i h1 h2; split at h
    · exact absurd rfl (h1 _ _)
    · exact absurd rfl h2
    · exact h
theorem run_first_hp {w:World} {p:OA} {sz n c:Nat} {vs:List Value}
    (h:(p=none∧n*sz=0∧vs=[])∨∃b o,p=some ⟨b,o,none⟩∧vs.length=n*sz∧∀j,j<vs.length→(hp w).get b (o+j)=vs[j]?) :
    (Builtin.firstCells sz n (.slice p c c)).run P w=.ok ⟨vs⟩ w:=by
  rcases h with ⟨rfl,_,rfl⟩ | ⟨b,o,rfl,hl,hg⟩
  · rfl
  · simp only [Builtin.firstCells]; rw [←hl]; exact run_cells_hp hg
theorem first_slice (sz n:Nat) (p:OA) (a b c d:Nat):Builtin.firstCells sz n (.slice p a b)=Builtin.firstCells sz n (.slice p c d):=by
  cases p<;>rfl
theorem zr_array (n:Nat) (ks:List CK) (z:Array Value) (hz:z.toList=ks.map zeroCK) (hk:ks≠[]) :
    (Array.range (n*ks.length)).map (fun i=>z[i%z.size]!)=⟨zr n ks⟩:=by
  have hs:z.size=ks.length:=by rw [←Array.length_toList,hz]; simp
  apply Array.ext'
  simp only [Array.toList_map,Array.toList_range,zr]
  apply List.map_congr_left
  intro i _
  have hpos:0<ks.length:=List.length_pos_iff.2 hk
  have hlt:i%ks.length<ks.length:=Nat.mod_lt _ hpos
  rw [hs,getElem!_pos z _ (by omega)]
  have:(ks.map zeroCK)[i%ks.length]?=some z[i%ks.length]:=by rw [←hz]; simp
  rw [this]; rfl
end
end Go.Mz
