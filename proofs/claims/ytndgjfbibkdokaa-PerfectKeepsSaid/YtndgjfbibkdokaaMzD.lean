/-
  The shape of an operation is sound, operation by operation. It proves nothing of the program by itself.
-/
import Derived.Test.YtndgjfbibkdokaaMzC
set_option linter.unusedSimpArgs false
set_option linter.unusedVariables false
namespace Go.Mz
open Go.RowKit
def SatN (P:Program) (K E:VP) (w:World):Result Next→Prop
  | .ok (.value v) w'=>Rest w w'∧K v (hp w')
  | .ok .skip w'=>Rest w w'∧K undef (hp w')
  | .ok (.enter f args) w'=>w'=w∧callW P f args.toList K E (hp w)
  | .halt (.panic v) w'=>w'=w∧E v (hp w)
  | _=>False
section
variable {P:Program} {T:Tab} {K E:VP} {w:World}
theorem satV {r:Result Value} {v:Value} (hr:r=.ok v w) (hk:K v (hp w)):SatN P K E w (r.andThen fun v w'=>.ok (.value v) w'):=by
  rw [hr]; exact ⟨Rest.refl w,hk⟩
theorem fitN {agg:Bool} {ks:List CK} {v:Value} {s:Shp} {H:Hp} (h:(Shp.fit agg ks v s).run P T K E H) :
    v≠undef∧s.run P T K E H∧(vcells v).length=ks.length∧(∀x∈vcells v,x≠undef∧x.oneC=true):=ldT_spec h
theorem nn_spec {p:OA} {G:Nat→Nat→Prop} (h:nn p G):∃b o,p=some ⟨b,o,none⟩∧G b o:=by
  unfold nn at h; split at h
  · exact ⟨_,_,rfl,h⟩
  · exact h.elim
theorem sat_new {e:TypeId} {vs:List Value} {f:Nat→Value} {r:Sem Value} (hr:r.run P w=.ok (f w.heap.size) { w with heap:=w.heap.push (.cells ⟨vs⟩ e) })
    (h:∀b,hp w b=none→K (f b) ((hp w).upd b ⟨vs,e⟩)):SatN P K E w ((r.run P w).andThen fun v w'=>.ok (.value v) w'):=by
  rw [hr]
  refine ⟨rest_push w _,?_⟩
  rw [hp_push]
  exact h _ (hp_size w)
theorem run_newRow (e:TypeId) (cs:Array Value):(newRow e cs).run P w=.ok ⟨w.heap.size,0,none⟩ { w with heap:=w.heap.push (.cells cs e) }:=by
  simp [newRow]
theorem sat_rd (hT:TabOk P T) {t:TypeId} {b o:Nat} (h:rdV (T.find t).agg (T.find t).kinds (hp w) b o fun v=>K v (hp w)) :
    SatN P K E w (((Instr.loadAt t (.pointer (some ⟨b,o,none⟩))).run P w).andThen fun v w'=>.ok (.value v) w'):=by
  have go:(Instr.loadAt t (.pointer (some ⟨b,o,none⟩))).run P w=(loadVar t ⟨b,o,none⟩).run P w:=rfl
  rw [go]
  cases ha:(T.find t).agg with
  | true=>
    have ht:TyOk P t (T.find t):=hT.of_d (by unfold TI.agg at ha; split at ha<;>simp_all)
    simp only [rdV,ha] at h
    obtain ⟨vs,hl,hg,hu,hk⟩:=lds_spec h
    refine satV (v:=.agg ⟨vs⟩) ?_ hk
    have hc:=run_cells_hp (P:=P) hg
    rw [hl] at hc
    simp [loadVar,ht.run_agg,ha,ht.run_size,hc]
  | false=>
    simp only [rdV,ha] at h
    split at h
    · rename_i k hk
      have ht:TyOk P t (T.find t):=hT.of_kinds (by rw [hk]; simp)
      obtain ⟨v,hv,hu,_,h⟩:=ld_spec h
      refine satV (v:=v) ?_ h
      simp only [loadVar,Sem.run_bind,ht.run_agg,ha,Result.andThen_ok]
      exact run_load_hp hv
    · exact h.elim
theorem sat_wr (hT:TabOk P T) {t:TypeId} {b o:Nat} {v:Value} (ht:TyOk P t (T.find t)) (hl:(vcells v).length=(T.find t).kinds.length) (hv:∀x∈vcells v,x≠undef∧x.oneC=true)
    (h:stC (hp w) b o (vcells v) fun H'=>K undef H'):SatN P K E w (((Instr.storeAt t (.pointer (some ⟨b,o,none⟩)) v).run P w).andThen fun _ w'=>.ok .skip w'):=by
  obtain ⟨x,hx,⟨hlx,hz⟩,hk⟩:=h
  obtain ⟨w',hr,hrest,hh⟩:=run_storeCells_hp (P:=P) (vcells v) w b o 0 x hx (by omega) hz fun u hu=>(hv u hu).2
  have hsz:v.cells.size=(T.find t).kinds.length:=by rw [←hl,←vcells_eq]; simp
  have:(Instr.storeAt t (.pointer (some ⟨b,o,none⟩)) v).run P w=.ok () w':=by
    simp only [Instr.storeAt,Instr.sureAddr,storeVar,Sem.run_bind,Sem.run_pure,Result.andThen_ok,ht.run_size,hsz,ne_eq,not_true,if_false,Sem.run_ite,vcells_eq,hr]
  rw [this]
  refine ⟨hrest,?_⟩
  rw [hh]; simpa using hk
theorem bnd_spec {x:Option Value} {y d:Nat} {G:Nat→Shp} {H:Hp} (h:(bnd x y d G).run P T K E H) :
    ∃m,((x=none∧m=d)∨∃k i,x=some (.int k i)∧0≤i∧i≤(y:Int)∧m=i.toNat)∧(G m).run P T K E H:=by
  unfold bnd at h
  split at h
  · exact ⟨d,.inl ⟨rfl,rfl⟩,h⟩
  · exact ⟨_,.inr ⟨_,_,rfl,h.1.1,h.1.2,rfl⟩,h.2⟩
  · exact h.elim
theorem shp_slice (hT:TabOk P T) {t:TypeId} {x:Value} {lo hi mx:Option Value} (h:(shpSlice T t x lo hi mx).run P T K E (hp w)) :
    SatN P K E w (((Instr.sliceAt t x lo hi mx).run P w).andThen fun v w'=>.ok (.value v) w'):=by
  unfold shpSlice at h
  split at h
  · rename_i p n c e hd
    split at h
    · exact h.elim
    · rename_i k ks hke
      have ht:=hT.of_d (t:=t) (by rw [hd]; simp)
      have he:=hT.of_kinds (t:=e) (by rw [hke]; simp)
      obtain ⟨d,hu,hde,_⟩:=ht.run_und
      rw [hd] at hde
      have:=dOf_sl hde; subst this
      obtain ⟨hh,h1,h⟩:=bnd_spec h
      obtain ⟨l,h2,h⟩:=bnd_spec h
      refine satV (v:=.slice (slp p l c (T.find e).kinds.length) (hh-l) (c-l)) ?_ h
      simp only [Instr.sliceAt,Instr.slice,Sem.run_bind,hu,Result.andThen_ok]
      rcases h1 with ⟨rfl,rfl⟩ | ⟨k1,i1,rfl,a1,b1,rfl⟩<;>rcases h2 with ⟨rfl,rfl⟩ | ⟨k2,i2,rfl,a2,b2,rfl⟩
      · simp only [Instr.sliceBounds,Sem.run_bind,Sem.run_pure,Result.andThen_ok,he.run_size,slp]
      · simp only [Instr.sliceBounds,Instr.sliceBound,asIntOf,Sem.run_bind,Sem.run_pure,Result.andThen_ok,Sem.run_ite,if_pos (And.intro a2 b2),he.run_size,slp,if_true]
      · simp only [Instr.sliceBounds,Instr.sliceBound,asIntOf,Sem.run_bind,Sem.run_pure,Result.andThen_ok,Sem.run_ite,if_pos (And.intro a1 b1),he.run_size,slp,if_true]
      · simp only [Instr.sliceBounds,Instr.sliceBound,asIntOf,Sem.run_bind,Sem.run_pure,Result.andThen_ok,Sem.run_ite,if_pos (And.intro a1 b1),if_pos (And.intro a2 b2),he.run_size,slp,if_true]
  · exact h.elim
theorem fit_ty (hT:TabOk P T) {t:TypeId} {v:Value} {Q:Value→Prop} (h:ldT (T.find t).agg (T.find t).kinds v Q):TyOk P t (T.find t):=by
  cases ha:(T.find t).agg with
  | true=>exact hT.of_d (by unfold TI.agg at ha; split at ha<;>simp_all)
  | false=>
    simp only [ldT,ha] at h
    split at h
    · rename_i hk; exact hT.of_kinds (by rw [hk]; simp)
    · exact h.elim
theorem foldl_put (vs:List Value) (cs:Array Value) (off k:Nat) :
    ((⟨vs⟩:Array Value).zipIdx k).foldl (fun cs (x:Value × Nat)=>cs.setIfInBounds (off+x.2) x.1) cs=⟨putL cs.toList (off+k) vs⟩:=by
  rw [←Array.foldl_toList]
  simp only [Array.toList_zipIdx]
  induction vs generalizing cs k with
  | nil=>simp [putL]
  | cons v vs ih=>
    simp only [List.zipIdx_cons,List.foldl_cons,ih,putL]
    simp [Nat.add_assoc]
theorem fill_ok (hT:TabOk P T) {pl:Nat→Option (Nat × TypeId)} {place:Nat→Option (Nat × Nat)} (hpl:∀i off t,pl i=some (off,t)→TyOk P t (T.find t)→place i=some (off,(T.find t).kinds.length))
    {H:Hp}:∀(parts:List (Nat × Value)) (cs:List Value) (G:List Value→Shp),
    (fillC T pl cs parts G).run P T K E H→∃out,out.length=cs.length∧Instr.fill place ⟨cs⟩ parts=some ⟨out⟩∧(G out).run P T K E H∧∀p∈parts,p.2≠undef
  | [],cs,G,h=>⟨cs,rfl,rfl,h,by simp⟩
  | (i,v) :: r,cs,G,h=>by
    unfold fillC at h
    split at h
    · rename_i off t hp
      simp only at h
      split at h
      · rename_i hle
        rw [frcT_eq] at h
        have hle':=Nat.le_of_ble_eq_true hle
        have ht:=fit_ty hT (show ldT _ _ _ _ from h)
        obtain ⟨hu,h,hl,hc⟩:=fitN h
        obtain ⟨out,ho,hf,h,hp'⟩:=fill_ok hT hpl r _ G h
        refine ⟨out,by rw [ho,putL_length],?_,h,?_⟩
        · have hs:v.cells.size=(T.find t).kinds.length:=by rw [←hl,←vcells_eq]; simp
          have e:=foldl_put (vcells v) ⟨cs⟩ off 0
          have e2:(⟨vcells v⟩:Array Value)=v.cells:=by rw [←vcells_eq]
          rw [e2] at e
          simp only [Instr.fill,hpl _ _ _ hp ht,hs]
          rw [if_neg (by simp; omega)]
          simp only [Nat.add_zero] at e
          have e3:v.cells.zipIdx.foldl (fun (cs:Array Value) (x:Value × Nat)=>match x with | (c,j)=>cs.setIfInBounds (off+j) c) (⟨cs⟩:Array Value)=(⟨putL cs off (vcells v)⟩:Array Value):=e
          rw [e3]; exact hf
        · intro p hp
          cases hp with
          | head=>exact hu
          | tail _ hp=>exact hp' p hp
      · exact h.elim
    · exact h.elim
end
end Go.Mz
