/-
  The shape of an operation is sound: all operations in one. It proves nothing of the program by itself.
-/
import Derived.Test.YtndgjfbibkdokaaMzH
set_option linter.unusedSimpArgs false
set_option linter.unusedVariables false
namespace Go.Mz
open Go.RowKit
section
variable {P:Program} {T:Tab} {K E:VP} {w:World}
theorem sat_call {f:FuncId} {args:List Value} {r:RK} (h:(Shp.call f args r).run P T K E (hp w)):SatN P K E w (.ok (.enter f ⟨args⟩) w):=
  ⟨rfl,callW_mono (fun _ _ hv=>ldR_spec hv) (fun _ _ h=>h) h⟩
theorem inv_spec {v:Value} {name:String} {args:List Value} {r:RK} {H:Hp} (h:(Shp.inv v name args r).run P T K E H) :
    ∃t a f,v=.iface t (.pointer (some a))∧findM T.meths t name=some f∧callW P f (.pointer (some a) :: args) K E H:=by
  have h':invW P T v name args (fun v H'=>ldR r v fun v=>K v H') E H:=h
  unfold invW at h'
  split at h'
  · obtain ⟨f,hf,h'⟩:=h'
    exact ⟨_,_,f,rfl,hf,callW_mono (fun _ _ hv=>ldR_spec hv) (fun _ _ h=>h) h'⟩
  · exact h'.elim
theorem shp_sound (hT:TabOk P T) (o:Oper) {ρ:Operand→Value} (hfn:∀g,ρ (.func g)=.func (.func g) #[] #[]) (h:(shp T o ρ).run P T K E (hp w)) :
    SatN P K E w ((execOp ρ o).run P w):=by
  obtain ⟨ρ',hρ0⟩:∃ρ',ρ'=ρ:=⟨_,rfl⟩
  rw [←hρ0]
  have hρ:∀x,ρ x=undef∨ρ x=ρ' x:=fun x=>.inr (by rw [hρ0])
  obtain ⟨dst,op,ty,pos,after,guard⟩:=o
  cases op with
  | move x=>subst hρ0; simp only [shp,frcT_eq] at h; exact ⟨Rest.refl w,h⟩
  | assign x=>subst hρ0; simp only [shp,frcT_eq] at h; exact ⟨Rest.refl w,h⟩
  | pick c a b=>
    simp only [shp,frcT_eq,frcC_eq] at h
    split at h
    · rename_i t ht
      have hc:=eqv hρ ht (by simp [undef])
      have e:(execOp ρ' ⟨dst,.pick c a b,ty,pos,after,guard⟩).run P w=.ok (.value (if t then ρ' a else ρ' b)) w:=by
        simp [execOp,hc,asBool]
      rw [e]
      subst hρ0
      cases t with
      | true=>exact ⟨Rest.refl w,h⟩
      | false=>exact ⟨Rest.refl w,h⟩
    · exact h.elim
  | alloc t=>
    simp only [shp,frcT_eq,frcC_eq] at h
    split at h
    · exact h.elim
    · rename_i k ks hk
      have ht:=hT.of_kinds (t:=t) (by rw [hk]; simp)
      obtain ⟨z,hz,hzc⟩:=ht.run_zero
      have e:(execOp ρ' ⟨dst,.alloc t,ty,pos,after,guard⟩).run P w=((Instr.alloc t true (.tuple #[])).run P w).andThen fun v w'=>.ok (.value v) w':=by
        simp only [execOp,run_vv]
      rw [e]
      refine sat_new (e:=t) (vs:=(T.find t).kinds.map zeroCK) (f:=fun b=>.pointer (some ⟨b,0,none⟩)) ?_ h
      have hz2:z.cells=⟨(T.find t).kinds.map zeroCK⟩:=by rw [←hzc,←vcells_eq]
      simp [Instr.alloc,hz,newVar,newRow,hz2]
  | box t x=>
    simp only [shp,frcT_eq,frcC_eq] at h
    obtain ⟨hu,h,_,_⟩:=fitN h
    have hx:=eqv hρ rfl hu
    have e:(execOp ρ' ⟨dst,.box t x,ty,pos,after,guard⟩).run P w=((Instr.box t (ρ x)).run P w).andThen fun v w'=>.ok (.value v) w':=by
      simp only [execOp,run_vv,hx]
    rw [e]
    refine sat_new (e:=t) (vs:=vcells (ρ x)) (f:=fun b=>.pointer (some ⟨b,0,none⟩)) ?_ h
    have hz2:(ρ x).cells=⟨vcells (ρ x)⟩:=by rw [←vcells_eq]
    simp [Instr.box,newVar,newRow,hz2]
  | build t parts=>
    simp only [shp,frcT_eq,frcC_eq] at h
    obtain ⟨hs,hne⟩:=sat_build hT h
    have e:(execOp ρ' ⟨dst,.build t parts,ty,pos,after,guard⟩).run P w=((Instr.build t ⟨parts.toList.map fun p=>(p.1,ρ p.2)⟩).run P w).andThen fun v w'=>.ok (.value v) w':=by
      simp only [execOp,run_vv]
      have:parts.map (fun (i,x)=>(i,ρ' x))=⟨parts.toList.map fun p=>(p.1,ρ p.2)⟩:=by
        apply Array.ext'; rw [Array.toList_map]; exact parts_eq hρ hne
      rw [this]
    rw [e]; exact hs
  | buildSlice t len parts=>
    simp only [shp,frcT_eq,frcC_eq] at h
    obtain ⟨hs,hne⟩:=sat_buildSlice hT h
    have e:(execOp ρ' ⟨dst,.buildSlice t len parts,ty,pos,after,guard⟩).run P w=((Instr.buildSlice t len ⟨parts.toList.map fun p=>(p.1,ρ p.2)⟩).run P w).andThen fun v w'=>.ok (.value v) w':=by
      simp only [execOp,run_vv]
      have:parts.map (fun (i,x)=>(i,ρ' x))=⟨parts.toList.map fun p=>(p.1,ρ p.2)⟩:=by
        apply Array.ext'; rw [Array.toList_map]; exact parts_eq hρ hne
      rw [this]
    rw [e]; exact hs
  | load t a=>
    simp only [shp,frcT_eq,frcC_eq] at h
    split at h
    · rename_i b o ha
      have ha':=eqv hρ ha (by simp [undef])
      split at h
      · exact h.elim
      · have e:(execOp ρ' ⟨dst,.load t a,ty,pos,after,guard⟩).run P w=((Instr.loadAt t (.pointer (some ⟨b,o,none⟩))).run P w).andThen fun v w'=>.ok (.value v) w':=by
          simp only [execOp,run_vv,ha']
        rw [e]; exact sat_rd hT h
    · exact h.elim
  | store t a x=>
    simp only [shp,frcT_eq,frcC_eq] at h
    split at h
    · rename_i b o ha
      have ha':=eqv hρ ha (by simp [undef])
      have ht:=fit_ty hT (show ldT _ _ _ _ from h)
      obtain ⟨hu,h,hl,hc⟩:=fitN h
      have hx:=eqv hρ rfl hu
      have e:(execOp ρ' ⟨dst,.store t a x,ty,pos,after,guard⟩).run P w=((Instr.storeAt t (.pointer (some ⟨b,o,none⟩)) (ρ x)).run P w).andThen fun _ w'=>.ok .skip w':=by
        simp only [execOp,run_uu,ha',hx]
      rw [e]; exact sat_wr hT ht hl hc h
    · exact h.elim
  | nilCheck x=>
    simp only [shp,frcT_eq,frcC_eq] at h
    split at h
    · rename_i p hx
      have hx':=eqv hρ hx (by simp [undef])
      obtain ⟨b,o,rfl,h⟩:=nn_spec h
      have e:(execOp ρ' ⟨dst,.nilCheck x,ty,pos,after,guard⟩).run P w=.ok (.value (.pointer (some ⟨b,o,none⟩))) w:=by
        simp [execOp,hx']
      rw [e]; exact ⟨Rest.refl w,h⟩
    · rename_i f a c hx
      have hx':=eqv hρ hx (by simp [undef])
      have e:(execOp ρ' ⟨dst,.nilCheck x,ty,pos,after,guard⟩).run P w=.ok (.value (.func (.func f) a c)) w:=by
        simp [execOp,hx']
      rw [e]; exact ⟨Rest.refl w,h⟩
    · exact h.elim
  | binOp op t x y yt=>
    simp only [shp,frcT_eq,frcC_eq] at h
    obtain ⟨h1,h2⟩:=shpBin_def h
    have e:(execOp ρ' ⟨dst,.binOp op t x y yt,ty,pos,after,guard⟩).run P w=((do eqGuard op t x y (ρ x) (ρ y); binOp op t (ρ x) (ρ y):Sem Value).run P w).andThen fun v w'=>.ok (.value v) w':=by
      simp only [execOp,run_vv,eqv hρ rfl h1,eqv hρ rfl h2]
    rw [e]; exact sat_bin hT h
  | unOp op t x=>
    simp only [shp,frcT_eq,frcC_eq] at h
    have h1:=shpUn_def h
    have e:(execOp ρ' ⟨dst,.unOp op t x,ty,pos,after,guard⟩).run P w=((Op.unary op (ρ x)).run P w).andThen fun v w'=>.ok (.value v) w':=by
      simp only [execOp,run_vv,eqv hρ rfl h1]
    rw [e]; exact sat_un h
  | convert s d x=>
    simp only [shp,frcT_eq,frcC_eq] at h
    split at h
    · rename_i k n ks kd hx hs hd
      have hx':=eqv hρ hx (by simp [undef])
      have hts:=hT.of_d (t:=s) (by rw [hs]; simp)
      have htd:=hT.of_d (t:=d) (by rw [hd]; simp)
      obtain ⟨d1,hu1,he1,_⟩:=hts.run_und
      obtain ⟨d2,hu2,he2,_⟩:=htd.run_und
      rw [hs] at he1; rw [hd] at he2
      have:=dOf_int he1; subst this
      have:=dOf_int he2; subst this
      have e:(execOp ρ' ⟨dst,.convert s d x,ty,pos,after,guard⟩).run P w=((convert s d (.int k n)).run P w).andThen fun v w'=>.ok (.value v) w':=by
        simp only [execOp,run_vv,hx']
      rw [e]
      refine satV ?_ h
      simp [convert,hu1,hu2,Conv.intToInt]
    · exact h.elim
  | makeInterface t x=>
    simp only [shp,frcT_eq,frcC_eq] at h
    split at h
    · exact h.elim
    · rename_i hi
      obtain ⟨hu,h,_,_⟩:=fitN h
      have hx:=eqv hρ rfl hu
      have ht:=hT.of_ifc hi
      obtain ⟨d,hud,_,hni⟩:=ht.run_und
      have e:(execOp ρ' ⟨dst,.makeInterface t x,ty,pos,after,guard⟩).run P w=((Instr.makeInterface t (ρ x)).run P w).andThen fun v w'=>.ok (.value v) w':=by
        simp only [execOp,run_vv,hx]
      rw [e]
      refine satV ?_ h
      simp only [Instr.makeInterface,Sem.run_bind,hud,Result.andThen_ok]
      have:=hni hi
      cases d<;>first | rfl | exact absurd rfl (this _)
  | makeFunc fn first cap=>
    cases fn with
    | func f=>
      simp only [shp,frcT_eq,frcC_eq] at h
      split at h
      · rename_i hf
        obtain ⟨hne,h⟩:=cap_spec h
        have hc:=eqmap hρ hne
        have hf':first=#[]:=by apply Array.ext'; simpa using hf
        subst hf'
        have e:(execOp ρ' ⟨dst,.makeFunc (.func f) #[] cap,ty,pos,after,guard⟩).run P w=.ok (.value (.func (.func f) #[] ⟨cap.toList.map ρ⟩)) w:=by
          have:cap.map ρ'=⟨cap.toList.map ρ⟩:=by apply Array.ext'; rw [Array.toList_map]; exact hc
          simp [execOp,Instr.makeFunc,this]
        rw [e]; exact ⟨Rest.refl w,h⟩
      · exact h.elim
    | _=>exact h.elim
  | makeSlice t l c=>
    simp only [shp,frcT_eq,frcC_eq] at h
    obtain ⟨h1,h2⟩:=shpMS_def h
    have e:(execOp ρ' ⟨dst,.makeSlice t l c,ty,pos,after,guard⟩).run P w=((Instr.makeSlice t (ρ l) (ρ c)).run P w).andThen fun v w'=>.ok (.value v) w':=by
      simp only [execOp,run_vv,eqv hρ rfl h1,eqv hρ rfl h2]
    rw [e]; exact sat_makeSlice hT h
  | slice t x lo hi mx=>
    simp only [shp,frcT_eq,frcC_eq] at h
    obtain ⟨h1,h2,h3,h4⟩:=shpSlice_def h
    have e:(execOp ρ' ⟨dst,.slice t x lo hi mx,ty,pos,after,guard⟩).run P w=((Instr.sliceAt t (ρ x) (lo.map ρ) (hi.map ρ) (mx.map ρ)).run P w).andThen fun v w'=>.ok (.value v) w':=by
      simp only [execOp,run_vv,eqv hρ rfl h1,omap_eq hρ h2,omap_eq hρ h3,omap_eq hρ (o:=mx) (by rw [h4]; simp)]
    rw [e]; exact shp_slice hT h
  | fieldAddr t x f=>
    simp only [shp,frcT_eq,frcC_eq] at h
    have h1:=shpFA_def h
    have e:(execOp ρ' ⟨dst,.fieldAddr t x f,ty,pos,after,guard⟩).run P w=((Instr.fieldAt t (ρ x) f).run P w).andThen fun v w'=>.ok (.value v) w':=by
      simp only [execOp,run_vv,eqv hρ rfl h1]
    rw [e]; exact sat_fieldAddr hT h
  | field t x f=>
    simp only [shp,frcT_eq,frcC_eq] at h
    have h1:=shpF_def h
    have e:(execOp ρ' ⟨dst,.field t x f,ty,pos,after,guard⟩).run P w=((Instr.field t (ρ x) f).run P w).andThen fun v w'=>.ok (.value v) w':=by
      simp only [execOp,run_vv,eqv hρ rfl h1]
    rw [e]; exact sat_field hT h
  | indexAddr t x i=>
    simp only [shp,frcT_eq,frcC_eq] at h
    obtain ⟨h1,h2⟩:=shpIA_def h
    have e:(execOp ρ' ⟨dst,.indexAddr t x i,ty,pos,after,guard⟩).run P w=((Instr.indexAt t (ρ x) (ρ i)).run P w).andThen fun v w'=>.ok (.value v) w':=by
      simp only [execOp,run_vv,eqv hρ rfl h1,eqv hρ rfl h2]
    rw [e]; exact sat_indexAddr hT h
  | index t x i=>
    simp only [shp,frcT_eq,frcC_eq] at h
    obtain ⟨h1,h2⟩:=shpIx_def h
    have e:(execOp ρ' ⟨dst,.index t x i,ty,pos,after,guard⟩).run P w=((Instr.index t (ρ x) (ρ i)).run P w).andThen fun v w'=>.ok (.value v) w':=by
      simp only [execOp,run_vv,eqv hρ rfl h1,eqv hρ rfl h2]
    rw [e]; exact sat_index hT h
  | extract t n=>
    simp only [shp,frcT_eq,frcC_eq] at h
    split at h
    · rename_i vs hvs
      split at h
      · rename_i v hv
        have hne:(.tuple vs:Value)≠undef:=by
          intro e; unfold undef at e; cases e; simp at hv
        have hx:=eqv hρ hvs hne
        have hv':vs[n]?=some v:=by simpa using hv
        have e:(execOp ρ' ⟨dst,.extract t n,ty,pos,after,guard⟩).run P w=.ok (.value v) w:=by
          simp [execOp,hx,Instr.extract,hv']
        rw [e]; exact ⟨Rest.refl w,h⟩
      · exact h.elim
    · exact h.elim
  | call c=>
    obtain ⟨callee,args,ats⟩:=c
    cases callee with
    | builtin b=>
      simp only [shp,frcT_eq,frcC_eq] at h
      have hne:=builtin_def h
      have e:(execOp ρ' ⟨dst,.call ⟨.builtin b,args,ats⟩,ty,pos,after,guard⟩).run P w=(builtin b ⟨ats.toList⟩ ty (args.map fun | .const _=>true | _=>false) ⟨args.toList.map ρ⟩).run P w:=by
        have:args.map ρ'=⟨args.toList.map ρ⟩:=by apply Array.ext'; rw [Array.toList_map]; exact eqmap hρ hne
        simp only [execOp,resolve,Sem.run_bind,Sem.run_pure,Result.andThen_ok,invoke,this]
        rfl
      rw [e]; exact sat_builtin hT h
    | value f=>
      have hargs:(∀v∈args.toList.map ρ,v≠undef)→args.map ρ'=⟨args.toList.map ρ⟩:=fun hne=>by apply Array.ext'; rw [Array.toList_map]; exact eqmap hρ hne
      have hrun:∀(g:Nat) (cap:Array Value),ρ' f=.func (.func g) #[] cap→T.fok g=true→(∀v∈args.toList.map ρ,v≠undef)→
          (execOp ρ' ⟨dst,.call ⟨.value f,args,ats⟩,ty,pos,after,guard⟩).run P w=.ok (.enter g ⟨args.toList.map ρ++cap.toList⟩) w:=by
        intro g cap hf hok hne
        simp only [execOp,resolve,Sem.run_bind,Sem.run_pure,Result.andThen_ok,hf,Deferred.ofValue,invoke,run_callFunc hT hok,hargs hne]
        congr 2
        apply Array.ext'; simp
      simp only [shp,frcT_eq,frcC_eq] at h
      split at h
      · rename_i hc; cases hc
      · rename_i g hc
        cases hc
        split at h
        · rename_i hok
          obtain ⟨hne,h⟩:=fitAll_spec h
          have hf:ρ' (.func g)=.func (.func g) #[] #[]:=by rw [hρ0]; exact hfn g
          have e:=hrun g #[] hf hok hne
          simp only [List.append_nil] at e
          rw [e]; exact sat_call h
        · exact h.elim
      · rename_i f' hnf hc
        cases hc
        split at h
        · rename_i g first cap hf
          split at h
          · rename_i hfl
            obtain ⟨hok,h⟩:=h
            obtain ⟨hne,h⟩:=fitAll_spec h
            have hfe:first=#[]:=by apply Array.ext'; simpa using hfl
            subst hfe
            have hf':=eqv hρ hf (by simp [undef])
            rw [hrun g cap hf' hok hne]; exact sat_call h
          · exact h.elim
        · exact h.elim
      · rename_i hc; cases hc
    | invoke recv name=>
      simp only [shp,frcT_eq,frcC_eq] at h
      obtain ⟨hne,h⟩:=fitAll_spec h
      obtain ⟨t,a,f,hv,hm,h⟩:=inv_spec h
      have hv':=eqv hρ hv (by simp [undef])
      have hok:=hT.mfn _ _ _ hm
      have e:(execOp ρ' ⟨dst,.call ⟨.invoke recv name,args,ats⟩,ty,pos,after,guard⟩).run P w=.ok (.enter f ⟨.pointer (some a) :: args.toList.map ρ⟩) w:=by
        have:args.map ρ'=⟨args.toList.map ρ⟩:=by apply Array.ext'; rw [Array.toList_map]; exact eqmap hρ hne
        simp only [execOp,resolve,Sem.run_bind,Sem.run_pure,Result.andThen_ok,hv',invoke,this]
        have e0:(#[Value.iface t (.pointer (some a))]++(⟨args.toList.map ρ⟩:Array Value))[0]?=some (Value.iface t (.pointer (some a))):=by simp
        have e1:(#[Value.iface t (.pointer (some a))]++(⟨args.toList.map ρ⟩:Array Value)).extract 1 (#[Value.iface t (.pointer (some a))]++(⟨args.toList.map ρ⟩:Array Value)).size=⟨args.toList.map ρ⟩:=by
          apply Array.ext'; simp [List.take_of_length_le]
        simp only [e0,e1,callMethod,Sem.run_bind,run_program,Result.andThen_ok,hT.meth _ _ _ hm,run_callFunc hT hok]
        congr 2
        apply Array.ext'; simp [List.take_of_length_le]
      rw [e]
      exact ⟨rfl,h⟩
  | panic x=>
    simp only [shp,frcT_eq,frcC_eq] at h
    split at h
    · rename_i t v hx
      have hx':=eqv hρ hx (by simp [undef])
      have e:(execOp ρ' ⟨dst,.panic x,ty,pos,after,guard⟩).run P w=.halt (.panic (.iface t v)) w:=by
        simp [execOp,hx',Instr.panic]
      rw [e]; exact ⟨rfl,h⟩
    · exact h.elim
  | _=>exact h.elim
end
end Go.Mz
