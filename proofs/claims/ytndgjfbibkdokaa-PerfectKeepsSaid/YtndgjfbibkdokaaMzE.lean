/-
  The shape of an operation is sound: the rest of the operations. It proves nothing of the program by itself.
-/
import Derived.Test.YtndgjfbibkdokaaMzD
import Derived.Laws.StructEq
set_option linter.unusedSimpArgs false
set_option linter.unusedVariables false
namespace Go.Mz
open Go.RowKit
section
variable {P:Program} {T:Tab} {K E:VP} {w:World}
theorem run_mapM {α β:Type} (g:α→Sem β) (h:α→β) (xs:Array α) (hg:∀x∈xs.toList,(g x).run P w=.ok (h x) w):(xs.mapM g).run P w=.ok (xs.map h) w:=by
  rw [Array.mapM_eq_mapM_toList]
  have:∀l:List α,(∀x∈l,(g x).run P w=.ok (h x) w)→(l.mapM g).run P w=.ok (l.map h) w:=by
    intro l
    induction l with
    | nil=>intro _; simp
    | cons x l ih=>intro hl; simp [hl x (by simp),ih fun y hy=>hl y (by simp [hy])]
  rw [Sem.run_map,this _ hg]
  simp only [Result.andThen_ok]
  congr 1
  apply Array.ext'
  simp
theorem allK_mem (hT:TabOk P T) {offs:List (Nat × TypeId)} (h:allK T offs=true):∀x∈offs,TyOk P x.2 (T.find x.2):=by
  induction offs with
  | nil=>simp
  | cons y r ih=>
    unfold allK at h
    split at h
    · cases h
    · rename_i hk
      intro x hx
      cases hx with
      | head=>exact hT.of_kinds (by rw [hk]; simp)
      | tail _ hx=>exact ih h x hx
theorem sat_build (hT:TabOk P T) {t:TypeId} {parts:List (Nat × Value)} (h:(shpBuild T t parts).run P T K E (hp w)) :
    SatN P K E w (((Instr.build t ⟨parts⟩).run P w).andThen fun v w'=>.ok (.value v) w')∧∀p∈parts,p.2≠undef:=by
  unfold shpBuild at h
  simp only at h
  split at h
  · rename_i offs hd
    split at h
    · rename_i hall
      have ht:=hT.of_d (t:=t) (by rw [hd]; simp)
      obtain ⟨d,hu,hde,_⟩:=ht.run_und
      rw [hd] at hde
      obtain ⟨fs,rfl,hfs⟩:=dOf_st hde
      obtain ⟨z,hz,hzc⟩:=ht.run_zero
      have hall':=allK_mem hT hall
      have hmap:=run_mapM (P:=P) (w:=w) (fun f:Field=>do pure (f.offset,←sizeOf f.type)) (fun f=>(f.offset,(T.find f.type).kinds.length)) fs (fun f hf=>by
        have ho:(f.offset,f.type)∈offs:=by rw [←hfs]; exact List.mem_map.2 ⟨f,hf,rfl⟩
        have:=(hall' _ ho).run_size w
        simp at this
        simp [this])
      have hpl:∀(i off:Nat) (t':TypeId),nthF offs i=some (off,t')→∃f,fs.toList[i]?=some f∧f.offset=off∧f.type=t':=by
        intro i off t' hi
        rw [←hfs] at hi
        clear hfs hde hu hd hall hall' hmap h
        generalize fs.toList=l at hi
        induction l generalizing i with
        | nil=>cases hi
        | cons f l ih=>
          cases i with
          | zero=>simp [nthF] at hi; exact ⟨f,rfl,hi.1,hi.2⟩
          | succ i=>simp [nthF] at hi; simpa using ih i hi
      obtain ⟨out,ho,hf,hk,hne⟩:=fill_ok hT (place:=fun i=>(fs.map fun f=>(f.offset,(T.find f.type).kinds.length))[i]?) (fun i off t' hi _=>by
        obtain ⟨f,h1,h2,h3⟩:=hpl i off t' hi
        simp at h1
        simp [h1,h2,h3]) parts _ _ h
      have hk:K (.agg ⟨out⟩) (hp w):=by
        split at hk
        · exact hk
        · rw [frcC_eq] at hk; exact hk
      refine ⟨satV (v:=.agg ⟨out⟩) ?_ hk,hne⟩
      have hz2:z.cells=⟨(T.find t).kinds.map zeroCK⟩:=by rw [←hzc,←vcells_eq]
      simp only [Instr.build,Sem.run_bind,hz,hu,Result.andThen_ok,hmap,hz2,hf,Sem.run_pure]
    · exact h.elim
  · rename_i n e hd
    split at h
    · exact h.elim
    · rename_i hke
      have ht:=hT.of_d (t:=t) (by rw [hd]; simp)
      have he:=hT.of_kinds (t:=e) (by rw [hke]; simp)
      obtain ⟨d,hu,hde,_⟩:=ht.run_und
      rw [hd] at hde
      have:=dOf_arr hde; subst this
      obtain ⟨z,hz,hzc⟩:=ht.run_zero
      obtain ⟨out,ho,hf,hk,hne⟩:=fill_ok hT (place:=fun i=>some (i*(T.find e).kinds.length,(T.find e).kinds.length)) (fun i off t' hi _=>by
        simp at hi; obtain ⟨rfl,rfl⟩:=hi; rfl) parts _ _ h
      refine ⟨satV (v:=.agg ⟨out⟩) ?_ hk,hne⟩
      have hz2:z.cells=⟨(T.find t).kinds.map zeroCK⟩:=by rw [←hzc,←vcells_eq]
      simp only [Instr.build,Sem.run_bind,hz,hu,Result.andThen_ok,he.run_size,hz2,hf,Sem.run_pure]
  · exact h.elim
theorem sat_buildSlice (hT:TabOk P T) {t:TypeId} {len:Nat} {parts:List (Nat × Value)} (h:(shpBuildSlice T t len parts).run P T K E (hp w)) :
    SatN P K E w (((Instr.buildSlice t len ⟨parts⟩).run P w).andThen fun v w'=>.ok (.value v) w')∧∀p∈parts,p.2≠undef:=by
  unfold shpBuildSlice at h
  split at h
  · rename_i e hd
    simp only at h
    split at h
    · exact h.elim
    · rename_i k ks hke
      split at h
      · rename_i hle
        have hle':=Nat.le_of_ble_eq_true hle
        have ht:=hT.of_d (t:=t) (by rw [hd]; simp)
        have he:=hT.of_kinds (t:=e) (by rw [hke]; simp)
        obtain ⟨d,hu,hde,_⟩:=ht.run_und
        rw [hd] at hde
        have:=dOf_sl hde; subst this
        obtain ⟨z,hz,hzc⟩:=he.run_zero
        obtain ⟨out,ho,hf,hk,hne⟩:=fill_ok hT (place:=fun i=>some (i*(T.find e).kinds.length,(T.find e).kinds.length)) (fun i off t' hi _=>by
          simp at hi; obtain ⟨rfl,rfl⟩:=hi; rfl) parts _ _ h
        refine ⟨?_,hne⟩
        refine sat_new (e:=e) (vs:=out) (f:=fun b=>.slice (some ⟨b,0,none⟩) len len) ?_ hk
        have hz2:z.cells.toList=(T.find e).kinds.map zeroCK:=by rw [←hzc,←vcells_eq]
        have hzr:=zr_array len (T.find e).kinds z.cells hz2 (by rw [hke]; simp)
        have hnot:¬(len*(T.find e).kinds.length > 2 ^ 24):=by omega
        by_cases h0:len*(T.find e).kinds.length=0
        · have hr0:zr len (T.find e).kinds=[]:=by simp [zr,h0]
          rw [hr0] at hf
          have hr:∀z:Array Value,(Array.range 0).map (fun i=>z[i%z.size]!)=(⟨[]⟩:Array Value):=fun z=>by simp
          simp only [Instr.buildSlice,Sem.run_bind,hu,Result.andThen_ok,he.run_size,Sem.run_ite,hnot,if_false,Sem.run_pure,h0,if_true,hr]
          simp [hf,newRow]
        · simp only [Instr.buildSlice,Sem.run_bind,hu,Result.andThen_ok,he.run_size,Sem.run_ite,hnot,if_false,Sem.run_pure,h0,hz,hzr]
          simp [hf,newRow]
      · exact h.elim
  · exact h.elim
theorem sat_indexAddr (hT:TabOk P T) {t:TypeId} {x i:Value} (h:(shpIndexAddr T t x i).run P T K E (hp w)) :
    SatN P K E w (((Instr.indexAt t x i).run P w).andThen fun v w'=>.ok (.value v) w'):=by
  unfold shpIndexAddr at h
  split at h
  · rename_i p n c k i e hd
    split at h
    · exact h.elim
    · rename_i hke
      obtain ⟨b,o,rfl,⟨h0,h1⟩,hk⟩:=nn_spec h
      have ht:=hT.of_d (t:=t) (by rw [hd]; simp)
      have he:=hT.of_kinds (t:=e) (by rw [hke]; simp)
      obtain ⟨d,hu,hde,_⟩:=ht.run_und
      rw [hd] at hde
      have:=dOf_sl hde; subst this
      refine satV ?_ hk
      simp only [Instr.indexAt,asIntOf,Sem.run_bind,Sem.run_pure,Result.andThen_ok,hu,Sem.run_ite,if_pos (And.intro h0 h1),he.run_size,addr_add]
  · rename_i p k i n e hd
    split at h
    · exact h.elim
    · rename_i hke
      obtain ⟨b,o,rfl,⟨h0,h1⟩,hk⟩:=nn_spec h
      have ht:=hT.of_d (t:=t) (by rw [hd]; simp)
      have he:=hT.of_kinds (t:=e) (by rw [hke]; simp)
      obtain ⟨d,hu,hde,_⟩:=ht.run_und
      rw [hd] at hde
      have:=dOf_arr hde; subst this
      refine satV ?_ hk
      simp only [Instr.indexAt,Instr.sureAddr,asIntOf,Sem.run_bind,Sem.run_pure,Result.andThen_ok,hu,Sem.run_ite,if_pos (And.intro h0 h1),he.run_size,addr_add]
  · exact h.elim
theorem agg_false_run {t:TypeId} {ti:TI} (h:TyOk P t ti) (ha:ti.agg=false) (cs:Array Value) (off:Nat) (v:Value) (hv:cs[off]?=some v):(part t cs off).run P w=.ok v w:=by
  simp [part,h.run_agg,ha,hv]
theorem sat_index (hT:TabOk P T) {t:TypeId} {x i:Value} (h:(shpIndex T t x i).run P T K E (hp w)) :
    SatN P K E w (((Instr.index t x i).run P w).andThen fun v w'=>.ok (.value v) w'):=by
  unfold shpIndex at h
  split at h
  · rename_i cs k i n e hd
    split at h
    · rename_i k' hke hag
      obtain ⟨⟨h0,h1⟩,hk⟩:=h
      obtain ⟨v,hv,hu',_,hk⟩:=ld_spec (show ld _ _ _ from hk)
      have ht:=hT.of_d (t:=t) (by rw [hd]; simp)
      have he:=hT.of_kinds (t:=e) (by rw [hke]; simp)
      obtain ⟨d,hu,hde,_⟩:=ht.run_und
      rw [hd] at hde
      have:=dOf_arr hde; subst this
      refine satV ?_ hk
      have hv':cs[i.toNat*(T.find e).kinds.length]?=some v:=by rw [hke]; simpa using hv
      have hp:=agg_false_run (P:=P) (w:=w) he hag cs _ v hv'
      simp only [Instr.index,asIntOf,Sem.run_bind,Sem.run_pure,Result.andThen_ok,hu,Sem.run_ite,if_pos (And.intro h0 h1),he.run_size,hp]
    · exact h.elim
  · rename_i s k i hd
    obtain ⟨⟨h0,h1⟩,hk⟩:=h
    have ht:=hT.of_d (t:=t) (by rw [hd]; simp)
    obtain ⟨d,hu,hde,_⟩:=ht.run_und
    rw [hd] at hde
    have:=dOf_str hde; subst this
    have hlt:i.toNat<s.size:=by omega
    refine satV ?_ hk
    have hs:s[i.toNat]?=some s[i.toNat]:=getElem?_pos s i.toNat hlt
    simp only [Instr.index,asIntOf,Sem.run_bind,Sem.run_pure,Result.andThen_ok,hu,if_pos h0,hs,Option.getD_some]
  · exact h.elim
theorem nthF_map {fs:List Field} {i off:Nat} {t:TypeId} (h:nthF (fs.map fun f=>(f.offset,f.type)) i=some (off,t)):∃f,fs[i]?=some f∧f.offset=off∧f.type=t:=by
  induction fs generalizing i with
  | nil=>cases h
  | cons f l ih=>
    cases i with
    | zero=>simp [nthF] at h; exact ⟨f,rfl,h.1,h.2⟩
    | succ i=>simp [nthF] at h; simpa using ih h
theorem sat_fieldAddr (hT:TabOk P T) {t:TypeId} {x:Value} {f:Nat} (h:(shpFieldAddr T t x f).run P T K E (hp w)) :
    SatN P K E w (((Instr.fieldAt t x f).run P w).andThen fun v w'=>.ok (.value v) w'):=by
  unfold shpFieldAddr at h
  split at h
  · rename_i b o offs hd
    split at h
    · rename_i off e hn
      split at h
      · rename_i k ks hke
        have ht:=hT.of_d (t:=t) (by rw [hd]; simp)
        have he:=hT.of_kinds (t:=e) (by rw [hke]; simp)
        obtain ⟨d,hu,hde,_⟩:=ht.run_und
        rw [hd] at hde
        obtain ⟨fs,rfl,hfs⟩:=dOf_st hde
        rw [←hfs] at hn
        obtain ⟨fl,h1,h2,h3⟩:=nthF_map hn
        subst h3
        refine satV ?_ h
        have h1':fs[f]?=some fl:=by simpa using h1
        have hs:=he.run_size w
        rw [hke] at hs
        simp [Instr.fieldAt,hu,h1',Instr.sureAddr,fieldPlace,hs,addr_add,h2]
      · exact h.elim
    · exact h.elim
  · exact h.elim
theorem sat_field (hT:TabOk P T) {t:TypeId} {x:Value} {f:Nat} (h:(shpField T t x f).run P T K E (hp w)) :
    SatN P K E w (((Instr.field t x f).run P w).andThen fun v w'=>.ok (.value v) w'):=by
  unfold shpField at h
  split at h
  · rename_i cs offs hd
    split at h
    · rename_i off e hn
      obtain ⟨_,h,_,_⟩:=fitN h
      have ht:=hT.of_d (t:=t) (by rw [hd]; simp)
      obtain ⟨d,hu,hde,_⟩:=ht.run_und
      rw [hd] at hde
      obtain ⟨fs,rfl,hfs⟩:=dOf_st hde
      rw [←hfs] at hn
      obtain ⟨fl,h1,h2,h3⟩:=nthF_map hn
      subst h3
      have h1':fs[f]?=some fl:=by simpa using h1
      split at h
      · rename_i hag
        have he:TyOk P fl.type (T.find fl.type):=hT.of_d (by unfold TI.agg at hag; split at hag<;>simp_all)
        refine satV ?_ h
        simp [Instr.field,hu,h1',asAgg,part,he.run_agg,hag,he.run_size,h2]
        apply Array.ext'
        simp [List.take_drop,h2]
      · rename_i hag
        split at h
        · rename_i k ks v hke hv
          have he:=hT.of_kinds (t:=fl.type) (by rw [hke]; simp)
          refine satV ?_ h
          have hv':cs[fl.offset]?=some v:=by rw [h2]; simpa using hv
          simp [Instr.field,hu,h1',asAgg,part,he.run_agg,hag,hv']
        · exact h.elim
    · exact h.elim
  · exact h.elim
end
end Go.Mz
