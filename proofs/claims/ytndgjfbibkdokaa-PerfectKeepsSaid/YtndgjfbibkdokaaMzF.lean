/-
  The shape of an operation is sound: making, appending, comparing, calling; all of them in one. It proves nothing of the program by itself.
-/
import Derived.Test.YtndgjfbibkdokaaMzE
set_option linter.unusedSimpArgs false
set_option linter.unusedVariables false
namespace Go.Mz
open Go.RowKit
section
variable {P:Program} {T:Tab} {K E:VP} {w:World}
theorem wrap64_in {l:Int} (h0:0≤l) (h1:l<2 ^ 63):IntKind.i64.wrap l=l:=by
  have e:l%(2 ^ 64:Int)=l:=by omega
  have hn:¬(l≥(2 ^ (64-1):Int)):=by omega
  simp only [IntKind.wrap,IntKind.bits,IntKind.signed,Bool.true_and,e,decide_eq_true_eq,hn,if_false]
theorem sat_makeSlice (hT:TabOk P T) {t:TypeId} {l c:Value} (h:(shpMakeSlice T t l c).run P T K E (hp w)) :
    SatN P K E w (((Instr.makeSlice t l c).run P w).andThen fun v w'=>.ok (.value v) w'):=by
  unfold shpMakeSlice at h
  split at h
  · rename_i l c e hd
    simp only at h
    split at h
    · exact h.elim
    · rename_i k ks hke
      obtain ⟨⟨h0,h1,h2,h3⟩,hk⟩:=h
      have ht:=hT.of_d (t:=t) (by rw [hd]; simp)
      have he:=hT.of_kinds (t:=e) (by rw [hke]; simp)
      obtain ⟨d,hu,hde,_⟩:=ht.run_und
      rw [hd] at hde
      have:=dOf_sl hde; subst this
      obtain ⟨i,hi,hsz,hby,z,hz,hzc⟩:=he.run_info
      refine sat_new (e:=e) (vs:=zr c.toNat (T.find e).kinds) (f:=fun b=>.slice (some ⟨b,0,none⟩) l.toNat c.toNat) ?_ hk
      have hwl:=wrap64_in h0 (by omega)
      have hwc:=wrap64_in (l:=c) (by omega) h2
      have hz2:z.cells.toList=(T.find e).kinds.map zeroCK:=by rw [←hzc,←vcells_eq]
      have hzr:=zr_array c.toNat (T.find e).kinds z.cells hz2 (by rw [hke]; simp)
      have htl:(decide (c<0) || decide ((i.bytes:Int)*c > 2 ^ 48))=false:=by
        rw [hby,Bool.or_eq_false_iff]; exact ⟨by simp; omega,by simp; omega⟩
      have hc1:((decide (c<0) || decide ((i.bytes:Int)*c > 2 ^ 48)) || decide (l<0) || decide (l > c))=false:=by
        rw [htl]; simp; omega
      simp only [Instr.makeSlice,Sem.run_bind,hu,Result.andThen_ok,asInt,asIntOf,Sem.run_pure,hi,hwl,hwc,Sem.run_ite,hc1,Bool.false_eq_true,if_false,run_askRoom,he.run_size]
      by_cases hn:c.toNat*(T.find e).kinds.length=0
      · have hr0:zr c.toNat (T.find e).kinds=[]:=by simp [zr,hn]
        have hr:∀z:Array Value,(Array.range 0).map (fun i=>z[i%z.size]!)=(⟨[]⟩:Array Value):=fun z=>by simp
        simp only [hn,if_true,Sem.run_pure,Result.andThen_ok,hr,run_newRow,hr0]
      · have hzv:∀w,(zeroValue e).run P w=.ok z w:=fun w=>by simp [zeroValue,hi,hz]
        simp only [hn,if_false,Sem.run_bind,hzv,Sem.run_pure,Result.andThen_ok,hzr,run_newRow]
  · exact h.elim
theorem run_lenOf (p:OA) (m c:Nat):(Builtin.lenOf (.slice p m c)).run P w=.ok m w:=rfl
theorem first_of_rd {p:OA} {n c d:Nat} {sz:Nat} {vs:List Value} (hl:vs.length=n*sz)
    (h:(p=none∧n*sz=0)∨∃b o,p=some ⟨b,o,none⟩∧∃x,hp w b=some x∧o+n*sz≤x.cells.length∧∀j,j<n*sz→(hp w).get b (o+j)=vs[j]?) :
    (Builtin.firstCells sz n (.slice p c d)).run P w=.ok ⟨vs⟩ w:=by
  rw [first_slice sz n p c d c c]
  refine run_first_hp ?_
  rcases h with ⟨h1,h2⟩ | ⟨b,o,h1,x,hx,_,hg⟩
  · exact .inl ⟨h1,h2,List.length_eq_zero_iff.1 (by omega)⟩
  · exact .inr ⟨b,o,h1,hl,fun j hj=>hg j (by omega)⟩
theorem sat_append_core (hT:TabOk P T) {ty t t2 e:TypeId} {p p2:OA} {n c m c2:Nat} {args:List TypeId} (hat:args=[t,t2])
    (hd:(T.find t).d=.sl e) {e2:TypeId} (hd2:(T.find t2).d=.sl e2) (hke:(T.find e).kinds≠[]) (hby:(T.find e).bytes≠0)
    {src:List Value} (hsl:src.length=m*(T.find e).kinds.length) (hone:∀v∈src,v.oneC=true) (hf:∀w':World,hp w'=hp w→(Builtin.firstCells (T.find e).kinds.length m (.slice p2 m c2)).run P w'=.ok ⟨src⟩ w')
    (h :
    if n+m≤c then
      match p with
      | some ⟨b,o,none⟩=>stC (hp w) b (o+n*(T.find e).kinds.length) src fun H'=>K (.slice (some ⟨b,o,none⟩) (n+m) c) H'
      | none=>K (.slice none (n+m) c) (hp w)
      | _=>False
    else
      (n+m<2 ^ 63∧Builtin.nextslicecap (n+m) c*(T.find e).bytes≤2 ^ 48)∧
      rdN (hp w) p (n*(T.find e).kinds.length) fun old=>
        ∀c' b,n+m≤c'→c'<2 ^ 63→hp w b=none→K (.slice (some ⟨b,0,none⟩) (n+m) c') ((hp w).upd b ⟨old++src++zr (c'-(n+m)) (T.find e).kinds,e⟩)) :
    SatN P K E w (((Builtin.append_ ⟨args⟩ ty #[.slice p n c,.slice p2 m c2]).run P w).andThen fun v w'=>.ok (.value v) w'):=by
  subst hat
  have ht:=hT.of_d (t:=t) (by rw [hd]; simp)
  have ht2:=hT.of_d (t:=t2) (by rw [hd2]; simp)
  have he:=hT.of_kinds (t:=e) hke
  obtain ⟨d,hu,hde,_⟩:=ht.run_und
  rw [hd] at hde
  have:=dOf_sl hde; subst this
  obtain ⟨d2,hu2,hde2,_⟩:=ht2.run_und
  rw [hd2] at hde2
  have:=dOf_sl hde2; subst this
  obtain ⟨i,hi,hsz,hbi,z,hz,hzc⟩:=he.run_info
  have hz2:z.cells.toList=(T.find e).kinds.map zeroCK:=by rw [←hzc,←vcells_eq]
  have hzv:∀w,(zeroValue e).run P w=.ok z w:=fun w=>by simp [zeroValue,hi,hz]
  have hfs:=hf w rfl
  by_cases hle:n+m≤c
  · rw [if_pos hle] at h
    split at h
    · next b o=>
      obtain ⟨x,hx,⟨hlx,hz⟩,hk⟩:=h
      obtain ⟨w',hr,hrest,hh⟩:=run_storeCells_hp (P:=P) src w b (o+n*(T.find e).kinds.length) 0 x hx (by omega) hz hone
      have hr1:(Builtin.append_ ⟨[t,t2]⟩ ty #[.slice (some ⟨b,o,none⟩) n c,.slice p2 m c2]).run P w=.ok (.slice (some ⟨b,o,none⟩) (n+m) c) w':=by
        simp [Builtin.append_,hu,hu2,he.run_size,run_lenOf,hle,hfs,addr_add,hr]
      rw [hr1]
      refine ⟨hrest,?_⟩
      rw [hh]; simpa using hk
    · have hr1:(Builtin.append_ ⟨[t,t2]⟩ ty #[.slice none n c,.slice p2 m c2]).run P w=.ok (.slice none (n+m) c) w:=by
        simp [Builtin.append_,hu,hu2,he.run_size,run_lenOf,hle,hfs]
      exact satV hr1 h
    · exact h.elim
  · rw [if_neg hle] at h
    obtain ⟨⟨hbig,hroom⟩,h⟩:=h
    obtain ⟨old,hol,h2,hold⟩:=rdN_spec h
    clear h
    have h:=h2
    clear h2
    have hroom':¬(Builtin.nextslicecap (n+m) c*i.bytes > 2 ^ 48):=by rw [hbi]; omega
    have hnb:¬(((n+m:Nat):Int) > IntKind.i64.max∧(false=true∨i.bytes=0)):=by
      rintro ⟨_,h | h⟩
      · cases h
      · exact hby (hbi▸h)
    let q:Question:=.appendCap (n+m) c e
    let c':=q.cut (w.tape w.drawn q)
    let w1:World:={ w with drawn:=w.drawn+1 }
    have hc':n+m≤c':=by show n+m≤(n+m)+_; omega
    have hc2:c'<2 ^ 63:=by
      show (n+m)+_%(2 ^ 63-(n+m))<_
      have:=Nat.mod_lt (w.tape w.drawn q) (show 2 ^ 63-(n+m) > 0 by omega)
      omega
    have hp1:hp w1=hp w:=rfl
    have hfs1:=hf w1 hp1
    have hfo1:=first_of_rd (P:=P) (w:=w1) (n:=n) (c:=n) (d:=c) hol (by rw [hp1]; exact hold)
    have hzr:Builtin.zeroCells z.cells (c'-(n+m))=⟨zr (c'-(n+m)) (T.find e).kinds⟩:=by
      have:=zr_array (c'-(n+m)) (T.find e).kinds z.cells hz2 hke
      have hs:z.cells.size=(T.find e).kinds.length:=by rw [←Array.length_toList,hz2]; simp
      rw [←this,Builtin.zeroCells,hs]
    have hr1:(Builtin.append_ ⟨[t,t2]⟩ ty #[.slice p n c,.slice p2 m c2]).run P w =
        .ok (.slice (some ⟨w.heap.size,0,none⟩) (n+m) c') { w1 with heap:=w.heap.push (.cells ⟨old++src++zr (c'-(n+m)) (T.find e).kinds⟩ e) }:=by
      have hno:¬((n:Int)+(m:Int) > IntKind.i64.max∧i.bytes=0):=fun hh=>hby (hbi▸hh.2)
      have hforced:q.forced=false:=rfl
      have hnn:¬(((n+m:Nat):Int) > IntKind.i64.max∧(false=true∨i.bytes=0)):=hnb
      simp only [Builtin.append_,List.getElem?_toArray,gZ,gS,Sem.run_bind,hu,hu2,Result.andThen_ok,he.run_size,Sem.run_pure,Bool.false_eq_true,if_false,run_lenOf,Sem.run_ite,if_neg hle,hi,hroom']
      rw [if_neg (fun ⟨_,hx⟩=>hx.elim (fun hx=>hx) fun hx=>hby (hbi▸hx))]
      have hch:(choose (Question.appendCap (n+m) c e)).run P w=.ok c' w1:=by simp [choose,Sem.run,Question.forced,c',q,w1]
      simp only [hch,Result.andThen_ok,run_askRoom,hfo1,Bool.not_false,if_true,hfs1,hzv,hzr,run_newRow]
      simp [w1]
    rw [hr1]
    refine ⟨⟨rfl,rfl,rfl,by simp,(rest_push w _).hid,(rest_push w _).live,Nat.le_succ w.drawn⟩,?_⟩
    have:=h c' w.heap.size hc' hc2 (hp_size w)
    have e:hp { w1 with heap:=w.heap.push (.cells ⟨old++src++zr (c'-(n+m)) (T.find e).kinds⟩ e) }=(hp w).upd w.heap.size ⟨old++src++zr (c'-(n+m)) (T.find e).kinds,e⟩:=hp_push w _ _
    rw [e]; exact this
theorem sat_append (hT:TabOk P T) {ty t t2 e:TypeId} {p p2:OA} {n c m c2:Nat} {args:List TypeId} (hat:args=[t,t2])
    (hd:(T.find t).d=.sl e) {e2:TypeId} (hd2:(T.find t2).d=.sl e2) (hke:(T.find e).kinds≠[]) (hby:(T.find e).bytes≠0)
    (h:appM e (T.find e).kinds (T.find e).bytes p n c p2 m (hp w) fun p n c H'=>K (.slice p n c) H') :
    SatN P K E w (((Builtin.append_ ⟨args⟩ ty #[.slice p n c,.slice p2 m c2]).run P w).andThen fun v w'=>.ok (.value v) w'):=by
  rcases h with h | ⟨rfl,h⟩
  · obtain ⟨src,hsl,⟨hone,h2⟩,hsrc⟩:=rdN_spec h
    exact sat_append_core hT hat hd hd2 hke hby hsl hone (fun w' hw=>first_of_rd (P:=P) (w:=w') (n:=m) (c:=m) (d:=c2) hsl (by rw [hw]; exact hsrc)) h2
  · obtain ⟨_,hone,h2⟩:=h
    refine sat_append_core (src:=[]) hT hat hd hd2 hke hby (by simp) hone (fun w' hw=>?_) h2
    cases p2 with
    | none=>rfl
    | some a=>simp [Builtin.firstCells,loadCells,loadCellsFrom]
theorem sat_cpy (hT:TabOk P T) {ty t e:TypeId} {t2:TypeId} {p p2:OA} {n c m c2:Nat}
    (hd:(T.find t).d=.sl e) (hke:(T.find e).kinds≠[]) (h:cpyM (T.find e).kinds.length p n p2 m (hp w) fun i H'=>K (.int .i64 i) H') :
    SatN P K E w (((Builtin.copy_ #[t,t2] ty #[.slice p n c,.slice p2 m c2]).run P w).andThen fun v w'=>.ok (.value v) w'):=by
  have ht:=hT.of_d (t:=t) (by rw [hd]; simp)
  have he:=hT.of_kinds (t:=e) hke
  obtain ⟨d,hu,hde,_⟩:=ht.run_und
  rw [hd] at hde
  have:=dOf_sl hde; subst this
  obtain ⟨src,hsl,⟨hone,h2⟩,hsrc⟩:=rdN_spec h
  clear h
  have hfs:=first_of_rd (P:=P) (w:=w) (n:=min m n) (c:=m) (d:=c2) hsl hsrc
  split at h2
  · next b o=>
    obtain ⟨x,hx,⟨hlx,hz⟩,hk⟩:=h2
    obtain ⟨w',hr,hrest,hh⟩:=run_storeCells_hp (P:=P) src w b o 0 x hx (by omega) hz hone
    have hr1:(Builtin.copy_ #[t,t2] ty #[.slice (some ⟨b,o,none⟩) n c,.slice p2 m c2]).run P w=.ok (.int .i64 (min m n:Nat)) w':=by
      have e1:Nat.min m n=min m n:=rfl
      simp [Builtin.copy_,hu,run_lenOf,he.run_size,e1,hfs,hr,goInt]
    rw [hr1]
    refine ⟨hrest,?_⟩
    rw [hh]; simpa using hk
  · have hr1:(Builtin.copy_ #[t,t2] ty #[.slice none n c,.slice p2 m c2]).run P w=.ok (.int .i64 (min m n:Nat)) w:=by
      have e1:Nat.min m n=min m n:=rfl
      simp [Builtin.copy_,hu,run_lenOf,he.run_size,e1,hfs,goInt]
    exact satV hr1 h2
  · exact h2.elim
theorem zr_oneC (n:Nat) (ks:List CK):∀v∈zr n ks,ks≠[]→v.oneC=true:=by
  intro v hv hk
  simp only [zr,List.mem_map] at hv
  obtain ⟨i,_,rfl⟩:=hv
  have hlt:i%ks.length<ks.length:=Nat.mod_lt _ (List.length_pos_iff.2 hk)
  simp only [List.getElem?_map,List.getElem?_eq_getElem hlt,Option.map_some,Option.getD_some]
  cases ks[i%ks.length]<;>rfl
theorem sat_clr (hT:TabOk P T) {ty t e:TypeId} {p:OA} {n c:Nat}
    (hd:(T.find t).d=.sl e) (hke:(T.find e).kinds≠[]) (h:clrM (T.find e).kinds p n (hp w) fun H'=>K (.tuple #[]) H') :
    SatN P K E w (((Builtin.clear_ #[t] ty #[.slice p n c]).run P w).andThen fun v w'=>.ok (.value v) w'):=by
  have ht:=hT.of_d (t:=t) (by rw [hd]; simp)
  have he:=hT.of_kinds (t:=e) hke
  obtain ⟨d,hu,hde,_⟩:=ht.run_und
  rw [hd] at hde
  have:=dOf_sl hde; subst this
  obtain ⟨i,hi,hsz,hbi,z,hz,hzc⟩:=he.run_info
  have hz2:z.cells.toList=(T.find e).kinds.map zeroCK:=by rw [←hzc,←vcells_eq]
  have hzv:∀w,(zeroValue e).run P w=.ok z w:=fun w=>by simp [zeroValue,hi,hz]
  unfold clrM at h
  split at h
  · next b o=>
    obtain ⟨x,hx,⟨hlx,hz⟩,hk⟩:=h
    have hzr:Builtin.zeroCells z.cells n=⟨zr n (T.find e).kinds⟩:=by
      have:=zr_array n (T.find e).kinds z.cells hz2 hke
      have hs:z.cells.size=(T.find e).kinds.length:=by rw [←Array.length_toList,hz2]; simp
      rw [←this,Builtin.zeroCells,hs]
    obtain ⟨w',hr,hrest,hh⟩:=run_storeCells_hp (P:=P) (zr n (T.find e).kinds) w b o 0 x hx (by omega) hz fun v hv=>zr_oneC _ _ v hv hke
    cases n with
    | zero=>
      have hr1:(Builtin.clear_ #[t] ty #[.slice (some ⟨b,o,none⟩) 0 c]).run P w=.ok (.tuple #[]) w:=by
        simp [Builtin.clear_,hu]
      refine satV hr1 ?_
      have e0:zr 0 (T.find e).kinds=[]:=by simp [zr]
      rw [e0] at hk
      have e1:(hp w).upd b ⟨putL x.cells o [],x.ty⟩=hp w:=hp_upd_self hx
      rw [e1] at hk; exact hk
    | succ n=>
      have hr1:(Builtin.clear_ #[t] ty #[.slice (some ⟨b,o,none⟩) (n+1) c]).run P w=.ok (.tuple #[]) w':=by
        simp [Builtin.clear_,hu,hzv,hzr,hr]
      rw [hr1]
      refine ⟨hrest,?_⟩
      rw [hh]; simpa using hk
  · exact h.elim
end
end Go.Mz
