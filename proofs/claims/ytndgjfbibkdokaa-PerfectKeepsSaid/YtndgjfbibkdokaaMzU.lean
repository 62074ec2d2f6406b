/-
  Rows of cells and what writing leaves alone: the lemmas by which the shallow texts are walked. It proves nothing of the program by itself.
-/
import Derived.Test.YtndgjfbibkdokaaMzQ
import Derived.IntWalk
set_option linter.unusedSimpArgs false
set_option linter.unusedVariables false
namespace Go.Mz
open Go.RowKit
/-! ### Small steps -/
theorem nn_mk {b o:Nat} {G:Nat→Nat→Prop}:nn (some ⟨b,o,none⟩) G=G b o:=rfl
theorem ldS_mk {p:OA} {n c:Nat} {K:OA→Nat→Nat→Prop}:ldS (some (.slice p n c)) K=K p n c:=rfl
theorem ldP_mk {p:OA} {K:OA→Prop}:ldP (some (.pointer p)) K=K p:=rfl
theorem ldI_mk {n:Int} {K:Int→Prop}:ldI .i64 (some (.int .i64 n)) K=K n:=rfl
theorem bcase_t {X Y:Prop}:bcase true X Y=X:=rfl
theorem bcase_f {X Y:Prop}:bcase false X Y=Y:=rfl
theorem bc {p:Prop} [Decidable p] {X Y:Prop} (h:p→X) (k:¬p→Y):bcase (decide p) X Y:=by
  by_cases hp:p
  · simpa [hp,bcase] using h hp
  · simpa [hp,bcase] using k hp
theorem bcn {p:Prop} [Decidable p] {X Y:Prop} (h:¬p→X) (k:p→Y):bcase (!decide p) X Y:=by
  by_cases hp:p
  · simpa [hp,bcase] using k hp
  · simpa [hp,bcase] using h hp
theorem bcb {b:Bool} {X Y:Prop} (h:b=true→X) (k:b=false→Y):bcase b X Y:=by
  cases b
  · exact k rfl
  · exact h rfl
theorem i64w {n:Int} (h:-9223372036854775808≤n) (k:n≤9223372036854775807):IntKind.wrap .i64 n=n:=IntWalk.i64_in n ⟨h,k⟩
/-! ### What is left alone -/
structure Step (F:Nat→Prop) (H H':Hp):Prop where
  keep:∀b x,H b=some x→¬F b→H' b=some x
  mono:∀b,H' b=none→H b=none
theorem Step.refl {F:Nat→Prop} {H:Hp}:Step F H H:=⟨fun _ _ h _=>h,fun _ h=>h⟩
theorem Step.trans {F G:Nat→Prop} {H H' H'':Hp} (h:Step F H H') (k:Step G H' H'') (hg:∀b,G b→F b∨H b=none):Step F H H'' where
  keep:=fun b x hb hf=>k.keep b x (h.keep b x hb hf) fun hgb=>by
    cases hg b hgb with
    | inl h=>exact hf h
    | inr h=>rw [h] at hb; cases hb
  mono:=fun b hb=>h.mono b (k.mono b hb)
theorem Step.weak {F G:Nat→Prop} {H H':Hp} (h:Step F H H') (hg:∀b,F b→G b∨H b=none):Step G H H':=(Step.refl (F:=G)).trans h hg
theorem Step.new {F:Nat→Prop} {H:Hp} {b:Nat} {x:Blk} (h:H b=none):Step F H (H.upd b x) where
  keep:=fun b' y hb _=>by
    unfold Hp.upd
    split
    · rename_i e; subst e; rw [h] at hb; cases hb
    · exact hb
  mono:=fun b' hb=>by
    unfold Hp.upd at hb
    split at hb
    · cases hb
    · exact hb
theorem Step.wr {F:Nat→Prop} {H:Hp} {b:Nat} {x y:Blk} (h:H b=some y) (hf:F b):Step F H (H.upd b x) where
  keep:=fun b' y hb hn=>by
    unfold Hp.upd
    split
    · rename_i e; subst e; exact (hn hf).elim
    · exact hb
  mono:=fun b' hb=>by
    unfold Hp.upd at hb
    split at hb
    · cases hb
    · exact hb
theorem upd_same {H:Hp} {b:Nat} {x:Blk}:H.upd b x b=some x:=by simp [Hp.upd]
theorem Step.get {F:Nat→Prop} {H H':Hp} {b o:Nat} {v:Value} (h:Step F H H') (g:H.get b o=some v) (hf:¬F b):H'.get b o=some v:=by
  cases hb:H b with
  | none=>simp [Hp.get,hb] at g
  | some x=>rw [←g]; simp [Hp.get,hb,h.keep b x hb hf]
/-! ### Elements -/
class El (α:Type) where
  w:Nat
  pos:0<w
  enc:α→List Value
  len:∀a,(enc a).length=w
  one:∀a,∀v∈enc a,v.oneC=true
instance:El Int:=⟨1,by decide,fun n=>[.int .i64 n],fun _=>rfl,by simp [Value.oneC]⟩
instance:El Bool:=⟨1,by decide,fun n=>[.bool n],fun _=>rfl,by simp [Value.oneC]⟩
structure Sl where
  p:OA
  n:Nat
  c:Nat
instance:El Sl:=⟨1,by decide,fun s=>[.slice s.p s.n s.c],fun _=>rfl,by simp [Value.oneC]⟩
instance:El OA:=⟨1,by decide,fun s=>[.pointer s],fun _=>rfl,by simp [Value.oneC]⟩
instance {α β:Type} [El α] [El β]:El (α × β):=⟨El.w α+El.w β,by have:=El.pos (α:=α); omega,fun a=>El.enc a.1++El.enc a.2,fun a=>by simp [El.len],fun a v hv=>by
  cases List.mem_append.1 hv with
  | inl h=>exact El.one _ v h
  | inr h=>exact El.one _ v h⟩
def upf {α:Type} (f:Nat→α) (i:Nat) (x:α):Nat→α:=fun j=>if j=i then x else f j
theorem upf_same {α:Type} {f:Nat→α} {i:Nat} {x:α}:upf f i x i=x:=by simp [upf]
theorem upf_ne {α:Type} {f:Nat→α} {i j:Nat} {x:α} (h:j≠i):upf f i x j=f j:=by simp [upf,h]
variable {α:Type} [El α]
def At (cs:List Value) (o n:Nat) (f:Nat→α):Prop:=∀i,i<n→∀j,j<El.w α→cs[o+i*El.w α+j]?=(El.enc (f i))[j]?
def fpS (p:OA) (b:Nat):Prop:=∃o,p=some ⟨b,o,none⟩
structure Row (H:Hp) (p:OA) (n c:Nat) (f:Nat→α):Prop where
  le:n≤c
  cap:c<2 ^ 63
  cells:(p=none∧c=0)∨∃b o x,p=some ⟨b,o,none⟩∧H b=some x∧(o+c*El.w α≤x.cells.length∧x.ty.fz=(0,0))∧At x.cells o n f
theorem fpS_mk {b o b':Nat}:fpS (some ⟨b,o,none⟩) b'↔b'=b:=by
  constructor
  · rintro ⟨o',h⟩; cases h; rfl
  · rintro rfl; exact ⟨_,rfl⟩
theorem fpS_none {b:Nat}:fpS none b↔False:=⟨fun ⟨_,h⟩=>(by cases h),False.elim⟩
theorem Row.live {H:Hp} {p:OA} {n c:Nat} {f:Nat→α} (h:Row H p n c f) {b:Nat} (hb:fpS p b):H b≠none:=by
  obtain ⟨o,rfl⟩:=hb
  rcases h.cells with h | ⟨b',o',x,e,hx,_⟩
  · cases h.1
  · cases e; rw [hx]; simp
theorem Row.congr {H:Hp} {p:OA} {n c:Nat} {f g:Nat→α} (h:Row H p n c f) (e:∀i,i<n→f i=g i):Row H p n c g:=by
  refine ⟨h.le,h.cap,?_⟩
  rcases h.cells with h | ⟨b',o',x,e',hx,hl,ha⟩
  · exact .inl h
  · exact .inr ⟨b',o',x,e',hx,hl,fun i hi j hj=>by rw [←e i hi]; exact ha i hi j hj⟩
theorem Row.keep {H H':Hp} {p:OA} {n c:Nat} {f:Nat→α} {F:Nat→Prop} (h:Row H p n c f) (s:Step F H H') (d:∀b,fpS p b→¬F b):Row H' p n c f:=by
  refine ⟨h.le,h.cap,?_⟩
  rcases h.cells with h | ⟨b',o',x,e',hx,hl,ha⟩
  · exact .inl h
  · exact .inr ⟨b',o',x,e',s.keep _ _ hx (d _ ⟨_,e'⟩),hl,ha⟩
theorem Row.nil {H:Hp} {f:Nat→α}:Row H none 0 0 f:=⟨Nat.le_refl _,by decide,.inl ⟨rfl,rfl⟩⟩
/-! ### Rows that are but read -/
def Rdr (H:Hp) (p:OA) (n:Nat) (f:Nat→α):Prop:=∀i,i<n→∃b o,p=some ⟨b,o,none⟩∧∀j,j<El.w α→H.get b (o+i*El.w α+j)=(El.enc (f i))[j]?
theorem Rdr.keep {H H':Hp} {p:OA} {n:Nat} {f:Nat→α} {F:Nat→Prop} (h:Rdr H p n f) (s:Step F H H') (d:∀b,fpS p b→H b≠none→¬F b):Rdr H' p n f:=by
  intro i hi
  obtain ⟨b,o,rfl,hg⟩:=h i hi
  refine ⟨b,o,rfl,fun j hj=>?_⟩
  have hl:(El.enc (f i)).length=El.w α:=El.len _
  have e:=hg j hj
  rw [List.getElem?_eq_getElem (by omega)] at e ⊢
  cases hb:H b with
  | none=>simp [Hp.get,hb] at e
  | some x=>
    rw [←e]
    simp [Hp.get,hb,s.keep b x hb (d b ⟨_,rfl⟩ (by rw [hb]; simp))]
theorem Rdr.live {H:Hp} {p:OA} {n:Nat} {f:Nat→α} (h:Rdr H p n f) {b:Nat} (hb:fpS p b) (hn:0<n):H b≠none:=by
  obtain ⟨b',o,rfl,hg⟩:=h 0 hn
  rw [fpS_mk] at hb; subst hb
  intro hb
  have e:=hg 0 El.pos
  have hl:(El.enc (f 0)).length=El.w α:=El.len _
  have:=El.pos (α:=α)
  rw [List.getElem?_eq_getElem (by omega)] at e
  simp [Hp.get,hb] at e
theorem Rdr.slp0 {H:Hp} {p:OA} {n:Nat} {f:Nat→α} {sz m:Nat} (h:Rdr H p n f) (hn:0<n):slp p 0 m sz=p:=by
  obtain ⟨b,o,rfl,_⟩:=h 0 hn
  unfold slp
  split
  · rfl
  · simp [Addr.add]
theorem Rdr.cut {H:Hp} {p:OA} {n m:Nat} {f:Nat→α} (h:Rdr H p n f) (hm:m≤n):Rdr H p m f:=fun i hi=>h i (by omega)
theorem Rdr.ix {H:Hp} {p:OA} {n:Nat} {f:Nat→α} (h:Rdr H p n f) {i:Int} (h0:0≤i) (h1:i<(n:Int)) {G:Nat→Nat→Prop}
    (k:∀b o,fpS p b→(∀j,j<El.w α→H.get b (o+j)=(El.enc (f i.toNat))[j]?)→G b o):ix p n i (El.w α) G:=by
  obtain ⟨b,o,rfl,hg⟩:=h i.toNat (by omega)
  exact ⟨⟨h0,h1⟩,k b _ ⟨_,rfl⟩ hg⟩
theorem Rdr.ixI {H:Hp} {p:OA} {n:Nat} {f:Nat→Int} (h:Rdr H p n f) {i:Int} (h0:0≤i) (h1:i<(n:Int)) {K:Int→Prop}
    (k:K (f i.toNat)):Mz.ix p n i 1 fun b o=>ldI .i64 (H.get b o) K:=by
  refine h.ix (α:=Int) h0 h1 fun b o _ hg=>?_
  have:=hg 0 (by decide)
  simp only [Nat.add_zero] at this
  rw [this]; exact k
theorem Row.cut {H:Hp} {p:OA} {n m c:Nat} {f:Nat→α} (h:Row H p n c f) (hm:m≤n):Row H p m c f:=by
  refine ⟨Nat.le_trans hm h.le,h.cap,?_⟩
  rcases h.cells with h | ⟨b',o',x,e',hx,hl,ha⟩
  · exact .inl h
  · exact .inr ⟨b',o',x,e',hx,hl,fun i hi=>ha i (by omega)⟩
theorem Row.at {H:Hp} {p:OA} {n c:Nat} {f:Nat→α} (h:Row H p n c f) {i:Nat} (hi:i<n):∃b o,p=some ⟨b,o,none⟩∧∀j,j<El.w α→H.get b (o+i*El.w α+j)=(El.enc (f i))[j]?:=by
  rcases h.cells with h' | ⟨b',o',x,e',hx,hl,ha⟩
  · have:=h.le; omega
  · exact ⟨b',o',e',fun j hj=>by simpa [Hp.get,hx] using ha i hi j hj⟩
theorem Row.rdr {H:Hp} {p:OA} {n c:Nat} {f:Nat→α} (h:Row H p n c f):Rdr H p n f:=fun _ hi=>h.at hi
theorem Row.ix {H:Hp} {p:OA} {n c:Nat} {f:Nat→α} (h:Row H p n c f) {i:Int} (h0:0≤i) (h1:i<(n:Int)) {G:Nat→Nat→Prop}
    (k:∀b o,fpS p b→(∀j,j<El.w α→H.get b (o+j)=(El.enc (f i.toNat))[j]?)→G b o):ix p n i (El.w α) G:=by
  obtain ⟨b,o,rfl,hg⟩:=h.at (i:=i.toNat) (by omega)
  exact ⟨⟨h0,h1⟩,k b _ ⟨_,rfl⟩ hg⟩
theorem Row.ixI {H:Hp} {p:OA} {n c:Nat} {f:Nat→Int} (h:Row H p n c f) {i:Int} (h0:0≤i) (h1:i<(n:Int)) {K:Int→Prop}
    (k:K (f i.toNat)):Mz.ix p n i 1 fun b o=>ldI .i64 (H.get b o) K:=by
  refine h.ix (α:=Int) h0 h1 fun b o _ hg=>?_
  have:=hg 0 (by decide)
  simp only [Nat.add_zero] at this
  rw [this]; exact k
theorem Row.ixB {H:Hp} {p:OA} {n c:Nat} {f:Nat→Bool} (h:Row H p n c f) {i:Int} (h0:0≤i) (h1:i<(n:Int)) {K:Bool→Prop}
    (k:K (f i.toNat)):Mz.ix p n i 1 fun b o=>ldB (H.get b o) K:=by
  refine h.ix (α:=Bool) h0 h1 fun b o _ hg=>?_
  have:=hg 0 (by decide)
  simp only [Nat.add_zero] at this
  rw [this]; exact k
theorem putL_get (xs:List Value) (o:Nat) (vs:List Value) (k:Nat) (h:o+vs.length≤xs.length):(putL xs o vs)[k]?=if o≤k∧k<o+vs.length then vs[k-o]? else xs[k]?:=by
  induction vs generalizing xs o with
  | nil=>simp only [putL,List.length_nil,Nat.add_zero]; split<;>first | omega | rfl
  | cons v vs ih=>
    simp only [List.length_cons] at h
    simp only [putL]
    rw [ih _ _ (by simp; omega)]
    simp only [List.length_cons]
    by_cases hk:k=o
    · subst hk
      rw [if_neg (by omega),if_pos (by omega)]
      simp [List.getElem?_set,show k<xs.length by omega]
    · by_cases h2:o+1≤k∧k<o+1+vs.length
      · rw [if_pos h2,if_pos (by omega)]
        obtain ⟨m,rfl⟩:∃m,k=o+1+m:=⟨k-(o+1),by omega⟩
        simp [show o+1+m-o=m+1 by omega,show o+1+m-(o+1)=m by omega]
      · rw [if_neg h2,if_neg (by omega)]
        rw [List.getElem?_set_ne (by omega)]
theorem putL_all {z vs:List Value} (h:z.length=vs.length):putL z 0 vs=vs:=by
  apply List.ext_getElem?
  intro k
  rw [putL_get _ _ _ _ (by omega)]
  by_cases hk:k<vs.length
  · rw [if_pos (by omega)]; rfl
  · rw [if_neg (by omega),List.getElem?_eq_none (by omega),List.getElem?_eq_none (by omega)]
theorem nwk {H:Hp} {x:Blk} {K:Nat→Hp→Prop} (k:∀b H',H b=none→H' b=some x→Step (fun _=>False) H H'→K b H'):nw H x K:=
  fun b hb=>k b _ hb upd_same (Step.new hb)
theorem nwst {H:Hp} {z vs:List Value} {t:BT} {K:Nat→Hp→Prop} (hl:z.length=vs.length) (ht:t.fz=(0,0))
    (k:∀b H',H b=none→H' b=some ⟨vs,t⟩→Step (fun _=>False) H H'→K b H'):nw H ⟨z,t⟩ fun b H1=>stC H1 b 0 vs fun H2=>K b H2:=by
  intro b hb
  refine ⟨_,upd_same,⟨by simp only; omega,ht⟩,?_⟩
  simp only [putL_all hl]
  exact k b _ hb upd_same ((Step.new (F:=fun _=>False) hb).trans (Step.wr (F:=(·=b)) upd_same rfl) fun b' hb'=>.inr (hb'▸hb))
theorem stk {H:Hp} {b:Nat} {z vs:List Value} {t:BT} {K:Hp→Prop} (hb:H b=some ⟨z,t⟩) (hl:z.length=vs.length) (ht:t.fz=(0,0))
    (k:∀H',H' b=some ⟨vs,t⟩→Step (·=b) H H'→K H'):stC H b 0 vs K:=by
  refine ⟨_,hb,⟨by simp only; omega,ht⟩,?_⟩
  simp only [putL_all hl]
  exact k _ upd_same (Step.wr hb rfl)
theorem At.put {cs:List Value} {o n i:Nat} {f:Nat→α} {x:α} (h:At cs o n f) (hi:i<n) (hl:o+n*El.w α≤cs.length):At (putL cs (o+i*El.w α) (El.enc x)) o n (upf f i x):=by
  intro k hk j hj
  have hw:=El.pos (α:=α)
  have hiw:(i+1)*El.w α≤n*El.w α:=Nat.mul_le_mul_right _ hi
  rw [Nat.add_mul] at hiw
  rw [putL_get _ _ _ _ (by rw [El.len]; omega),El.len]
  by_cases e:k=i
  · subst e
    rw [if_pos (by omega),upf_same]
    congr 1; omega
  · rw [if_neg,upf_ne e]
    · exact h k hk j hj
    · rintro ⟨h1,h2⟩
      rcases Nat.lt_or_gt_of_ne e with e | e
      · have:(k+1)*El.w α≤i*El.w α:=Nat.mul_le_mul_right _ e
        rw [Nat.add_mul] at this
        omega
      · have:(i+1)*El.w α≤k*El.w α:=Nat.mul_le_mul_right _ e
        rw [Nat.add_mul] at this
        omega
theorem Row.st {H:Hp} {p:OA} {n c:Nat} {f:Nat→α} (h:Row H p n c f) {i:Int} (h0:0≤i) (h1:i<(n:Int)) (x:α) {K:Hp→Prop}
    (k:∀H',Row H' p n c (upf f i.toNat x)→Step (fpS p) H H'→K H'):Mz.ix p n i (El.w α) fun b o=>stC H b o (El.enc x) K:=by
  rcases h.cells with h' | ⟨b,o,y,rfl,hx,⟨hl,hz⟩,ha⟩
  · have:=h.le; omega
  · have hi:i.toNat<n:=by omega
    have hiw:(i.toNat+1)*El.w α≤n*El.w α:=Nat.mul_le_mul_right _ hi
    have hnc:n*El.w α≤c*El.w α:=Nat.mul_le_mul_right _ h.le
    rw [Nat.add_mul] at hiw
    refine ⟨⟨h0,h1⟩,y,hx,⟨by rw [El.len]; omega,hz⟩,k _ ⟨h.le,h.cap,.inr ⟨b,o,_,rfl,upd_same,⟨by rw [putL_length]; exact hl,hz⟩,ha.put hi (by omega)⟩⟩ (Step.wr hx ⟨_,rfl⟩)⟩
theorem Row.stI {H:Hp} {p:OA} {n c:Nat} {f:Nat→Int} (h:Row H p n c f) {i:Int} (h0:0≤i) (h1:i<(n:Int)) (x:Int) {K:Hp→Prop}
    (k:∀H',Row H' p n c (upf f i.toNat x)→Step (fpS p) H H'→K H'):Mz.ix p n i 1 fun b o=>stC H b o [.int .i64 x] K:=h.st (α:=Int) h0 h1 x k
theorem Row.stB {H:Hp} {p:OA} {n c:Nat} {f:Nat→Bool} (h:Row H p n c f) {i:Int} (h0:0≤i) (h1:i<(n:Int)) (x:Bool) {K:Hp→Prop}
    (k:∀H',Row H' p n c (upf f i.toNat x)→Step (fpS p) H H'→K H'):Mz.ix p n i 1 fun b o=>stC H b o [.bool x] K:=h.st (α:=Bool) h0 h1 x k
theorem Row.slp0 {H:Hp} {p:OA} {n c:Nat} {f:Nat→α} {sz m:Nat} (h:Row H p n c f):slp p 0 m sz=p:=by
  unfold slp
  split
  · rfl
  · rcases h.cells with ⟨rfl,_⟩ | ⟨b,o,y,rfl,_⟩
    · rfl
    · simp [Addr.add]
/-! ### Making and growing -/
theorem zr_get (n:Nat) (ks:List CK) (k:Nat) (h:k<n*ks.length):(zr n ks)[k]?=some ((ks.map zeroCK)[k%ks.length]?.getD undef):=by
  simp [zr,h]
theorem zr_length (n:Nat) (ks:List CK):(zr n ks).length=n*ks.length:=by simp [zr]
theorem Row.make {l:Int} {e:TypeId} {ks:List CK} {bytes:Nat} {H:Hp} {K:Nat→Hp→Prop} (z:α) (hz:El.enc z=ks.map zeroCK) (h0:0≤l) (h1:l≤1048576) (hb:bytes≤1024)
    (k:∀b H',H b=none→Row H' (some ⟨b,0,none⟩) l.toNat l.toNat (fun _=>z)→Step (fun _=>False) H H'→K b H'):mkS l l e ks bytes H K:=by
  have hw:ks.length=El.w α:=by have:=El.len z; rw [hz] at this; simpa using this
  refine ⟨⟨h0,Int.le_refl _,by omega,?_⟩,fun b hb=>k b _ hb ⟨Nat.le_refl _,by omega,.inr ⟨b,0,_,rfl,upd_same,⟨by rw [zr_length,hw]; omega,rfl⟩,?_⟩⟩ (Step.new hb)⟩
  · have:(bytes:Int)*l≤1024*1048576:=Int.mul_le_mul (by omega) h1 h0 (by omega)
    exact Int.le_trans this (by decide)
  · intro i hi j hj
    have hiw:(i+1)*El.w α≤l.toNat*El.w α:=Nat.mul_le_mul_right _ hi
    rw [Nat.add_mul] at hiw
    rw [Nat.zero_add,zr_get _ _ _ (by rw [hw]; omega),hw,Nat.add_comm,Nat.add_mul_mod_self_right,Nat.mod_eq_of_lt hj,hz]
    have:(ks.map zeroCK)[j]?=some ((ks.map zeroCK)[j]'(by simp; omega)):=List.getElem?_eq_getElem _
    rw [this]; rfl
theorem growBy_le (need:Nat):∀(r c:Nat),c≤2*need+256→Builtin.growBy need r c≤2*need+256
  | 0,c,h=>h
  | r+1,c,h=>by
    unfold Builtin.growBy
    split
    · exact h
    · exact growBy_le need r _ (by omega)
theorem room_le (need c:Nat) (h:c<need):Builtin.nextslicecap need c≤2*need+256:=by
  unfold Builtin.nextslicecap
  split
  · omega
  · split
    · omega
    · exact growBy_le _ _ _ (by omega)
theorem Row.app {H:Hp} {p:OA} {n c:Nat} {f:Nat→α} (h:Row H p n c f) {e:TypeId} {t:BT} {ks:List CK} {bytes:Nat} (x:α) {K:OA→Nat→Nat→Hp→Prop}
    (hk:ks.length=El.w α) (hn:n≤1048576) (hb:bytes≤1024)
    (k:∀p' c' H',Row H' p' (n+1) c' (upf f n x)→Step (fpS p) H H'→(∀b,fpS p' b→fpS p b∨H b=none)→K p' (n+1) c' H') :
    nw H ⟨El.enc x,t⟩ fun b H'=>appM e ks bytes p n c (some ⟨b,0,none⟩) 1 H' K:=by
  intro b hbn
  have hw:=El.pos (α:=α)
  have hlen:=El.len x
  refine Or.inl ?_
  refine ⟨_,upd_same,by simp [hk,El.len],?_⟩
  have htake:((El.enc x).drop 0).take (1*ks.length)=El.enc x:=by simp [hk,←El.len x]
  simp only [htake]
  refine ⟨El.one x,?_⟩
  split
  · rename_i hc
    rcases h.cells with h' | ⟨b',o,y,rfl,hx,⟨hl,hz⟩,ha⟩
    · omega
    · have hne:b'≠b:=fun e=>by rw [e,hbn] at hx; cases hx
      have hcw:(n+1)*El.w α≤c*El.w α:=Nat.mul_le_mul_right _ hc
      rw [Nat.add_mul] at hcw
      refine ⟨y,by rw [upd_ne hne]; exact hx,⟨by rw [hk,El.len]; omega,hz⟩,?_⟩
      rw [hk]
      refine k _ _ _ ⟨hc,h.cap,.inr ⟨b',o,_,rfl,upd_same,⟨by rw [putL_length]; exact hl,hz⟩,?_⟩⟩ ?_ (fun b h=>.inl h)
      · intro i hi j hj
        rw [putL_get _ _ _ _ (by rw [El.len]; omega),El.len]
        by_cases ei:i=n
        · subst ei
          rw [if_pos (by omega),upf_same]; congr 1; omega
        · have:(i+1)*El.w α≤n*El.w α:=Nat.mul_le_mul_right _ (by omega)
          rw [Nat.add_mul] at this
          rw [if_neg (by omega),upf_ne ei]
          exact ha i (by omega) j hj
      · exact (Step.new (F:=fpS (some ⟨b',o,none⟩)) hbn).trans (Step.wr (F:=fpS (some ⟨b',o,none⟩)) (by rw [upd_ne hne]; exact hx) ⟨_,rfl⟩) fun _ h=>.inl h
  · rename_i hc
    have hcap:c<n+1:=by omega
    refine ⟨⟨by omega,?_⟩,?_⟩
    · have h1:=room_le (n+1) c hcap
      have h2:Builtin.nextslicecap (n+1) c*bytes≤(2*(n+1)+256)*1024:=Nat.mul_le_mul h1 hb
      have h3:(2*(n+1)+256)*1024≤2 ^ 48:=by omega
      exact Nat.le_trans h2 h3
    · have fin:∀old:List Value,old.length=n*El.w α→At old 0 n f→∀c' b',n+1≤c'→c'<2 ^ 63→(H.upd b ⟨El.enc x,t⟩) b'=none→K (some ⟨b',0,none⟩) (n+1) c' ((H.upd b ⟨El.enc x,t⟩).upd b' ⟨old++El.enc x++zr (c'-(n+1)) ks,e⟩):=by
        intro old hol hoa c' b' hc1 hc2 hb'
        have hb'':H b'=none:=by
          unfold Hp.upd at hb'
          split at hb'
          · cases hb'
          · exact hb'
        refine k _ _ _ ⟨hc1,hc2,.inr ⟨b',0,_,rfl,upd_same,⟨?_,rfl⟩,?_⟩⟩ ?_ ?_
        · simp only [List.length_append,hol,El.len,zr_length,hk,Nat.sub_mul,Nat.add_mul]
          have:(n+1)*El.w α≤c'*El.w α:=Nat.mul_le_mul_right _ hc1
          rw [Nat.add_mul] at this
          omega
        · intro i hi j hj
          rw [List.append_assoc]
          by_cases ei:i=n
          · subst ei
            rw [List.getElem?_append_right (by omega),List.getElem?_append_left (by rw [El.len]; omega),upf_same,hol]; congr 1; omega
          · have:(i+1)*El.w α≤n*El.w α:=Nat.mul_le_mul_right _ (by omega)
            rw [Nat.add_mul] at this
            rw [List.getElem?_append_left (by omega),upf_ne ei]
            exact hoa i (by omega) j hj
        · exact (Step.new (F:=fpS p) hbn).trans (Step.new (F:=fpS p) hb') fun _ h=>.inl h
        · intro b1 h1
          rw [fpS_mk] at h1; subst h1; exact .inr hb''
      rw [hk]
      rcases h.cells with ⟨rfl,rfl⟩ | ⟨b',o,y,rfl,hx,⟨hl,hz⟩,ha⟩
      · have:=h.le
        have hn0:n=0:=by omega
        subst hn0
        exact ⟨by simp,fin [] (by simp) fun i hi=>by omega⟩
      · have hne:b'≠b:=fun e=>by rw [e,hbn] at hx; cases hx
        have hnc:n*El.w α≤c*El.w α:=Nat.mul_le_mul_right _ h.le
        refine ⟨y,by rw [upd_ne hne]; exact hx,by omega,fin _ (by simp; omega) ?_⟩
        intro i hi j hj
        have:(i+1)*El.w α≤n*El.w α:=Nat.mul_le_mul_right _ (by omega)
        rw [Nat.add_mul] at this
        rw [List.getElem?_take_of_lt (by omega),List.getElem?_drop,Nat.zero_add,←Nat.add_assoc]
        exact ha i hi j hj
theorem Row.appI {H:Hp} {p:OA} {n c:Nat} {f:Nat→Int} (h:Row H p n c f) {e:TypeId} {t:BT} (x:Int) {K:OA→Nat→Nat→Hp→Prop} (hn:n≤1048576)
    (k:∀p' c' H',Row H' p' (n+1) c' (upf f n x)→Step (fpS p) H H'→(∀b,fpS p' b→fpS p b∨H b=none)→K p' (n+1) c' H') :
    nw H ⟨[.int .i64 x],t⟩ fun b H'=>appM e [.i .i64] 8 p n c (some ⟨b,0,none⟩) 1 H' K:=h.app (α:=Int) x rfl hn (by decide) k
theorem Row.make0 {c:Int} {e:TypeId} {ks:List CK} {bytes:Nat} {H:Hp} {K:Nat→Hp→Prop} (z:α) (hz:El.enc z=ks.map zeroCK) (h0:0≤c) (h1:c≤1048576) (hb:bytes≤1024)
    (k:∀b H',H b=none→Row H' (some ⟨b,0,none⟩) 0 c.toNat (fun _=>z)→Step (fun _=>False) H H'→K b H'):mkS 0 c e ks bytes H K:=by
  have h:mkS c c e ks bytes H K:=Row.make z hz h0 h1 hb fun b H' hb hr hs=>k b H' hb (hr.cut (Nat.zero_le _)) hs
  exact ⟨⟨Int.le_refl _,h0,h.1.2.2.1,h.1.2.2.2⟩,h.2⟩
end Go.Mz
