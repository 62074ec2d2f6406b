/-
  Regions whose order is drawn: any order does as one order does. It proves nothing of the program by itself.
-/
import Derived.Test.YtndgjfbibkdokaaMzK
set_option linter.unusedSimpArgs false
set_option linter.unusedVariables false
namespace Go.Mz
open Go.RowKit
/-! ### What kinds of shapes there are -/
section
variable (P:Program) (T:Tab)
def VS (s:Shp):Prop:=∃Q:Value→Prop,(∀v v',Q v→Q v'→v=v')∧∀K E H,s.run P T K E H↔∃v,Q v∧K v H
def NS (s:Shp):Prop:=∃(p:Prop) (x:Blk) (f:Nat→Value),∀K E H,s.run P T K E H↔p∧∀b,H b=none→K (f b) (H.upd b x)
def RS (s:Shp):Prop:=∃(β:Nat) (Q:Option Blk→Value→Prop),(∀v,¬Q none v)∧(∀x v v',Q x v→Q x v'→v=v')∧∀K E H,s.run P T K E H↔∃v,Q (H β) v∧K v H
end
section
variable {P:Program} {T:Tab}
theorem ld_iff {k:CK} {x:Option Value} {K:Value→Prop}:ld k x K↔∃v,ld k x (·=v)∧K v:=by
  constructor
  · intro h
    obtain ⟨v,hx,hu,hc,hk⟩:=ld_spec h
    refine ⟨v,?_,hk⟩
    have:ld k x (fun u=>x=some u):=by
      cases k with
      | i k=>simp only [ld] at *; unfold ldI at *; split at h<;>first | exact h.elim | rfl
      | bool=>simp only [ld] at *; unfold ldB at *; split at h<;>first | exact h.elim | rfl
      | str=>simp only [ld] at *; unfold ldStr at *; split at h<;>first | exact h.elim | rfl
      | ptr=>simp only [ld] at *; unfold ldP at *; split at h<;>first | exact h.elim | rfl
      | sl=>simp only [ld] at *; unfold ldS at *; split at h<;>first | exact h.elim | rfl
      | fn=>simp only [ld] at *; unfold ldF at *; split at h<;>first | exact h.elim | rfl
      | ifc=>simp only [ld] at *; unfold ldV at *; split at h<;>first | exact h.elim | exact ⟨h.1,rfl⟩
    exact ld_mono (fun u hu=>by rw [hx] at hu; cases hu; rfl) this
  · rintro ⟨v,h,hk⟩
    exact ld_mono (fun u hu=>by cases hu; exact hk) h
theorem lds_iff {ks:List CK} {H:Hp} {b o:Nat} {K:List Value→Prop}:lds ks H b o K↔∃vs,lds ks H b o (·=vs)∧K vs:=by
  induction ks generalizing o K with
  | nil=>exact ⟨fun h=>⟨[],rfl,h⟩,fun ⟨vs,h,hk⟩=>by cases h; exact hk⟩
  | cons k ks ih=>
    simp only [lds]
    constructor
    · intro h
      rw [ld_iff] at h
      obtain ⟨v,hv,h⟩:=h
      rw [ih] at h
      obtain ⟨vs,hvs,h⟩:=h
      refine ⟨v :: vs,?_,h⟩
      rw [ld_iff]
      exact ⟨v,hv,lds_mono (fun u hu=>by rw [hu]) hvs⟩
    · rintro ⟨vs,h,hk⟩
      rw [ld_iff] at h ⊢
      obtain ⟨v,hv,h⟩:=h
      exact ⟨v,hv,lds_mono (fun u hu=>by rw [hu]; exact hk) h⟩
theorem rdV_iff {agg:Bool} {ks:List CK} {H:Hp} {b o:Nat} {K:Value→Prop}:rdV agg ks H b o K↔∃v,rdV agg ks H b o (·=v)∧K v:=by
  unfold rdV
  cases agg with
  | true=>
    simp only
    constructor
    · intro h
      rw [lds_iff] at h
      obtain ⟨vs,hvs,h⟩:=h
      exact ⟨_,lds_mono (fun u hu=>by rw [hu]) hvs,h⟩
    · rintro ⟨v,h,hk⟩
      exact lds_mono (fun u hu=>by rw [hu]; exact hk) h
  | false=>
    simp only
    split
    · exact ld_iff
    · exact ⟨fun h=>h.elim,fun ⟨_,h,_⟩=>h⟩
theorem lds_local {ks:List CK} {H H':Hp} {b o:Nat} {K:List Value→Prop} (h:H b=H' b):lds ks H b o K↔lds ks H' b o K:=by
  induction ks generalizing o K with
  | nil=>exact Iff.rfl
  | cons k ks ih=>
    simp only [lds,show H.get b o=H'.get b o from by unfold Hp.get; rw [h]]
    exact ⟨fun hh=>ld_mono (fun v hv=>ih.1 hv) hh,fun hh=>ld_mono (fun v hv=>ih.2 hv) hh⟩
theorem rdV_local {agg:Bool} {ks:List CK} {H H':Hp} {b o:Nat} {K:Value→Prop} (h:H b=H' b):rdV agg ks H b o K↔rdV agg ks H' b o K:=by
  unfold rdV
  cases agg with
  | true=>exact lds_local h
  | false=>simp only [show H.get b o=H'.get b o from by unfold Hp.get; rw [h]]
theorem rdV_fun {agg:Bool} {ks:List CK} {H:Hp} {b o:Nat} {v v':Value} (h:rdV agg ks H b o (·=v)) (h':rdV agg ks H b o (·=v')):v=v':=by
  unfold rdV at *
  cases agg with
  | true=>
    simp only at h h'
    have key:∀(ks:List CK) (o:Nat) (K K':List Value→Prop),lds ks H b o K→lds ks H b o K'→∃vs,K vs∧K' vs:=by
      intro ks
      induction ks with
      | nil=>intro o K K' h h'; exact ⟨[],h,h'⟩
      | cons k ks ih=>
        intro o K K' h h'
        simp only [lds] at h h'
        obtain ⟨v,hv,_,_,h⟩:=ld_spec h
        obtain ⟨v',hv',_,_,h'⟩:=ld_spec h'
        rw [hv] at hv'; cases hv'
        obtain ⟨vs,h1,h2⟩:=ih _ _ _ h h'
        exact ⟨v :: vs,h1,h2⟩
    obtain ⟨vs,h1,h2⟩:=key _ _ _ _ h h'
    rw [←h1,←h2]
  | false=>
    simp only at h h'
    split at h
    · obtain ⟨u,hu,_,_,e⟩:=ld_spec h
      obtain ⟨u',hu',_,_,e'⟩:=ld_spec h'
      rw [hu] at hu'; cases hu'
      rw [←e,←e']
    · exact h.elim
theorem rdV_none {agg:Bool} {ks:List CK} {H:Hp} {b o:Nat} {v:Value} (hb:H b=none) (hne:agg=true→ks≠[]):¬rdV agg ks H b o (·=v):=by
  intro h
  unfold rdV at h
  have hg:∀o,H.get b o=none:=fun o=>by unfold Hp.get; rw [hb]; rfl
  cases agg with
  | true=>
    simp only at h
    cases ks with
    | nil=>exact hne rfl rfl
    | cons k ks=>simp only [lds,hg] at h; obtain ⟨_,hx,_⟩:=ld_spec h; cases hx
  | false=>
    simp only at h
    split at h
    · rw [hg] at h; obtain ⟨_,hx,_⟩:=ld_spec h; cases hx
    · exact h
theorem ld_fun {k:CK} {x:Option Value} {v v':Value} (h:ld k x (·=v)) (h':ld k x (·=v')):v=v':=by
  obtain ⟨u,hu,_,_,e⟩:=ld_spec h
  obtain ⟨u',hu',_,_,e'⟩:=ld_spec h'
  rw [hu] at hu'; cases hu'
  rw [←e,←e']
theorem VS.val (v:Value):VS P T (.val v):=⟨(·=v),fun _ _ h h'=>h.trans h'.symm,fun K E H=>⟨fun h=>⟨v,rfl,h⟩,fun ⟨u,hu,h⟩=>by cases hu; exact h⟩⟩
theorem VS.fail:VS P T .fail:=⟨fun _=>False,fun _ _ h=>h.elim,fun K E H=>⟨fun h=>h.elim,fun ⟨_,h,_⟩=>h⟩⟩
theorem VS.dec (k:CK) (x:Option Value):VS P T (.dec k x):=⟨fun v=>ld k x (·=v),fun _ _=>ld_fun,fun K E H=>ld_iff⟩
theorem VS.req {p:Prop} {s:Shp} (h:VS P T s):VS P T (.req p s):=by
  obtain ⟨Q,hf,h⟩:=h
  exact ⟨fun v=>p∧Q v,fun _ _ h h'=>hf _ _ h.2 h'.2,fun K E H=>by
    show p∧s.run P T K E H↔_
    rw [h]; exact ⟨fun ⟨hp,v,hq,hk⟩=>⟨v,⟨hp,hq⟩,hk⟩,fun ⟨v,⟨hp,hq⟩,hk⟩=>⟨hp,v,hq,hk⟩⟩⟩
theorem ldT_const {agg:Bool} {ks:List CK} {v:Value} {X:Prop}:ldT agg ks v (fun _=>X)↔ldT agg ks v (fun _=>True)∧X:=
  ⟨fun h=>⟨ldT_mono (fun _ _=>trivial) h,(ldT_spec h).2.1⟩,fun ⟨h,x⟩=>ldT_mono (fun _ _=>x) h⟩
theorem VS.fit {agg:Bool} {ks:List CK} {v:Value} {s:Shp} (h:VS P T s):VS P T (.fit agg ks v s):=by
  obtain ⟨Q,hf,h⟩:=h
  exact ⟨fun u=>ldT agg ks v (fun _=>True)∧Q u,fun _ _ h h'=>hf _ _ h.2 h'.2,fun K E H=>by
    show ldT agg ks v (fun _=>s.run P T K E H)↔_
    rw [ldT_const,h]; exact ⟨fun ⟨hp,v,hq,hk⟩=>⟨v,⟨hp,hq⟩,hk⟩,fun ⟨v,⟨hp,hq⟩,hk⟩=>⟨hp,v,hq,hk⟩⟩⟩
theorem VS.opt {p:OA} {f:Nat→Nat→Shp} (h:∀b o,VS P T (f b o)):VS P T (.opt p f):=by
  by_cases hp:∃b o,p=some ⟨b,o,none⟩
  · obtain ⟨b,o,rfl⟩:=hp
    exact h b o
  · exact ⟨fun _=>False,fun _ _ h=>h.elim,fun K E H=>⟨fun hh=>by obtain ⟨b,o,e,_⟩:=nn_spec (show nn p _ from hh); exact absurd ⟨b,o,e⟩ hp,fun ⟨_,hh,_⟩=>hh.elim⟩⟩
theorem NS.fail:NS P T .fail:=⟨False,⟨[],0⟩,fun _=>undef,fun K E H=>⟨fun h=>h.elim,fun h=>h.1⟩⟩
theorem NS.new (x:Blk) (f:Nat→Value):NS P T (.new x f):=⟨True,x,f,fun K E H=>⟨fun h=>⟨trivial,h⟩,fun h=>h.2⟩⟩
theorem NS.req {p:Prop} {s:Shp} (h:NS P T s):NS P T (.req p s):=by
  obtain ⟨q,x,f,h⟩:=h
  exact ⟨p∧q,x,f,fun K E H=>by
    show p∧s.run P T K E H↔_
    rw [h,and_assoc]⟩
theorem NS.fit {agg:Bool} {ks:List CK} {v:Value} {s:Shp} (h:NS P T s):NS P T (.fit agg ks v s):=by
  obtain ⟨q,x,f,h⟩:=h
  exact ⟨ldT agg ks v (fun _=>True)∧q,x,f,fun K E H=>by
    show ldT agg ks v (fun _=>s.run P T K E H)↔_
    rw [ldT_const,h,and_assoc]⟩
theorem fillC_ind {pl:Nat→Option (Nat × TypeId)} {C:Shp→Prop} (h0:C .fail) (h1:∀{agg ks v s},C s→C (.fit agg ks v s)):∀(parts:List (Nat × Value)) (cs:List Value) (G:List Value→Shp),(∀cs,C (G cs))→C (fillC T pl cs parts G)
  | [],cs,G,hG=>hG cs
  | (i,v) :: r,cs,G,hG=>by
    unfold fillC
    split
    · simp only [frcT_eq]
      split
      · exact h1 (fillC_ind h0 h1 r _ G hG)
      · exact h0
    · exact h0
/-! ### The kinds of operations -/
def ocl:Op→Nat
  | .move _ | .assign _ | .pick _ _ _ | .nilCheck _ | .binOp _ _ _ _ _ | .unOp _ _ _ | .convert _ _ _ | .fieldAddr _ _ _ | .field _ _ _ | .indexAddr _ _ _ | .index _ _ _
  | .slice _ _ _ _ _ | .build _ _ | .makeInterface _ _ | .makeFunc _ _ _ | .extract _ _=>0
  | .load _ _=>1
  | .alloc _ | .box _ _ | .buildSlice _ _ _ | .makeSlice _ _ _=>2
  | .store _ _ _=>3
  | .call c=>match c.callee with
    | .builtin .len=>0
    | .builtin .min=>0
    | .builtin .max=>0
    | .builtin .append=>3
    | .builtin .copy=>3
    | .builtin .clear=>3
    | .builtin _=>5
    | _=>4
  | _=>5
theorem vs_binInt (op:BinOp) (k:IntKind) (a b:Int):VS P T (binInt op k a b):=by
  cases op<;>simp only [binInt]<;>first | exact VS.val _ | exact VS.fail | exact VS.req (VS.val _)
theorem vs_bin (op:BinOp) (t:TypeId) (x y:Value):VS P T (shpBin T op t x y):=by
  unfold shpBin
  split
  · split
    · exact VS.req (VS.val _)
    · exact VS.req (VS.val _)
    · split
      · exact vs_binInt _ _ _ _
      · exact VS.fail
  · split
    · split<;>first | exact VS.val _ | exact VS.fail
    · exact VS.fail
  · split
    · split<;>first | exact VS.val _ | exact VS.fail
    · exact VS.fail
  · split
    · split<;>first | exact VS.fit (VS.fit (VS.val _)) | exact VS.fail
    · exact VS.fail
  · exact VS.fail
theorem vs_bnd {x:Option Value} {y d:Nat} {G:Nat→Shp} (h:∀n,VS P T (G n)):VS P T (bnd x y d G):=by
  unfold bnd
  split
  · exact h _
  · exact VS.req (h _)
  · exact VS.fail
theorem vs_cap (v:Value):∀l:List Value,VS P T (l.foldr (fun v s=>Shp.fit false [.ptr] v s) (.val v))
  | []=>VS.val _
  | x :: l=>VS.fit (vs_cap v l)
theorem vs_op {o:Oper} {ρ:Operand→Value} (h:ocl o.op=0):VS P T (shp T o ρ):=by
  obtain ⟨dst,op,ty,pos,after,guard⟩:=o
  cases op<;>simp only [ocl] at h<;>simp only [shp,frcT_eq,frcC_eq]<;>(try exact absurd h (by decide))<;>try exact VS.fail
  case move=>exact VS.val _
  case assign=>exact VS.val _
  case pick=>split<;>first | exact VS.val _ | exact VS.fail
  case build t ps=>
    unfold shpBuild
    simp only
    split
    · split
      · exact fillC_ind VS.fail (fun h=>VS.fit h) _ _ _ fun cs=>by
          split
          · exact VS.val _
          · rw [frcC_eq]; exact VS.val _
      · exact VS.fail
    · split
      · exact VS.fail
      · exact fillC_ind VS.fail (fun h=>VS.fit h) _ _ _ fun cs=>VS.val _
    · exact VS.fail
  case nilCheck x=>
    split
    · exact VS.opt fun b o=>VS.val _
    · exact VS.val _
    · exact VS.fail
  case binOp=>exact vs_bin _ _ _ _
  case unOp op t x=>unfold shpUn; split<;>first | exact VS.val _ | exact VS.fail
  case convert=>split<;>first | exact VS.val _ | exact VS.fail
  case makeInterface=>split<;>first | exact VS.fail | exact VS.fit (VS.val _)
  case makeFunc fn first cap=>
    cases fn<;>try exact VS.fail
    simp only
    split
    · exact vs_cap _ _
    · exact VS.fail
  case slice t x lo hi mx=>
    unfold shpSlice
    split
    · split
      · exact VS.fail
      · exact vs_bnd fun _=>vs_bnd fun _=>VS.val _
    · exact VS.fail
  case fieldAddr t x f=>
    unfold shpFieldAddr
    split
    · split
      · split<;>first | exact VS.val _ | exact VS.fail
      · exact VS.fail
    · exact VS.fail
  case field t x f=>
    unfold shpField
    split
    · split
      · refine VS.fit ?_
        split
        · exact VS.val _
        · split<;>first | exact VS.val _ | exact VS.fail
      · exact VS.fail
    · exact VS.fail
  case indexAddr t x i=>
    unfold shpIndexAddr
    split
    · split
      · exact VS.fail
      · exact VS.opt fun b o=>VS.req (VS.val _)
    · split
      · exact VS.fail
      · exact VS.opt fun b o=>VS.req (VS.val _)
    · exact VS.fail
  case index t x i=>
    unfold shpIndex
    split
    · split
      · exact VS.req (VS.dec _ _)
      · exact VS.fail
    · exact VS.req (VS.val _)
    · exact VS.fail
  case extract t n=>
    split
    · split<;>first | exact VS.val _ | exact VS.fail
    · exact VS.fail
  case call c=>
    obtain ⟨callee,args,ats⟩:=c
    cases callee with
    | value f=>simp at h
    | invoke r n=>simp at h
    | builtin b=>
      simp only
      unfold shpBuiltin
      split<;>first
        | exact VS.fail
        | exact VS.val _
        | (split<;>first | exact VS.val _ | exact VS.fail)
        | exact absurd h (by simp)
theorem ns_op {o:Oper} {ρ:Operand→Value} (h:ocl o.op=2):NS P T (shp T o ρ):=by
  obtain ⟨dst,op,ty,pos,after,guard⟩:=o
  cases op<;>simp only [ocl] at h<;>simp only [shp,frcT_eq]<;>(try exact absurd h (by decide))<;>try exact NS.fail
  case alloc t=>
    split<;>first | exact NS.fail | exact NS.new _ _
  case box t x=>exact NS.fit (NS.new _ _)
  case buildSlice t n ps=>
    unfold shpBuildSlice
    split
    · simp only
      split
      · exact NS.fail
      · split
        · exact fillC_ind NS.fail (fun h=>NS.fit h) _ _ _ fun cs=>NS.new _ _
        · exact NS.fail
    · exact NS.fail
  case makeSlice t l c=>
    unfold shpMakeSlice
    split
    · simp only
      split
      · exact NS.fail
      · exact NS.req (NS.new _ _)
    · exact NS.fail
  case call c=>
    obtain ⟨callee,args,ats⟩:=c
    cases callee with
    | builtin b=>cases b<;>simp at h
    | value f=>simp at h
    | invoke r n=>simp at h
end
end Go.Mz
