/-
  Regions: from a frame that knows some slots to the model's own. It proves nothing of the program by itself.
-/
import Derived.Test.YtndgjfbibkdokaaMzJ
set_option linter.unusedSimpArgs false
set_option linter.unusedVariables false
namespace Go.Mz
open Go.RowKit
section
variable {P:Program} {T:Tab}
def isMv:Op→Bool
  | .move _ | .assign _ | .pick _ _ _=>true
  | _=>false
theorem fill_def {pl:Nat→Option (Nat × TypeId)} {K E:VP} {H:Hp}:∀{parts:List (Nat × Value)} {cs:List Value} {G:List Value→Shp},
    (fillC T pl cs parts G).run P T K E H→∀p∈parts,p.2≠undef
  | [],_,_,_=>by simp
  | (i,v) :: r,cs,G,h=>by
    unfold fillC at h
    split at h
    · simp only [frcT_eq] at h
      split at h
      · obtain ⟨hu,h,_,_⟩:=fitN h
        intro p hp
        cases hp with
        | head=>exact hu
        | tail _ hp=>exact fill_def h p hp
      · exact h.elim
    · exact h.elim
theorem build_def {t:TypeId} {parts:List (Nat × Value)} {K E:VP} {H:Hp} (h:(shpBuild T t parts).run P T K E H):∀p∈parts,p.2≠undef:=by
  unfold shpBuild at h
  simp only at h
  split at h
  · split at h
    · exact fill_def h
    · exact h.elim
  · split at h
    · exact h.elim
    · exact fill_def h
  · exact h.elim
theorem buildSlice_def {t:TypeId} {n:Nat} {parts:List (Nat × Value)} {K E:VP} {H:Hp} (h:(shpBuildSlice T t n parts).run P T K E H):∀p∈parts,p.2≠undef:=by
  unfold shpBuildSlice at h
  split at h
  · simp only at h
    split at h
    · exact h.elim
    · split at h
      · exact fill_def h
      · exact h.elim
  · exact h.elim
theorem map_def {ρ:Operand→Value} {l:List (Nat × Operand)} (h:∀p∈l.map (fun p=>(p.1,ρ p.2)),p.2≠undef):∀p∈l,ρ p.2≠undef:=
  fun p hp=>h _ (List.mem_map.2 ⟨p,hp,rfl⟩)
theorem lmap_def {ρ:Operand→Value} {l:List Operand} (h:∀v∈l.map ρ,v≠undef):∀x∈l,ρ x≠undef:=fun x hx=>h _ (List.mem_map.2 ⟨x,hx,rfl⟩)
theorem shp_opdef {o:Oper} {ρ:Operand→Value} (hfn:∀g,ρ (.func g)=.func (.func g) #[] #[]) {K E:VP} {H:Hp} (hm:isMv o.op=false) (h:(shp T o ρ).run P T K E H):∀x∈o.op.operands,ρ x≠undef:=by
  obtain ⟨dst,op,ty,pos,after,guard⟩:=o
  cases op<;>simp only [isMv,Bool.false_eq_true,Bool.true_eq_false] at hm<;>simp only [shp,frcT_eq,frcC_eq] at h<;>simp only [Op.operands]<;>try exact h.elim
  case alloc t=>simp
  case box t x=>
    have:=(fitN h).1
    simpa using this
  case build t ps=>have:=map_def (build_def h); intro x hx; simp at hx; obtain ⟨i,hx⟩:=hx; exact this (i,x) (Array.mem_toList_iff.2 hx)
  case buildSlice t n ps=>have:=map_def (buildSlice_def h); intro x hx; simp at hx; obtain ⟨i,hx⟩:=hx; exact this (i,x) (Array.mem_toList_iff.2 hx)
  case load t a=>
    split at h
    · rename_i e; simp [e,undef]
    · exact h.elim
  case store t a x=>
    split at h
    · rename_i e; have:=(fitN h).1; simp [e,undef] at this ⊢; exact this
    · exact h.elim
  case nilCheck x=>
    split at h
    · rename_i e; simp [e,undef]
    · rename_i e; simp [e,undef]
    · exact h.elim
  case binOp op t x y yt=>obtain ⟨h1,h2⟩:=shpBin_def h; simp [h1,h2]
  case unOp op t x=>simpa using shpUn_def h
  case convert s d x=>
    split at h
    · rename_i e _ _; simp [e,undef]
    · exact h.elim
  case makeInterface t x=>
    split at h
    · exact h.elim
    · have:=(fitN h).1; simpa using this
  case makeFunc fn first cap=>
    cases fn<;>try exact h.elim
    simp only at h
    split at h
    · rename_i hf
      have hf':first=#[]:=by apply Array.ext'; simpa using hf
      have:=lmap_def (cap_spec h).1
      intro x hx; rw [hf'] at hx; simp at hx; exact this x (Array.mem_toList_iff.2 hx)
    · exact h.elim
  case makeSlice t l c=>obtain ⟨h1,h2⟩:=shpMS_def h; simp [h1,h2]
  case slice t x lo hi mx=>
    obtain ⟨h1,h2,h3,h4⟩:=shpSlice_def h
    have h4':mx=none:=by cases mx<;>simp at h4; rfl
    subst h4'
    intro y hy
    simp at hy
    rcases hy with rfl | hy | hy
    · exact h1
    · subst hy; exact h2 _ rfl
    · subst hy; exact h3 _ rfl
  case fieldAddr t x f=>simpa using shpFA_def h
  case field t x f=>simpa using shpF_def h
  case indexAddr t x i=>obtain ⟨h1,h2⟩:=shpIA_def h; simp [h1,h2]
  case index t x i=>obtain ⟨h1,h2⟩:=shpIx_def h; simp [h1,h2]
  case extract x n=>
    split at h
    · rename_i vs e
      split at h
      · rename_i v hv
        intro y hy; simp at hy; subst hy; rw [e]
        intro e; unfold undef at e; cases e; simp at hv
      · exact h.elim
    · exact h.elim
  case call c=>
    obtain ⟨callee,args,ats⟩:=c
    cases callee with
    | builtin b=>
      simp only at h
      have:=lmap_def (builtin_def h)
      intro x hx; simp [Call.operands] at hx; exact this x (Array.mem_toList_iff.2 hx)
    | value f=>
      have key:ρ f≠undef∧∀v∈args.toList.map ρ,v≠undef:=by
        split at h
        · rename_i hc; cases hc
        · rename_i g hc
          cases hc
          split at h
          · exact ⟨by rw [hfn]; simp [undef],(fitAll_spec h).1⟩
          · exact h.elim
        · rename_i f' hnf hc
          cases hc
          split at h
          · rename_i g first cap hf
            split at h
            · exact ⟨by rw [hf]; simp [undef],(fitAll_spec h.2).1⟩
            · exact h.elim
          · exact h.elim
        · rename_i hc; cases hc
      have:=lmap_def key.2
      intro x hx; simp [Call.operands] at hx
      rcases hx with rfl | hx
      · exact key.1
      · exact this x (Array.mem_toList_iff.2 hx)
    | invoke r n=>
      simp only at h
      have hs:=fitAll_spec h
      have:=lmap_def hs.1
      obtain ⟨t,a,g,hv,_⟩:=inv_spec hs.2
      intro x hx; simp [Call.operands] at hx
      rcases hx with rfl | hx
      · rw [hv]; simp [undef]
      · exact this x (Array.mem_toList_iff.2 hx)
  case panic x=>
    split at h
    · rename_i e; simp [e,undef]
    · exact h.elim
/-! ### Frames that know some slots -/
structure FR (n:Nat) (F:Fr) (a:Act):Prop where
  size:a.tmps.size=n
  get:∀t,F.get t=undef∨a.tmps[t]?=some (F.get t)
theorem FR.ev {n:Nat} {F:Fr} {a:Act} (h:FR n F a) (x:Operand):F.ev x=undef∨F.ev x=a.eval x:=by
  cases x with
  | tmp t=>
    rcases h.get t with h | h
    · exact .inl h
    · right; simp [Fr.ev,Act.eval,h]
  | const v=>exact .inr rfl
  | global g=>exact .inr rfl
  | func f=>exact .inr rfl
theorem FR.put {n:Nat} {F:Fr} {a:Act} (h:FR n F a) {dst:Option Nat} (hd:∀d,dst=some d→d<n) {v v':Value} (hv:v=undef∨v=v'):FR n (F.put dst v) (a.put dst v'):=by
  cases dst with
  | none=>exact h
  | some d=>
    refine ⟨by simp [Act.put,h.size],fun t=>?_⟩
    simp only [Fr.put,Fr.get,Act.put]
    by_cases e:Nat.beq d t=true
    · rw [e]
      have e':d=t:=Nat.eq_of_beq_eq_true e
      subst e'
      rcases hv with hv | hv
      · exact .inl hv
      · right; rw [hv]; simp [h.size,hd d rfl]
    · have e2:Nat.beq d t=false:=by cases hh:Nat.beq d t<;>first | rfl | exact absurd hh e
      rw [e2]
      have hne:d≠t:=fun he=>e (by subst he; exact Nat.beq_refl d)
      simp only [cond_false]
      rw [Array.getElem?_setIfInBounds_ne hne]
      exact h.get t
theorem Fr.keep_get (F:Fr) (l:List Nat) (t:Nat):(F.keep l).get t=undef∨(F.keep l).get t=F.get t:=by
  induction l with
  | nil=>exact .inl rfl
  | cons x l ih=>
    simp only [Fr.keep,Fr.get]
    cases e:Nat.beq x t with
    | true=>have:=Nat.eq_of_beq_eq_true e; subst this; exact .inr rfl
    | false=>exact ih
theorem FR.keep {n:Nat} {F:Fr} {a:Act} (h:FR n F a) (l:List Nat):FR n (F.keep l) a:=
  ⟨h.size,fun t=>by
    rcases Fr.keep_get F l t with e | e
    · exact .inl e
    · rw [e]; exact h.get t⟩
theorem FR.nil {n:Nat} {a:Act} (h:a.tmps.size=n):FR n [] a:=⟨h,fun _=>.inl rfl⟩
theorem FR.known {n:Nat} {F:Fr} {a:Act} (h:FR n F a) {x:Operand} {v:Value} (hx:F.ev x=v) (hv:v≠undef):a.eval x=v:=by
  rcases h.ev x with e | e
  · exact absurd (hx.symm.trans e) hv
  · rw [←e,hx]
theorem shp_lift {n:Nat} {F:Fr} {a:Act} (hF:FR n F a) {o:Oper} {K E:VP} {H:Hp} (hf:Fin H) (h:(shp T o F.ev).run P T K E H) :
    (shp T o a.eval).run P T (fun v' H'=>∃v,(v=undef∨v=v')∧K v H') E H:=by
  by_cases hm:isMv o.op=true
  · obtain ⟨dst,op,ty,pos,after,guard⟩:=o
    cases op<;>simp only [isMv,Bool.false_eq_true] at hm<;>simp only [shp,frcT_eq] at h ⊢
    · exact ⟨_,hF.ev _,h⟩
    · exact ⟨_,hF.ev _,h⟩
    · rename_i c x y
      split at h
      · rename_i t ht
        rw [hF.known ht (by simp [undef])]
        cases t with
        | true=>exact ⟨_,hF.ev _,h⟩
        | false=>exact ⟨_,hF.ev _,h⟩
      · exact h.elim
  · have hm':isMv o.op=false:=by cases hh:isMv o.op<;>first | rfl | exact absurd hh hm
    have hd:=shp_opdef (fun _=>rfl) hm' h
    have e:shp T o F.ev=shp T o a.eval:=shp_congr fun x hx=>(hF.known rfl (hd x hx)).symm
    rw [←e]
    exact Shp.run_mono hf (fun v H' _ hk=>⟨v,.inr rfl,hk⟩) h
theorem rdV_ne {agg:Bool} {ks:List CK} {H:Hp} {b o:Nat} {K:Value→Prop} (h:rdV agg ks H b o K):∃v,v≠undef∧K v:=by
  unfold rdV at h
  cases agg with
  | true=>obtain ⟨vs,_,_,_,h⟩:=lds_spec h; exact ⟨_,by simp [undef],h⟩
  | false=>
    simp only at h
    split at h
    · obtain ⟨v,_,hu,_,h⟩:=ld_spec h; exact ⟨v,hu,h⟩
    · exact h.elim
variable {ops:List Oper} {st:Nat→List Nat}
structure FS (n:Nat) (F:Fr × List Nat) (a:Act):Prop where
  fr:FR n F.1 a
  sk:∀d∈F.2,a.tmps[d]?=some undef
theorem hasN_mem {l:List Nat} {x:Nat} (h:hasN l x=true):x∈l:=by
  induction l with
  | nil=>cases h
  | cons y l ih=>
    unfold hasN at h
    cases e:Nat.beq y x with
    | true=>rw [Nat.eq_of_beq_eq_true e]; simp
    | false=>rw [e] at h; simp [ih h]
theorem remN_mem {l:List Nat} {d x:Nat} (h:x∈remN l d):x∈l∧x≠d:=by
  induction l with
  | nil=>cases h
  | cons y l ih=>
    unfold remN at h
    cases e:Nat.beq y d with
    | true=>rw [e] at h; have:=ih h; exact ⟨by simp [this.1],this.2⟩
    | false=>
      rw [e] at h
      cases h with
      | head=>exact ⟨by simp,fun he=>by subst he; rw [Nat.beq_refl] at e; cases e⟩
      | tail _ h=>have:=ih h; exact ⟨by simp [this.1],this.2⟩
theorem FS.put {n:Nat} {F:Fr × List Nat} {a:Act} (h:FS n F a) {dst:Option Nat} (hd:∀d,dst=some d→d<n) {v v':Value} (hv:v=undef∨v=v'):FS n (fmF.put F dst v) (a.put dst v'):=by
  refine ⟨h.fr.put hd hv,fun d hdm=>?_⟩
  cases dst with
  | none=>exact h.sk d hdm
  | some e=>
    obtain ⟨h1,h2⟩:=remN_mem (show d∈remN F.2 e from hdm)
    simp only [Act.put]
    rw [Array.getElem?_setIfInBounds_ne (Ne.symm h2)]
    exact h.sk d h1
theorem FS.skip {n:Nat} {F:Fr × List Nat} {a:Act} (h:FS n F a) {dst:Option Nat} (hd:∀d,dst=some d→d<n):FS n (fmF.skip F dst) (a.put dst undef):=by
  refine ⟨h.fr.put hd (.inl rfl),fun d hdm=>?_⟩
  cases dst with
  | none=>exact h.sk d hdm
  | some e=>
    have hdm':d=e∨d∈F.2:=List.mem_cons.1 (show d∈e :: F.2 from hdm)
    simp only [Act.put]
    by_cases he:d=e
    · subst he; simp [h.fr.size,hd d rfl]
    · rw [Array.getElem?_setIfInBounds_ne (Ne.symm he)]
      exact h.sk d (hdm'.resolve_left he)
theorem gate_lift {n:Nat} {F:Fr × List Nat} {a:Act} (hF:FS n F a) {g:Option (Nat × Bool)} {X Y X' Y':Prop} (hx:X→X') (hy:Y→Y') (h:gateG fmF ops F g X Y):gateG fmA ops a g X' Y':=by
  unfold gateG at *
  split at h
  · exact hx h
  · rename_i j want
    split at h
    · rename_i o ho
      split at h
      · rename_i d hd
        try simp only [ho,hd]
        split at h
        · rename_i hs
          have hu:=hF.sk d (hasN_mem hs)
          have e:fmA.isSk a d=true:=by
            show isU (a.eval (.tmp d))=true
            simp [Act.eval,hu,isU,undef]
          rw [e]; exact hy h
        · have hev:∀b,fmF.ev F (.tmp d)=.bool b→fmA.ev a (.tmp d)=.bool b:=fun b hb=>hF.fr.known (x:=.tmp d) (v:=.bool b) hb (by simp [undef])
          have hsk:∀b,fmA.ev a (.tmp d)=.bool b→fmA.isSk a d=false:=fun b hb=>by
            show isU (a.eval (.tmp d))=false
            rw [show a.eval (.tmp d)=.bool b from hb]; rfl
          split at h
          · rename_i e; have e':=hev _ e; rw [hsk _ e',e']; exact hx h
          · rename_i e; have e':=hev _ e; rw [hsk _ e',e']; exact hx h
          · rename_i e; have e':=hev _ e; rw [hsk _ e',e']; exact hy h
          · rename_i e; have e':=hev _ e; rw [hsk _ e',e']; exact hy h
          · exact h.elim
      · exact h.elim
    · exact h.elim
theorem same_lift {n:Nat} {F:Fr × List Nat} {a:Act} (hF:FS n F a) {H:Hp} {t:Nat} (h:sameG fmF T ops F H t):sameG fmA T ops a H t:=by
  unfold sameG at *
  split at h
  · rename_i o ho
    refine gate_lift hF (fun hx=>?_) (fun _=>trivial) h
    unfold loadG at *
    split at hx
    · rename_i ty ad d hop hdst
      split at hx
      · rename_i b of e
        simp only [hop,hdst]
        rw [show fmA.ev a ad=.pointer (some ⟨b,of,none⟩) from hF.fr.known e (by simp [undef])]
        have hne:fmF.ev F (.tmp d)≠undef:=by
          obtain ⟨v,hv,e⟩:=rdV_ne hx
          rw [←e]; exact hv
        have e2:fmA.ev a (.tmp d)=fmF.ev F (.tmp d):=hF.fr.known (x:=.tmp d) rfl hne
        simp only [e2]; exact hx
      · exact hx.elim
    · exact hx.elim
  · exact h.elim
theorem stab_lift {n:Nat} {F:Fr × List Nat} {a:Act} (hF:FS n F a) {H:Hp} {done:List Nat} {X X':Prop} (hx:X→X'):∀{l:List Nat},stabG fmF T ops done F H l X→stabG fmA T ops done a H l X'
  | [],h=>hx h
  | t :: r,h=>by
    unfold stabG at *
    split at h
    · exact ⟨same_lift hF h.1,stab_lift hF hx h.2⟩
    · exact stab_lift hF hx h
theorem step_lift {n:Nat} {F:Fr × List Nat} {a:Act} (hF:FS n F a) (hd:∀o∈ops,∀d,o.dst=some d→d<n) {i:Nat} {done:List Nat} {C:Fr × List Nat→Hp→Prop} {C':Act→Hp→Prop} {E:VP} {H:Hp} (hf:Fin H)
    (hC:∀F a H,Fin H→FS n F a→C F H→C' a H) (h:stepG fmF P T ops st i done F C E H):stepG fmA P T ops st i done a C' E H:=by
  unfold stepG at *
  split at h
  · exact h.elim
  · rename_i o ho
    have hdo:=hd o (List.mem_of_getElem? ho)
    refine gate_lift hF (fun h=>?_) (fun h=>hC _ _ _ hf (hF.skip hdo) h) h
    refine Shp.run_mono hf ?_ (shp_lift hF.fr hf h)
    intro v' H' hf' ⟨v,hv,hk⟩
    rw [spl_iff] at hk ⊢
    have hF':=hF.put hdo hv
    exact stab_lift hF' (fun h=>hC _ _ _ hf' hF' h) hk
theorem reg_lift {n:Nat} (hd:∀o∈ops,∀d,o.dst=some d→d<n) {K:FP} {E:VP}:∀(l done:List Nat) {F:Fr × List Nat} {a:Act} {H:Hp},FS n F a→Fin H→
    regG fmF P T ops st l done F (fun F H=>K F.1 H) E H→regG fmA P T ops st l done a (fun a' H'=>∃F',FR n F' a'∧K F' H') E H
  | [],done,F,a,H,hF,hf,h=>⟨F.1,hF.fr,h⟩
  | i :: l,done,F,a,H,hF,hf,h=>step_lift hF hd hf (fun F' a' H' hf' hF' h'=>reg_lift hd l (i :: done) hF' hf' h') h
end
end Go.Mz
