/-
  A slice of any length that grows, and what the weights of an argument tell. It proves nothing of the program by itself.
-/
import Derived.Test.YtndgjfbibkdokaaMzW
import Derived.Test.YtndgjfbibkdokaaPkM
set_option linter.unusedVariables false
namespace Go.Mz
section
variable {α:Type} [El α]
theorem growBy_fine (need:Nat):∀(r c:Nat),c≤need+(need+768) / 4→Builtin.growBy need r c≤need+(need+768) / 4
  | 0,c,h=>h
  | r+1,c,h=>by
    unfold Builtin.growBy
    split
    · exact h
    · exact growBy_fine need r _ (by omega)
theorem room_fine (need c:Nat) (h:c<need):Builtin.nextslicecap need c≤need+(need+768) / 4+512:=by
  unfold Builtin.nextslicecap
  split
  · omega
  · split
    · omega
    · exact Nat.le_trans (growBy_fine _ _ _ (by omega)) (Nat.le_add_right _ _)
end
theorem wE {H:Type} {P:Program} {p:Nat→Bool}:∀{ts:List TypeId} {ds:List (DataW H)} {i:Nat} {t:TypeId} {d:DataW H},ts[i]?=some t→ds[i]?=some d→(DataW.weightsEach P ts ds).all p=true→(d.weights P t).all p=true
  | [],_,_,_,_,h,_,_=>by simp at h
  | _ :: _,[],_,_,_,_,h,_=>by simp at h
  | t0 :: ts,d0 :: ds,0,t,d,h,h',hw=>by
    simp at h h'
    subst h; subst h'
    rw [DataW.weightsEach,List.all_append,Bool.and_eq_true] at hw
    exact hw.1
  | t0 :: ts,d0 :: ds,i+1,t,d,h,h',hw=>by
    rw [DataW.weightsEach,List.all_append,Bool.and_eq_true] at hw
    exact wE (ts:=ts) (ds:=ds) (i:=i) (by simpa using h) (by simpa using h') hw.2
theorem wt_slice {P:Program} {t e:TypeId} (ht:P.underlying t=some (.slice e)) {H:Type} {enc:TypeId × Value→H} {w:World} {base:Nat} {sp:Nat→Bool} {held:Bool} {fuel:Nat} {cs:List Value} {x:DataW H × List MemPlace}
    (hx:DataW.trod enc P w base sp held fuel t cs=some x) (hw:(x.1.weights P t).all (·≤reachBytes)=true):∀a l c,cs=[.slice a l c]→l*P.bytesOf e≤reachBytes:=by
  rintro a l c rfl
  rcases DataW.trod_slice ht hx with ⟨h,_⟩ | ⟨a',len,cap,elems,rest,n,_,h,rfl,_,_,_,hlen,_⟩
  · simp at h
    rw [h.2.1,Nat.zero_mul]
    exact Nat.zero_le _
  · simp at h
    obtain ⟨rfl,rfl,rfl⟩:=h
    rw [DataW.weights,ht] at hw
    simp only [List.all_cons,Bool.and_eq_true,decide_eq_true_eq,List.length_map] at hw
    exact Nat.le_trans (Nat.mul_le_mul_right _ (by omega)) hw.1
def TW (P:Program) (t:TypeId) (cs:List Value):Prop:=
  ∃(H:Type) (enc:TypeId × Value→H) (w:World) (base:Nat) (sp:Nat→Bool) (held:Bool) (fuel:Nat) (x:DataW H × List MemPlace),DataW.trod enc P w base sp held fuel t cs=some x∧(x.1.weights P t).all (·≤reachBytes)=true
theorem TW.of {P:Program} {t:TypeId} {H:Type} {enc:TypeId × Value→H} {w:World} {base:Nat} {sp:Nat→Bool} {held:Bool} {v:Value} {d:DataW H} {ps:List MemPlace}
    (hd:DataW.Trod enc P w base sp held t v d ps) (hw:(d.weights P t).all (·≤reachBytes)=true):TW P t v.cells.toList:=by
  obtain ⟨fuel,hx⟩:=hd
  exact ⟨_,_,_,_,_,_,_,_,hx,hw⟩
theorem TW.fld {P:Program} {t:TypeId} {cs:List Value} {fs:Array Field} {f:Field} {i:Nat} (ht:P.underlying t=some (.struct fs)) (hf:fs[i]?=some f) (h:TW P t cs):TW P f.type ((cs.drop f.offset).take (P.cellsOf f.type)):=by
  obtain ⟨H,enc,w,base,sp,held,fuel,x,hx,hw⟩:=h
  obtain ⟨xs,n,_,he,_,hl,hfs⟩:=DataW.trod_struct ht hx
  have h1:=hfs i f hf
  have hi:i<xs.length:=by
    rw [hl]
    rcases Nat.lt_or_ge i fs.size with h | h
    · exact h
    · rw [Array.getElem?_eq_none (by omega)] at hf; cases hf
  rw [List.getElem?_eq_getElem hi] at h1
  subst he
  rw [DataW.weights,ht] at hw
  refine ⟨H,enc,w,base,sp,held,n,xs[i],h1,wE (i:=i) (t:=f.type) (d:=xs[i].1) ?_ ?_ hw⟩
  · rw [List.getElem?_map,Array.getElem?_toList,hf]; rfl
  · rw [List.getElem?_map,List.getElem?_eq_getElem hi]; rfl
theorem TW.sl {P:Program} {t e:TypeId} {a:OA} {l c:Nat} (ht:P.underlying t=some (.slice e)) (h:TW P t [.slice a l c]):l*P.bytesOf e≤reachBytes:=by
  obtain ⟨H,enc,w,base,sp,held,fuel,x,hx,hw⟩:=h
  exact wt_slice ht hx hw a l c rfl
end Go.Mz
