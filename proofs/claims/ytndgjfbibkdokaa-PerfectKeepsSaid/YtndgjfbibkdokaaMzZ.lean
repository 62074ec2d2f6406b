/-
  A slice of any length that grows, and what the weights of an argument tell. It proves nothing of the program by itself.
-/
import Derived.Test.YtndgjfbibkdokaaMzW
import Derived.Test.YtndgjfbibkdokaaPkM
set_option linter.unusedSimpArgs false
set_option linter.unusedVariables false
namespace Go.Mz
section
variable {α:Type} [El α]
theorem growBy_fine (need:Nat):∀(r c:Nat),c≤need+(need+768) / 4→Builtin.growBy need r c≤need+(need+768) / 4
  | 0,c,h=>h
  | r+1,c,h=>by
    unfold Builtin.growBy
    split
    · exact h
    · exact growBy_fine need r _ (by omega)
theorem room_fine (need c:Nat) (h:c<need):Builtin.nextslicecap need c≤need+(need+768) / 4+512:=by
  unfold Builtin.nextslicecap
  split
  · omega
  · split
    · omega
    · exact Nat.le_trans (growBy_fine _ _ _ (by omega)) (Nat.le_add_right _ _)
theorem Row.appW {H:Hp} {p:OA} {n c:Nat} {f:Nat→α} (h:Row H p n c f) {e:TypeId} {t:BT} {ks:List CK} {bytes:Nat} (x:α) {K:OA→Nat→Nat→Hp→Prop}
    (hk:ks.length=El.w α) (hb:(n+1+(n+769) / 4+512)*bytes≤2 ^ 48) (hn:n+1<2 ^ 63)
    (k:∀p' c' H',Row H' p' (n+1) c' (upf f n x)→Step (fpS p) H H'→(∀b,fpS p' b→fpS p b∨H b=none)→K p' (n+1) c' H') :
    nw H ⟨El.enc x,t⟩ fun b H'=>appM e ks bytes p n c (some ⟨b,0,none⟩) 1 H' K:=by
  intro b hbn
  have hw:=El.pos (α:=α)
  have hlen:=El.len x
  refine Or.inl ?_
  refine ⟨_,upd_same,by simp [hk,El.len],?_⟩
  have htake:((El.enc x).drop 0).take (1*ks.length)=El.enc x:=by simp [hk,←El.len x]
  simp only [htake]
  refine ⟨El.one x,?_⟩
  split
  · rename_i hc
    rcases h.cells with h' | ⟨b',o,y,rfl,hx,⟨hl,hz⟩,ha⟩
    · omega
    · have hne:b'≠b:=fun e=>by rw [e,hbn] at hx; cases hx
      have hcw:(n+1)*El.w α≤c*El.w α:=Nat.mul_le_mul_right _ hc
      rw [Nat.add_mul] at hcw
      refine ⟨y,by rw [upd_ne hne]; exact hx,⟨by rw [hk,El.len]; omega,hz⟩,?_⟩
      rw [hk]
      refine k _ _ _ ⟨hc,h.cap,.inr ⟨b',o,_,rfl,upd_same,⟨by rw [putL_length]; exact hl,hz⟩,?_⟩⟩ ?_ (fun b h=>.inl h)
      · intro i hi j hj
        rw [putL_get _ _ _ _ (by rw [El.len]; omega),El.len]
        by_cases ei:i=n
        · subst ei
          rw [if_pos (by omega),upf_same]; congr 1; omega
        · have:(i+1)*El.w α≤n*El.w α:=Nat.mul_le_mul_right _ (by omega)
          rw [Nat.add_mul] at this
          rw [if_neg (by omega),upf_ne ei]
          exact ha i (by omega) j hj
      · exact (Step.new (F:=fpS (some ⟨b',o,none⟩)) hbn).trans (Step.wr (F:=fpS (some ⟨b',o,none⟩)) (by rw [upd_ne hne]; exact hx) ⟨_,rfl⟩) fun _ h=>.inl h
  · rename_i hc
    have hcap:c<n+1:=by omega
    refine ⟨⟨by omega,?_⟩,?_⟩
    · exact Nat.le_trans (Nat.mul_le_mul_right _ (room_fine (n+1) c hcap)) hb
    · have fin:∀old:List Value,old.length=n*El.w α→At old 0 n f→∀c' b',n+1≤c'→c'<2 ^ 63→(H.upd b ⟨El.enc x,t⟩) b'=none→K (some ⟨b',0,none⟩) (n+1) c' ((H.upd b ⟨El.enc x,t⟩).upd b' ⟨old++El.enc x++zr (c'-(n+1)) ks,e⟩):=by
        intro old hol hoa c' b' hc1 hc2 hb'
        have hb'':H b'=none:=by
          unfold Hp.upd at hb'
          split at hb'
          · cases hb'
          · exact hb'
        refine k _ _ _ ⟨hc1,hc2,.inr ⟨b',0,_,rfl,upd_same,⟨?_,rfl⟩,?_⟩⟩ ?_ ?_
        · simp only [List.length_append,hol,El.len,zr_length,hk,Nat.sub_mul,Nat.add_mul]
          have:(n+1)*El.w α≤c'*El.w α:=Nat.mul_le_mul_right _ hc1
          rw [Nat.add_mul] at this
          omega
        · intro i hi j hj
          rw [List.append_assoc]
          by_cases ei:i=n
          · subst ei
            rw [List.getElem?_append_right (by omega),List.getElem?_append_left (by rw [El.len]; omega),upf_same,hol]; congr 1; omega
          · have:(i+1)*El.w α≤n*El.w α:=Nat.mul_le_mul_right _ (by omega)
            rw [Nat.add_mul] at this
            rw [List.getElem?_append_left (by omega),upf_ne ei]
            exact hoa i (by omega) j hj
        · exact (Step.new (F:=fpS p) hbn).trans (Step.new (F:=fpS p) hb') fun _ h=>.inl h
        · intro b1 h1
          rw [fpS_mk] at h1; subst h1; exact .inr hb''
      rw [hk]
      rcases h.cells with ⟨rfl,rfl⟩ | ⟨b',o,y,rfl,hx,⟨hl,hz⟩,ha⟩
      · have:=h.le
        have hn0:n=0:=by omega
        subst hn0
        exact ⟨by simp,fin [] (by simp) fun i hi=>by omega⟩
      · have hne:b'≠b:=fun e=>by rw [e,hbn] at hx; cases hx
        have hnc:n*El.w α≤c*El.w α:=Nat.mul_le_mul_right _ h.le
        refine ⟨y,by rw [upd_ne hne]; exact hx,by omega,fin _ (by simp; omega) ?_⟩
        intro i hi j hj
        have:(i+1)*El.w α≤n*El.w α:=Nat.mul_le_mul_right _ (by omega)
        rw [Nat.add_mul] at this
        rw [List.getElem?_take_of_lt (by omega),List.getElem?_drop,Nat.zero_add,←Nat.add_assoc]
        exact ha i hi j hj
end
theorem wE {H:Type} {P:Program} {p:Nat→Bool}:∀{ts:List TypeId} {ds:List (DataW H)} {i:Nat} {t:TypeId} {d:DataW H},ts[i]?=some t→ds[i]?=some d→(DataW.weightsEach P ts ds).all p=true→(d.weights P t).all p=true
  | [],_,_,_,_,h,_,_=>by simp at h
  | _ :: _,[],_,_,_,_,h,_=>by simp at h
  | t0 :: ts,d0 :: ds,0,t,d,h,h',hw=>by
    simp at h h'
    subst h; subst h'
    rw [DataW.weightsEach,List.all_append,Bool.and_eq_true] at hw
    exact hw.1
  | t0 :: ts,d0 :: ds,i+1,t,d,h,h',hw=>by
    rw [DataW.weightsEach,List.all_append,Bool.and_eq_true] at hw
    exact wE (ts:=ts) (ds:=ds) (i:=i) (by simpa using h) (by simpa using h') hw.2
theorem wt_slice {P:Program} {t e:TypeId} (ht:P.underlying t=some (.slice e)) {H:Type} {enc:TypeId × Value→H} {w:World} {base:Nat} {sp:Nat→Bool} {held:Bool} {fuel:Nat} {cs:List Value} {x:DataW H × List MemPlace}
    (hx:DataW.trod enc P w base sp held fuel t cs=some x) (hw:(x.1.weights P t).all (·≤reachBytes)=true):∀a l c,cs=[.slice a l c]→l*P.bytesOf e≤reachBytes:=by
  rintro a l c rfl
  rcases DataW.trod_slice ht hx with ⟨h,_⟩ | ⟨a',len,cap,elems,rest,n,_,h,rfl,_,_,_,hlen,_⟩
  · simp at h
    rw [h.2.1,Nat.zero_mul]
    exact Nat.zero_le _
  · simp at h
    obtain ⟨rfl,rfl,rfl⟩:=h
    rw [DataW.weights,ht] at hw
    simp only [List.all_cons,Bool.and_eq_true,decide_eq_true_eq,List.length_map] at hw
    exact Nat.le_trans (Nat.mul_le_mul_right _ (by omega)) hw.1
def TW (P:Program) (t:TypeId) (cs:List Value):Prop:=
  ∃(H:Type) (enc:TypeId × Value→H) (w:World) (base:Nat) (sp:Nat→Bool) (held:Bool) (fuel:Nat) (x:DataW H × List MemPlace),DataW.trod enc P w base sp held fuel t cs=some x∧(x.1.weights P t).all (·≤reachBytes)=true
theorem TW.of {P:Program} {t:TypeId} {H:Type} {enc:TypeId × Value→H} {w:World} {base:Nat} {sp:Nat→Bool} {held:Bool} {v:Value} {d:DataW H} {ps:List MemPlace}
    (hd:DataW.Trod enc P w base sp held t v d ps) (hw:(d.weights P t).all (·≤reachBytes)=true):TW P t v.cells.toList:=by
  obtain ⟨fuel,hx⟩:=hd
  exact ⟨_,_,_,_,_,_,_,_,hx,hw⟩
theorem TW.fld {P:Program} {t:TypeId} {cs:List Value} {fs:Array Field} {f:Field} {i:Nat} (ht:P.underlying t=some (.struct fs)) (hf:fs[i]?=some f) (h:TW P t cs):TW P f.type ((cs.drop f.offset).take (P.cellsOf f.type)):=by
  obtain ⟨H,enc,w,base,sp,held,fuel,x,hx,hw⟩:=h
  obtain ⟨xs,n,_,he,_,hl,hfs⟩:=DataW.trod_struct ht hx
  have h1:=hfs i f hf
  have hi:i<xs.length:=by
    rw [hl]
    rcases Nat.lt_or_ge i fs.size with h | h
    · exact h
    · rw [Array.getElem?_eq_none (by omega)] at hf; cases hf
  rw [List.getElem?_eq_getElem hi] at h1
  subst he
  rw [DataW.weights,ht] at hw
  refine ⟨H,enc,w,base,sp,held,n,xs[i],h1,wE (i:=i) (t:=f.type) (d:=xs[i].1) ?_ ?_ hw⟩
  · rw [List.getElem?_map,Array.getElem?_toList,hf]; rfl
  · rw [List.getElem?_map,List.getElem?_eq_getElem hi]; rfl
theorem TW.sl {P:Program} {t e:TypeId} {a:OA} {l c:Nat} (ht:P.underlying t=some (.slice e)) (h:TW P t [.slice a l c]):l*P.bytesOf e≤reachBytes:=by
  obtain ⟨H,enc,w,base,sp,held,fuel,x,hx,hw⟩:=h
  exact wt_slice ht hx hw a l c rfl
end Go.Mz
