/-
  Joined: VouK, VouL, VouM, RefA, RefB.
-/
import Derived.Test.YtndgjfbibkdokaaPkA08
import Derived.Test.YtndgjfbibkdokaaPkM
import Derived.Test.YtndgjfbibkdokaaGRea
import Derived.Test.YtndgjfbibkdokaaGReb
set_option linter.unusedVariables false
/-
  Walks of layer 12, more: build.
-/
namespace Go.Mz
section
variable {E:VP}
structure Bst (H0 H:Hp) (fb lb tb ob:Nat) (ln lc N:Nat) (f g:Nat→Int) (nodes:Int) (op:OA) (oc:Nat) (L:List Edg):Prop where
  s:Step (fun _=>False) H0 H
  fr:Row H (some ⟨fb,0,none⟩) N N f
  la:Row H (some ⟨lb,0,none⟩) ln lc g
  t:H tb=some ⟨[.int .i64 0,.slice none 0 0],24⟩
  o:H ob=some ⟨[.int .i64 nodes,.slice op L.length oc],24⟩
  r:Row H op L.length oc (lsE L)
  new:∀y,fpS op y→H0 y=none∧y≠fb∧y≠lb∧y≠tb∧y≠ob
  ob0:H0 ob=none
  tb0:H0 tb=none
  of:ob≠fb
  ol:ob≠lb
  ot:ob≠tb
theorem Bst.keep {H0 H H':Hp} {fb lb tb ob ln lc N:Nat} {f g:Nat→Int} {nodes:Int} {op:OA} {oc:Nat} {L:List Edg} (h:Bst H0 H fb lb tb ob ln lc N f g nodes op oc L) (s:Step (fun _=>False) H H') :
    Bst H0 H' fb lb tb ob ln lc N f g nodes op oc L:=
  ⟨h.s.and s,h.fr.keep s fun _ _ h=>h,h.la.keep s fun _ _ h=>h,s.keep _ _ h.t fun h=>h,s.keep _ _ h.o fun h=>h,h.r.keep s fun _ _ h=>h,h.new,h.ob0,h.tb0,h.of,h.ol,h.ot⟩
theorem Bst.push {H0 H:Hp} {fb lb tb ob ln lc N:Nat} {f g:Nat→Int} {nodes x y:Int} {op:OA} {oc:Nat} {L:List Edg} {K:Hp→Prop} (h:Bst H0 H fb lb tb ob ln lc N f g nodes op oc L) (hL:L.length≤1048576)
    (k:∀H' op' oc',Bst H0 H' fb lb tb ob ln lc N f g nodes op' oc' (L++[(x,y,0,0)])→(∀a z,H a=some z→a≠ob→¬fpS op a→H' a=some z∧¬fpS op' a)→K H') :
    nw H ⟨[.int .i64 x,.int .i64 y,.int .i64 0,.int .i64 0],49⟩ fun bb H1=>appM 49 [.i .i64,.i .i64,.i .i64,.i .i64] 32 op L.length oc (some ⟨bb,0,none⟩) 1 H1 fun p' n' c' H2=>stC H2 ob 1 [.slice p' n' c'] K:=by
  refine h.r.app (α:=Edg) (x,y,0,0) rfl hL (by decide) fun p' c' H2 r2 s2 f2=>?_
  have oo:¬fpS op ob:=fun hh=>(h.new _ hh).2.2.2.2 rfl
  have o2:=s2.keep _ _ h.o oo
  refine stp o2 (by simp) rfl fun H3 e3 s3=>?_
  have lv:∀z,H z≠none→(∀y,fpS op y→y≠z)→∀y,fpS p' y→y≠z:=fun z hz hn y hy e=>by
    rcases f2 y hy with h' | h'
    · exact hn y h' e
    · exact hz (e▸h')
  have nob:=lv ob (by rw [h.o]; exact fun h=>by cases h) fun y hy=>(h.new y hy).2.2.2.2
  have s02:=h.s.own s2 fun y hy=>(h.new y hy).1
  rw [lsE_app] at r2
  refine k H3 p' c' ⟨s02.own s3 fun y hy=>hy▸h.ob0,(h.fr.keep s2 fun y hy hy'=>?_).keep s3 fun y hy e=>?_,(h.la.keep s2 fun y hy hy'=>?_).keep s3 fun y hy e=>?_,s3.keep _ _ (s2.keep _ _ h.t fun hh=>(h.new _ hh).2.2.2.1 rfl) fun e=>h.ot e.symm,?_,?_,fun y hy=>?_,h.ob0,h.tb0,h.of,h.ol,h.ot⟩ fun a z ha hao haf=>?_
  · rw [fpS_mk] at hy; exact (h.new _ hy').2.1 hy
  · rw [fpS_mk] at hy; exact h.of (e▸hy)
  · rw [fpS_mk] at hy; exact (h.new _ hy').2.2.1 hy
  · rw [fpS_mk] at hy; exact h.ol (e▸hy)
  · rw [List.length_append]; exact e3
  · rw [List.length_append]; exact r2.keep s3 fun y hy e=>nob y hy e
  · refine ⟨?_,lv fb (h.fr.live ⟨_,rfl⟩) (fun y hy=>(h.new y hy).2.1) y hy,lv lb (h.la.live ⟨_,rfl⟩) (fun y hy=>(h.new y hy).2.2.1) y hy,lv tb (by rw [h.t]; exact fun h=>by cases h) (fun y hy=>(h.new y hy).2.2.2.1) y hy,nob y hy⟩
    rcases f2 y hy with h' | h'
    · exact (h.new y h').1
    · exact h.s.mono _ h'
  · refine ⟨s3.keep _ _ (s2.keep _ _ ha haf) hao,fun hh=>?_⟩
    rcases f2 a hh with h' | h'
    · exact haf h'
    · rw [ha] at h'; cases h'
end
end Go.Mz
/-
  Walks of layer 12, more: build whole, Gadget, Many.
-/
namespace Go.Mz
section
variable {E:VP}
def GadB (N:Int) (n:Nat) (e:Nat→Edg) (b:Nat→Int) (bn:Nat) (c:Int):Prop:=
  (c=chk N n e∧c≠0)∨(c=130∧Right N n e∧¬Bnd N b bn)∨(c=3∧Right N n e∧Bnd N b bn∧¬Gsz e (cps e n b) N.toNat n)
theorem GadB.ne {N:Int} {n:Nat} {e:Nat→Edg} {b:Nat→Int} {bn:Nat} {c:Int} (h:GadB N n e b bn c):c≠0:=by
  rcases h with ⟨_,h⟩ | ⟨rfl,_⟩ | ⟨rfl,_⟩
  · exact h
  · decide
  · decide
end
end Go.Mz
/-
  Walks of layer 12, more: Doubled.
-/
namespace Go.Mz
section
variable {E:VP}
def sub (e:Nat→Edg) (tw:Nat→Int):Nat→Edg:=fun i=>e (tw i).toNat
structure DistR (H:Hp) (dp:OA) (dn:Nat) (dl:Nat→Sl) (row:Nat→Nat→Int):Prop where
  d:Rdr H dp dn dl
  r:∀i,i<dn→Rdr H (dl i).p (dl i).n (row i)∧(dl i).n<2 ^ 63
theorem DistR.keep {H H':Hp} {dp:OA} {dn:Nat} {dl:Nat→Sl} {row:Nat→Nat→Int} (h:DistR H dp dn dl row) (s:Step (fun _=>False) H H'):DistR H' dp dn dl row:=
  ⟨h.d.keep s fun _ _ _ h=>h,fun i hi=>⟨(h.r i hi).1.keep s fun _ _ _ h=>h,(h.r i hi).2⟩⟩
end
end Go.Mz
/-
  The document's functions of layers 3, 11 and 12, walked: Check, Costs, Rising, At, Taken, Matching, Cost.
-/
namespace Go.Mz
section
variable {E:VP}
theorem rrising {p:OA} {k c:Nat} {n:Int} {m:Nat→Int} {H:Hp} {K:Bool→Hp→Prop} (hm:Rdr H p k m) (hk:k<2 ^ 63)
    (kt:Ris m k n→K true H) (kf:¬Ris m k n→K false H):Q17.call p k c n E H K:=by
  refine Q17.of (Q17.run_eq ?_)
  unfold Q17.run_t
  refine Q17.l1_rule (fun tp tn tc n1 i5 H'=>p=tp∧k=tn∧n=n1∧H=H'∧∃i:Nat,i5=i∧i≤k∧Ris m i n)
    (fun tp tn tc n1 i5 H'=>k-i5.toNat) ?_ ⟨rfl,rfl,rfl,rfl,0,rfl,by omega,fun i hi=>by omega⟩
  rintro tp tn tc n1 i5 H' ⟨rfl,rfl,rfl,rfl,i,rfl,hi,hr⟩ X hX
  refine Q17.b1_eq ?_
  unfold Q17.b1_t
  refine bc (fun hlt=>?_) fun hge=>?_
  · refine hm.ixI (by omega) (by omega) ?_
    simp only [tN]
    refine bc (fun h=>kf fun hh=>by have:=(hh i (by omega)).1; omega) fun h1=>?_
    refine hm.ixI (by omega) (by omega) ?_
    simp only [tN]
    refine bc (fun h=>kf fun hh=>by have:=(hh i (by omega)).2.1; omega) fun h2=>?_
    have next:(0<i→m (i-1)<m i)→Q17.j1 p k tc n (i:Int) X E H K:=fun h3=>by
      refine Q17.j1_eq ?_
      unfold Q17.j1_t
      rw [i64w (by omega) (by omega)]
      refine hX _ _ _ _ _ _ ⟨rfl,rfl,rfl,rfl,i+1,by omega,by omega,fun j hj=>?_⟩ (by omega)
      by_cases e:j=i
      · subst e; exact ⟨by omega,by omega,h3⟩
      · exact hr j (by omega)
    refine bc (fun h0=>?_) fun h0=>next fun h=>by omega
    refine hm.ixI (by omega) (by omega) ?_
    rw [i64w (by omega) (by omega)]
    refine hm.ixI (by omega) (by omega) ?_
    simp only [tN]
    have ei:((i:Int)-1).toNat=i-1:=by omega
    rw [ei]
    refine bc (fun h=>kf fun hh=>by have:=(hh i (by omega)).2.2 (by omega); omega) fun h=>next fun _=>by omega
  · have:i=k:=by omega
    subst this
    exact kt hr
end
end Go.Mz
/-
  The document's functions of layer 12, walked, more: Has, Covers, Covered, Pots, Heaviest.
-/
namespace Go.Mz
section
variable {E:VP}
theorem rhas {p:OA} {k c:Nat} {m:Nat→Int} {x:Int} {H:Hp} {K:Bool→Hp→Prop} (hm:Rdr H p k m) (hk:k<2 ^ 63) (kt:In m k x→K true H) (kf:¬In m k x→K false H):Q33.call p k c x E H K:=by
  refine Q33.of (Q33.run_eq ?_)
  unfold Q33.run_t
  refine Q33.l1_rule (fun tp tn tc x1 i5 H'=>p=tp∧k=tn∧x=x1∧H=H'∧∃i:Nat,i5=i∧i≤k∧¬In m i x)
    (fun tp tn tc x1 i5 H'=>k-i5.toNat) ?_ ⟨rfl,rfl,rfl,rfl,0,rfl,by omega,fun ⟨i,hi,_⟩=>by omega⟩
  rintro tp tn tc x1 i5 H' ⟨rfl,rfl,rfl,rfl,i,rfl,hi,hn⟩ X hX
  refine Q33.b1_eq ?_
  unfold Q33.b1_t
  refine bc (fun hlt=>?_) fun hge=>?_
  · refine hm.ixI (by omega) (by omega) ?_
    simp only [tN]
    refine bc (fun h=>kt ⟨i,by omega,h⟩) fun h=>?_
    rw [i64w (by omega) (by omega)]
    refine hX _ _ _ _ _ _ ⟨rfl,rfl,rfl,rfl,i+1,by omega,by omega,fun ⟨j,hj,hv⟩=>?_⟩ (by omega)
    by_cases ej:j=i
    · subst ej; exact h hv
    · exact hn ⟨j,by omega,hv⟩
  · have:i=k:=by omega
    subst this
    exact kf hn
def Pots (N:Int) (pot:Nat→Int) (q:Nat):Prop:=(q:Int)=N∧∀v,v<q→-4398046511104≤pot v∧pot v≤4398046511104
theorem rpots {N:Int} {ep:OA} {n ec:Nat} {vp:OA} {q vc:Nat} {pot:Nat→Int} {H:Hp} {K:Bool→Hp→Prop} (hv:Rdr H vp q pot) (hq:q<2 ^ 63)
    (kt:∀H',Step (fun _=>False) H H'→Pots N pot q→K true H') (kf:∀H',Step (fun _=>False) H H'→¬Pots N pot q→K false H'):Q34.call N ep n ec vp q vc E H K:=by
  refine Q34.of (Q34.run_eq ?_)
  unfold Q34.run_t
  refine nwk fun b1 H1 hb1 e1 s1=>?_
  simp only [get_at e1,gZ,gS,ldI_mk,ldS_mk]
  refine bcn (fun h=>kf _ s1 fun hh=>h hh.1) fun hqN=>?_
  have hv1:=hv.keep s1 fun _ _ _ h=>h
  refine Q34.l1_rule (fun tp tn tc g2 v5 H'=>vp=tp∧q=tn∧b1=g2∧H1=H'∧∃i:Nat,v5=i∧i≤q∧∀v,v<i→-4398046511104≤pot v∧pot v≤4398046511104)
    (fun tp tn tc g2 v5 H'=>q-v5.toNat) ?_ ⟨rfl,rfl,rfl,rfl,0,rfl,by omega,fun v hv=>by omega⟩
  rintro tp tn tc g2 v5 H' ⟨rfl,rfl,rfl,rfl,i,rfl,hi,hb⟩ X hX
  refine Q34.b1_eq ?_
  unfold Q34.b1_t
  simp only [get_at e1,gZ,gS,ldI_mk,ldS_mk]
  refine bc (fun hlt=>?_) fun hge=>?_
  · refine hv1.ixI (by omega) (by omega) ?_
    simp only [tN]
    refine bc (fun h=>kf _ s1 fun hh=>by have:=(hh.2 i (by omega)).1; omega) fun h1=>?_
    refine hv1.ixI (by omega) (by omega) ?_
    simp only [tN]
    refine bc (fun h=>kf _ s1 fun hh=>by have:=(hh.2 i (by omega)).2; omega) fun h2=>?_
    rw [i64w (by omega) (by omega)]
    refine hX _ _ _ _ _ _ ⟨rfl,rfl,rfl,rfl,i+1,by omega,by omega,fun v hv=>?_⟩ (by omega)
    by_cases ev:v=i
    · subst ev; exact ⟨by omega,by omega⟩
    · exact hb v (by omega)
  · have:i=q:=by omega
    subst this
    exact kt _ s1 ⟨hqN,hb⟩
end
end Go.Mz
