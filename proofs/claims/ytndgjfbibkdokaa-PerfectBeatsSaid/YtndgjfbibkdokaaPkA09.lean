/-
  Joined: VouK, VouL, VouM, RefA.
-/
import Derived.Test.YtndgjfbibkdokaaPkA08
import Derived.Test.YtndgjfbibkdokaaPkM
import Derived.Test.YtndgjfbibkdokaaGRea
set_option linter.unusedVariables false
/-
  Walks of layer 12, more: build.
-/
namespace Go.Mz
section
variable {E:VP}
structure Bst (H0 H:Hp) (fb lb tb ob:Nat) (ln lc N:Nat) (f g:Nat→Int) (nodes:Int) (op:OA) (oc:Nat) (L:List Edg):Prop where
  s:Step (fun _=>False) H0 H
  fr:Row H (some ⟨fb,0,none⟩) N N f
  la:Row H (some ⟨lb,0,none⟩) ln lc g
  t:H tb=some ⟨[.int .i64 0,.slice none 0 0],24⟩
  o:H ob=some ⟨[.int .i64 nodes,.slice op L.length oc],24⟩
  r:Row H op L.length oc (lsE L)
  new:∀y,fpS op y→H0 y=none∧y≠fb∧y≠lb∧y≠tb∧y≠ob
  ob0:H0 ob=none
  tb0:H0 tb=none
  of:ob≠fb
  ol:ob≠lb
  ot:ob≠tb
theorem Bst.keep {H0 H H':Hp} {fb lb tb ob ln lc N:Nat} {f g:Nat→Int} {nodes:Int} {op:OA} {oc:Nat} {L:List Edg} (h:Bst H0 H fb lb tb ob ln lc N f g nodes op oc L) (s:Step (fun _=>False) H H') :
    Bst H0 H' fb lb tb ob ln lc N f g nodes op oc L:=
  ⟨h.s.and s,h.fr.keep s fun _ _ h=>h,h.la.keep s fun _ _ h=>h,s.keep _ _ h.t fun h=>h,s.keep _ _ h.o fun h=>h,h.r.keep s fun _ _ h=>h,h.new,h.ob0,h.tb0,h.of,h.ol,h.ot⟩
theorem Bst.push {H0 H:Hp} {fb lb tb ob ln lc N:Nat} {f g:Nat→Int} {nodes x y:Int} {op:OA} {oc:Nat} {L:List Edg} {K:Hp→Prop} (h:Bst H0 H fb lb tb ob ln lc N f g nodes op oc L) (hL:L.length≤1048576)
    (k:∀H' op' oc',Bst H0 H' fb lb tb ob ln lc N f g nodes op' oc' (L++[(x,y,0,0)])→(∀a z,H a=some z→a≠ob→¬fpS op a→H' a=some z∧¬fpS op' a)→K H') :
    nw H ⟨[.int .i64 x,.int .i64 y,.int .i64 0,.int .i64 0],49⟩ fun bb H1=>appM 49 [.i .i64,.i .i64,.i .i64,.i .i64] 32 op L.length oc (some ⟨bb,0,none⟩) 1 H1 fun p' n' c' H2=>stC H2 ob 1 [.slice p' n' c'] K:=by
  refine h.r.app (α:=Edg) (x,y,0,0) rfl hL (by decide) fun p' c' H2 r2 s2 f2=>?_
  have oo:¬fpS op ob:=fun hh=>(h.new _ hh).2.2.2.2 rfl
  have o2:=s2.keep _ _ h.o oo
  refine stp o2 (by simp) rfl fun H3 e3 s3=>?_
  have lv:∀z,H z≠none→(∀y,fpS op y→y≠z)→∀y,fpS p' y→y≠z:=fun z hz hn y hy e=>by
    rcases f2 y hy with h' | h'
    · exact hn y h' e
    · exact hz (e▸h')
  have nob:=lv ob (by rw [h.o]; exact fun h=>by cases h) fun y hy=>(h.new y hy).2.2.2.2
  have s02:=h.s.own s2 fun y hy=>(h.new y hy).1
  rw [lsE_app] at r2
  refine k H3 p' c' ⟨s02.own s3 fun y hy=>hy▸h.ob0,(h.fr.keep s2 fun y hy hy'=>?_).keep s3 fun y hy e=>?_,(h.la.keep s2 fun y hy hy'=>?_).keep s3 fun y hy e=>?_,s3.keep _ _ (s2.keep _ _ h.t fun hh=>(h.new _ hh).2.2.2.1 rfl) fun e=>h.ot e.symm,?_,?_,fun y hy=>?_,h.ob0,h.tb0,h.of,h.ol,h.ot⟩ fun a z ha hao haf=>?_
  · rw [fpS_mk] at hy; exact (h.new _ hy').2.1 hy
  · rw [fpS_mk] at hy; exact h.of (e▸hy)
  · rw [fpS_mk] at hy; exact (h.new _ hy').2.2.1 hy
  · rw [fpS_mk] at hy; exact h.ol (e▸hy)
  · rw [List.length_append]; exact e3
  · rw [List.length_append]; exact r2.keep s3 fun y hy e=>nob y hy e
  · refine ⟨?_,lv fb (h.fr.live ⟨_,rfl⟩) (fun y hy=>(h.new y hy).2.1) y hy,lv lb (h.la.live ⟨_,rfl⟩) (fun y hy=>(h.new y hy).2.2.1) y hy,lv tb (by rw [h.t]; exact fun h=>by cases h) (fun y hy=>(h.new y hy).2.2.2.1) y hy,nob y hy⟩
    rcases f2 y hy with h' | h'
    · exact (h.new y h').1
    · exact h.s.mono _ h'
  · refine ⟨s3.keep _ _ (s2.keep _ _ ha haf) hao,fun hh=>?_⟩
    rcases f2 a hh with h' | h'
    · exact haf h'
    · rw [ha] at h'; cases h'
end
end Go.Mz
/-
  Walks of layer 12, more: build whole, Gadget, Many.
-/
namespace Go.Mz
section
variable {E:VP}
def GadB (N:Int) (n:Nat) (e:Nat→Edg) (b:Nat→Int) (bn:Nat) (c:Int):Prop:=
  (c=chk N n e∧c≠0)∨(c=130∧Right N n e∧¬Bnd N b bn)∨(c=3∧Right N n e∧Bnd N b bn∧¬Gsz e (cps e n b) N.toNat n)
theorem GadB.ne {N:Int} {n:Nat} {e:Nat→Edg} {b:Nat→Int} {bn:Nat} {c:Int} (h:GadB N n e b bn c):c≠0:=by
  rcases h with ⟨_,h⟩ | ⟨rfl,_⟩ | ⟨rfl,_⟩
  · exact h
  · decide
  · decide
end
end Go.Mz
/-
  Walks of layer 12, more: Doubled.
-/
namespace Go.Mz
section
variable {E:VP}
def sub (e:Nat→Edg) (tw:Nat→Int):Nat→Edg:=fun i=>e (tw i).toNat
structure DistR (H:Hp) (dp:OA) (dn:Nat) (dl:Nat→Sl) (row:Nat→Nat→Int):Prop where
  d:Rdr H dp dn dl
  r:∀i,i<dn→Rdr H (dl i).p (dl i).n (row i)∧(dl i).n<2 ^ 63
theorem DistR.keep {H H':Hp} {dp:OA} {dn:Nat} {dl:Nat→Sl} {row:Nat→Nat→Int} (h:DistR H dp dn dl row) (s:Step (fun _=>False) H H'):DistR H' dp dn dl row:=
  ⟨h.d.keep s fun _ _ _ h=>h,fun i hi=>⟨(h.r i hi).1.keep s fun _ _ _ h=>h,(h.r i hi).2⟩⟩
end
end Go.Mz
/-
  The document's functions of layers 3, 11 and 12, walked: Check, Costs, Rising, At, Taken, Matching, Cost.
-/
namespace Go.Mz
section
variable {E:VP}
theorem rbad {N a b c d:Int} {H:Hp} {K:Int→Hp→Prop} (k:∀H',Step (fun _=>False) H H'→K (badE N (a,b,c,d)) H'):Q16.call N a b c d E H K:=by
  refine Q16.of (Q16.run_eq ?_)
  unfold Q16.run_t
  refine nwk fun b1 H1 hb1 e1 s1=>?_
  simp only [get_at e1,gZ,gS,ldI_mk]
  have k:=k H1 s1
  have b30:(a<0∨N≤a∨b<0∨N≤b)→K 30 H1:=fun h=>by
    have:badE N (a,b,c,d)=30:=by unfold badE; exact if_pos h
    rwa [this] at k
  have b31:¬(a<0∨N≤a∨b<0∨N≤b)→¬(0≤c∧c≤1048576∧-1048576≤d∧d≤1048576)→K 31 H1:=fun h h'=>by
    have:badE N (a,b,c,d)=31:=by unfold badE; rw [if_neg h]; exact if_neg h'
    rwa [this] at k
  refine bc (fun h=>b30 (.inl h)) fun h1=>?_
  refine bc (fun h=>b30 (.inr (.inr (.inl h)))) fun h2=>?_
  refine bc (fun h=>b30 (.inr (.inl h))) fun h3=>?_
  refine bc (fun h=>b30 (.inr (.inr (.inr h)))) fun h4=>?_
  refine bc (fun h=>b31 (by omega) (by omega)) fun h5=>?_
  refine bc (fun h=>b31 (by omega) (by omega)) fun h6=>?_
  refine bc (fun h=>b31 (by omega) (by omega)) fun h7=>?_
  refine bc (fun h=>b31 (by omega) (by omega)) fun h8=>?_
  have:badE N (a,b,c,d)=0:=by unfold badE; rw [if_neg (show ¬(a<0∨N≤a∨b<0∨N≤b) by omega)]; exact if_pos (show 0≤c∧c≤1048576∧-1048576≤d∧d≤1048576 by omega)
  rwa [this] at k
theorem rcheckA {N:Int} {p:OA} {n c:Nat} {e:Nat→Edg} {H:Hp} {K:Int→Int→Hp→Prop} (he:Rdr H p n e)
    (k:∀H' a,Step (fun _=>False) H H'→ChkAt N n e a→K (chk N n e) a H'):Q7.call N p n c E H K:=by
  refine Q7.of (Q7.run_eq ?_)
  unfold Q7.run_t
  refine nwk fun b1 H1 hb1 e1 s1=>?_
  simp only [get_at e1,gZ,gS,ldI_mk,ldS_mk]
  have bad:(N<0∨1024<N∨4096<n)→K 3 0 H1:=fun hs=>by
    have hc:3=chk N n e:=by unfold chk; rw [if_pos hs]
    rw [hc]; exact k _ _ s1 (ChkAt.none (.inl hs))
  refine bc (fun h=>bad (by omega)) fun h1=>?_
  refine bc (fun h=>bad (by omega)) fun h2=>?_
  refine bc (fun h=>bad (by omega)) fun h3=>?_
  have hsz:¬(N<0∨1024<N∨4096<n):=by omega
  have hc:chk N n e=chkE N e n:=by unfold chk; rw [if_neg (by omega)]
  refine Q7.l1_rule (fun g1 i4 H'=>b1=g1∧∃i:Nat,i4=i∧i≤n∧chkE N e i=0∧Step (fun _=>False) H H'∧H' b1=some ⟨[.int .i64 N,.slice p n c],24⟩)
    (fun g1 i4 H'=>n-i4.toNat) ?_ ⟨rfl,0,rfl,by omega,rfl,s1,e1⟩
  clear e1 s1 bad
  rintro g1 i4 H3 ⟨rfl,i,rfl,hi,hz,s3,e3⟩ X hX
  refine Q7.b1_eq ?_
  unfold Q7.b1_t
  simp only [get_at e3,gZ,gS,ldI_mk,ldS_mk]
  refine bc (fun hlt=>?_) fun hge=>?_
  · refine (he.keep s3 fun _ _ _ h=>h).edge (by omega) (by omega) ?_
    simp only [tN]
    refine rbad fun H4 s4=>?_
    have s04:=s3.and s4
    refine bcn (fun hb=>?_) fun hb=>?_
    · have h1:chkE N e (i+1)=badE N (e i):=by
        show (if chkE N e i=0 then badE N (e i) else chkE N e i)=_
        rw [if_pos hz]
      have:chk N n e=badE N (e i):=by
        rw [hc,show n=i+1+(n-(i+1)) by omega,chkE_stay (by rw [h1]; exact hb),h1]
      have k:=k H4 i s04 (ChkAt.here hsz (by omega) hz hb)
      rwa [this] at k
    · rw [i64w (by omega) (by omega)]
      refine hX _ _ _ ⟨rfl,i+1,by omega,by omega,?_,s04,s4.keep _ _ e3 fun h=>h⟩ (by omega)
      show (if chkE N e i=0 then badE N (e i) else chkE N e i)=0
      rw [if_pos hz]; exact hb
  · have:i=n:=by omega
    subst this
    have k:=k H3 0 s3 (ChkAt.none (.inr hz))
    rwa [hc,hz] at k
theorem rcheck {N:Int} {p:OA} {n c:Nat} {e:Nat→Edg} {H:Hp} {K:Int→Int→Hp→Prop} (he:Rdr H p n e)
    (k:∀H' a,Step (fun _=>False) H H'→K (chk N n e) a H'):Q7.call N p n c E H K:=rcheckA he fun H' a s _=>k H' a s
theorem rrising {p:OA} {k c:Nat} {n:Int} {m:Nat→Int} {H:Hp} {K:Bool→Hp→Prop} (hm:Rdr H p k m) (hk:k<2 ^ 63)
    (kt:Ris m k n→K true H) (kf:¬Ris m k n→K false H):Q17.call p k c n E H K:=by
  refine Q17.of (Q17.run_eq ?_)
  unfold Q17.run_t
  refine Q17.l1_rule (fun tp tn tc n1 i5 H'=>p=tp∧k=tn∧n=n1∧H=H'∧∃i:Nat,i5=i∧i≤k∧Ris m i n)
    (fun tp tn tc n1 i5 H'=>k-i5.toNat) ?_ ⟨rfl,rfl,rfl,rfl,0,rfl,by omega,fun i hi=>by omega⟩
  rintro tp tn tc n1 i5 H' ⟨rfl,rfl,rfl,rfl,i,rfl,hi,hr⟩ X hX
  refine Q17.b1_eq ?_
  unfold Q17.b1_t
  refine bc (fun hlt=>?_) fun hge=>?_
  · refine hm.ixI (by omega) (by omega) ?_
    simp only [tN]
    refine bc (fun h=>kf fun hh=>by have:=(hh i (by omega)).1; omega) fun h1=>?_
    refine hm.ixI (by omega) (by omega) ?_
    simp only [tN]
    refine bc (fun h=>kf fun hh=>by have:=(hh i (by omega)).2.1; omega) fun h2=>?_
    have next:(0<i→m (i-1)<m i)→Q17.j1 p k tc n (i:Int) X E H K:=fun h3=>by
      refine Q17.j1_eq ?_
      unfold Q17.j1_t
      rw [i64w (by omega) (by omega)]
      refine hX _ _ _ _ _ _ ⟨rfl,rfl,rfl,rfl,i+1,by omega,by omega,fun j hj=>?_⟩ (by omega)
      by_cases e:j=i
      · subst e; exact ⟨by omega,by omega,h3⟩
      · exact hr j (by omega)
    refine bc (fun h0=>?_) fun h0=>next fun h=>by omega
    refine hm.ixI (by omega) (by omega) ?_
    rw [i64w (by omega) (by omega)]
    refine hm.ixI (by omega) (by omega) ?_
    simp only [tN]
    have ei:((i:Int)-1).toNat=i-1:=by omega
    rw [ei]
    refine bc (fun h=>kf fun hh=>by have:=(hh i (by omega)).2.2 (by omega); omega) fun h=>next fun _=>by omega
  · have:i=k:=by omega
    subst this
    exact kt hr
theorem rat {N:Int} {ep:OA} {n ec:Nat} {e:Nat→Edg} {p:OA} {k c:Nat} {m:Nat→Int} {v:Int} {H:Hp} {K:Int→Hp→Prop} (he:Rdr H ep n e) (hn:n≤4096) (hm:Rdr H p k m) (hs:Ris m k n)
    (kk:∀H',Step (fun _=>False) H H'→K (dg e m k v) H'):Q40.call N ep n ec p k c v E H K:=by
  have hl:=hs.len
  refine Q40.of (Q40.run_eq ?_)
  unfold Q40.run_t
  refine nwk fun b1 H1 hb1 e1 s1=>?_
  have he1:=he.keep s1 fun _ _ _ h=>h
  have hm1:=hm.keep s1 fun _ _ _ h=>h
  refine Q40.l1_rule (fun tp tn tc v2 g3 n7 i8 H'=>p=tp∧k=tn∧v=v2∧b1=g3∧H1=H'∧∃i:Nat,i8=i∧i≤k∧n7=(dg e m i v:Int))
    (fun tp tn tc v2 g3 n7 i8 H'=>k-i8.toNat) ?_ ⟨rfl,rfl,rfl,rfl,rfl,0,rfl,by omega,rfl⟩
  rintro tp tn tc v2 g3 n7 i8 H' ⟨rfl,rfl,rfl,rfl,rfl,i,rfl,hi,rfl⟩ X hX
  refine Q40.b1_eq ?_
  unfold Q40.b1_t
  refine bc (fun hlt=>?_) fun hge=>?_
  · have hmi:=hs i (by omega)
    have hdl:=dg_le (e:=e) (m:=m) (v:=v) i
    simp only [get_at e1,gZ,gS,ldI_mk,ldS_mk]
    have next:∀x:Int,x=(dg e m (i+1) v:Int)→Q40.j2 p k tc v b1 x (i:Int) X E H1 K:=fun x hx=>by
      refine Q40.j2_eq ?_
      unfold Q40.j2_t
      rw [i64w (by omega) (by omega)]
      exact hX _ _ _ _ _ _ _ _ ⟨rfl,rfl,rfl,rfl,rfl,i+1,by omega,by omega,hx⟩ (by omega)
    have hds:(dg e m (i+1) v:Int)=(dg e m i v:Int)+(if (e (m i).toNat).fr=v then 1 else 0)+(if (e (m i).toNat).to=v then 1 else 0):=by
      show ((dg e m i v+(if (e (m i).toNat).fr=v then 1 else 0)+(if (e (m i).toNat).to=v then 1 else 0):Nat):Int)=_
      split<;>split<;>simp
    have mid:∀x:Int,x=(dg e m i v:Int)+(if (e (m i).toNat).fr=v then 1 else 0)→Q40.j1 p k tc v b1 x (i:Int) X E H1 K:=fun x hx=>by
      have hx2:x≤8193∧0≤x:=by rw [hx]; split<;>omega
      refine Q40.j1_eq ?_
      unfold Q40.j1_t
      simp only [get_at e1,gZ,gS,ldI_mk,ldS_mk]
      refine hm1.ixI (by omega) (by omega) ?_
      simp only [tN]
      refine he1.edgeT (by omega) (by omega) ?_
      refine bc (fun h=>?_) fun h=>?_
      · rw [i64w (by omega) (by omega)]
        exact next _ (by rw [hds,hx,if_pos h])
      · exact next _ (by rw [hds,hx,if_neg h]; omega)
    refine hm1.ixI (by omega) (by omega) ?_
    simp only [tN]
    refine he1.edgeF (by omega) (by omega) ?_
    refine bc (fun h=>?_) fun h=>?_
    · rw [i64w (by omega) (by omega)]
      exact mid _ (by rw [if_pos h])
    · exact mid _ (by rw [if_neg h]; omega)
  · have:i=k:=by omega
    subst this
    exact kk _ s1
theorem rtaken {N:Int} {ep:OA} {n ec:Nat} {e:Nat→Edg} {p:OA} {k c:Nat} {m:Nat→Int} {qp:OA} {q qc:Nat} {most:Nat→Int} {H:Hp} {K:Bool→Hp→Prop}
    (he:Rdr H ep n e) (hr:Right N n e) (hm:Rdr H p k m) (hk:k<2 ^ 63) (hq:Rdr H qp q most) (hN:N≤q) (h0:∀v,v<N.toNat→0≤most v)
    (kt:∀H',Step (fun _=>False) H H'→Tkn N n e m k (fun v=>most v.toNat)→K true H') (kf:∀H',Step (fun _=>False) H H'→¬Tkn N n e m k (fun v=>most v.toNat)→K false H') :
    Q31.call N ep n ec p k c qp q qc E H K:=by
  have hN0:=hr.N0; have hN1:=hr.N1; have hn1:=hr.n1
  refine Q31.of (Q31.run_eq ?_)
  unfold Q31.run_t
  refine nwk fun b1 H1 hb1 e1 s1=>?_
  simp only [get_at e1,gZ,gS,ldI_mk,ldS_mk]
  refine rrising (hm.keep s1 fun _ _ _ h=>h) hk (fun hris=>?_) fun hn=>bcb (fun _=>kf _ s1 fun h=>hn h.ris) fun h=>by cases h
  refine bcb (fun h=>by cases h) fun _=>?_
  have hl:=hris.len
  have he1:=he.keep s1 fun _ _ _ h=>h
  have hm1:=hm.keep s1 fun _ _ _ h=>h
  refine Q31.l1_rule (fun tp tn tc op on oc g3 i7 H'=>p=tp∧k=tn∧qp=op∧q=on∧b1=g3∧H1=H'∧∃i:Nat,i7=i∧i≤k∧∀a,a<i→¬lp (e (m a).toNat))
    (fun tp tn tc op on oc g3 i7 H'=>k-i7.toNat) ?_ ⟨rfl,rfl,rfl,rfl,rfl,rfl,0,rfl,by omega,fun a ha=>by omega⟩
  rintro tp tn tc op on oc g3 i7 H' ⟨rfl,rfl,rfl,rfl,rfl,rfl,i,rfl,hi,hnl⟩ X hX
  refine Q31.b1_eq ?_
  unfold Q31.b1_t
  refine bc (fun hlt=>?_) fun hge=>?_
  · have hmi:=hris i (by omega)
    simp only [get_at e1,gZ,gS,ldI_mk,ldS_mk]
    refine hm1.ixI (by omega) (by omega) ?_
    simp only [tN]
    refine he1.edgeF (by omega) (by omega) ?_
    refine hm1.ixI (by omega) (by omega) ?_
    simp only [tN]
    refine he1.edgeT (by omega) (by omega) ?_
    refine bc (fun h=>kf _ s1 fun hh=>hh.nl i (by omega) h) fun h=>?_
    rw [i64w (by omega) (by omega)]
    refine hX _ _ _ _ _ _ _ _ _ ⟨rfl,rfl,rfl,rfl,rfl,rfl,i+1,by omega,by omega,fun a ha=>?_⟩ (by omega)
    by_cases ea:a=i
    · subst ea; exact h
    · exact hnl a (by omega)
  · have:i=k:=by omega
    subst this
    clear hX
    refine Q31.j1_eq ?_
    unfold Q31.j1_t
    refine Q31.l2_rule (fun tp tn tc op on oc g3 v8 H'=>p=tp∧i=tn∧qp=op∧q=on∧b1=g3∧∃v:Nat,v8=v∧(v:Int)≤N∧Step (fun _=>False) H1 H'∧∀u:Nat,u<v→(dg e m i u:Int)≤most u)
      (fun tp tn tc op on oc g3 v8 H'=>N.toNat-v8.toNat) ?_ ⟨rfl,rfl,rfl,rfl,rfl,0,rfl,by omega,.refl,fun a ha=>by omega⟩
    rintro tp tn tc op on oc g3 v8 H2 ⟨rfl,rfl,rfl,rfl,rfl,v,rfl,hv,s2,hle⟩ Y hY
    refine Q31.b2_eq ?_
    unfold Q31.b2_t
    have e12:=s2.keep _ _ e1 fun h=>h
    have s02:=s1.and s2
    simp only [get_at e12,gZ,gS,ldI_mk,ldS_mk]
    refine bc (fun hlt=>?_) fun hge=>?_
    · refine (hq.keep s02 fun _ _ _ h=>h).ix (α:=Int) (by omega) (by omega) fun b o _ hg=>?_
      have g0:=hg 0 (by decide)
      simp only [El.enc,Nat.add_zero,gZ,tN] at g0
      rw [g0]
      simp only [ldI_mk]
      refine rat (he.keep s02 fun _ _ _ h=>h) hn1 (hm.keep s02 fun _ _ _ h=>h) hris fun H3 s3=>?_
      rw [s3.get g0 fun h=>h]
      refine ⟨rfl,?_⟩
      refine bc (fun h=>kf _ (s02.and s3) fun hh=>?_) fun h=>?_
      · have h1:=h0 v (by omega)
        have h2:=hh.mst v (by omega) (by omega) (by omega)
        simp only [tN] at h2
        omega
      · rw [i64w (by omega) (by omega)]
        refine hY _ _ _ _ _ _ _ _ _ ⟨rfl,rfl,rfl,rfl,rfl,v+1,by omega,by omega,s2.and s3,fun u hu=>?_⟩ (by omega)
        by_cases eu:u=v
        · subst eu; omega
        · exact hle u (by omega)
    · refine kt _ s02 ⟨hris,hnl,fun u u0 u1 _=>?_⟩
      have:=hle u.toNat (by omega)
      rwa [show ((u.toNat:Nat):Int)=u by omega] at this
theorem rones {N:Int} {ep:OA} {n ec:Nat} {H:Hp} {K:OA→Nat→Nat→Hp→Prop} (hN0:0≤N) (hN1:N≤1024)
    (kk:∀x H',Step (fun _=>False) H H'→H x=none→Row H' (some ⟨x,0,none⟩) N.toNat N.toNat (fun _=>(1:Int))→K (some ⟨x,0,none⟩) N.toNat N.toNat H'):Q32.call N ep n ec E H K:=by
  refine Q32.of (Q32.run_eq ?_)
  unfold Q32.run_t
  refine nwk fun b1 H1 hb1 e1 s1=>?_
  simp only [get_at e1,gZ,gS,ldI_mk,ldS_mk]
  refine Row.mkI hN0 (by omega) fun b2 H2 hb2 r2 s2=>?_
  have e12:=s2.keep _ _ e1 fun h=>h
  have ne:b1≠b2:=ne_of_live hb2 (by rw [e1]; exact fun h=>by cases h)
  have f2:H b2=none:=s1.mono _ hb2
  refine Q32.l1_rule (fun g1 op on oc v4 H'=>b1=g1∧op=some ⟨b2,0,none⟩∧on=N.toNat∧oc=N.toNat∧∃v:Nat,v4=v∧v≤N.toNat∧Step (fun _=>False) H H'∧H' b1=some ⟨[.int .i64 N,.slice ep n ec],24⟩∧Row H' (some ⟨b2,0,none⟩) N.toNat N.toNat (fun u=>if u<v then (1:Int) else 0))
    (fun g1 op on oc v4 H'=>N.toNat-v4.toNat) ?_ ⟨rfl,rfl,rfl,rfl,0,rfl,by omega,s1.and s2,e12,r2.congr fun i _=>by simp⟩
  clear r2 e12 s2 hb2 e1 s1
  rintro g1 op on oc v4 H3 ⟨rfl,rfl,rfl,rfl,v,rfl,hv,s3,e3,r3⟩ X hX
  refine Q32.b1_eq ?_
  unfold Q32.b1_t
  simp only [get_at e3,gZ,gS,ldI_mk,ldS_mk]
  refine bc (fun hlt=>?_) fun hge=>?_
  · refine r3.stI (by omega) (by omega) _ fun H4 r4 s4=>?_
    rw [i64w (by omega) (by omega)]
    refine hX _ _ _ _ _ _ ⟨rfl,rfl,rfl,rfl,v+1,by omega,by omega,s3.own s4 fun y hy=>by rw [fpS_mk] at hy; exact hy▸f2,s4.keep _ _ e3 (by rw [fpS_mk]; exact ne),r4.congr fun u hu=>?_⟩ (by omega)
    simp only [tN]
    by_cases eu:u=v
    · subst eu; rw [upf_same,if_pos (Nat.lt_succ_self u)]
    · rw [upf_ne eu]
      by_cases h:u<v
      · rw [if_pos h,if_pos (by omega)]
      · rw [if_neg h,if_neg (by omega)]
  · exact kk b2 H3 s3 f2 (r3.congr fun u hu=>by rw [if_pos (by omega)])
theorem rmatches {N:Int} {ep:OA} {n ec:Nat} {e:Nat→Edg} {p:OA} {k c:Nat} {m:Nat→Int} {H:Hp} {K:Bool→Hp→Prop} (he:Rdr H ep n e) (hr:Right N n e) (hm:Rdr H p k m) (hk:k<2 ^ 63)
    (kt:∀H',Step (fun _=>False) H H'→Tkn N n e m k (fun _=>1)→K true H') (kf:∀H',Step (fun _=>False) H H'→¬Tkn N n e m k (fun _=>1)→K false H'):Q18.call N ep n ec p k c E H K:=by
  have hN0:=hr.N0; have hN1:=hr.N1
  refine Q18.of (Q18.run_eq ?_)
  unfold Q18.run_t
  refine nwk fun b1 H1 hb1 e1 s1=>?_
  simp only [get_at e1,gZ,gS,ldI_mk,ldS_mk]
  refine rones hN0 hN1 fun x H2 s2 hx r2=>?_
  have e12:=s2.keep _ _ e1 fun h=>h
  have s02:=s1.and s2
  simp only [get_at e12,gZ,gS,ldI_mk,ldS_mk,true_and]
  exact rtaken (he.keep s02 fun _ _ _ h=>h) hr (hm.keep s02 fun _ _ _ h=>h) hk r2.rdr (by omega) (fun _ _=>by omega) (fun H3 s3 h=>kt _ (s02.and s3) h) fun H3 s3 h=>kf _ (s02.and s3) h
theorem rmatching {N:Int} {ep:OA} {n ec:Nat} {e:Nat→Edg} {p:OA} {k c:Nat} {m:Nat→Int} {H:Hp} {K:Int→Hp→Prop} (he:Rdr H ep n e) (hm:Rdr H p k m) (hk:k<2 ^ 63)
    (kk:∀H' c,Step (fun _=>False) H H'→Out N n e (Tkn N n e m k fun _=>1) c→K c H'):Q8.call N ep n ec p k c E H K:=by
  refine Q8.of (Q8.run_eq ?_)
  unfold Q8.run_t
  refine nwk fun b1 H1 hb1 e1 s1=>?_
  simp only [get_at e1,gZ,gS,ldI_mk,ldS_mk]
  refine rcheck (he.keep s1 fun _ _ _ h=>h) fun H2 a s2=>?_
  have s02:=s1.and s2
  refine bc (fun hc=>?_) fun hc=>kk _ _ s02 (.inr (.inl ⟨rfl,hc⟩))
  have hr:=chk_zero.1 hc
  have e12:=s2.keep _ _ e1 fun h=>h
  simp only [get_at e12,gZ,gS,ldI_mk,ldS_mk]
  refine rmatches (he.keep s02 fun _ _ _ h=>h) hr (hm.keep s02 fun _ _ _ h=>h) hk (fun H3 s3 ht=>?_) fun H3 s3 ht=>?_
  · refine bcb (fun h=>by cases h) fun _=>?_
    rw [hc]
    exact kk _ _ (s02.and s3) (.inl ⟨rfl,hr,ht⟩)
  · refine bcb (fun _=>?_) fun h=>by cases h
    exact kk _ _ (s02.and s3) (.inr (.inr ⟨rfl,hr,ht⟩))
theorem rcost {N:Int} {ep:OA} {n ec:Nat} {e:Nat→Edg} {p:OA} {k c:Nat} {m:Nat→Int} {H:Hp} {K:Int→Hp→Prop} (he:Rdr H ep n e) (hr:Right N n e) (hm:Rdr H p k m) (hs:Ris m k n)
    (kk:∀H',Step (fun _=>False) H H'→K (cst e m k) H'):Q9.call N ep n ec p k c E H K:=by
  have hl:=hs.len
  have hn:=hr.n1
  refine Q9.of (Q9.run_eq ?_)
  unfold Q9.run_t
  refine nwk fun b1 H1 hb1 e1 s1=>?_
  refine Q9.l1_rule (fun tp tn tc g2 n5 i6 H'=>p=tp∧k=tn∧b1=g2∧H1=H'∧∃i:Nat,i6=i∧i≤k∧n5=cst e m i)
    (fun tp tn tc g2 n5 i6 H'=>k-i6.toNat) ?_ ⟨rfl,rfl,rfl,rfl,0,rfl,by omega,rfl⟩
  rintro tp tn tc g2 n5 i6 H' ⟨rfl,rfl,rfl,rfl,i,rfl,hi,rfl⟩ X hX
  refine Q9.b1_eq ?_
  unfold Q9.b1_t
  refine bc (fun hlt=>?_) fun hge=>?_
  · simp only [get_at e1,gZ,gS,ldI_mk,ldS_mk]
    refine (hm.keep s1 fun _ _ _ h=>h).ixI (by omega) (by omega) ?_
    simp only [tN]
    have hmi:=hs i (by omega)
    refine (he.keep s1 fun _ _ _ h=>h).edgeC (by omega) (by omega) ?_
    have h1:=cst_bound hr (hs.cut (j:=i) (by omega))
    have h2:=cst_bound hr (hs.cut (j:=i+1) (by omega))
    have h3:cst e m (i+1)=cst e m i+(e (m i).toNat).co:=rfl
    rw [i64w (by omega) (by omega),i64w (by omega) (by omega)]
    exact hX _ _ _ _ _ _ _ ⟨rfl,rfl,rfl,rfl,i+1,by omega,by omega,h3.symm⟩ (by omega)
  · have:i=k:=by omega
    subst this
    exact kk _ s1
end
end Go.Mz
