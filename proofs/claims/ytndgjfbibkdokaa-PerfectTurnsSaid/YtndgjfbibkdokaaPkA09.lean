/-
  Joined: LPeO, VouJ, VouK, VouL, VouM, RefA.
-/
import Derived.Test.YtndgjfbibkdokaaPkA08
import Derived.Test.YtndgjfbibkdokaaPkA01
import Derived.Test.YtndgjfbibkdokaaPkM
import Derived.Test.YtndgjfbibkdokaaGRea
set_option linter.unusedVariables false
/-
  Walks of layer 18: what Solve answers, of its cost and code alone; graphs that are turned about, or dearer at a node.
-/
namespace Go.Mz
def SolO (N:Int) (n:Nat) (e:Nat→Edg) (c cd:Int):Prop:=
  (cd=chk N n e∧cd≠0∧c=0)∨∃M:Nat,N=M∧Right (M:Int) n e∧((cd=5∧c=0∧∀b,¬Ful M n e b)∨(cd=0∧LstP M n e c))
section
variable {N:Int} {M n n':Nat} {e e':Nat→Edg} {c c' cd cd':Int}
theorem SolO.right (h:SolO (M:Int) n e c cd) (hr:Right (M:Int) n e):(cd=5∧c=0∧∀b,¬Ful M n e b)∨(cd=0∧LstP M n e c):=by
  rcases h with ⟨h1,h2,_⟩ | ⟨M',h1,_,h2⟩
  · exact (h2 (h1.trans (chk_zero.2 hr))).elim
  · have:M'=M:=by omega
    subst this
    exact h2
theorem SolO.zero (h:SolO N n e c cd):cd=0∨c=0:=by
  rcases h with ⟨_,_,h⟩ | ⟨M,_,_,⟨_,h,_⟩ | ⟨h,_⟩⟩
  · exact .inr h
  · exact .inr h
  · exact .inl h
theorem SolO.ren (hr:Right (M:Int) n e) (hr':Right (M:Int) n' e') (h:SolO (M:Int) n e c cd) (h':SolO (M:Int) n' e' c' cd') (π ρ:Nat→Nat) (hπ:∀i,i<n→π i<n'∧(e' (π i)).co=(e i).co∧((ef e' (π i)=ef e i∧et e' (π i)=et e i)∨(ef e' (π i)=et e i∧et e' (π i)=ef e i)))
    (hρ:∀i,i<n'→ρ i<n∧(e (ρ i)).co=(e' i).co∧((ef e (ρ i)=ef e' i∧et e (ρ i)=et e' i)∨(ef e (ρ i)=et e' i∧et e (ρ i)=ef e' i))):cd=cd'∧c=c':=by
  rcases h.right hr with ⟨h1,h2,h3⟩ | ⟨h1,h2⟩<;>rcases h'.right hr' with ⟨k1,k2,k3⟩ | ⟨k1,k2⟩
  · omega
  · obtain ⟨b,hb,_⟩:=k2.ex
    exact (h3 _ (hb.ren hr' ρ fun i hi=>⟨(hρ i hi).1,(hρ i hi).2.2⟩)).elim
  · obtain ⟨b,hb,_⟩:=h2.ex
    exact (k3 _ (hb.ren hr π fun i hi=>⟨(hπ i hi).1,(hπ i hi).2.2⟩)).elim
  · exact ⟨by omega,(h2.ren hr hr' π ρ hπ hρ).uniq k2⟩
theorem SolO.turned (hr:Right (M:Int) n e) (hr':Right (M:Int) n e') (h:SolO (M:Int) n e c cd) (h':SolO (M:Int) n e' c' cd') (he:∀i,i<n→e' i=trn (e (n-1-i))):cd=cd'∧c=c':=by
  have f1:∀i,i<n→ef e' i=et e (n-1-i)∧et e' i=ef e (n-1-i)∧(e' i).co=(e (n-1-i)).co:=fun i hi=>by
    unfold ef et; rw [he i hi]; exact ⟨rfl,rfl,rfl⟩
  refine h.ren hr hr' h' (fun i=>n-1-i) (fun i=>n-1-i) (fun i hi=>?_) fun i hi=>?_
  · have:=f1 (n-1-i) (by omega)
    rw [show n-1-(n-1-i)=i by omega] at this
    exact ⟨by omega,this.2.2,.inr ⟨this.1,this.2.1⟩⟩
  · obtain ⟨a,b,d⟩:=f1 i hi
    exact ⟨by omega,d.symm,.inr ⟨b.symm,a.symm⟩⟩
theorem LstP.bnd (hr:Right (M:Int) n e) (h:LstP M n e c):-1073741824≤c∧c≤1073741824:=by
  obtain ⟨b,hb,eb⟩:=h.ex
  have h1:=psum_bound (f:=fun v=>(e (b v).toNat).co) (a:=-1048576) (b:=1048576) (i:=M) fun v hv=>by
    obtain ⟨i,e1,e2,_⟩:=hb.en hv
    have hx:=hr.ed i e2.1
    have hk0:=hx.k0; have hk1:=hx.k1
    show _≤(e (b v).toNat).co∧(e (b v).toNat).co≤_
    rw [e1,tN]
    exact ⟨hk0,hk1⟩
  have h2:psum (fun v=>(e (b v).toNat).co) M=2*c:=eb
  have:=hr.N1
  omega
theorem chk_label (hr:Right N n e) (h:∀i,i<n→0≤(e' i).fr∧(e' i).fr<N∧0≤(e' i).to∧(e' i).to<N):chk N n e'=0∨chk N n e'=31:=by
  have h0:=hr.N0; have h1:=hr.N1; have h2:=hr.n1
  unfold chk
  rw [if_neg (by omega)]
  clear h2 hr
  induction n with
  | zero=>exact .inl rfl
  | succ n ih=>
    unfold chkE
    split
    · have:=h n (by omega)
      unfold badE
      rw [if_neg (by omega)]
      split
      · exact .inl rfl
      · exact .inr rfl
    · exact ih fun i hi=>h i (by omega)
end
section
variable {N:Int} {n:Nat} {e:Nat→Edg} {E:VP} {H:Hp}
theorem pSolveO {ep:OA} {ec:Nat} {K:OA→Nat→Nat→OA→Nat→Nat→OA→Nat→Nat→OA→Nat→Nat→Int→Int→Hp→Prop} (he:Rdr H ep n e) (hn:n<2 ^ 62)
    (kk:∀H' mp mk mc yp yn yc sp sn sc tp tn tc c cd,Step (fun _=>False) H H'→SolO N n e c cd→K mp mk mc yp yn yc sp sn sc tp tn tc c cd H'):Q3.call N ep n ec E H K:=
  pSolve he (by omega) (fun H' s hz=>kk _ _ _ _ _ _ _ _ _ _ _ _ _ _ _ s (.inl ⟨rfl,hz,rfl⟩)) (fun H' sp sn sc cv mn g M s hM hr hA hlt _ _=>kk _ _ _ _ _ _ _ _ _ _ _ _ _ _ _ s (.inr ⟨M,hM,hM▸hr,.inl ⟨rfl,rfl,hA.nofull hlt⟩⟩)) fun H' mp k mc g yb Y sp ks sc z S F M s hM hr hS=>kk _ _ _ _ _ _ _ _ _ _ _ _ _ _ _ s (.inr ⟨M,hM,hM▸hr,.inr ⟨rfl,hS.chp.lst (hM▸hr)⟩⟩)
end
end Go.Mz
/-
  Walks of layer 12, more: copies.
-/
namespace Go.Mz
section
variable {E:VP}
end
end Go.Mz
/-
  Walks of layer 12, more: build.
-/
namespace Go.Mz
section
variable {E:VP}
structure Bst (H0 H:Hp) (fb lb tb ob:Nat) (ln lc N:Nat) (f g:Nat→Int) (nodes:Int) (op:OA) (oc:Nat) (L:List Edg):Prop where
  s:Step (fun _=>False) H0 H
  fr:Row H (some ⟨fb,0,none⟩) N N f
  la:Row H (some ⟨lb,0,none⟩) ln lc g
  t:H tb=some ⟨[.int .i64 0,.slice none 0 0],24⟩
  o:H ob=some ⟨[.int .i64 nodes,.slice op L.length oc],24⟩
  r:Row H op L.length oc (lsE L)
  new:∀y,fpS op y→H0 y=none∧y≠fb∧y≠lb∧y≠tb∧y≠ob
  ob0:H0 ob=none
  tb0:H0 tb=none
  of:ob≠fb
  ol:ob≠lb
  ot:ob≠tb
theorem Bst.keep {H0 H H':Hp} {fb lb tb ob ln lc N:Nat} {f g:Nat→Int} {nodes:Int} {op:OA} {oc:Nat} {L:List Edg} (h:Bst H0 H fb lb tb ob ln lc N f g nodes op oc L) (s:Step (fun _=>False) H H') :
    Bst H0 H' fb lb tb ob ln lc N f g nodes op oc L:=
  ⟨h.s.and s,h.fr.keep s fun _ _ h=>h,h.la.keep s fun _ _ h=>h,s.keep _ _ h.t fun h=>h,s.keep _ _ h.o fun h=>h,h.r.keep s fun _ _ h=>h,h.new,h.ob0,h.tb0,h.of,h.ol,h.ot⟩
theorem Bst.push {H0 H:Hp} {fb lb tb ob ln lc N:Nat} {f g:Nat→Int} {nodes x y:Int} {op:OA} {oc:Nat} {L:List Edg} {K:Hp→Prop} (h:Bst H0 H fb lb tb ob ln lc N f g nodes op oc L) (hL:L.length≤1048576)
    (k:∀H' op' oc',Bst H0 H' fb lb tb ob ln lc N f g nodes op' oc' (L++[(x,y,0,0)])→(∀a z,H a=some z→a≠ob→¬fpS op a→H' a=some z∧¬fpS op' a)→K H') :
    nw H ⟨[.int .i64 x,.int .i64 y,.int .i64 0,.int .i64 0],49⟩ fun bb H1=>appM 49 [.i .i64,.i .i64,.i .i64,.i .i64] 32 op L.length oc (some ⟨bb,0,none⟩) 1 H1 fun p' n' c' H2=>stC H2 ob 1 [.slice p' n' c'] K:=by
  refine h.r.app (α:=Edg) (x,y,0,0) rfl hL (by decide) fun p' c' H2 r2 s2 f2=>?_
  have oo:¬fpS op ob:=fun hh=>(h.new _ hh).2.2.2.2 rfl
  have o2:=s2.keep _ _ h.o oo
  refine stp o2 (by simp) rfl fun H3 e3 s3=>?_
  have lv:∀z,H z≠none→(∀y,fpS op y→y≠z)→∀y,fpS p' y→y≠z:=fun z hz hn y hy e=>by
    rcases f2 y hy with h' | h'
    · exact hn y h' e
    · exact hz (e▸h')
  have nob:=lv ob (by rw [h.o]; exact fun h=>by cases h) fun y hy=>(h.new y hy).2.2.2.2
  have s02:=h.s.own s2 fun y hy=>(h.new y hy).1
  rw [lsE_app] at r2
  refine k H3 p' c' ⟨s02.own s3 fun y hy=>hy▸h.ob0,(h.fr.keep s2 fun y hy hy'=>?_).keep s3 fun y hy e=>?_,(h.la.keep s2 fun y hy hy'=>?_).keep s3 fun y hy e=>?_,s3.keep _ _ (s2.keep _ _ h.t fun hh=>(h.new _ hh).2.2.2.1 rfl) fun e=>h.ot e.symm,?_,?_,fun y hy=>?_,h.ob0,h.tb0,h.of,h.ol,h.ot⟩ fun a z ha hao haf=>?_
  · rw [fpS_mk] at hy; exact (h.new _ hy').2.1 hy
  · rw [fpS_mk] at hy; exact h.of (e▸hy)
  · rw [fpS_mk] at hy; exact (h.new _ hy').2.2.1 hy
  · rw [fpS_mk] at hy; exact h.ol (e▸hy)
  · rw [List.length_append]; exact e3
  · rw [List.length_append]; exact r2.keep s3 fun y hy e=>nob y hy e
  · refine ⟨?_,lv fb (h.fr.live ⟨_,rfl⟩) (fun y hy=>(h.new y hy).2.1) y hy,lv lb (h.la.live ⟨_,rfl⟩) (fun y hy=>(h.new y hy).2.2.1) y hy,lv tb (by rw [h.t]; exact fun h=>by cases h) (fun y hy=>(h.new y hy).2.2.2.1) y hy,nob y hy⟩
    rcases f2 y hy with h' | h'
    · exact (h.new y h').1
    · exact h.s.mono _ h'
  · refine ⟨s3.keep _ _ (s2.keep _ _ ha haf) hao,fun hh=>?_⟩
    rcases f2 a hh with h' | h'
    · exact haf h'
    · rw [ha] at h'; cases h'
end
end Go.Mz
/-
  Walks of layer 12, more: build whole, Gadget, Many.
-/
namespace Go.Mz
section
variable {E:VP}
def GadB (N:Int) (n:Nat) (e:Nat→Edg) (b:Nat→Int) (bn:Nat) (c:Int):Prop:=
  (c=chk N n e∧c≠0)∨(c=130∧Right N n e∧¬Bnd N b bn)∨(c=3∧Right N n e∧Bnd N b bn∧¬Gsz e (cps e n b) N.toNat n)
theorem GadB.ne {N:Int} {n:Nat} {e:Nat→Edg} {b:Nat→Int} {bn:Nat} {c:Int} (h:GadB N n e b bn c):c≠0:=by
  rcases h with ⟨_,h⟩ | ⟨rfl,_⟩ | ⟨rfl,_⟩
  · exact h
  · decide
  · decide
end
end Go.Mz
/-
  Walks of layer 12, more: Doubled.
-/
namespace Go.Mz
section
variable {E:VP}
def sub (e:Nat→Edg) (tw:Nat→Int):Nat→Edg:=fun i=>e (tw i).toNat
structure DistR (H:Hp) (dp:OA) (dn:Nat) (dl:Nat→Sl) (row:Nat→Nat→Int):Prop where
  d:Rdr H dp dn dl
  r:∀i,i<dn→Rdr H (dl i).p (dl i).n (row i)∧(dl i).n<2 ^ 63
theorem DistR.keep {H H':Hp} {dp:OA} {dn:Nat} {dl:Nat→Sl} {row:Nat→Nat→Int} (h:DistR H dp dn dl row) (s:Step (fun _=>False) H H'):DistR H' dp dn dl row:=
  ⟨h.d.keep s fun _ _ _ h=>h,fun i hi=>⟨(h.r i hi).1.keep s fun _ _ _ h=>h,(h.r i hi).2⟩⟩
end
end Go.Mz
/-
  The document's functions of layers 3, 11 and 12, walked: Check, Costs, Rising, At, Taken, Matching, Cost.
-/
namespace Go.Mz
section
variable {E:VP}
theorem rbad {N a b c d:Int} {H:Hp} {K:Int→Hp→Prop} (k:∀H',Step (fun _=>False) H H'→K (badE N (a,b,c,d)) H'):Q15.call N a b c d E H K:=by
  refine Q15.of (Q15.run_eq ?_)
  unfold Q15.run_t
  refine nwk fun b1 H1 hb1 e1 s1=>?_
  simp only [get_at e1,gZ,gS,ldI_mk]
  have k:=k H1 s1
  have b30:(a<0∨N≤a∨b<0∨N≤b)→K 30 H1:=fun h=>by
    have:badE N (a,b,c,d)=30:=by unfold badE; exact if_pos h
    rwa [this] at k
  have b31:¬(a<0∨N≤a∨b<0∨N≤b)→¬(0≤c∧c≤1048576∧-1048576≤d∧d≤1048576)→K 31 H1:=fun h h'=>by
    have:badE N (a,b,c,d)=31:=by unfold badE; rw [if_neg h]; exact if_neg h'
    rwa [this] at k
  refine bc (fun h=>b30 (.inl h)) fun h1=>?_
  refine bc (fun h=>b30 (.inr (.inr (.inl h)))) fun h2=>?_
  refine bc (fun h=>b30 (.inr (.inl h))) fun h3=>?_
  refine bc (fun h=>b30 (.inr (.inr (.inr h)))) fun h4=>?_
  refine bc (fun h=>b31 (by omega) (by omega)) fun h5=>?_
  refine bc (fun h=>b31 (by omega) (by omega)) fun h6=>?_
  refine bc (fun h=>b31 (by omega) (by omega)) fun h7=>?_
  refine bc (fun h=>b31 (by omega) (by omega)) fun h8=>?_
  have:badE N (a,b,c,d)=0:=by unfold badE; rw [if_neg (show ¬(a<0∨N≤a∨b<0∨N≤b) by omega)]; exact if_pos (show 0≤c∧c≤1048576∧-1048576≤d∧d≤1048576 by omega)
  rwa [this] at k
theorem rcheckA {N:Int} {p:OA} {n c:Nat} {e:Nat→Edg} {H:Hp} {K:Int→Int→Hp→Prop} (he:Rdr H p n e)
    (k:∀H' a,Step (fun _=>False) H H'→ChkAt N n e a→K (chk N n e) a H'):Q7.call N p n c E H K:=by
  refine Q7.of (Q7.run_eq ?_)
  unfold Q7.run_t
  refine nwk fun b1 H1 hb1 e1 s1=>?_
  simp only [get_at e1,gZ,gS,ldI_mk,ldS_mk]
  have bad:(N<0∨1024<N∨4096<n)→K 3 0 H1:=fun hs=>by
    have hc:3=chk N n e:=by unfold chk; rw [if_pos hs]
    rw [hc]; exact k _ _ s1 (ChkAt.none (.inl hs))
  refine bc (fun h=>bad (by omega)) fun h1=>?_
  refine bc (fun h=>bad (by omega)) fun h2=>?_
  refine bc (fun h=>bad (by omega)) fun h3=>?_
  have hsz:¬(N<0∨1024<N∨4096<n):=by omega
  have hc:chk N n e=chkE N e n:=by unfold chk; rw [if_neg (by omega)]
  refine Q7.l1_rule (fun g1 i4 H'=>b1=g1∧∃i:Nat,i4=i∧i≤n∧chkE N e i=0∧Step (fun _=>False) H H'∧H' b1=some ⟨[.int .i64 N,.slice p n c],24⟩)
    (fun g1 i4 H'=>n-i4.toNat) ?_ ⟨rfl,0,rfl,by omega,rfl,s1,e1⟩
  clear e1 s1 bad
  rintro g1 i4 H3 ⟨rfl,i,rfl,hi,hz,s3,e3⟩ X hX
  refine Q7.b1_eq ?_
  unfold Q7.b1_t
  simp only [get_at e3,gZ,gS,ldI_mk,ldS_mk]
  refine bc (fun hlt=>?_) fun hge=>?_
  · refine (he.keep s3 fun _ _ _ h=>h).edge (by omega) (by omega) ?_
    simp only [tN]
    refine rbad fun H4 s4=>?_
    have s04:=s3.and s4
    refine bcn (fun hb=>?_) fun hb=>?_
    · have h1:chkE N e (i+1)=badE N (e i):=by
        show (if chkE N e i=0 then badE N (e i) else chkE N e i)=_
        rw [if_pos hz]
      have:chk N n e=badE N (e i):=by
        rw [hc,show n=i+1+(n-(i+1)) by omega,chkE_stay (by rw [h1]; exact hb),h1]
      have k:=k H4 i s04 (ChkAt.here hsz (by omega) hz hb)
      rwa [this] at k
    · rw [i64w (by omega) (by omega)]
      refine hX _ _ _ ⟨rfl,i+1,by omega,by omega,?_,s04,s4.keep _ _ e3 fun h=>h⟩ (by omega)
      show (if chkE N e i=0 then badE N (e i) else chkE N e i)=0
      rw [if_pos hz]; exact hb
  · have:i=n:=by omega
    subst this
    have k:=k H3 0 s3 (ChkAt.none (.inr hz))
    rwa [hc,hz] at k
theorem rcheck {N:Int} {p:OA} {n c:Nat} {e:Nat→Edg} {H:Hp} {K:Int→Int→Hp→Prop} (he:Rdr H p n e)
    (k:∀H' a,Step (fun _=>False) H H'→K (chk N n e) a H'):Q7.call N p n c E H K:=rcheckA he fun H' a s _=>k H' a s
end
end Go.Mz
