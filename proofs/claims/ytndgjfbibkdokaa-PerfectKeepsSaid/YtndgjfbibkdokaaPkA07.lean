/-
  Joined: BmC, BmD, BmE, BmF, BmG, BmH, BmI.
-/
import Derived.Test.YtndgjfbibkdokaaPkA06
import Derived.Test.YtndgjfbibkdokaaPkA02
import Derived.Test.YtndgjfbibkdokaaPkA03
import Derived.Test.YtndgjfbibkdokaaPkA00
import Derived.Test.YtndgjfbibkdokaaMzZ
import Derived.Test.YtndgjfbibkdokaaGSli
set_option linter.unusedSimpArgs false
set_option linter.unusedVariables false
/-
  Walks of layer 17: marking a way back; a circle more.
-/
namespace Go.Mz
section
variable {E:VP}
variable {H0 H:Hp} {Y:LY} {M n:Nat} {e:Nat→Edg} {mb:Nat→Int} {base ρ:Nat→Nat} {via:Nat→Int} {ev:Nat→Bool} {qp:OA} {qc r:Nat} {Q:List Nat}
def Mk (fr to:Nat→Nat) (mb:Nat→Int) (base:Nat→Nat) (P:List Nat) (inn inn':Nat→Bool):Prop:=
  ∀z,inn' z=true↔inn z=true∨∃y∈P,z=base y∨z=base (mt fr to mb y)
def MkJ (H0 H:Hp) (Y:LY) (M n:Nat) (e:Nat→Edg) (mb:Nat→Int) (base:Nat→Nat) (via V:Nat→Int) (i:Int) (ev:Nat→Bool) (qp:OA) (qc:Nat) (Q:List Nat) (P R:List Nat) (top ib:Nat) (inn:Nat→Bool) (s0:OA) (v1 t2 i3:Int) (p4:OA) (p4n p4c:Nat) (H':Hp) (k:Nat):Prop:=
  s0=some ⟨Y.sb,0,none⟩∧t2=(top:Int)∧p4=some ⟨ib,0,none⟩∧p4n=M∧p4c=M∧∃(v:Nat) (P1 P2:List Nat) (V1:Nat→Int) (inn1:Nat→Bool),v1=v∧v<M∧k=P2.length∧P=P1++P2∧AP n (ef e) (et e) mb via v (P2++R)∧BkM H0 H' Y M n e mb base V1 ev qp qc Q∧Row H' (some ⟨ib,0,none⟩) M M inn1∧
    Mk (ef e) (et e) mb base P1 inn inn1∧markF (ef e) (et e) mb P2 V1 i3=markF (ef e) (et e) mb P V i∧(∀y∈P2,V1 (mt (ef e) (et e) mb y)=via (mt (ef e) (et e) mb y))∧Step (fun y=>y=Y.xv∨y=ib) H H'
theorem blmark {v top ib x:Nat} {i:Nat} {P q:List Nat} {V:Nat→Int} {inn:Nat→Bool} {K:Hp→Prop} (h:BkM H0 H Y M n e mb base V ev qp qc Q) (hr:Right (M:Int) n e) (hMM:MM M n (ef e) (et e) M mb) (hT:Tre M n (ef e) (et e) mb r base via ev ρ) (hv:v<M) (hev:ev v=true)
    (hA:AP n (ef e) (et e) mb via v (P++x :: q)) (hnd:ND (ef e) (et e) mb (P++x :: q)) (hP:∀y∈P,base y≠top) (hx:base x=top) (hV:∀y∈P,V (mt (ef e) (et e) mb y)=via (mt (ef e) (et e) mb y)) (hin:Row H (some ⟨ib,0,none⟩) M M inn) (hib:H0 ib=none) (aib:Ax Y M qp ib)
    (k:∀H' inn',BkM H0 H' Y M n e mb base (markF (ef e) (et e) mb P V i) ev qp qc Q→Row H' (some ⟨ib,0,none⟩) M M inn'→Mk (ef e) (et e) mb base P inn inn'→K H') :
    Q48.call (some ⟨Y.sb,0,none⟩) (v:Int) (top:Int) (i:Int) (some ⟨ib,0,none⟩) M M E H K:=by
  have hN:=hr.nds
  have hM1:=hr.N1
  have hall:=hT.pev hN hA hv hev
  refine Q48.of (Q48.run_eq ?_)
  unfold Q48.run_t
  refine Q48.l1_rule (fun s0 v1 t2 i3 p4 p4n p4c H'=>∃k,MkJ H0 H Y M n e mb base via V i ev qp qc Q P (x :: q) top ib inn s0 v1 t2 i3 p4 p4n p4c H' k) (fun s0 v1 t2 i3 p4 p4n p4c H'=>gm (MkJ H0 H Y M n e mb base via V i ev qp qc Q P (x :: q) top ib inn s0 v1 t2 i3 p4 p4n p4c H')) ?_
    ⟨P.length,rfl,rfl,rfl,rfl,rfl,v,[],P,V,inn,rfl,hv,rfl,rfl,hA,h,hin,fun z=>⟨.inl,fun hh=>hh.elim id fun ⟨y,hy,_⟩=>by cases hy⟩,rfl,hV,.refl⟩
  rintro s0 v1 t2 i3 p4 p4n p4c H1 ⟨k0,hk0⟩ X hX
  have hJ:=(gm_of hk0).1
  generalize gm (MkJ H0 H Y M n e mb base via V i ev qp qc Q P (x :: q) top ib inn s0 v1 t2 i3 p4 p4n p4c H1)=kk at hJ hX
  obtain ⟨rfl,rfl,rfl,e1,e2,u,P1,P2,V1,inn1,rfl,hu,rfl,hsp,hA1,hB1,hI1,hmk,hmF,hV1,s1⟩:=hJ
  subst e1 e2
  refine Q48.b1_eq ?_
  unfold Q48.b1_t
  simp only [nn_mk,get_at hB1.c.cell,gZ,gS,ldI_mk,ldS_mk,Nat.zero_add]
  refine hB1.rba.ixI (by omega) (by omega) ?_
  rw [tN]
  cases P2 with
  | nil=>
    obtain ⟨_,eh⟩:=hA1.head
    have hux:u=x:=(List.cons.inj eh).1.symm
    subst hux
    refine bcn (fun hh=>(hh (by rw [hx])).elim) fun _=>?_
    have hP1:P1=P:=by rw [hsp]; simp
    have hm:V1=markF (ef e) (et e) mb P V i:=hmF
    rw [hm] at hB1
    rw [hP1] at hmk
    exact k H1 inn1 hB1 hI1 hmk
  | cons y P2=>
    obtain ⟨_,eh⟩:=hA1.head
    have huy:u=y:=(List.cons.inj eh).1.symm
    subst huy
    have huP:u∈P:=by rw [hsp]; simp
    have hueN:=hall u (by simp [huP])
    refine bcn (fun hne=>?_) fun hh=>(hP u huP (by omega)).elim
    have hur:u≠r:=fun e=>by
      have:=hA1.pos rfl (by simp)
      rw [e,hT.rb] at this; omega
    obtain ⟨j,k2,ej,hj,hmN,hk2,hen2⟩:=hT.stn hN hMM hu hueN.2 hur
    refine blmate hB1.c hr hj ej ?_
    simp only [nn_mk,get_at hB1.c.cell,gZ,gS,ldI_mk,ldS_mk,Nat.zero_add]
    refine hB1.rba.ixI (by omega) (by omega) ?_
    try simp only [nn_mk,get_at hB1.c.cell,gZ,gS,ldI_mk,ldS_mk,Nat.zero_add]
    refine hB1.rba.ixI (by omega) (by omega) ?_
    simp only [tN]
    have hb1:=hT.baseN hu
    have hb2:=hT.baseN hmN
    refine hI1.stB (by omega) (by omega) _ fun H2 r2 s2=>?_
    refine r2.stB (by omega) (by omega) _ fun H3 r3 s3=>?_
    simp only [tN] at r3
    have hFi:∀y,fpS (some ⟨ib,0,none⟩) y→H0 y=none∧Ax Y p4c qp y:=fun y hy=>by rw [fpS_mk] at hy; exact hy▸⟨hib,aib⟩
    have hB3:=(hB1.keep s2 hFi).keep s3 hFi
    simp only [nn_mk,get_at hB3.c.cell,gZ,gS,ldI_mk,ldS_mk,Nat.zero_add]
    refine hB3.rvi.stI (by omega) (by omega) _ fun H4 rv4 s4=>?_
    rw [tN] at rv4
    have hB4:=hB3.setV s4 rv4
    have r4:=r3.keep s4 fun y hy hh=>by rw [fpS_mk] at hy hh; exact aib.v (hy.symm.trans hh)
    simp only [nn_mk,get_at hB4.c.cell,gZ,gS,ldI_mk,ldS_mk,Nat.zero_add]
    refine hB4.rvi.ixI (by omega) (by omega) ?_
    rw [tN]
    have hmu:mt (ef e) (et e) mb u≠u:=by
      obtain ⟨j',ej',hj',em',_⟩:=hMM.en hu (by omega) (by omega)
      rw [em']; exact hj'.ne
    have hvm:upf V1 u i3 (mt (ef e) (et e) mb u)=(k2:Int):=by rw [upf_ne hmu,hV1 u (by simp),hk2]
    rw [hvm]
    refine blother hB4.c hr hen2 ?_
    have hAn:AP n (ef e) (et e) mb via (ot (ef e) (et e) k2 (mt (ef e) (et e) mb u)) (P2++x :: q):=by
      generalize hl:u :: P2++x :: q=l at hA1
      cases hA1 with
      | root h0=>rw [ej] at h0; omega
      | step h1 hk' he' hl'=>
        have:=Int.ofNat.inj (hk2.symm.trans hk')
        subst this
        have e3:=(List.cons.inj hl).2
        rw [←e3] at hl'
        exact hl'
    have hsp':P=(P1++[u])++P2:=by rw [hsp]; simp
    have hJ':MkJ H0 H Y p4c n e mb base via V i ev qp qc Q P (x :: q) top ib inn (some ⟨Y.sb,0,none⟩) (ot (ef e) (et e) k2 (mt (ef e) (et e) mb u):Int) (top:Int) (k2:Int) (some ⟨ib,0,none⟩) p4c p4c H4 P2.length:=by
      refine ⟨rfl,rfl,rfl,rfl,rfl,_,P1++[u],P2,upf V1 u i3,_,rfl,hen2.ot.nd hN,rfl,hsp',hAn,hB4,r4,fun z=>?_,?_,fun y hy=>?_,?_⟩
      · have at':upf (upf inn1 (base u) true) (base (mt (ef e) (et e) mb u)) true z=true↔inn1 z=true∨z=base u∨z=base (mt (ef e) (et e) mb u):=by
          by_cases c1:z=base (mt (ef e) (et e) mb u)
          · rw [c1,upf_same]; simp
          · rw [upf_ne c1]
            by_cases c2:z=base u
            · rw [c2,upf_same]; simp
            · rw [upf_ne c2]; simp [c1,c2]
        rw [at',hmk z]
        constructor
        · rintro ((hh | ⟨y,hy,hh⟩) | hh)
          · exact .inl hh
          · exact .inr ⟨y,by simp [hy],hh⟩
          · exact .inr ⟨u,by simp,hh⟩
        · rintro (hh | ⟨y,hy,hh⟩)
          · exact .inl (.inl hh)
          · rcases List.mem_append.1 hy with hy | hy
            · exact .inl (.inr ⟨y,hy,hh⟩)
            · rw [List.mem_singleton.1 hy] at hh; exact .inr hh
      · rw [←hmF]
        show markF (ef e) (et e) mb P2 (upf V1 u i3) (k2:Int)=markF (ef e) (et e) mb P2 (upf V1 u i3) (upf V1 u i3 (mt (ef e) (et e) mb u))
        rw [hvm]
      · have hyP:y∈P:=by rw [hsp]; simp [hy]
        have hyb:0≤mb y:=by
          obtain ⟨p1,p2,hp⟩:=List.append_of_mem hyP
          have hsuf:AP n (ef e) (et e) mb via y (y :: (p2++x :: q)):=hA.suf (p:=p1) (by rw [hp]; simp)
          exact hsuf.pos rfl (by simp)
        have hne:mt (ef e) (et e) mb y≠u:=hnd.2 y (by simp [hyP]) hyb u (by simp [huP])
        rw [upf_ne hne]
        exact hV1 y (by simp [hy])
      · have w:∀{F:Nat→Prop} {Ha Hb:Hp},Step F Ha Hb→(∀y,F y→y=Y.xv∨y=ib)→Step (fun y=>y=Y.xv∨y=ib) Ha Hb:=fun s hF=>s.weak fun y hy=>.inl (hF y hy)
        have s2':=w s2 fun y hy=>by rw [fpS_mk] at hy; exact .inr hy
        have s3':=w s3 fun y hy=>by rw [fpS_mk] at hy; exact .inr hy
        have s4':=w s4 fun y hy=>by rw [fpS_mk] at hy; exact .inl hy
        exact ((s1.trans s2' fun _ h=>.inl h).trans s3' fun _ h=>.inl h).trans s4' fun _ h=>.inl h
    refine hX _ _ _ _ _ _ _ _ ⟨_,hJ'⟩ (Nat.lt_of_le_of_lt (gm_of hJ').2 (by simp))
def pkl (P:Nat→Bool) (n:Nat):List Nat:=(List.range n).filter P
theorem pkl_succ {P:Nat→Bool} {n:Nat}:pkl P (n+1)=if P n=true then pkl P n++[n] else pkl P n:=by
  unfold pkl
  rw [List.range_succ,List.filter_append]
  by_cases h:P n=true<;>simp [h]
theorem pkl_mem {P:Nat→Bool} {n x:Nat}:x∈pkl P n↔x<n∧P x=true:=by unfold pkl; rw [List.mem_filter,List.mem_range]
theorem pkl_nodup {P:Nat→Bool} {n:Nat}:(pkl P n).Nodup:=List.nodup_range.sublist List.filter_sublist
theorem BkM.congr {base':Nat→Nat} {ev':Nat→Bool} {Q:List Nat} (h:BkM H0 H Y M n e mb base via ev qp qc Q) (hb:∀z,z<M→base z=base' z) (he:∀z,z<M→ev z=ev' z):BkM H0 H Y M n e mb base' via ev' qp qc Q:=
  ⟨h.c,h.rba.congr fun u hu=>by rw [hb u hu],h.rvi,h.rev.congr fun u hu=>he u hu,h.rq,h.ab,h.av,h.ae,h.aq,h.fb,h.fv,h.fe,h.dbv,h.dbe,h.dve⟩
structure Shr (M:Nat) (e:Nat→Edg) (base base':Nat→Nat) (via via':Nat→Int) (ev ev':Nat→Bool) (i:Nat) (Q Q':List Nat):Prop where
  mg:∀u w,u<M→w<M→base u=base w→base' u=base' w
  mn:∀u,u<M→ev u=true→ev' u=true
  vi:∀u,u<M→0≤via u→0≤via' u
  jn:base' (ef e i)=base' (et e i)
  qu:∃nl:List Nat,Q'=Q++nl∧nl.Nodup∧∀u,u∈nl↔u<M∧ev' u=true∧ev u=false
theorem blshrink {i:Nat} {K:Hp→Prop} (h:BkM H0 H Y M n e mb base via ev qp qc Q) (hr:Right (M:Int) n e) (hMM:MM M n (ef e) (et e) M mb) (hT:Tre M n (ef e) (et e) mb r base via ev ρ) (hi:i<n) (hl:ef e i≠et e i) (ea:ev (ef e i)=true) (ec:ev (et e i)=true) (hQ:Q.length≤M)
    (hql:∀nl:List Nat,nl.Nodup→(∀u∈nl,u<M∧ev u=false)→(Q++nl).length≤M)
    (k:∀H' base' via' ev' ρ' qp' qc' Q',BkM H0 H' Y M n e mb base' via' ev' qp' qc' Q'→Tre M n (ef e) (et e) mb r base' via' ev' ρ'→Shr M e base base' via via' ev ev' i Q Q'→K H'):Q42.call (some ⟨Y.sb,0,none⟩) (i:Int) E H K:=by
  have hN:=hr.nds
  have hM1:=hr.N1
  obtain ⟨aM,cM⟩:=hN i hi
  obtain ⟨ef',et'⟩:=hr.ends hi
  have hen:En n (ef e) (et e) i (ef e i):=⟨hi,hl,.inl rfl⟩
  have hec:et e i=ot (ef e) (et e) i (ef e i):=by unfold ot; omega
  obtain ⟨la,hla,hna⟩:=hT.pa _ aM ea
  obtain ⟨lb,hlb,hnb⟩:=hT.pa _ cM ec
  refine Q42.of (Q42.run_eq ?_)
  unfold Q42.run_t
  simp only [nn_mk,get_at h.c.cell,gZ,gS,ldI_mk,ldS_mk,Nat.zero_add]
  refine h.c.ed.edgeF (by omega) (by omega) ?_
  try simp only [nn_mk,get_at h.c.cell,gZ,gS,ldI_mk,ldS_mk,Nat.zero_add]
  refine h.c.ed.edgeT (by omega) (by omega) ?_
  rw [tN,ef',et']
  refine blmeet h hr hMM hT aM cM ea ec hla hlb hnb fun H1 top hB1 hmt htM=>?_
  obtain ⟨PA,RA,PB,RB,eA,eB,hS⟩:=SH.make hN hMM hT hen hec ea ec hla hna hlb hnb hmt
  obtain ⟨xa,qa,hRA,hxa⟩:=hS.ra
  obtain ⟨xc,qb,hRB,hxc⟩:=hS.rb
  simp only [nn_mk,get_at hB1.c.cell,gZ,gS,ldI_mk,ldS_mk,Nat.zero_add]
  refine Row.mkB (by omega) (by omega) fun ib H2 hib ri s2=>?_
  rw [tN] at ri ⊢
  have aib:=hB1.fresh hib
  have fib:H0 ib=none:=hB1.c.st.mono _ hib
  have hB2:=hB1.keep0 s2
  refine blmark hB2 hr hMM hT aM ea (hRA▸hS.apa) (hRA▸hS.nda) hS.na hxa (fun _ _=>rfl) ri fib aib fun H3 in1 hB3 ri3 hk1=>?_
  have posA:∀y∈PA,0≤mb y:=fun y hy=>(hS.next hy).1
  have posB:∀y∈PB,0≤mb y:=fun y hy=>((hS.symm hN hMM hT).next hy).1
  have hVB:∀y∈PB,markF (ef e) (et e) mb PA via i (mt (ef e) (et e) mb y)=via (mt (ef e) (et e) mb y):=fun y hy=>markF_out fun hm=>by
    obtain ⟨hyN,_⟩:=hS.fp hN hMM hT (.inr hy)
    obtain ⟨_,_,_,_,_,_,hmm⟩:=hMM.en hyN (by omega) (posB y hy)
    exact (hS.cr _ hm y hy).2 hmm
  refine blmark hB3 hr hMM hT cM ec (hRB▸hS.apb) (hRB▸hS.ndb) hS.nb hxc hVB ri3 fib aib fun H4 in2 hB4 ri4 hk2=>?_
  have hin:Cin (ef e) (et e) mb base M PA PB in2:=fun z hz=>by
    rw [hk2 z,hk1 z]
    constructor
    · rintro ((hh | ⟨y,hy,hh⟩) | ⟨y,hy,hh⟩)
      · cases hh
      · exact ⟨y,.inl hy,hh⟩
      · exact ⟨y,.inr hy,hh⟩
    · rintro ⟨y,hy | hy,hh⟩
      · exact .inl (.inr ⟨y,hy,hh⟩)
      · exact .inr ⟨y,hy,hh⟩
  have ndA:=(nd_sub hS.nda).1
  have ndB:=(nd_sub hS.ndb).1
  have chA0:Ch (ef e) (et e) mb (markF (ef e) (et e) mb PA via i) via PA (i:Int):=markF_ch ndA.1 fun x hx y hy=>ndA.2 x hx (posA x hx) y hy
  have chB0:Ch (ef e) (et e) mb (markF (ef e) (et e) mb PB (markF (ef e) (et e) mb PA via i) i) (markF (ef e) (et e) mb PA via i) PB (i:Int):=markF_ch ndB.1 fun x hx y hy=>ndB.2 x hx (posB x hx) y hy
  have hV:∀x,x ∉ PA→x ∉ PB→markF (ef e) (et e) mb PB (markF (ef e) (et e) mb PA via i) i x=via x:=fun x h1 h2=>by rw [markF_out h2,markF_out h1]
  have hca:Ch (ef e) (et e) mb (markF (ef e) (et e) mb PB (markF (ef e) (et e) mb PA via i) i) via PA (i:Int):=chA0.congr fun x hx=>⟨markF_out fun hm=>(hS.cr x hx x hm).1 rfl,rfl⟩
  have hcb:Ch (ef e) (et e) mb (markF (ef e) (et e) mb PB (markF (ef e) (et e) mb PA via i) i) via PB (i:Int):=chB0.congr fun x hx=>⟨rfl,(hVB x hx).symm⟩
  have hT':=hT.shrink hN hMM hS hin hV hca hcb
  generalize markF (ef e) (et e) mb PB (markF (ef e) (et e) mb PA via i) i=V at hB4 hV hca hcb hT'
  have hjoin:=hS.joined hN hMM hT hin
  have hct:=hin.ctop hN hMM hT hS
  have newl:∀v,v≤M→∀u∈pkl (fun z=>in2 (base z) && !ev z) v,u<M∧ev u=false:=fun v hv u hu=>by
    obtain ⟨h1,h2⟩:=pkl_mem.1 hu
    simp at h2
    exact ⟨by omega,h2.2⟩
  refine Q42.l1_rule (fun s0 t6 p7 p7n p7c t50 t51 H'=>s0=some ⟨Y.sb,0,none⟩∧t6=(top:Int)∧p7=some ⟨ib,0,none⟩∧p7n=M∧p7c=M∧t50=(M:Int)∧∃(v:Nat) (qp':OA) (qc':Nat),t51=v∧v≤M∧
      BkM H0 H' Y M n e mb (fun z=>if z<v∧in2 (base z)=true then top else base z) V (fun z=>ev z || (decide (z<v) && in2 (base z))) qp' qc' (Q++pkl (fun z=>in2 (base z) && !ev z) v)∧Row H' (some ⟨ib,0,none⟩) M M in2∧Ax Y M qp' ib)
    (fun s0 t6 p7 p7n p7c t50 t51 H'=>M-t51.toNat) ?_ ⟨rfl,rfl,rfl,rfl,rfl,rfl,0,qp,qc,rfl,Nat.zero_le _,?_,ri4,aib⟩
  · rintro s0 t6 p7 p7n p7c t50 t51 H5 ⟨rfl,rfl,rfl,e1,e2,rfl,v,qp5,qc5,rfl,hv,hB5,ri5,aib5⟩ X hX
    subst e1 e2
    refine Q42.b1_eq ?_
    unfold Q42.b1_t
    refine bc (fun hlt=>?_) fun hge=>?_
    · have hvM:v<p7c:=by omega
      have hbM:=hT.baseN hvM
      simp only [nn_mk,get_at hB5.c.cell,gZ,gS,ldI_mk,ldS_mk,Nat.zero_add]
      refine hB5.rba.ixI (by omega) (by omega) ?_
      rw [tN,if_neg (by omega)]
      refine ri5.ixB (by omega) (by omega) ?_
      rw [tN]
      have next:∀{H6:Hp} {qp6:OA} {qc6:Nat} {ba:Nat→Nat} {ev6:Nat→Bool} {Q6:List Nat},BkM H0 H6 Y p7c n e mb ba V ev6 qp6 qc6 Q6→(∀z,z<p7c→ba z=if z<v+1∧in2 (base z)=true then top else base z)→(∀z,z<p7c→ev6 z=(ev z || (decide (z<v+1) && in2 (base z))))→Q6=Q++pkl (fun z=>in2 (base z) && !ev z) (v+1)→Row H6 (some ⟨ib,0,none⟩) p7c p7c in2→Ax Y p7c qp6 ib→
          Q42.j1 (some ⟨Y.sb,0,none⟩) (top:Int) (some ⟨ib,0,none⟩) p7c p7c (p7c:Int) (v:Int) X E H6 K:=by
        intro H6 qp6 qc6 ba ev6 Q6 hB6 hba hev6 hQ6 ri6 aib6
        refine Q42.j1_eq ?_
        unfold Q42.j1_t
        rw [i64w (by omega) (by omega)]
        subst hQ6
        exact hX _ _ _ _ _ _ _ _ ⟨rfl,rfl,rfl,rfl,rfl,rfl,v+1,qp6,qc6,by omega,by omega,hB6.congr hba (fun z hz=>hev6 z hz),ri6,aib6⟩ (by omega)
      refine bcb (fun hc=>?_) fun hc=>?_
      · try simp only [nn_mk,get_at hB5.c.cell,gZ,gS,ldI_mk,ldS_mk,Nat.zero_add]
        refine hB5.rba.stI (by omega) (by omega) _ fun H6 rb6 s6=>?_
        rw [tN] at rb6
        have hB6:BkM H0 H6 Y p7c n e mb (upf (fun z=>if z<v∧in2 (base z)=true then top else base z) v top) V _ qp5 qc5 _:=hB5.setBa s6 (rb6.congr fun u hu=>by
          by_cases eu:u=v
          · rw [eu,upf_same,upf_same]
          · rw [upf_ne eu,upf_ne eu])
        have ri6:=ri5.keep s6 fun y hy hh=>by rw [fpS_mk] at hy hh; exact aib5.b (hy.symm.trans hh)
        have hba6:∀z,z<p7c→upf (fun z=>if z<v∧in2 (base z)=true then top else base z) v top z=if z<v+1∧in2 (base z)=true then top else base z:=fun z hz=>by
          by_cases ez:z=v
          · rw [ez,upf_same,if_pos ⟨by omega,hc⟩]
          · rw [upf_ne ez]
            by_cases h1:z<v∧in2 (base z)=true
            · rw [if_pos h1,if_pos ⟨by omega,h1.2⟩]
            · rw [if_neg h1,if_neg fun hh=>h1 ⟨by omega,hh.2⟩]
        simp only [nn_mk,get_at hB6.c.cell,gZ,gS,ldI_mk,ldS_mk,Nat.zero_add]
        refine hB6.rev.ixB (by omega) (by omega) ?_
        rw [tN]
        have hevv:(ev v || (decide (v<v) && in2 (base v)))=ev v:=by simp
        rw [hevv]
        have hev7:∀(f:Nat→Bool),(∀z,z≠v→f z=(ev z || (decide (z<v) && in2 (base z))))→f v=true→∀z,z<p7c→f z=(ev z || (decide (z<v+1) && in2 (base z))):=fun f h1 h2 z hz=>by
          by_cases ez:z=v
          · rw [ez,h2,hc]; simp
          · rw [h1 z ez]
            have:decide (z<v)=decide (z<v+1):=by rw [decide_eq_decide]; omega
            rw [this]
        refine bcb (fun hne=>?_) fun hne=>?_
        · have hev0:ev v=false:=by simpa using hne
          have hpk:pkl (fun z=>in2 (base z) && !ev z) (v+1)=pkl (fun z=>in2 (base z) && !ev z) v++[v]:=by rw [pkl_succ,if_pos (by rw [hc,hev0]; rfl)]
          try simp only [nn_mk,get_at hB6.c.cell,gZ,gS,ldI_mk,ldS_mk,Nat.zero_add]
          refine hB6.rev.stB (by omega) (by omega) _ fun H7 re7 s7=>?_
          rw [tN] at re7
          have hB7:=hB6.setE s7 re7
          have ri7:=ri6.keep s7 fun y hy hh=>by rw [fpS_mk] at hy hh; exact aib5.e (hy.symm.trans hh)
          have hlen:=hql (pkl (fun z=>in2 (base z) && !ev z) v) pkl_nodup (newl v hv)
          simp only [nn_mk,get_at hB7.c.cell,gZ,gS,ldI_mk,ldS_mk,Nat.zero_add]
          refine hB7.rq.appI _ (by omega) fun p8 c8 H8 r8 s8 f8=>?_
          rw [lsF_app] at r8
          have e8:=s8.keep _ _ hB7.c.cell fun hh=>(hB7.aq _ hh).2.1.s rfl
          try simp only [nn_mk,Nat.zero_add]
          refine stp e8 (by simp) rfl fun H9 e9 s9=>?_
          have hl2:((Q++pkl (fun z=>in2 (base z) && !ev z) v)++[v]).length=(Q++pkl (fun z=>in2 (base z) && !ev z) v).length+1:=by simp only [List.length_append,List.length_singleton]
          have r8':Row H8 p8 ((Q++pkl (fun z=>in2 (base z) && !ev z) v)++[v]).length c8 (lsF ((Q++pkl (fun z=>in2 (base z) && !ev z) v)++[v])):=by
            rw [hl2]; exact r8
          have hB9:=hB7.setQ s8 r8' f8 s9 (by rw [e9,hl2]; rfl)
          refine next hB9 hba6 (hev7 _ (fun z hz=>by rw [upf_ne hz]) upf_same) (by rw [hpk]; simp) ?_ ⟨aib5.w,aib5.b,aib5.v,aib5.e,fun hh=>?_⟩
          · refine (ri7.keep s8 fun y hy hh=>?_).keep s9 fun y hy hh=>by rw [fpS_mk] at hy; exact aib5.w.s (hy.symm.trans hh)
            rw [fpS_mk] at hy; exact aib5.q (hy▸hh)
          · rcases f8 _ hh with hh | hh
            · exact aib5.q hh
            · exact ri7.live ⟨0,rfl⟩ hh
        · have hev1:ev v=true:=by simpa using hne
          have hpk:pkl (fun z=>in2 (base z) && !ev z) (v+1)=pkl (fun z=>in2 (base z) && !ev z) v:=by rw [pkl_succ,if_neg (by rw [hev1]; simp)]
          exact next hB6 hba6 (hev7 _ (fun z hz=>rfl) (by simp [hev1])) (by rw [hpk]) ri6 aib5
      · have hpk:pkl (fun z=>in2 (base z) && !ev z) (v+1)=pkl (fun z=>in2 (base z) && !ev z) v:=by rw [pkl_succ,if_neg (by rw [hc]; simp)]
        refine next hB5 (fun z hz=>?_) (fun z hz=>?_) (by rw [hpk]) ri5 aib5
        · by_cases ez:z=v
          · rw [ez,if_neg (by omega),if_neg (by rw [hc]; simp)]
          · by_cases h1:z<v∧in2 (base z)=true
            · rw [if_pos h1,if_pos ⟨by omega,h1.2⟩]
            · rw [if_neg h1,if_neg fun hh=>h1 ⟨by omega,hh.2⟩]
        · by_cases ez:z=v
          · rw [ez,hc]; simp
          · have:decide (z<v)=decide (z<v+1):=by rw [decide_eq_decide]; omega
            rw [this]
    · clear hX
      have hvM:v=p7c:=by omega
      subst hvM
      refine k H5 (fun u=>if in2 (base u)=true then top else base u) V (fun u=>ev u || in2 (base u)) _ qp5 qc5 _ (hB5.congr (fun z hz=>?_) fun z hz=>?_) hT' ⟨fun u w hu hw hh=>?_,fun u hu hh=>?_,fun u hu hh=>?_,?_,⟨_,rfl,pkl_nodup,fun u=>?_⟩⟩
      · by_cases h1:in2 (base z)=true
        · rw [if_pos h1,if_pos ⟨hz,h1⟩]
        · rw [if_neg h1,if_neg fun hh=>h1 hh.2]
      · simp [hz]
      · simp only [hh]
      · simp [hh]
      · rcases hT'.vw u hu with hh' | ⟨k',hk',_⟩
        · by_cases hm:u∈PA∨u∈PB
          · exfalso
            have:∃k:Nat,V u=k:=by
              rcases hm with hm | hm
              · obtain ⟨k',hk',_⟩:=hS.chA hN hca hm; exact ⟨k',hk'⟩
              · obtain ⟨k',hk',_⟩:=(hS.symm hN hMM hT).chA hN hcb hm; exact ⟨k',hk'⟩
            obtain ⟨k',hk'⟩:=this
            omega
          · rw [hV u (fun hh=>hm (.inl hh)) fun hh=>hm (.inr hh)]; exact hh
        · rw [hk']; omega
      · exact hjoin.1.trans hjoin.2.symm
      · rw [pkl_mem]
        simp only [Bool.and_eq_true,Bool.or_eq_true,Bool.not_eq_true']
        constructor
        · rintro ⟨h1,h2,h3⟩; exact ⟨h1,.inr h2,h3⟩
        · rintro ⟨h1,h2,h3⟩; exact ⟨h1,h2.resolve_left (by rw [h3]; decide),h3⟩
  · have hQ0:Q++pkl (fun z=>in2 (base z) && !ev z) 0=Q:=by simp [pkl]
    rw [hQ0]
    refine (hB4.congr (fun z hz=>?_) fun z hz=>?_)
    · rw [if_neg (by omega)]
    · simp
end
end Go.Mz
/-
  Walks of layer 17: the look from a root, and turning a way about.
-/
namespace Go.Mz
section
variable {E:VP}
variable {H0 H:Hp} {Y:LY} {M n:Nat} {e:Nat→Edg} {mb:Nat→Int} {v4 v5 v6 v7:Value} {base ρ:Nat→Nat} {via:Nat→Int} {ev:Nat→Bool} {qp:OA} {qc r:Nat} {Q:List Nat}
theorem Row.fp_slp {α:Type} [El α] {H:Hp} {p:OA} {n c l m sz y:Nat} {f:Nat→α} (r:Row H p n c f) (h:fpS (slp p l m sz) y):fpS p y:=by
  unfold slp at h
  split at h
  · exact h
  · rcases r.cells with ⟨e,_⟩ | ⟨b,o,x,e,_⟩
    · rw [e] at h; exact fpS_none.1 h |>.elim
    · rw [e] at h ⊢
      obtain ⟨o',e'⟩:=h
      have e1:=Option.some.inj e'
      have hb:=congrArg Addr.block e1
      simp only [Addr.add] at hb
      rw [fpS_mk]
      split at hb<;>exact hb.symm
def GwJ (H0:Hp) (Y:LY) (M n:Nat) (e:Nat→Edg) (mb:Nat→Int) (r:Nat) (s0:OA) (H':Hp) (k:Nat):Prop:=
  s0=some ⟨Y.sb,0,none⟩∧∃(base:Nat→Nat) (via:Nat→Int) (ev:Nat→Bool) (ρ:Nat→Nat) (scn:Nat→Bool) (qp:OA) (qc:Nat) (Q:List Nat),BkM H0 H' Y M n e mb base via ev qp qc Q∧Gr M n (ef e) (et e) mb r base via ev ρ scn (fun _=>false) Q∧k=M-cnt scn M
def GvJ (H0:Hp) (Y:LY) (M n:Nat) (e:Nat→Edg) (mb:Nat→Int) (r v:Nat) (scn:Nat→Bool) (s0:OA) (v5:Int) (tp:OA) (tn tc:Nat) (t40 t41:Int) (H':Hp) (k:Nat):Prop:=
  s0=some ⟨Y.sb,0,none⟩∧v5=(v:Int)∧tp=(Y.sl v).p∧tn=(incs (ef e) (et e) n v).length∧t40=((incs (ef e) (et e) n v).length:Int)∧∃(l1 l2:List Nat) (base:Nat→Nat) (via:Nat→Int) (ev:Nat→Bool) (ρ:Nat→Nat) (qp:OA) (qc:Nat) (Q:List Nat),t41=l1.length∧k=l2.length∧incs (ef e) (et e) n v=l1++l2∧
    BkM H0 H' Y M n e mb base via ev qp qc Q∧Gr M n (ef e) (et e) mb r base via ev ρ scn (fun u=>decide (u=v)) Q∧ev v=true∧Pt n (ef e) (et e) mb base via ev scn v l1
theorem blgrow {K:Int→Hp→Prop} (h:BsC H0 H Y M n e (incs (ef e) (et e) n) mb v4 v5 v6 v7) (hr:Right (M:Int) n e) (hMM:MM M n (ef e) (et e) M mb) (hrM:r<M) (hrb:mb r=-1)
    (k1:∀H' xb xv xe base via ev ρ qp qc Q,BkM H0 H' { Y with xb:=xb,xv:=xv,xe:=xe } M n e mb base via ev qp qc Q→Clo M n (ef e) (et e) mb r base via ev ρ→K (-1) H')
    (k2:∀H' xb xv xe base via ev ρ qp qc Q (v i w:Nat),BkM H0 H' { Y with xb:=xb,xv:=xv,xe:=xe } M n e mb base (upf via w (i:Int)) ev qp qc Q→Tre M n (ef e) (et e) mb r base via ev ρ→v<M→ev v=true→En n (ef e) (et e) i v→w=ot (ef e) (et e) i v→ev w=false→via w<0→mb w=-1→K (w:Int) H') :
    Q28.call (some ⟨Y.sb,0,none⟩) (r:Int) E H K:=by
  have hN:=hr.nds
  have hM1:=hr.N1
  have hn1:=hr.n1
  refine Q28.of (Q28.run_eq ?_)
  unfold Q28.run_t
  refine blbegin h (by omega) hrM fun H1 xb xv xe qp qc hB1=>?_
  generalize hY:({ Y with xb:=xb,xv:=xv,xe:=xe }:LY)=Z at hB1
  have hsb:Z.sb=Y.sb:=by rw [←hY]
  have hsl:Z.sl=Y.sl:=by rw [←hY]
  rw [←hsb]
  refine Q28.l1_rule (fun s0 H'=>∃k,GwJ H0 Z M n e mb r s0 H' k) (fun s0 H'=>gm (GwJ H0 Z M n e mb r s0 H')) ?_ ⟨_,rfl,_,_,_,_,_,_,_,_,hB1,Gr.start hrM hrb,rfl⟩
  rintro s0 H2 ⟨k0,hk0⟩ X hX
  have hJ:=(gm_of hk0).1
  generalize gm (GwJ H0 Z M n e mb r s0 H2)=kk at hJ hX
  obtain ⟨rfl,base,via,ev,ρ,scn,qp2,qc2,Q,hB2,hG,rfl⟩:=hJ
  refine Q28.b1_eq ?_
  unfold Q28.b1_t
  simp only [nn_mk,get_at hB2.c.cell,gZ,gS,ldI_mk,ldS_mk,Nat.zero_add]
  refine bc (fun hpos=>?_) fun hz=>?_
  · cases Q with
    | nil=>simp at hpos
    | cons v Q=>
      obtain ⟨hvM,hev,hsv,_⟩:=hG.qe v (by simp)
      try simp only [nn_mk,get_at hB2.c.cell,gZ,gS,ldI_mk,ldS_mk,Nat.zero_add]
      refine hB2.rq.rdr.ixI (by omega) (by omega) ?_
      have e0:lsF (v :: Q) (0:Int).toNat=(v:Int):=rfl
      rw [e0]
      try simp only [nn_mk,get_at hB2.c.cell,gZ,gS,ldI_mk,ldS_mk,Nat.zero_add]
      refine ⟨⟨by omega,by omega⟩,?_⟩
      refine stp hB2.c.cell (by simp) rfl fun H3 e3 s3=>?_
      have rdrop:=hB2.rq.drop (l:=1) (by omega)
      have hlen:(v :: Q).length-1=Q.length:=by simp
      have hfun:(fun i=>lsF (v :: Q) (i+1))=lsF Q:=by funext i; rfl
      rw [hfun,hlen] at rdrop
      have hw1:El.w Int=1:=rfl
      rw [hw1] at rdrop
      have hB3:BkM H0 H3 Z M n e mb base via ev (slp qp2 1 qc2 1) (qc2-1) Q:=hB2.setQ (H1:=H2) (Step.refl (F:=fpS qp2)) rdrop (fun y hy=>.inl (hB2.rq.fp_slp hy)) s3 (by rw [e3,hlen]; rfl)
      have hG3:=hG.pop
      simp only [nn_mk,get_at hB3.c.cell,gZ,gS,ldI_mk,ldS_mk,Nat.zero_add]
      refine hB3.c.out.row.rdr.ixS (by omega) (by omega) ?_
      rw [tN,hB3.c.out.len v hvM]
      have hol:=incs_len (fr:=ef e) (to:=et e) (i:=n) (v:=v)
      refine Q28.l2_rule (fun s0 v5 tp tn tc t40 t41 H'=>∃k,GvJ H0 Z M n e mb r v scn s0 v5 tp tn tc t40 t41 H' k) (fun s0 v5 tp tn tc t40 t41 H'=>gm (GvJ H0 Z M n e mb r v scn s0 v5 tp tn tc t40 t41 H')) ?_ ⟨_,rfl,rfl,rfl,rfl,rfl,[],incs (ef e) (et e) n v,base,via,ev,ρ,_,_,_,rfl,rfl,rfl,hB3,hG3,hev,fun i hi=>by cases hi⟩
      clear hG3 hB3 hB2 hG rdrop hfun hlen e3 s3 hev k0 hk0
      rintro s0 v5 tp tn tc t40 t41 H4 ⟨k0,hk0⟩ X2 hX2
      have hJ:=(gm_of hk0).1
      generalize gm (GvJ H0 Z M n e mb r v scn s0 v5 tp tn tc t40 t41 H4)=kk at hJ hX2
      obtain ⟨rfl,rfl,rfl,rfl,rfl,l1,l2,base,via,ev,ρ,qp4,qc4,Q4,rfl,rfl,hsp,hB4,hG4,hev,hPt⟩:=hJ
      have hlen:(incs (ef e) (et e) n v).length=l1.length+l2.length:=by rw [hsp]; simp
      refine Q28.b2_eq ?_
      unfold Q28.b2_t
      refine bc (fun hlt=>?_) fun hge=>?_
      · cases l2 with
        | nil=>simp at hlen; omega
        | cons i l2=>
          simp only [List.length_cons] at hlen
          have hiv:En n (ef e) (et e) i v:=mem_incs.1 (by rw [hsp]; simp)
          have hl1:∀j∈l1,En n (ef e) (et e) j v:=fun j hj=>mem_incs.1 (by rw [hsp]; simp [hj])
          have hwM:ot (ef e) (et e) i v<M:=hiv.ot.nd hN
          have hbv:=hG4.T.baseN hvM
          have hbw:=hG4.T.baseN hwM
          refine (hB4.c.out.each v hvM).rdr.ixI (by omega) (by omega) ?_
          have ei:lsF (incs (ef e) (et e) n v) (l1.length:Int).toNat=(i:Int):=by rw [tN,hsp]; simp [lsF]
          rw [ei]
          refine blother hB4.c hr hiv ?_
          generalize hw:ot (ef e) (et e) i v=w at hwM hbw
          have eow:ot (ef e) (et e) i w=v:=by rw [←hw,hiv.oo]
          have hiw:En n (ef e) (et e) i w:=hw▸hiv.ot
          have hwv:w≠v:=hw▸hiv.ne
          have next:∀{H5:Hp} {base':Nat→Nat} {via':Nat→Int} {ev':Nat→Bool} {ρ':Nat→Nat} {qp5:OA} {qc5:Nat} {Q5:List Nat},BkM H0 H5 Z M n e mb base' via' ev' qp5 qc5 Q5→Gr M n (ef e) (et e) mb r base' via' ev' ρ' scn (fun u=>decide (u=v)) Q5→ev' v=true→Pt n (ef e) (et e) mb base' via' ev' scn v l1→
              (ev' w=true∨0≤via' w)→(scn w=true→base' v=base' w∨mb v=(i:Int))→Q28.j1 (some ⟨Z.sb,0,none⟩) (v:Int) (Z.sl v).p (incs (ef e) (et e) n v).length tc ((incs (ef e) (et e) n v).length:Int) (l1.length:Int) X X2 E H5 K:=by
            intro H5 base' via' ev' ρ' qp5 qc5 Q5 hB5 hG5 hev5 hPt5 h1 h2
            refine Q28.j1_eq ?_
            unfold Q28.j1_t
            rw [i64w (by omega) (by omega)]
            have hJ':GvJ H0 Z M n e mb r v scn (some ⟨Z.sb,0,none⟩) (v:Int) (Z.sl v).p (incs (ef e) (et e) n v).length tc ((incs (ef e) (et e) n v).length:Int) ((l1.length:Int)+1) H5 l2.length:=
              ⟨rfl,rfl,rfl,rfl,rfl,l1++[i],l2,base',via',ev',ρ',qp5,qc5,Q5,by simp,rfl,by rw [hsp]; simp,hB5,hG5,hev5,fun j hj=>by
                rcases List.mem_append.1 hj with hj | hj
                · exact hPt5 j hj
                · rw [List.mem_singleton.1 hj,hw]; exact ⟨h1,h2⟩⟩
            exact hX2 _ _ _ _ _ _ _ _ ⟨_,hJ'⟩ (Nat.lt_of_le_of_lt (gm_of hJ').2 (by simp))
          simp only [nn_mk,get_at hB4.c.cell,gZ,gS,ldI_mk,ldS_mk,Nat.zero_add]
          refine hB4.rba.ixI (by omega) (by omega) ?_
          try simp only [nn_mk,get_at hB4.c.cell,gZ,gS,ldI_mk,ldS_mk,Nat.zero_add]
          refine hB4.rba.ixI (by omega) (by omega) ?_
          simp only [tN]
          refine bc (fun hbe=>?_) fun hbne=>?_
          · have hbe':base w=base v:=by omega
            refine next hB4 hG4 hev hPt (.inl ?_) fun _=>.inl hbe'.symm
            rw [←hG4.T.evb hwM,hbe',hG4.T.evb hvM]; exact hev
          · try simp only [nn_mk,get_at hB4.c.cell,gZ,gS,ldI_mk,ldS_mk,Nat.zero_add]
            refine hB4.c.rb.ixI (by omega) (by omega) ?_
            rw [tN]
            refine bc (fun hme=>?_) fun hmne=>?_
            · have hvr:v≠r:=fun hh=>by rw [hh,hrb] at hme; omega
              have em:mt (ef e) (et e) mb v=w:=by unfold mt; rw [hme,tN]; exact hw
              obtain ⟨_,k',hk',_⟩:=hG4.T.st v hvM hev hvr
              rw [em] at hk'
              exact next hB4 hG4 hev hPt (.inr (by omega)) fun _=>.inr hme
            · try simp only [nn_mk,get_at hB4.c.cell,gZ,gS,ldI_mk,ldS_mk,Nat.zero_add]
              refine hB4.rev.ixB (by omega) (by omega) ?_
              rw [tN]
              refine bcb (fun hew=>?_) fun hew=>?_
              · -- a circle
                have ends:ev (ef e i)=true∧ev (et e i)=true:=by
                  have h1:=hiv.2.2
                  have h2:=hiw.2.2
                  have h3:=hiv.2.1
                  rcases h1 with h1 | h1<;>rcases h2 with h2 | h2
                  · omega
                  · exact ⟨h1▸hev,h2▸hew⟩
                  · exact ⟨h2▸hew,h1▸hev⟩
                  · omega
                refine blshrink hB4 hr hMM hG4.T hiv.1 hiv.2.1 ends.1 ends.2 ?_ (fun nl h1 h2=>hG4.len h1 h2) fun H5 base' via' ev' ρ' qp5 qc5 Q5 hB5 hT5 hS=>?_
                · have:=hG4.len (nl:=[]) (by simp) (fun u hu=>by cases hu)
                  simpa using this
                · obtain ⟨nl,rfl,hnl,hnm⟩:=hS.qu
                  have hG5:=hG4.mono hN hT5 hS.mg hS.mn hS.vi hnl hnm (fun u hu=>by have:=of_decide_eq_true hu; rw [this]; exact ⟨hvM,hev⟩)
                  refine next hB5 hG5 (hS.mn v hvM hev) (hPt.mono hN hl1 hS.mg hS.mn hS.vi) (.inl (hS.mn w hwM hew)) fun _=>.inl ?_
                  have hj:=hS.jn
                  have h1:=hiv.2.2
                  have h2:=hiw.2.2
                  have h3:=hiv.2.1
                  rcases h1 with h1 | h1<;>rcases h2 with h2 | h2
                  · omega
                  · rw [h1,h2]; exact hj
                  · rw [h1,h2]; exact hj.symm
                  · omega
              · try simp only [nn_mk,get_at hB4.c.cell,gZ,gS,ldI_mk,ldS_mk,Nat.zero_add]
                have hns:¬scn w=true:=fun hs=>by rw [(hG4.sc w hs).2] at hew; cases hew
                refine hB4.rvi.ixI (by omega) (by omega) ?_
                rw [tN]
                refine bc (fun hvw=>?_) fun hvw=>next hB4 hG4 hev hPt (.inr (by omega)) fun hs=>(hns hs).elim
                try simp only [nn_mk,get_at hB4.c.cell,gZ,gS,ldI_mk,ldS_mk,Nat.zero_add]
                refine hB4.rvi.stI (by omega) (by omega) _ fun H5 rv5 s5=>?_
                rw [tN] at rv5
                have hB5:=hB4.setV s5 rv5
                simp only [nn_mk,get_at hB5.c.cell,gZ,gS,ldI_mk,ldS_mk,Nat.zero_add]
                refine hB5.c.rb.ixI (by omega) (by omega) ?_
                rw [tN]
                refine bc (fun hmw=>?_) fun hmw=>?_
                · have:mb w=-1:=hMM.neg hwM (by omega) hmw
                  rw [←hY] at hB5
                  exact k2 H5 xb xv xe base via ev ρ qp4 qc4 Q4 v i w hB5 hG4.T hvM hev hiv hw.symm hew hvw this
                · obtain ⟨j,ej,hj,em,_,hbm,hmm⟩:=hMM.en hwM (by omega) (by omega)
                  obtain ⟨hmN,hem,hvm⟩:=hG4.T.fresh hN hMM hwM hew hvw (by omega)
                  have hT5:=hG4.T.grow hN hMM hvM hev hiv hw.symm hew hvw (by omega)
                  refine blmate hB5.c hr hj ej ?_
                  simp only [nn_mk,get_at hB5.c.cell,gZ,gS,ldI_mk,ldS_mk,Nat.zero_add]
                  refine hB5.rev.stB (by omega) (by omega) _ fun H6 re6 s6=>?_
                  rw [tN] at re6
                  have hB6:=hB5.setE s6 re6
                  have hlenQ:=hG4.len (nl:=[]) (by simp) (fun u hu=>by cases hu)
                  simp only [List.append_nil] at hlenQ
                  simp only [nn_mk,get_at hB6.c.cell,gZ,gS,ldI_mk,ldS_mk,Nat.zero_add]
                  refine hB6.rq.appI _ (by omega) fun p8 c8 H8 r8 s8 f8=>?_
                  rw [lsF_app] at r8
                  have e8:=s8.keep _ _ hB6.c.cell fun hh=>(hB6.aq _ hh).2.1.s rfl
                  try simp only [nn_mk,Nat.zero_add]
                  refine stp e8 (by simp) rfl fun H9 e9 s9=>?_
                  have hl2:(Q4++[mt (ef e) (et e) mb w]).length=Q4.length+1:=by simp only [List.length_append,List.length_singleton]
                  have r8':Row H8 p8 (Q4++[mt (ef e) (et e) mb w]).length c8 (lsF (Q4++[mt (ef e) (et e) mb w])):=by rw [hl2]; exact r8
                  have hB9:=hB6.setQ s8 r8' f8 s9 (by rw [e9,hl2]; rfl)
                  have mg:∀u w,u<M→w<M→base u=base w→base u=base w:=fun _ _ _ _ h=>h
                  have mn:∀u,u<M→ev u=true→upf ev (mt (ef e) (et e) mb w) true u=true:=fun u _ hu=>by
                    by_cases eu:u=mt (ef e) (et e) mb w
                    · rw [eu,upf_same]
                    · rw [upf_ne eu]; exact hu
                  have vi:∀u,u<M→0≤via u→0≤upf via w (i:Int) u:=fun u _ hu=>by
                    by_cases eu:u=w
                    · rw [eu,upf_same]; omega
                    · rw [upf_ne eu]; exact hu
                  have hG9:=hG4.mono hN hT5 mg mn vi (nl:=[mt (ef e) (et e) mb w]) (by simp) (fun u=>?_) (fun u hu=>by have:=of_decide_eq_true hu; rw [this]; exact ⟨hvM,hev⟩)
                  · exact next hB9 hG9 (mn v hvM hev) (hPt.mono hN hl1 mg mn vi) (.inr (by rw [upf_same]; omega)) fun hs=>(hns hs).elim
                  · rw [List.mem_singleton]
                    constructor
                    · rintro rfl; exact ⟨hmN,upf_same,hem⟩
                    · rintro ⟨_,h2,h3⟩
                      refine Classical.byContradiction fun hne=>?_
                      rw [upf_ne hne,h3] at h2; cases h2
      · clear hX2
        have hnil:l2=[]:=List.length_eq_zero_iff.1 (by omega)
        subst hnil
        have hdone:=hG4.done hMM hvM hev (l:=l1) (fun i hi=>by
          have:=mem_incs.2 hi
          rw [hsp] at this; simpa using this) hPt
        have hc1:=cnt_less (p:=upf scn v true) (q:=scn) (n:=M) hvM upf_same hsv fun u _ hne=>upf_ne hne
        have hc2:=cnt_le (upf scn v true) M
        have hJ':GwJ H0 Z M n e mb r (some ⟨Z.sb,0,none⟩) H4 (M-cnt (upf scn v true) M):=⟨rfl,base,via,ev,ρ,_,qp4,qc4,Q4,hB4,hdone,rfl⟩
        exact hX _ _ ⟨_,hJ'⟩ (Nat.lt_of_le_of_lt (gm_of hJ').2 (by omega))
  · have hQ:Q=[]:=List.length_eq_zero_iff.1 (by omega)
    subst hQ
    rw [←hY] at hB2
    exact k1 H2 xb xv xe base via ev ρ qp2 qc2 [] hB2 (hG.end hN hMM)
end
end Go.Mz
/-
  Walks of layer 17: turning a way about; a new search.
-/
namespace Go.Mz
section
variable {E:VP}
variable {H0 H:Hp} {Y:LY} {M n:Nat} {e:Nat→Edg} {mb:Nat→Int} {v4 v5 v6 v7:Value} {base ρ:Nat→Nat} {via:Nat→Int} {ev:Nat→Bool} {qp:OA} {qc r:Nat} {Q:List Nat}
def TuJ (H0:Hp) (Y:LY) (M n:Nat) (e:Nat→Edg) (b0:Nat→Int) (base:Nat→Nat) (via:Nat→Int) (ev:Nat→Bool) (qp:OA) (qc:Nat) (Q:List Nat) (T:Nat→Int) (s0:OA) (w1:Int) (H':Hp) (k:Nat):Prop:=
  s0=some ⟨Y.sb,0,none⟩∧((w1=-1∧k=0∧BkM H0 H' Y M n e T base via ev qp qc Q)∨
    ∃(w u i:Nat) (l:List Nat) (b:Nat→Int),w1=w∧k=l.length∧BkM H0 H' Y M n e b base via ev qp qc Q∧AP n (ef e) (et e) b0 via u l∧ND (ef e) (et e) b0 l∧(∀x∈l,x<M∧b x=b0 x∧x≠w)∧via w=(i:Int)∧En n (ef e) (et e) i w∧u=ot (ef e) (et e) i w∧turnF (ef e) (et e) via l b w=T)
theorem blturn {b0:Nat→Int} {w u i:Nat} {l:List Nat} {K:Hp→Prop} (h:BkM H0 H Y M n e b0 base via ev qp qc Q) (hr:Right (M:Int) n e) (hMM:MM M n (ef e) (et e) M b0) (hA:AP n (ef e) (et e) b0 via u l) (hD:ND (ef e) (et e) b0 l) (hl:∀x∈l,x<M∧x≠w) (hvw:via w=(i:Int)) (hi:En n (ef e) (et e) i w) (hu:u=ot (ef e) (et e) i w)
    (k:∀H',BkM H0 H' Y M n e (turnF (ef e) (et e) via l b0 w) base via ev qp qc Q→K H'):Q27.call (some ⟨Y.sb,0,none⟩) (w:Int) E H K:=by
  have hN:=hr.nds
  have hM1:=hr.N1
  refine Q27.of (Q27.run_eq ?_)
  unfold Q27.run_t
  generalize hT:turnF (ef e) (et e) via l b0 w=T at k
  refine Q27.l1_rule (fun s0 w1 H'=>∃k,TuJ H0 Y M n e b0 base via ev qp qc Q T s0 w1 H' k) (fun s0 w1 H'=>gm (TuJ H0 Y M n e b0 base via ev qp qc Q T s0 w1 H')) ?_ ⟨_,rfl,.inr ⟨w,u,i,l,b0,rfl,rfl,h,hA,hD,fun x hx=>⟨(hl x hx).1,rfl,(hl x hx).2⟩,hvw,hi,hu,hT⟩⟩
  clear h hA hD hl hvw hi hu hT
  rintro s0 w1 H1 ⟨k0,hk0⟩ X hX
  have hJ:=(gm_of hk0).1
  generalize gm (TuJ H0 Y M n e b0 base via ev qp qc Q T s0 w1 H1)=kk at hJ hX
  obtain ⟨rfl,⟨rfl,rfl,hB⟩ | ⟨w,u,i,l,b,rfl,rfl,hB,hA,hD,hl,hvw,hi,hu,hT⟩⟩:=hJ
  · refine Q27.b1_eq ?_
    unfold Q27.b1_t
    exact bc (fun hh=>by omega) fun _=>k H1 hB
  · have hwM:=hi.nd hN
    have huM:u<M:=by rw [hu]; exact hi.ot.nd hN
    obtain ⟨l',hl'⟩:=hA.head
    subst hl'
    obtain ⟨_,hbu,huw⟩:=hl u (by simp)
    refine Q27.b1_eq ?_
    unfold Q27.b1_t
    refine bc (fun _=>?_) fun hh=>by omega
    simp only [nn_mk,get_at hB.c.cell,gZ,gS,ldI_mk,ldS_mk,Nat.zero_add]
    refine hB.rvi.ixI (by omega) (by omega) ?_
    rw [tN,hvw]
    refine blother hB.c hr hi ?_
    rw [←hu]
    simp only [nn_mk,get_at hB.c.cell,gZ,gS,ldI_mk,ldS_mk,Nat.zero_add]
    refine hB.c.rb.ixI (by omega) (by omega) ?_
    rw [tN]
    have wr:∀(x:Int) (_:∀H3,BkM H0 H3 Y M n e (upf (upf b w (i:Int)) u (i:Int)) base via ev qp qc Q→X (Q27.f1 (some ⟨Y.sb,0,none⟩) x) H3),Q27.j1 (some ⟨Y.sb,0,none⟩) (w:Int) (i:Int) (u:Int) x X E H1 K:=fun x hk=>by
      refine Q27.j1_eq ?_
      unfold Q27.j1_t
      simp only [nn_mk,get_at hB.c.cell,gZ,gS,ldI_mk,ldS_mk,Nat.zero_add]
      refine hB.c.rb.stI (by omega) (by omega) _ fun H2 r2 s2=>?_
      refine r2.stI (by omega) (by omega) _ fun H3 r3 s3=>?_
      simp only [tN] at r2 r3
      exact hk H3 ((hB.setM s2 r2).setM s3 r3)
    refine bc (fun hpos=>?_) fun hneg=>?_
    · have hpos0:0≤b0 u:=by omega
      obtain ⟨j,ej,hj,em,_,hbm,hmm⟩:=hMM.en huM (by omega) hpos0
      refine blmate hB.c hr hj (by rw [hbu,ej]) ?_
      have emt:mt (ef e) (et e) b u=mt (ef e) (et e) b0 u:=mt_congr hbu
      rw [emt]
      refine wr _ fun H3 hB3=>?_
      generalize hll:u :: l'=ll at hA
      cases hA with
      | root h0=>omega
      | step h1 hk' he' hl2=>
        rename_i k2 l2
        have:=(List.cons.inj hll).2
        subst this
        have hnd:=List.nodup_cons.1 hD.1
        have hTJ:TuJ H0 Y M n e b0 base via ev qp qc Q T (some ⟨Y.sb,0,none⟩) (mt (ef e) (et e) b0 u:Int) H3 l'.length:=by
          refine ⟨rfl,.inr ⟨_,_,k2,l',_,rfl,rfl,hB3,hl2,⟨hnd.2,fun x hx hb y hy=>hD.2 x (by simp [hx]) hb y (by simp [hy])⟩,fun x hx=>?_,hk',he',rfl,?_⟩⟩
          · obtain ⟨a1,a2,a3⟩:=hl x (by simp [hx])
            have hxu:x≠u:=fun hh=>hnd.1 (hh▸hx)
            exact ⟨a1,by rw [upf_ne hxu,upf_ne a3]; exact a2,fun hh=>hD.2 u (by simp) hpos0 x (by simp [hx]) hh.symm⟩
          · rw [←hT]
            conv=>rhs; unfold turnF
            rw [if_neg (by omega),hvw,emt]
        exact hX _ _ _ ⟨_,hTJ⟩ (Nat.lt_of_le_of_lt (gm_of hTJ).2 (by simp))
    · have hl0:l'=[]:=by
        cases l' with
        | nil=>rfl
        | cons y l'=>have:=hA.pos rfl (by simp); omega
      subst hl0
      refine wr _ fun H3 hB3=>?_
      have hTe:T=upf (upf b w (i:Int)) u (i:Int):=by
        rw [←hT]; unfold turnF; rw [if_pos (by omega),hvw]
      have hTJ:TuJ H0 Y M n e b0 base via ev qp qc Q T (some ⟨Y.sb,0,none⟩) (-1) H3 0:=⟨rfl,.inl ⟨rfl,rfl,by rw [hTe]; exact hB3⟩⟩
      exact hX _ _ _ ⟨_,hTJ⟩ (Nat.lt_of_le_of_lt (gm_of hTJ).2 (by simp))
theorem blturn0 {K:Hp→Prop} {s:OA} (k:K H):Q27.call s (-1) E H K:=by
  refine Q27.of (Q27.run_eq ?_)
  unfold Q27.run_t
  refine Q27.l1_rule (fun s0 w1 H'=>w1=-1∧H'=H) (fun s0 w1 H'=>0) ?_ ⟨rfl,rfl⟩
  rintro s0 w1 H1 ⟨rfl,rfl⟩ X hX
  refine Q27.b1_eq ?_
  unfold Q27.b1_t
  exact bc (fun hh=>by omega) fun _=>k
theorem BsC.push {H8 H9:Hp} {nx:Nat→List Nat} {u x:Nat} {p8:OA} {c8:Nat} (h:BsC H0 H Y M n e nx mb v4 v5 v6 v7) (hu:u<M) (r8:Row H8 p8 ((nx u).length+1) c8 (upf (lsF (nx u)) (nx u).length (x:Int))) (s8:Step (fpS (Y.sl u).p) H H8) (f8:∀y,fpS p8 y→fpS (Y.sl u).p y∨H y=none)
    (r9:Row H9 (some ⟨Y.nb,0,none⟩) M M (upf Y.sl u ⟨p8,(nx u).length+1,c8⟩)) (s9:Step (fpS (some ⟨Y.nb,0,none⟩)) H8 H9):BsC H0 H9 { Y with sl:=upf Y.sl u ⟨p8,(nx u).length+1,c8⟩ } M n e (upf nx u (nx u++[x])) mb v4 v5 v6 v7:=by
  have rows9:=h.out.push hu h.st r8 s8 f8 r9 s9
  have nb:∀y,fpS (some ⟨Y.nb,0,none⟩) y→y=Y.nb:=fun y hy=>by rwa [fpS_mk] at hy
  refine ⟨(h.st.own s8 (h.out.new _ hu)).own s9 fun y hy=>nb y hy▸h.out.b0,h.he,?_,rows9,?_,h.fs,h.fb,h.d1,h.d2,h.d3,fun v hv y hy=>?_⟩
  · exact s9.keep _ _ (s8.keep _ _ h.cell fun hh=>(h.d4 _ hu _ hh).1 rfl) fun hh=>h.d2 (nb _ hh)
  · exact (h.rb.keep s8 fun y hy hh=>by rw [fpS_mk] at hy; exact (h.d4 _ hu y hh).2 hy).keep s9 fun y hy hh=>by rw [fpS_mk] at hy; exact h.d3 ((nb _ hh).symm.trans hy)
  · by_cases evu:v=u
    · rw [evu] at hy
      simp only [upf_same] at hy
      rcases f8 y hy with hh | hh
      · exact h.d4 _ hu y hh
      · exact ⟨(h.fresh hh).s,(h.fresh hh).b⟩
    · simp only [upf_ne evu] at hy
      exact h.d4 v hv y hy
theorem blnew {ep:OA} {ec:Nat} {K:OA→Hp→Prop} (he:Rdr H ep n e) (hr:Right (M:Int) n e)
    (k:∀H' Y,BsC H H' Y M n e (incs (ef e) (et e) n) (fun _=>-1) (.slice none 0 0) (.slice none 0 0) (.slice none 0 0) (.slice none 0 0)→K (some ⟨Y.sb,0,none⟩) H'):Q26.call (M:Int) ep n ec E H K:=by
  have hN:=hr.nds
  have hM1:=hr.N1
  have hn1:=hr.n1
  refine Q26.of (Q26.run_eq ?_)
  unfold Q26.run_t
  refine nwk fun b1 H1 hb1 e1 s1=>?_
  simp only [get_at e1,gZ,gS,ldI_mk,ldS_mk]
  refine Row.mkSl (by omega) (by omega) fun nb H2 hnb rn s2=>?_
  rw [tN] at rn ⊢
  have e12:=s2.keep _ _ e1 fun h=>h
  simp only [get_at e12,gZ,gS,ldI_mk,ldS_mk]
  refine Row.mkI (by omega) (by omega) fun bb H3 hbb rb s3=>?_
  rw [tN] at rb ⊢
  have e13:=s3.keep _ _ e12 fun h=>h
  refine nwk fun sb H4 hsb es s4=>?_
  have e14:=s4.keep _ _ e13 fun h=>h
  simp only [get_at e14,gZ,gS,ldI_mk,ldS_mk]
  have s03:=(s1.and s2).and s3
  have s04:=s03.and s4
  have rn3:=rn.keep s3 fun _ _ h=>h
  have d1:sb≠bb:=fun h=>rb.live ⟨0,rfl⟩ (h▸hsb)
  have d2:sb≠nb:=fun h=>rn3.live ⟨0,rfl⟩ (h▸hsb)
  have d3:nb≠bb:=fun h=>rn.live ⟨0,rfl⟩ (h▸hbb)
  have hB4:BsC H H4 ⟨sb,nb,bb,0,0,0,ep,ec,fun _=>⟨none,0,0⟩⟩ M n e (incs (ef e) (et e) 0) (fun _=>0) (.slice none 0 0) (.slice none 0 0) (.slice none 0 0) (.slice none 0 0):=
    ⟨s04,he,es,⟨rn3.keep s4 fun _ _ h=>h,s1.mono _ hnb,fun _ _=>rfl,fun _ _=>.nil,fun _ _ _ _ _ _ h=>(by rw [fpS_none] at h; exact h.elim),fun _ _ _ h=>(by rw [fpS_none] at h; exact h.elim),fun _ _ _ h=>by rw [fpS_none] at h; exact h.elim⟩,rb.keep s4 fun _ _ h=>h,s03.mono _ hsb,(s1.and s2).mono _ hbb,d1,d2,d3,fun v hv x hx=>by rw [fpS_none] at hx; exact hx.elim⟩
  refine Q26.l1_rule (fun s3 tp tn tc t18 t19 H'=>s3=some ⟨sb,0,none⟩∧tp=ep∧tn=n∧t18=(n:Int)∧∃(i:Nat) (sl:Nat→Sl),t19=i∧i≤n∧BsC H H' ⟨sb,nb,bb,0,0,0,ep,ec,sl⟩ M n e (incs (ef e) (et e) i) (fun _=>0) (.slice none 0 0) (.slice none 0 0) (.slice none 0 0) (.slice none 0 0))
    (fun s3 tp tn tc t18 t19 H'=>n-t19.toNat) ?_ ⟨rfl,rfl,rfl,rfl,0,_,rfl,Nat.zero_le _,hB4⟩
  clear hB4 rn3 rn rb es e14 e13 e12 e1
  rintro s0 tp tn tc t18 t19 H5 ⟨rfl,rfl,rfl,rfl,i,sl,rfl,hi,hB5⟩ X hX
  refine Q26.b1_eq ?_
  unfold Q26.b1_t
  refine bc (fun hlt=>?_) fun hge=>?_
  · have hin:i<tn:=by omega
    obtain ⟨e1,e2⟩:=hr.ends hin
    obtain ⟨aM,cM⟩:=hN i hin
    refine hB5.ed.edge (by omega) (by omega) ?_
    simp only [tN]
    refine nwst rfl rfl fun b4 H6 hb4 e4 s6=>?_
    have hB6:=hB5.keep0 s6
    have a4:=hB5.fresh hb4
    rw [e1,e2] at e4
    have next:∀{H7:Hp} {sl':Nat→Sl} {nx:Nat→List Nat},BsC H H7 ⟨sb,nb,bb,0,0,0,tp,ec,sl'⟩ M tn e nx (fun _=>0) (.slice none 0 0) (.slice none 0 0) (.slice none 0 0) (.slice none 0 0)→nx=incs (ef e) (et e) (i+1)→Q26.j1 (some ⟨sb,0,none⟩) tp tn tc (tn:Int) (i:Int) X E H7 K:=by
      intro H7 sl' nx hB7 hnx
      subst hnx
      refine Q26.j1_eq ?_
      unfold Q26.j1_t
      rw [i64w (by omega) (by omega)]
      exact hX _ _ _ _ _ _ _ ⟨rfl,rfl,rfl,rfl,i+1,sl',by omega,by omega,hB7⟩ (by omega)
    simp only [get_at e4,gZ,gS,ldI_mk,ldS_mk]
    refine bcn (fun hne=>?_) fun heq=>?_
    · have hne':ef e i≠et e i:=fun hh=>hne (by rw [hh])
      have cell6:=hB6.cell
      simp only [nn_mk,get_at cell6,get_at e4,gZ,gS,ldI_mk,ldS_mk,Nat.zero_add]
      refine hB6.out.row.rdr.ixS (by omega) (by omega) ?_
      rw [tN,hB6.out.len _ aM]
      have hol:=incs_len (fr:=ef e) (to:=et e) (i:=i) (v:=ef e i)
      refine (hB6.out.each _ aM).appI _ (by omega) fun p8 c8 H8 r8 s8 f8=>?_
      have live6:∀{b:Nat} {x:Blk},H6 b=some x→H6 b≠none:=fun h h'=>by rw [h] at h'; cases h'
      have n4:∀v,v<M→¬fpS (sl v).p b4:=fun v hv h=>a4.l v hv h
      have cell8:=s8.keep _ _ cell6 fun h=>(hB6.d4 _ aM sb h).1 rfl
      have e48:=s8.keep _ _ e4 (n4 _ aM)
      simp only [get_at cell8,get_at e48,gZ,gS,ldS_mk,ldI_mk]
      refine ⟨trivial,trivial,?_⟩
      have row8:=hB6.out.row.keep s8 fun y hy hy'=>by rw [fpS_mk] at hy; exact hB6.out.out _ aM y hy' hy
      refine row8.st (α:=Sl) (by omega) (by omega) ⟨p8,(incs (ef e) (et e) i (ef e i)).length+1,c8⟩ fun H9 r9 s9=>?_
      simp only [tN] at r9
      have hB9:BsC H H9 ⟨sb,nb,bb,0,0,0,tp,ec,upf sl (ef e i) ⟨p8,(incs (ef e) (et e) i (ef e i)).length+1,c8⟩⟩ M tn e _ _ _ _ _ _:=hB6.push (x:=i) aM r8 s8 f8 r9 s9
      have cell9:=hB9.cell
      have n4nb:¬fpS (some ⟨nb,0,none⟩) b4:=fun h=>by rw [fpS_mk] at h; exact a4.n h
      have e49:=s9.keep _ _ e48 n4nb
      simp only [nn_mk,get_at cell9,get_at e49,gZ,gS,ldI_mk,ldS_mk,Nat.zero_add]
      have hac:et e i≠ef e i:=fun hh=>hne' hh.symm
      refine hB9.out.row.rdr.ixS (by omega) (by omega) ?_
      rw [tN,hB9.out.len _ cM]
      have hnx:upf (incs (ef e) (et e) i) (ef e i) (incs (ef e) (et e) i (ef e i)++[i]) (et e i)=incs (ef e) (et e) i (et e i):=upf_ne hac
      have hsl9:upf sl (ef e i) ⟨p8,(incs (ef e) (et e) i (ef e i)).length+1,c8⟩ (et e i)=sl (et e i):=upf_ne hac
      have hol2:=incs_len (fr:=ef e) (to:=et e) (i:=i) (v:=et e i)
      have each9:=hB9.out.each _ cM
      rw [hnx] at each9 ⊢
      refine each9.appI _ (by omega) fun p10 c10 H10 r10 s10 f10=>?_
      have cell10:=s10.keep _ _ cell9 fun h=>(hB9.d4 _ cM sb h).1 rfl
      have e410:=s10.keep _ _ e49 (fun h=>by simp only [hsl9] at h; exact n4 _ cM h)
      simp only [get_at cell10,get_at e410,gZ,gS,ldS_mk,ldI_mk]
      refine ⟨trivial,trivial,?_⟩
      have row10:=hB9.out.row.keep s10 fun y hy hy'=>by rw [fpS_mk] at hy; exact hB9.out.out _ cM y hy' hy
      refine row10.st (α:=Sl) (by omega) (by omega) ⟨p10,(incs (ef e) (et e) i (et e i)).length+1,c10⟩ fun H11 r11 s11=>?_
      simp only [tN] at r11
      have hB11:=hB9.push (x:=i) (p8:=p10) (c8:=c10) cM (by rw [hnx]; exact r10) s10 f10 (by rw [hnx]; exact r11) s11
      rw [hnx] at hB11
      refine next hB11 ?_
      conv=>rhs; unfold incs
      rw [if_neg hne']
    · have heq':ef e i=et e i:=by omega
      refine next hB6 ?_
      conv=>rhs; unfold incs
      rw [if_pos heq']
  · clear hX
    have hin:i=tn:=by omega
    subst hin
    refine Q26.j2_eq ?_
    unfold Q26.j2_t
    simp only [nn_mk,get_at hB5.cell,gZ,gS,ldI_mk,ldS_mk,Nat.zero_add]
    refine Q26.l2_rule (fun s3 t70 t71 H'=>s3=some ⟨sb,0,none⟩∧t70=(M:Int)∧∃(v:Nat) (b:Nat→Int),t71=v∧v≤M∧BsC H H' ⟨sb,nb,bb,0,0,0,tp,ec,sl⟩ M i e (incs (ef e) (et e) i) b (.slice none 0 0) (.slice none 0 0) (.slice none 0 0) (.slice none 0 0)∧∀u,u<v→b u=-1)
      (fun s3 t70 t71 H'=>M-t71.toNat) ?_ ⟨rfl,rfl,0,_,rfl,Nat.zero_le _,hB5,fun u hu=>by omega⟩
    rintro s0 t70 t71 H6 ⟨rfl,rfl,v,b,rfl,hv,hB6,hb⟩ X hX
    refine Q26.b2_eq ?_
    unfold Q26.b2_t
    refine bc (fun hlt=>?_) fun hge=>?_
    · simp only [nn_mk,get_at hB6.cell,gZ,gS,ldI_mk,ldS_mk,Nat.zero_add]
      refine hB6.rb.stI (by omega) (by omega) _ fun H7 r7 s7=>?_
      rw [tN] at r7
      rw [i64w (by omega) (by omega)]
      refine hX _ _ _ _ ⟨rfl,rfl,v+1,_,by omega,by omega,hB6.setB s7 r7,fun u hu=>?_⟩ (by omega)
      by_cases eu:u=v
      · rw [eu,upf_same]
      · rw [upf_ne eu]; exact hb u (by omega)
    · refine k H6 ⟨sb,nb,bb,0,0,0,tp,ec,sl⟩ ⟨hB6.st,hB6.he,hB6.cell,hB6.out,hB6.rb.congr fun u hu=>hb u (by omega),hB6.fs,hB6.fb,hB6.d1,hB6.d2,hB6.d3,hB6.d4⟩
end
end Go.Mz
/-
  Walks of layer 17: the two rounds of Solve. First what a look leaves alone, told from any heap on.
-/
namespace Go.Mz
def Own (Y:LY) (M y:Nat):Prop:=y=Y.sb∨y=Y.nb∨y=Y.bb∨∃v,v<M∧fpS (Y.sl v).p y
open Classical in
noncomputable def gh (H:Hp) (Y:LY) (M:Nat):Hp:=fun b=>if Own Y M b then none else H b
section
variable {E:VP}
variable {H0 H H':Hp} {Y:LY} {M n:Nat} {e:Nat→Edg} {nx:Nat→List Nat} {mb:Nat→Int} {v4 v5 v6 v7:Value} {base ρ:Nat→Nat} {via:Nat→Int} {ev:Nat→Bool} {qp:OA} {qc r:Nat} {Q:List Nat}
theorem gh_own {b:Nat} (h:Own Y M b):gh H Y M b=none:=if_pos h
theorem gh_out {b:Nat} (h:¬Own Y M b):gh H Y M b=H b:=if_neg h
theorem BsC.live (h:BsC H0 H Y M n e nx mb v4 v5 v6 v7) {b:Nat} (hb:Own Y M b):H b≠none:=by
  rcases hb with rfl | rfl | rfl | ⟨v,hv,hb⟩
  · rw [h.cell]; simp
  · exact h.out.row.live ⟨0,rfl⟩
  · exact h.rb.live ⟨0,rfl⟩
  · exact (h.out.each v hv).live hb
theorem BsC.new (h:BsC H0 H Y M n e nx mb v4 v5 v6 v7) {b:Nat} (hb:Own Y M b):H0 b=none:=by
  rcases hb with rfl | rfl | rfl | ⟨v,hv,hb⟩
  · exact h.fs
  · exact h.out.b0
  · exact h.fb
  · exact h.out.new v hv b hb
theorem Aw.not {y:Nat} (h:Aw Y M y):¬Own Y M y:=by
  rintro (hh | hh | hh | ⟨v,hv,hh⟩)
  · exact h.s hh
  · exact h.n hh
  · exact h.b hh
  · exact h.l v hv hh
theorem Aw.of {y:Nat} (h:¬Own Y M y):Aw Y M y:=⟨fun hh=>h (.inl hh),fun hh=>h (.inr (.inl hh)),fun hh=>h (.inr (.inr (.inl hh))),fun v hv hh=>h (.inr (.inr (.inr ⟨v,hv,hh⟩)))⟩
theorem BsC.rebase (h:BsC H0 H Y M n e nx mb v4 v5 v6 v7):BsC (gh H Y M) H Y M n e nx mb v4 v5 v6 v7:=by
  refine ⟨⟨fun b x hb _=>?_,fun b hb=>?_⟩,?_,h.cell,⟨h.out.row,gh_own (.inr (.inl rfl)),h.out.len,h.out.each,h.out.sep,h.out.out,fun v hv x hx=>gh_own (.inr (.inr (.inr ⟨v,hv,hx⟩)))⟩,h.rb,gh_own (.inl rfl),gh_own (.inr (.inr (.inl rfl))),h.d1,h.d2,h.d3,h.d4⟩
  · by_cases ho:Own Y M b
    · rw [gh_own ho] at hb; cases hb
    · rw [gh_out ho] at hb; exact hb
  · by_cases ho:Own Y M b
    · exact gh_own ho
    · rw [gh_out ho]; exact hb
  · intro i hi
    obtain ⟨b,o,e1,hg⟩:=h.ed i hi
    refine ⟨b,o,e1,fun j hj=>?_⟩
    have hno:¬Own Y M b:=fun ho=>h.he.live (b:=b) ⟨o,e1⟩ (by omega) (h.new ho)
    rw [←hg j hj]
    simp [Hp.get,gh_out hno]
theorem BsC.step (h:BsC (gh H Y M) H' Y M n e nx mb v4 v5 v6 v7):Step (Own Y M) H H':=
  ⟨fun b x hb hn=>h.st.keep b x (by rw [gh_out hn]; exact hb) fun hh=>hh,fun b hb=>by
    by_cases ho:Own Y M b
    · exact (h.live ho hb).elim
    · have:=h.st.mono b hb
      rwa [gh_out ho] at this⟩
theorem BsC.coe {xb xv xe:Nat} (h:BsC H0 H { Y with xb:=xb,xv:=xv,xe:=xe } M n e nx mb v4 v5 v6 v7):BsC H0 H Y M n e nx mb v4 v5 v6 v7:=⟨h.st,h.he,h.cell,h.out,h.rb,h.fs,h.fb,h.d1,h.d2,h.d3,h.d4⟩
theorem BsC.other {F:Nat→Prop} (h:BsC (gh H Y M) H Y M n e nx mb v4 v5 v6 v7) (s:Step F H H') (hF:∀y,F y→¬Own Y M y∧(0<n→¬fpS Y.ep y)):BsC (gh H' Y M) H' Y M n e nx mb v4 v5 v6 v7:=by
  refine ⟨⟨fun b x hb _=>?_,fun b hb=>?_⟩,?_,s.keep _ _ h.cell fun hh=>(hF _ hh).1 (.inl rfl),⟨h.out.row.keep s fun y hy hh=>by rw [fpS_mk] at hy; exact (hF _ hh).1 (.inr (.inl hy)),gh_own (.inr (.inl rfl)),h.out.len,fun v hv=>(h.out.each v hv).keep s fun y hy hh=>(hF _ hh).1 (.inr (.inr (.inr ⟨v,hv,hy⟩))),h.out.sep,h.out.out,fun v hv x hx=>gh_own (.inr (.inr (.inr ⟨v,hv,hx⟩)))⟩,
    h.rb.keep s fun y hy hh=>by rw [fpS_mk] at hy; exact (hF _ hh).1 (.inr (.inr (.inl hy))),gh_own (.inl rfl),gh_own (.inr (.inr (.inl rfl))),h.d1,h.d2,h.d3,h.d4⟩
  · by_cases ho:Own Y M b
    · rw [gh_own ho] at hb; cases hb
    · rw [gh_out ho] at hb; exact hb
  · by_cases ho:Own Y M b
    · exact gh_own ho
    · rw [gh_out ho]; exact hb
  · intro i hi
    have hed:=h.ed.keep s fun y hy _ hh=>(hF _ hh).2 (by omega) hy
    obtain ⟨b,o,e1,hg⟩:=hed i hi
    refine ⟨b,o,e1,fun j hj=>?_⟩
    have hno:¬Own Y M b:=fun ho=>h.he.live (b:=b) ⟨o,e1⟩ (by omega) (h.new ho)
    rw [←hg j hj]
    simp [Hp.get,gh_out hno]
/-! ### Certificates -/
def Cert (M n:Nat) (fr to:Nat→Nat) (mb:Nat→Int) (u:Nat):Prop:=∃T:Nat→Prop,(∀x,x<M→T x→x≠u→0≤mb x)∧∀b',MM M n fr to M b'→∃x,x<M∧T x∧b' x<0
theorem Cert.mono {fr to:Nat→Nat} {mb mb':Nat→Int} {u:Nat} (h:Cert M n fr to mb u) (hm:∀x,x<M→0≤mb x→0≤mb' x):Cert M n fr to mb' u:=by
  obtain ⟨T,h1,h2⟩:=h
  exact ⟨T,fun x hx ht hne=>hm x hx (h1 x hx ht hne),h2⟩
theorem Clo.cert {fr to:Nat→Nat} {mb via:Nat→Int} (hN:Nds M n fr to) (hMM:MM M n fr to M mb) (C:Clo M n fr to mb r base via ev ρ):Cert M n fr to mb r:=by
  classical
  refine ⟨fun x=>ev x=true,fun x hx he hne=>(C.T.st x hx he hne).1,fun b' hb'=>?_⟩
  have h1:=C.hung hN hMM hb'
  obtain ⟨x,hx,hh⟩:=cnt_some (p:=fun x=>@decide (ev x=true∧b' x<0) (Classical.propDecidable _)) (N:=M) (by
    have:cnt (fun x=>decide (ev x=true∧b' x<0)) M=cnt (fun x=>@decide (ev x=true∧b' x<0) (Classical.propDecidable _)) M:=cnt_congr fun x _=>by rw [decide_eq_decide]
    omega)
  have:=odt hh
  exact ⟨x,hx,this.1,this.2⟩
theorem Tre.root_mem {fr to:Nat→Nat} {mb via:Nat→Int} (hN:Nds M n fr to) (hT:Tre M n fr to mb r base via ev ρ) {y:Nat} {l:List Nat} (hA:AP n fr to mb via y l):y<M→ev y=true→r∈l:=by
  induction hA with
  | root h0=>
    rename_i y
    intro hy hey
    have:y=r:=Classical.byContradiction fun hne=>by have:=(hT.st y hy hey hne).1; omega
    rw [this]; simp
  | step h1 hk he' hl ih=>
    rename_i y k' l2
    intro hy hey
    have hne:y≠r:=fun e=>by rw [e,hT.rb] at h1; omega
    obtain ⟨_,k2,hk2,_,hev,_⟩:=hT.st y hy hey hne
    have:=Int.ofNat.inj (hk.symm.trans hk2)
    subst this
    exact List.mem_cons_of_mem _ (ih (he'.ot.nd hN) hev)
theorem Tre.found {fr to:Nat→Nat} {mb via:Nat→Int} (hN:Nds M n fr to) (hMM:MM M n fr to M mb) (hT:Tre M n fr to mb r base via ev ρ) {v i w:Nat} (hv:v<M) (hev:ev v=true) (hi:En n fr to i v) (hw:w=ot fr to i v) (hew:ev w=false) (hbw:mb w=-1) :
    ∃l,AP n fr to mb (upf via w (i:Int)) v l∧ND fr to mb l∧(∀x∈l,x<M∧x≠w)∧MM M n fr to M (turnF fr to (upf via w (i:Int)) l mb w)∧(∀x,x<M→0≤mb x→0≤turnF fr to (upf via w (i:Int)) l mb w x)∧0≤turnF fr to (upf via w (i:Int)) l mb w r:=by
  obtain ⟨l,hl,hD⟩:=hT.pa v hv hev
  have hall:=hT.pev hN hl hv hev
  have eiw:En n fr to i w:=by rw [hw]; exact hi.ot
  have eo:ot fr to i w=v:=by rw [hw,hi.oo]
  have hxw:∀x∈l,x≠w:=fun x hx e=>by have:=(hall x hx).2; rw [e,hew] at this; cases this
  have hmw:∀x∈l,0≤mb x→mt fr to mb x≠w:=fun x hx hb e=>by
    obtain ⟨_,_,_,_,_,hbm,_⟩:=hMM.en (hall x hx).1 (by have:=(hall x hx).1; omega) hb
    rw [e] at hbm; omega
  have hl':AP n fr to mb (upf via w (i:Int)) v l:=hl.congr fun y hy hb=>upf_ne (hmw y hy hb)
  have hMX:MM M n fr to w mb:=fun x hx hne=>by
    rcases hMM x hx (by omega) with e1 | ⟨j,e1,hj,_,e2⟩
    · exact .inl e1
    · exact .inr ⟨j,e1,hj,fun e=>by rw [e] at e2; omega,e2⟩
  obtain ⟨r1,r2,r3,r4⟩:=turn_ok hN hMM hl' hD (fun x hx=>(hall x hx).1) (b:=mb) (w:=w) (fun x hx=>⟨rfl,fun _=>rfl⟩) hMX (fun x hx=>⟨hxw x hx,hmw x hx⟩) upf_same eiw eo.symm
  refine ⟨l,hl',hD,fun x hx=>⟨(hall x hx).1,hxw x hx⟩,r1,fun x hx hb=>?_,(r3 r (hT.root_mem hN hl hv hev)).1⟩
  by_cases hxl:∃y∈l,x=y∨(0≤mb y∧x=mt fr to mb y)
  · obtain ⟨y,hy,hh⟩:=hxl
    rcases hh with rfl | ⟨hby,rfl⟩
    · exact (r3 x hy).1
    · exact (r3 y hy).2 hby
  · rw [r4 x (fun e=>by rw [e] at hb; omega) fun y hy=>⟨fun e=>hxl ⟨y,hy,.inl e⟩,fun hby e=>hxl ⟨y,hy,.inr ⟨hby,e⟩⟩⟩]
    exact hb
theorem Cert.none {fr to:Nat→Nat} {mb via:Nat→Int} (hN:Nds M n fr to) (hMM:MM M n fr to M mb) (hc:Cert M n fr to mb r) (hT:Tre M n fr to mb r base via ev ρ) {v i w:Nat} (hv:v<M) (hev:ev v=true) (hi:En n fr to i v) (hw:w=ot fr to i v) (hew:ev w=false) (hbw:mb w=-1):False:=by
  obtain ⟨l,_,_,_,h1,h2,h3⟩:=hT.found hN hMM hv hev hi hw hew hbw
  obtain ⟨T,t1,t2⟩:=hc
  obtain ⟨x,hx,ht,hb⟩:=t2 _ h1
  by_cases hxr:x=r
  · rw [hxr] at hb; omega
  · have:=h2 x hx (t1 x hx ht hxr)
    omega
end
end Go.Mz
/-
  Walks of layer 17: Solve.
-/
namespace Go.Mz
section
variable {E:VP}
variable {H0 H H' Hq:Hp} {Y:LY} {M n:Nat} {e:Nat→Edg} {mb:Nat→Int} {v4 v5 v6 v7:Value}
structure S2 (Hq H':Hp) (Y:LY) (M n:Nat) (e:Nat→Edg) (mb:Nat→Int) (rb:Nat) (f:Nat→Bool) (mp:OA) (mn mc:Nat) (g:Nat→Int):Prop where
  c:∃v4 v5 v6 v7,BsC (gh H' Y M) H' Y M n e (incs (ef e) (et e) n) mb v4 v5 v6 v7
  rr:Row H' (some ⟨rb,0,none⟩) M M f
  rm:Row H' mp mn mc g
  fm:∀y,fpS mp y→Hq y=none∧¬Own Y M y∧y≠rb
  st:Step (fun y=>Own Y M y∨y=rb) Hq H'
  ro:¬Own Y M rb
  re:0<n→¬fpS Y.ep rb
  le:0<n→∀y,fpS Y.ep y→Hq y≠none
section
variable {rb mn mc:Nat} {f:Nat→Bool} {mp:OA} {g:Nat→Int}
theorem S2.row {H1:Hp} {f':Nat→Bool} (h:S2 Hq H' Y M n e mb rb f mp mn mc g) (s:Step (fpS (some ⟨rb,0,none⟩)) H' H1) (r:Row H1 (some ⟨rb,0,none⟩) M M f'):S2 Hq H1 Y M n e mb rb f' mp mn mc g:=by
  have hF:∀y,fpS (some ⟨rb,0,none⟩) y→y=rb:=fun y hy=>by rwa [fpS_mk] at hy
  obtain ⟨a,b,c,d,hc⟩:=h.c
  exact ⟨⟨a,b,c,d,hc.other s fun y hy=>hF y hy▸⟨h.ro,h.re⟩⟩,r,h.rm.keep s fun y hy hh=>(h.fm y hy).2.2 (hF y hh),h.fm,h.st.trans s fun y hy=>.inl (.inr (hF y hy)),h.ro,h.re,h.le⟩
theorem S2.mat {H1:Hp} {mp':OA} {mn' mc':Nat} {g':Nat→Int} (h:S2 Hq H' Y M n e mb rb f mp mn mc g) (s:Step (fpS mp) H' H1) (r:Row H1 mp' mn' mc' g') (hf:∀y,fpS mp' y→fpS mp y∨H' y=none):S2 Hq H1 Y M n e mb rb f mp' mn' mc' g':=by
  obtain ⟨a,b,c,d,hc⟩:=h.c
  have hF:∀y,fpS mp y→¬Own Y M y∧(0<n→¬fpS Y.ep y):=fun y hy=>⟨(h.fm y hy).2.1,fun hn he=>h.le hn y he (h.fm y hy).1⟩
  exact ⟨⟨a,b,c,d,hc.other s hF⟩,h.rr.keep s fun y hy hh=>by rw [fpS_mk] at hy; exact (h.fm y hh).2.2 hy,r,fun y hy=>(hf y hy).elim (h.fm y) fun hn=>⟨h.st.mono y hn,fun ho=>hc.live ho hn,fun e=>h.rr.live ⟨0,rfl⟩ (e▸hn)⟩,h.st.trans s fun y hy=>.inr (h.fm y hy).1,h.ro,h.re,h.le⟩
theorem S2.keep0 {H1:Hp} (h:S2 Hq H' Y M n e mb rb f mp mn mc g) (s:Step (fun _=>False) H' H1):S2 Hq H1 Y M n e mb rb f mp mn mc g:=by
  obtain ⟨a,b,c,d,hc⟩:=h.c
  exact ⟨⟨a,b,c,d,hc.other s fun y hy=>hy.elim⟩,h.rr.keep s fun _ _ h=>h,h.rm.keep s fun _ _ h=>h,h.fm,h.st.and s,h.ro,h.re,h.le⟩
theorem S2.look {H1:Hp} {xb xv xe:Nat} {a b c d:Value} (h:S2 Hq H' Y M n e mb rb f mp mn mc g) (k:BsC (gh H' Y M) H1 { Y with xb:=xb,xv:=xv,xe:=xe } M n e (incs (ef e) (et e) n) mb a b c d):S2 Hq H1 Y M n e mb rb f mp mn mc g:=by
  have k':=k.coe
  have s:=k'.step
  exact ⟨⟨a,b,c,d,k'.rebase⟩,h.rr.keep s fun y hy hh=>by rw [fpS_mk] at hy; exact h.ro (hy▸hh),h.rm.keep s fun y hy hh=>(h.fm y hy).2.1 hh,h.fm,h.st.trans s fun y hy=>.inl (.inl hy),h.ro,h.re,h.le⟩
end
theorem blnear {rb s6 c3 r8 v:Nat} {f:Nat→Bool} {i:Nat} {K:Bool→Hp→Prop} {nx:Nat→List Nat} (hB:BsC H0 H Y M n e nx mb v4 v5 v6 v7) (hr:Right (M:Int) n e) (h8:H r8=some ⟨[.slice (some ⟨rb,0,none⟩) M M],47⟩) (h6:H s6=some ⟨[.pointer (some ⟨Y.sb,0,none⟩)],99⟩) (h3:H c3=some ⟨[.int .i64 (v:Int)],3⟩)
    (rr:Row H (some ⟨rb,0,none⟩) M M f) (hi:En n (ef e) (et e) i v) (k:K (f (ot (ef e) (et e) i v)) H):Q30.call (i:Int) r8 0 s6 0 c3 0 E H K:=by
  have hoM:=hi.ot.nd hr.nds
  refine Q30.of (Q30.run_eq ?_)
  unfold Q30.run_t
  simp only [get_at h8,get_at h6,get_at h3,gZ,ldS_mk,ldP_mk,ldI_mk]
  refine blother hB hr hi ?_
  simp only [get_at h8,gZ,ldS_mk]
  refine ⟨trivial,?_⟩
  refine rr.ixB (by omega) (by omega) ?_
  rw [tN]; exact k
theorem any_take {p:Nat→Bool} {l:List Nat} {t:Nat} (h:(l.take t).any p=false) (ht:t<l.length):(l.take (t+1)).any p=p (l[t]):=by
  rw [List.take_succ_eq_append_getElem ht,List.any_append,h]; simp
theorem blcontains {rb s6 c3 r8 v:Nat} {f:Nat→Bool} {K:Bool→Hp→Prop} (hB:BsC H0 H Y M n e (incs (ef e) (et e) n) mb v4 v5 v6 v7) (hr:Right (M:Int) n e) (h8:H r8=some ⟨[.slice (some ⟨rb,0,none⟩) M M],47⟩) (h6:H s6=some ⟨[.pointer (some ⟨Y.sb,0,none⟩)],99⟩) (h3:H c3=some ⟨[.int .i64 (v:Int)],3⟩)
    (rr:Row H (some ⟨rb,0,none⟩) M M f) (hv:v<M) (k:K ((incs (ef e) (et e) n v).any fun i=>f (ot (ef e) (et e) i v)) H) :
    Q32.call (Y.sl v).p (incs (ef e) (et e) n v).length (Y.sl v).c 54 [Value.pointer (some ⟨r8,0,none⟩),Value.pointer (some ⟨s6,0,none⟩),Value.pointer (some ⟨c3,0,none⟩)] E H K:=by
  have hn1:=hr.n1
  have hol:=incs_len (fr:=ef e) (to:=et e) (i:=n) (v:=v)
  refine Q32.of (Q32.run_eq ?_)
  unfold Q32.run_t
  refine Q43.of (Q43.run_eq ?_)
  unfold Q43.run_t
  generalize hl:incs (ef e) (et e) n v=l at *
  refine Q43.l1_rule (fun sp sn sc g gk t7 t8 H'=>sp=(Y.sl v).p∧sn=l.length∧g=54∧gk=[Value.pointer (some ⟨r8,0,none⟩),Value.pointer (some ⟨s6,0,none⟩),Value.pointer (some ⟨c3,0,none⟩)]∧t7=(l.length:Int)∧H'=H∧∃t:Nat,t8=t∧t≤l.length∧(l.take t).any (fun i=>f (ot (ef e) (et e) i v))=false)
    (fun sp sn sc g gk t7 t8 H'=>l.length-t8.toNat) ?_ ⟨rfl,rfl,rfl,rfl,rfl,rfl,0,rfl,Nat.zero_le _,rfl⟩
  rintro sp sn sc g gk t7 t8 H1 ⟨rfl,rfl,rfl,rfl,rfl,rfl,t,rfl,ht,hno⟩ X hX
  refine Q43.b1_eq ?_
  unfold Q43.b1_t
  refine bc (fun hlt=>?_) fun hge=>?_
  · have htl:t<l.length:=by omega
    have he:=hB.out.each v hv
    rw [hl] at he
    refine he.rdr.ixI (by omega) (by omega) ?_
    rw [tN,lsF_get htl]
    have hi:En n (ef e) (et e) l[t] v:=mem_incs.1 (by rw [hl]; exact List.getElem_mem htl)
    refine ⟨rfl,?_⟩
    show Q30.call ((l[t]:Nat):Int) r8 0 s6 0 c3 0 E H1 (fun b H_1=>bcase b (K (decide ((0:Int)≤(t:Int))) H_1) (X (Q43.f1 (Y.sl v).p l.length sc 54 [Value.pointer (some ⟨r8,0,none⟩),Value.pointer (some ⟨s6,0,none⟩),Value.pointer (some ⟨c3,0,none⟩)] (l.length:Int) (IntKind.wrap .i64 ((t:Int)+1))) H_1))
    refine blnear hB hr h8 h6 h3 rr hi ?_
    have hat:=any_take hno htl
    refine bcb (fun hh=>?_) fun hh=>?_
    · have:l.any (fun i=>f (ot (ef e) (et e) i v))=true:=by
        rw [List.any_eq_true]
        exact ⟨l[t],List.getElem_mem htl,hh⟩
      rw [this] at k
      rw [decide_eq_true (by omega)]
      exact k
    · rw [i64w (by omega) (by omega)]
      exact hX _ _ _ _ _ _ _ _ ⟨rfl,rfl,rfl,rfl,rfl,rfl,t+1,by omega,by omega,by rw [hat]; exact hh⟩ (by omega)
  · have htl:t=l.length:=by omega
    rw [htl,List.take_length] at hno
    rw [hno] at k
    exact k
end
end Go.Mz
/-
  Walks of layer 17: Solve, from its second round on; whole.
-/
namespace Go.Mz
section
variable {E:VP}
variable {H0 H H' Hq:Hp} {Y:LY} {M n:Nat} {e:Nat→Edg} {mb:Nat→Int} {v4 v5 v6 v7:Value}
abbrev LoP (e:Nat→Edg) (mb:Nat→Int) (v:Nat):Bool:=decide (0≤mb v∧v<mt (ef e) (et e) mb v)
abbrev SeP (e:Nat→Edg) (n:Nat) (f:Nat→Bool) (v:Nat):Bool:=!f v && (incs (ef e) (et e) n v).any fun i=>f (ot (ef e) (et e) i v)
theorem blset {rb s6 r8:Nat} {f:Nat→Bool} {mp:OA} {mc k:Nat} {g:Nat→Int} {K:OA→Nat→Nat→OA→Nat→Nat→Int→Hp→Prop} (hr:Right (M:Int) n e)
    (hS:S2 Hq H Y M n e mb rb f mp k mc g) (h8:Hq r8=some ⟨[.slice (some ⟨rb,0,none⟩) M M],47⟩) (h6:Hq s6=some ⟨[.pointer (some ⟨Y.sb,0,none⟩)],99⟩) (n8:¬Own Y M r8∧r8≠rb) (n6:¬Own Y M s6∧s6≠rb)
    (kk:∀H' sp sc,Step (fun y=>Own Y M y∨y=rb) Hq H'→Row H' mp k mc g→Row H' sp (pk (SeP e n f) M).length sc (lsF (pk (SeP e n f) M))→(∀y,fpS sp y→H y=none)→K mp k mc sp (pk (SeP e n f) M).length sc 0 H') :
    Q11.l4 mp k mc none 0 0 s6 r8 (M:Int) 0 E H K:=by
  have hM1:=hr.N1
  refine Q11.l4_rule (fun mp' mn' mc' sp sn sc s6' r8' t111 t112 H'=>mp'=mp∧mn'=k∧mc'=mc∧s6'=s6∧r8'=r8∧t111=(M:Int)∧∃v:Nat,t112=v∧v≤M∧sn=(pk (SeP e n f) v).length∧S2 Hq H' Y M n e mb rb f mp k mc g∧Row H' sp (pk (SeP e n f) v).length sc (lsF (pk (SeP e n f) v))∧(∀y,fpS sp y→H y=none)∧Step (fun _=>False) H H')
    (fun mp' mn' mc' sp sn sc s6' r8' t111 t112 H'=>M-t112.toNat) ?_ ⟨rfl,rfl,rfl,rfl,rfl,rfl,0,rfl,Nat.zero_le _,rfl,hS,Row.nil,fun y h=>by rw [fpS_none] at h; exact h.elim,.refl⟩
  rintro mp' mn' mc' sp sn sc s6' r8' t111 t112 H1 ⟨rfl,rfl,rfl,rfl,rfl,rfl,v,rfl,hv,rfl,hS1,rs,fs,s1⟩ X hX
  have hpl:(pk (SeP e n f) v).length≤v:=by rw [pk_len]; exact cnt_le _ _
  refine Q11.b4_eq ?_
  unfold Q11.b4_t
  refine bc (fun hlt=>?_) fun hge=>?_
  · have hvM:v<M:=by omega
    refine nwst rfl rfl fun c3 H3 hc3 e3 s3=>?_
    have hS3:=hS1.keep0 s3
    have h83:=hS3.st.keep _ _ h8 fun hh=>hh.elim n8.1 n8.2
    have h63:=hS3.st.keep _ _ h6 fun hh=>hh.elim n6.1 n6.2
    have s13:=s1.and s3
    have rs3:=rs.keep s3 fun _ _ h=>h
    obtain ⟨a,b,c,d,hB3⟩:=hS3.c
    have next:∀{H4:Hp} {sp':OA} {sc':Nat},S2 Hq H4 Y M n e mb rb f mp' mn' mc' g→Row H4 sp' (pk (SeP e n f) (v+1)).length sc' (lsF (pk (SeP e n f) (v+1)))→(∀y,fpS sp' y→H y=none)→Step (fun _=>False) H H4→Q11.j7 mp' mn' mc' sp' (pk (SeP e n f) (v+1)).length sc' s6' r8' (M:Int) (v:Int) X E H4 K:=by
      intro H4 sp' sc' hS4 rs4 fs4 s4
      refine Q11.j7_eq ?_
      unfold Q11.j7_t
      rw [i64w (by omega) (by omega)]
      exact hX _ _ _ _ _ _ _ _ _ _ _ ⟨rfl,rfl,rfl,rfl,rfl,rfl,v+1,by omega,by omega,rfl,hS4,rs4,fs4,s4⟩ (by omega)
    simp only [get_at h83,get_at e3,gZ,ldS_mk,ldI_mk]
    refine hS3.rr.ixB (by omega) (by omega) ?_
    rw [tN]
    have skip:SeP e n f v=false→∀H4,S2 Hq H4 Y M n e mb rb f mp' mn' mc' g→Row H4 sp (pk (SeP e n f) v).length sc (lsF (pk (SeP e n f) v))→Step (fun _=>False) H H4→Q11.j7 mp' mn' mc' sp (pk (SeP e n f) v).length sc s6' r8' (M:Int) (v:Int) X E H4 K:=fun hf H4 hS4 rs4 s4=>by
      have e1:pk (SeP e n f) (v+1)=pk (SeP e n f) v:=by rw [pk_succ,if_neg (by rw [hf]; decide)]
      have:=next (sp':=sp) (sc':=sc) hS4 (by rw [e1]; exact rs4) fs s4
      rwa [e1] at this
    refine bcb (fun hnf=>?_) fun hnf=>?_
    · simp only [get_at h63,get_at e3,gZ,ldP_mk,nn_mk,Nat.zero_add,get_at hB3.cell,gS,ldS_mk,ldI_mk]
      refine hB3.out.row.rdr.ixS (by omega) (by omega) ?_
      rw [tN,hB3.out.len v hvM]
      refine blcontains hB3 hr h83 h63 e3 hS3.rr hvM ?_
      have hfv:f v=false:=by simpa using hnf
      refine bcb (fun hany=>?_) fun hany=>?_
      · simp only [get_at e3,gZ,ldI_mk]
        have hse:SeP e n f v=true:=by simp only [SeP,hfv,hany]; rfl
        have e1:pk (SeP e n f) (v+1)=pk (SeP e n f) v++[v]:=by rw [pk_succ,if_pos hse]
        have hl1:(pk (SeP e n f) v).length+1=(pk (SeP e n f) (v+1)).length:=by rw [e1]; simp
        refine rs3.appI _ (by omega) fun p6 c6 H6 r6 s6' f6=>?_
        rw [lsF_app,←e1] at r6
        rw [hl1] at r6 ⊢
        have hn:∀y,fpS sp y→¬(Own Y M y∨y=rb)∧(0<n→¬fpS Y.ep y)∧¬fpS mp' y:=fun y hy=>by
          have h0:=fs y hy
          have hq:=hS.st.mono y h0
          obtain ⟨a,b,c,d,hB⟩:=hS.c
          exact ⟨fun hh=>hh.elim (fun ho=>hB.live ho h0) fun e=>hS.rr.live ⟨0,rfl⟩ (e▸h0),fun hn he=>hS.le hn y he hq,fun hm=>hS.rm.live hm h0⟩
        have hS6:S2 Hq H6 Y M n e mb rb f mp' mn' mc' g:=by
          refine ⟨⟨a,b,c,d,hB3.other s6' fun y hy=>⟨fun ho=>(hn y hy).1 (.inl ho),(hn y hy).2.1⟩⟩,hS3.rr.keep s6' fun y hy hh=>by rw [fpS_mk] at hy; exact (hn y hh).1 (.inr hy),hS3.rm.keep s6' fun y hy hh=>(hn y hh).2.2 hy,hS3.fm,hS3.st.trans s6' fun y hy=>.inr (hS.st.mono y (fs y hy)),hS3.ro,hS3.re,hS3.le⟩
        exact next hS6 r6 (fun y hy=>(f6 y hy).elim (fs y) (s13.mono y)) (s13.own s6' fs)
      · have hse:SeP e n f v=false:=by simp only [SeP,hany]; simp
        exact skip hse H3 hS3 rs3 s13
    · have hse:SeP e n f v=false:=by
        have:f v=true:=by simpa using hnf
        simp only [SeP,this]; simp
      exact skip hse H3 hS3 rs3 s13
  · clear hX
    have hvM:v=M:=by omega
    subst hvM
    refine Q11.j8_eq ?_
    unfold Q11.j8_t
    exact kk H1 sp sc hS1.st hS1.rm rs fs
end
end Go.Mz
/-
  Walks of layer 17: Solve, whole.
-/
namespace Go.Mz
section
variable {E:VP}
variable {H0 H H' Hq:Hp} {Y:LY} {M n:Nat} {e:Nat→Edg} {mb:Nat→Int} {v4 v5 v6 v7:Value}
structure R2 (M n:Nat) (e:Nat→Edg) (mb:Nat→Int) (f:Nat→Bool) (v:Nat) (ba:Nat→Nat→Nat) (vi:Nat→Nat→Int) (ee:Nat→Nat→Bool) (rh:Nat→Nat→Nat):Prop where
  clo:∀r,r<v→mb r=-1→Clo M n (ef e) (et e) mb r (ba r) (vi r) (ee r) (rh r)
  rf:∀u,u<M→(f u=true↔∃r,r<v∧mb r=-1∧ee r u=true)
theorem blround2 {b1 rb s6 r8:Nat} {ep:OA} {ec:Nat} {K:OA→Nat→Nat→OA→Nat→Nat→Int→Hp→Prop} (hr:Right (M:Int) n e) (hMM:MM M n (ef e) (et e) M mb) (hcert:∀u,u<M→mb u=-1→Cert M n (ef e) (et e) mb u)
    (hS:S2 H H Y M n e mb rb (fun _=>false) none 0 0 fun i=>mb (([]:List Nat).getD i 0)) (h1:H b1=some ⟨[.int .i64 (M:Int),.slice ep n ec],24⟩) (h8:H r8=some ⟨[.slice (some ⟨rb,0,none⟩) M M],47⟩) (h6:H s6=some ⟨[.pointer (some ⟨Y.sb,0,none⟩)],99⟩) (n1:¬Own Y M b1∧b1≠rb) (n8:¬Own Y M r8∧r8≠rb) (n6:¬Own Y M s6∧s6≠rb)
    (kk:∀H' mp mn mc g sp sn sc cv,Step (fun y=>Own Y M y∨y=rb) H H'→Row H' mp mn mc g→Row H' sp sn sc cv→(∀y,fpS mp y→H y=none)→(∀y,fpS sp y→H y=none)→(∀y,fpS sp y→¬fpS mp y)→BlA M n e g mn cv sn→K mp mn mc sp sn sc 0 H') :
    Q11.l2 b1 none 0 0 none 0 0 s6 r8 (M:Int) 0 E H K:=by
  have hM1:=hr.N1
  have hN:=hr.nds
  refine Q11.l2_rule (fun g1 mp mn mc sp sn sc s6' r8' t46 t47 H'=>g1=b1∧sp=none∧sn=0∧sc=0∧s6'=s6∧r8'=r8∧t46=(M:Int)∧∃(v:Nat) (f:Nat→Bool) (ba:Nat→Nat→Nat) (vi:Nat→Nat→Int) (ee:Nat→Nat→Bool) (rh:Nat→Nat→Nat),t47=v∧v≤M∧mn=(pk (LoP e mb) v).length∧S2 H H' Y M n e mb rb f mp (pk (LoP e mb) v).length mc (fun i=>mb ((pk (LoP e mb) v).getD i 0))∧R2 M n e mb f v ba vi ee rh)
    (fun g1 mp mn mc sp sn sc s6' r8' t46 t47 H'=>M-t47.toNat) ?_ ⟨rfl,rfl,rfl,rfl,rfl,rfl,rfl,0,_,fun _ v=>v,fun _ _=>0,fun _ _=>false,fun _ _=>0,rfl,Nat.zero_le _,rfl,hS,⟨fun r hr=>by omega,fun u hu=>⟨fun h=>(by cases h),fun ⟨r,hr,_⟩=>by omega⟩⟩⟩
  rintro g1 mp mn mc sp sn sc s6' r8' t46 t47 H1 ⟨rfl,rfl,rfl,rfl,rfl,rfl,rfl,v,f,ba,vi,ee,rh,rfl,hv,rfl,hS1,hR⟩ X hX
  have h81:=hS1.st.keep _ _ h8 fun hh=>hh.elim n8.1 n8.2
  have h61:=hS1.st.keep _ _ h6 fun hh=>hh.elim n6.1 n6.2
  have h11:=hS1.st.keep _ _ h1 fun hh=>hh.elim n1.1 n1.2
  have hpl:(pk (LoP e mb) v).length≤v:=by rw [pk_len]; exact cnt_le _ _
  refine Q11.b2_eq ?_
  unfold Q11.b2_t
  refine bc (fun hlt=>?_) fun hge=>?_
  · have hvM:v<M:=by omega
    have pair:∀{H2:Hp} {f':Nat→Bool} {ba':Nat→Nat→Nat} {vi':Nat→Nat→Int} {ee':Nat→Nat→Bool} {rh':Nat→Nat→Nat},S2 H H2 Y M n e mb rb f' mp (pk (LoP e mb) v).length mc (fun i=>mb ((pk (LoP e mb) v).getD i 0))→R2 M n e mb f' (v+1) ba' vi' ee' rh'→Q11.j4 g1 mp (pk (LoP e mb) v).length mc none 0 0 s6' r8' (v:Int) (M:Int) (v:Int) X E H2 K:=by
      intro H2 f' ba' vi' ee' rh' hS2 hR2
      have h62:=hS2.st.keep _ _ h6 fun hh=>hh.elim n6.1 n6.2
      obtain ⟨a,b,c,d,hB2⟩:=hS2.c
      have next:∀{H3:Hp} {mp':OA} {mc':Nat},S2 H H3 Y M n e mb rb f' mp' (pk (LoP e mb) (v+1)).length mc' (fun i=>mb ((pk (LoP e mb) (v+1)).getD i 0))→Q11.j5 g1 mp' (pk (LoP e mb) (v+1)).length mc' none 0 0 s6' r8' (M:Int) (v:Int) X E H3 K:=by
        intro H3 mp' mc' hS3
        refine Q11.j5_eq ?_
        unfold Q11.j5_t
        rw [i64w (by omega) (by omega)]
        exact hX _ _ _ _ _ _ _ _ _ _ _ _ ⟨rfl,rfl,rfl,rfl,rfl,rfl,rfl,v+1,f',ba',vi',ee',rh',by omega,by omega,rfl,hS3,hR2⟩ (by omega)
      have skip:LoP e mb v=false→Q11.j5 g1 mp (pk (LoP e mb) v).length mc none 0 0 s6' r8' (M:Int) (v:Int) X E H2 K:=fun hf=>by
        have e1:pk (LoP e mb) (v+1)=pk (LoP e mb) v:=by rw [pk_succ,if_neg (by rw [hf]; decide)]
        have:=next (mp':=mp) (mc':=mc) (by rw [e1]; exact hS2)
        rwa [e1] at this
      refine Q11.j4_eq ?_
      unfold Q11.j4_t
      simp only [get_at h62,gZ,ldP_mk,nn_mk,Nat.zero_add,get_at hB2.cell,gS,ldS_mk]
      refine hB2.rb.ixI (by omega) (by omega) ?_
      rw [tN]
      refine bc (fun hpos=>?_) fun hneg=>skip (decide_eq_false fun hh=>hneg hh.1)
      obtain ⟨j,ej,hj,em,_,hbm,hmm⟩:=hMM.en hvM (by omega) hpos
      try simp only [get_at h62,gZ,ldP_mk,nn_mk,Nat.zero_add,get_at hB2.cell,gS,ldS_mk]
      refine blmate hB2 hr hj ej ?_
      refine bc (fun hlow=>?_) fun hlow=>skip (decide_eq_false fun hh=>hlow (by have:=hh.2; omega))
      simp only [get_at h62,gZ,ldP_mk,nn_mk,Nat.zero_add,get_at hB2.cell,gS,ldS_mk]
      refine hB2.rb.ixI (by omega) (by omega) ?_
      rw [tN]
      have hlo:LoP e mb v=true:=decide_eq_true ⟨hpos,by omega⟩
      have e1:pk (LoP e mb) (v+1)=pk (LoP e mb) v++[v]:=by rw [pk_succ,if_pos hlo]
      have hl1:(pk (LoP e mb) v).length+1=(pk (LoP e mb) (v+1)).length:=by rw [e1]; simp
      refine hS2.rm.appI _ (by omega) fun p3 c3 H3 r3 s3 f3=>?_
      rw [hl1] at r3 ⊢
      refine next (hS2.mat s3 (r3.congr fun i hi=>?_) f3)
      rw [e1]
      by_cases ei:i=(pk (LoP e mb) v).length
      · subst ei; rw [upf_same]; simp
      · rw [upf_ne ei]
        have:i<(pk (LoP e mb) v).length:=by omega
        simp [List.getElem?_append_left this]
    obtain ⟨a,b,c,d,hB1⟩:=hS1.c
    simp only [get_at h61,gZ,ldP_mk,nn_mk,Nat.zero_add,get_at hB1.cell,gS,ldS_mk]
    refine hB1.rb.ixI (by omega) (by omega) ?_
    rw [tN]
    refine bc (fun hneg=>?_) fun hpos=>?_
    · have hm1:mb v=-1:=hMM.neg hvM (by omega) hneg
      try simp only [get_at h61,gZ,ldP_mk]
      refine blgrow hB1 hr hMM hvM hm1 (fun H2 xb xv xe base via ev ρ qp qc Q hB2 hC=>?_) fun H2 xb xv xe base via ev ρ qp qc Q v' i w hB2 hT hv' hev hi hw hew hvw hbw=>((hcert v hvM hm1).none hN hMM hT hv' hev hi hw hew hbw).elim
      have hS2:=hS1.look hB2.c
      have h62:=hS2.st.keep _ _ h6 fun hh=>hh.elim n6.1 n6.2
      have h82:=hS2.st.keep _ _ h8 fun hh=>hh.elim n8.1 n8.2
      have cell2:=hB2.c.cell
      simp only at cell2
      simp only [get_at h62,gZ,ldP_mk,nn_mk,Nat.zero_add,get_at cell2,gS,ldS_mk]
      have hxr:xe≠rb:=fun hh=>by
        have h1:=hB2.fe
        simp only at h1
        rw [hh,gh_out hS1.ro] at h1
        exact hS1.rr.live ⟨0,rfl⟩ h1
      have re2:Row H2 (some ⟨xe,0,none⟩) M M ev:=hB2.rev
      refine Q11.l3_rule (fun g1' mp' mn' mc' sp sn sc s6'' r8'' v9 t46 t47 tp tn tc t65 t66 H'=>g1'=g1∧mp'=mp∧mn'=(pk (LoP e mb) v).length∧mc'=mc∧sp=none∧sn=0∧sc=0∧s6''=s6'∧r8''=r8'∧v9=(v:Int)∧t46=(M:Int)∧t47=(v:Int)∧tp=some ⟨xe,0,none⟩∧tn=M∧t65=(M:Int)∧
          ∃(i:Nat) (f1:Nat→Bool),t66=i∧i≤M∧S2 H H' Y M n e mb rb f1 mp (pk (LoP e mb) v).length mc (fun i=>mb ((pk (LoP e mb) v).getD i 0))∧Row H' (some ⟨xe,0,none⟩) M M ev∧∀u,u<M→f1 u=(f u || (decide (u<i) && ev u)))
        (fun g1' mp' mn' mc' sp sn sc s6'' r8'' v9 t46 t47 tp tn tc t65 t66 H'=>M-t66.toNat) ?_ ⟨rfl,rfl,rfl,rfl,rfl,rfl,rfl,rfl,rfl,rfl,rfl,rfl,rfl,rfl,rfl,0,f,rfl,Nat.zero_le _,hS2,re2,fun u hu=>by simp⟩
      rintro g1' mp' mn' mc' sp sn sc s6'' r8'' v9 t46 t47 tp tn tc t65 t66 H3 ⟨rfl,rfl,rfl,rfl,rfl,rfl,rfl,rfl,rfl,rfl,rfl,rfl,rfl,e14,rfl,i,f1,rfl,hi,hS3,re3,hf1⟩ X3 hX3
      have h83:=hS3.st.keep _ _ h8 fun hh=>hh.elim n8.1 n8.2
      refine Q11.b3_eq ?_
      unfold Q11.b3_t
      rw [e14] at *
      refine bc (fun hlt3=>?_) fun hge3=>?_
      · have hiM:i<M:=by omega
        refine re3.ixB (by omega) (by omega) ?_
        rw [tN]
        simp only [get_at h83,gZ,ldS_mk]
        refine hS3.rr.ixB (by omega) (by omega) ?_
        rw [tN]
        have fin:∀(x:Bool) (H4:Hp),x=(f i || ev i)→Row H4 (some ⟨rb,0,none⟩) M M (upf f1 i x)→Step (fpS (some ⟨rb,0,none⟩)) H3 H4→Q11.j3 g1' mp' (pk (LoP e mb) v).length mc' none 0 0 s6'' r8'' (v:Int) (M:Int) (v:Int) (some ⟨xe,0,none⟩) M tc (M:Int) (i:Int) X X3 E H4 K:=fun x H4 hx r4 s4=>by
          refine Q11.j3_eq ?_
          unfold Q11.j3_t
          rw [i64w (by omega) (by omega)]
          refine hX3 _ _ _ _ _ _ _ _ _ _ _ _ _ _ _ _ _ _ ⟨rfl,rfl,rfl,rfl,rfl,rfl,rfl,rfl,rfl,rfl,rfl,rfl,rfl,rfl,rfl,i+1,_,by omega,by omega,hS3.row s4 r4,re3.keep s4 fun y hy hh=>by rw [fpS_mk] at hy hh; exact hxr (hy.symm.trans hh),fun u hu=>?_⟩ (by omega)
          by_cases eu:u=i
          · rw [eu,upf_same,hx]; simp
          · rw [upf_ne eu,hf1 u hu]
            have:decide (u<i)=decide (u<i+1):=by rw [decide_eq_decide]; omega
            rw [this]
        have hfi:f1 i=f i:=by rw [hf1 i hiM]; simp
        refine bcb (fun hh=>?_) fun hh=>?_
        · refine hS3.rr.stB (by omega) (by omega) _ fun H4 r4 s4=>?_
          rw [tN] at r4
          exact fin true H4 (by rw [←hfi,hh]; rfl) r4 s4
        · refine hS3.rr.stB (by omega) (by omega) _ fun H4 r4 s4=>?_
          rw [tN] at r4
          exact fin (ev i) H4 (by rw [←hfi,hh]; rfl) r4 s4
      · clear hX3
        have hiM:i=M:=by omega
        refine pair (ba':=upf ba v base) (vi':=upf vi v via) (ee':=upf ee v ev) (rh':=upf rh v ρ) hS3 ⟨fun r hr hrb=>?_,fun u hu=>?_⟩
        · by_cases e':r=v
          · subst e'; simp only [upf_same]; exact hC
          · simp only [upf_ne e']; exact hR.clo r (by omega) hrb
        · rw [hf1 u hu,Bool.or_eq_true,hR.rf u hu]
          constructor
          · rintro (⟨r,h1,h2,h3⟩ | h3)
            · exact ⟨r,by omega,h2,by rw [upf_ne (by omega)]; exact h3⟩
            · exact ⟨v,by omega,hm1,by rw [upf_same]; simpa [hu,hiM] using h3⟩
          · rintro ⟨r,h1,h2,h3⟩
            by_cases e':r=v
            · subst e'; rw [upf_same] at h3
              right; simp [hiM,hu,h3]
            · rw [upf_ne e'] at h3; exact .inl ⟨r,by omega,h2,h3⟩
    · refine pair hS1 ⟨fun r hr hrb=>hR.clo r (by
        have:r≠v:=fun e'=>by rw [e'] at hrb; omega
        omega) hrb,fun u hu=>?_⟩
      rw [hR.rf u hu]
      constructor
      · rintro ⟨r,h1,h2,h3⟩; exact ⟨r,by omega,h2,h3⟩
      · rintro ⟨r,h1,h2,h3⟩
        have:r≠v:=fun e'=>by rw [e'] at h2; omega
        exact ⟨r,by omega,h2,h3⟩
  · clear hX
    have hvM:v=M:=by omega
    subst hvM
    refine Q11.j6_eq ?_
    unfold Q11.j6_t
    have hmap:(List.range (pk (LoP e mb) v).length).map (fun i=>mb ((pk (LoP e mb) v).getD i 0))=(pk (LoP e mb) v).map mb:=by
      refine List.ext_getElem (by simp) fun i a b=>?_
      have h3:i<(pk (LoP e mb) v).length:=by simpa using b
      simp [List.getElem?_eq_getElem h3]
    refine sortI hS1.rm (by omega) fun H2 g r2 s2 hs hp=>?_
    rw [hmap] at hp
    have hS2:=hS1.mat s2 r2 fun y hy=>.inl hy
    have h12:=hS2.st.keep _ _ h1 fun hh=>hh.elim n1.1 n1.2
    simp only [get_at h12,gZ,ldI_mk]
    refine blset hr hS2 h8 h6 n8 n6 fun H3 sp sc s3 rm3 rs3 fs3=>?_
    have hfam:Fam v n (ef e) (et e) mb ba vi ee rh:=⟨hR.clo⟩
    have hans:=bl_answer hr hMM hfam (g:=g) (k:=(pk (LoP e mb) v).length) (SP:=SeP e n f) rfl hs hp fun u hu=>by
      simp only [SeP,Bool.and_eq_true,Bool.not_eq_true',List.any_eq_true]
      have hre:∀x,x<v→(f x=true↔ReP v mb ee x):=fun x hx=>hR.rf x hx
      constructor
      · rintro ⟨h1,i,h2,h3⟩
        have hi:=mem_incs.1 h2
        exact ⟨hu,fun hh=>(by rw [(hre u hu).2 hh] at h1; cases h1),i,hi,(hre _ (hi.ot.nd hN)).1 h3⟩
      · rintro ⟨_,h1,i,hi,h2⟩
        exact ⟨Bool.eq_false_iff.2 fun hh=>h1 ((hre u hu).1 hh),i,mem_incs.2 hi,(hre _ (hi.ot.nd hN)).2 h2⟩
    exact kk H3 mp _ mc g sp _ sc _ s3 rm3 rs3 (fun y hy=>(hS2.fm y hy).1) (fun y hy=>hS2.st.mono y (fs3 y hy)) (fun y hy hm=>hS2.rm.live hm (fs3 y hy)) hans
theorem blsolve {ep:OA} {ec:Nat} {K:OA→Nat→Nat→OA→Nat→Nat→Int→Hp→Prop} (he:Rdr H ep n e) (hr:Right (M:Int) n e)
    (kk:∀H' mp mn mc g sp sn sc cv,Step (fun _=>False) H H'→Row H' mp mn mc g→Row H' sp sn sc cv→(∀y,fpS mp y→H y=none)→(∀y,fpS sp y→H y=none)→(∀y,fpS sp y→¬fpS mp y)→BlA M n e g mn cv sn→K mp mn mc sp sn sc 0 H') :
    Q11.call (M:Int) ep n ec E H K:=by
  have hM1:=hr.N1
  have hn1:=hr.n1
  have hN:=hr.nds
  refine Q11.of (Q11.run_eq ?_)
  unfold Q11.run_t
  refine nwk fun b1 H1 hb1 e1 s1=>?_
  simp only [get_at e1,gZ,gS,ldI_mk,ldS_mk]
  refine gcheck (he.keep s1 fun _ _ _ h=>h) (by omega) fun H2 a s2=>?_
  have e12:=s2.keep _ _ e1 fun h=>h
  have s02:=s1.and s2
  rw [chk_zero.2 hr]
  refine nwst rfl rfl fun b2 H4 hb2 e2 s4=>?_
  have e14:=s4.keep _ _ e12 fun h=>h
  have s04:=s02.and s4
  simp only [get_at e2,get_at e14,gZ,gS,ldI_mk,ldS_mk]
  refine bcn (fun h=>(h trivial).elim) fun _=>?_
  try simp only [get_at e2,get_at e14,gZ,gS,ldI_mk,ldS_mk]
  have he4:=he.keep s04 fun _ _ _ h=>h
  refine blnew he4 hr fun H5 Y hB5=>?_
  have s05:=s04.and hB5.st
  refine nwst rfl rfl fun b3 H7 hb3 e3 s7=>?_
  have hB7:=(hB5.rebase).other s7 fun y hy=>hy.elim
  have s07:=s05.and s7
  have e17:=s7.keep _ _ (hB5.st.keep _ _ e14 fun h=>h) fun h=>h
  have ownN:∀y,Own Y M y→H y=none:=fun y hy=>s04.mono y (hB5.new hy)
  have no1:¬Own Y M b1:=fun hh=>by have:=hB5.new hh; rw [e14] at this; cases this
  have no3:¬Own Y M b3:=fun hh=>hB5.live hh hb3
  simp only [get_at e17,gZ,gS,ldI_mk,ldS_mk]
  refine Q11.l1_rule (fun g1 mp mn mc sp sn sc s6 t24 t25 H'=>g1=b1∧mp=none∧mn=0∧mc=0∧sp=none∧sn=0∧sc=0∧s6=b3∧t24=(M:Int)∧∃(v:Nat) (mb:Nat→Int) (a b c d:Value),t25=v∧v≤M∧BsC (gh H' Y M) H' Y M n e (incs (ef e) (et e) n) mb a b c d∧MM M n (ef e) (et e) M mb∧(∀u,u<v→mb u=-1→Cert M n (ef e) (et e) mb u)∧Step (Own Y M) H7 H')
    (fun g1 mp mn mc sp sn sc s6 t24 t25 H'=>M-t25.toNat) ?_ ⟨rfl,rfl,rfl,rfl,rfl,rfl,rfl,rfl,rfl,0,_,_,_,_,_,rfl,Nat.zero_le _,hB7,MM.none,fun u hu=>by omega,.refl⟩
  rintro g1 mp mn mc sp sn sc s6 t24 t25 H8 ⟨rfl,rfl,rfl,rfl,rfl,rfl,rfl,rfl,rfl,v,mb,a1,a2,a3,a4,rfl,hv,hB8,hMM,hcert,s8⟩ X hX
  have e38:=s8.keep _ _ e3 no3
  have e18:=s8.keep _ _ e17 no1
  refine Q11.b1_eq ?_
  unfold Q11.b1_t
  refine bc (fun hlt=>?_) fun hge=>?_
  · have hvM:v<M:=by omega
    have next:∀{H9:Hp} {mb':Nat→Int} {c1 c2 c3 c4:Value},BsC (gh H9 Y M) H9 Y M n e (incs (ef e) (et e) n) mb' c1 c2 c3 c4→MM M n (ef e) (et e) M mb'→(∀u,u<v+1→mb' u=-1→Cert M n (ef e) (et e) mb' u)→Step (Own Y M) H8 H9→Q11.j1 g1 none 0 0 none 0 0 s6 (M:Int) (v:Int) X E H9 K:=by
      intro H9 mb' c1 c2 c3 c4 hB9 hMM9 hc9 s9
      refine Q11.j1_eq ?_
      unfold Q11.j1_t
      rw [i64w (by omega) (by omega)]
      exact hX _ _ _ _ _ _ _ _ _ _ _ ⟨rfl,rfl,rfl,rfl,rfl,rfl,rfl,rfl,rfl,v+1,mb',c1,c2,c3,c4,by omega,by omega,hB9,hMM9,hc9,s8.trans s9 fun _ h=>.inl h⟩ (by omega)
    simp only [get_at e38,gZ,ldP_mk,nn_mk,Nat.zero_add,get_at hB8.cell,gS,ldS_mk]
    refine hB8.rb.ixI (by omega) (by omega) ?_
    rw [tN]
    refine bc (fun hneg=>?_) fun hpos=>?_
    · have hm1:mb v=-1:=hMM.neg hvM (by omega) hneg
      try simp only [get_at e38,gZ,ldP_mk]
      refine blgrow hB8 hr hMM hvM hm1 (fun H9 xb xv xe base via ev ρ qp qc Q hB9 hC=>?_) fun H9 xb xv xe base via ev ρ qp qc Q v' i w hB9 hT hv' hev hi hw hew hvw hbw=>?_
      · have k9:=hB9.c.coe
        have s9:=k9.step
        have e39:=s9.keep _ _ e38 no3
        simp only [get_at e39,gZ,ldP_mk]
        refine ⟨trivial,blturn0 ?_⟩
        refine next k9.rebase hMM (fun u hu hub=>?_) s9
        by_cases euv:u=v
        · rw [euv]; exact hC.cert hN hMM
        · exact hcert u (by omega) hub
      · have k9:=hB9.c.coe
        have s9:=k9.step
        have e39:=s9.keep _ _ e38 no3
        simp only [get_at e39,gZ,ldP_mk]
        obtain ⟨l,hl,hD,hll,hM',hkeep,hroot⟩:=hT.found hN hMM hv' hev hi hw hew hbw
        have eiw:En n (ef e) (et e) i w:=by rw [hw]; exact hi.ot
        have eo:v'=ot (ef e) (et e) i w:=by rw [hw,hi.oo]
        refine ⟨trivial,?_⟩
        refine blturn (Y:={ Y with xb:=xb,xv:=xv,xe:=xe }) hB9 hr hMM hl hD hll upf_same eiw eo fun H10 hB10=>?_
        have k10:=hB10.c.coe
        have s10:=k10.step
        refine next k10.rebase hM' (fun u hu hub=>?_) s10
        have hu':mb u=-1:=by
          refine Classical.byContradiction fun hn=>?_
          have h0:0≤mb u:=Classical.byContradiction fun h'=>hn (hMM.neg (by omega) (by omega) (by omega))
          have:=hkeep u (by omega) h0
          omega
        by_cases euv:u=v
        · rw [euv] at hub; omega
        · exact (hcert u (by omega) hu').mono hkeep
    · refine next hB8 hMM (fun u hu hub=>hcert u ?_ hub) .refl
      have:u≠v:=fun e'=>by rw [e'] at hub; omega
      omega
  · clear hX
    have hvM:v=M:=by omega
    subst hvM
    refine Q11.j2_eq ?_
    unfold Q11.j2_t
    simp only [get_at e18,gZ,ldI_mk]
    refine Row.mkB (by omega) (by omega) fun rb H9 hrb rr s9=>?_
    rw [tN] at rr ⊢
    refine nwst rfl rfl fun b5 H11 hb5 e5 s11=>?_
    have s811:=s9.and s11
    have hB11:=hB8.other s811 fun y hy=>hy.elim
    have e111:=s811.keep _ _ e18 fun h=>h
    have e311:=s811.keep _ _ e38 fun h=>h
    simp only [get_at e111,gZ,ldI_mk]
    have rr11:=rr.keep s11 fun _ _ h=>h
    have nrb:¬Own Y v rb:=fun hh=>hB8.live hh hrb
    have nb5:¬Own Y v b5:=fun hh=>(hB8.other s9 fun y hy=>hy.elim).live hh hb5
    have live8:∀{b:Nat} {x:Blk},H8 b=some x→b≠rb:=fun h h'=>by rw [h',hrb] at h; cases h
    have d5:b5≠rb:=fun h=>rr.live ⟨0,rfl⟩ (h▸hb5)
    have hep:0<n→∀y,fpS Y.ep y→H8 y≠none:=fun hn y hy=>hB8.ed.live hy hn
    refine blround2 (rb:=rb) (ep:=ep) (ec:=ec) hr hMM (fun u hu hub=>hcert u hu hub) ⟨⟨_,_,_,_,hB11⟩,rr11,Row.nil,fun y h=>by rw [fpS_none] at h; exact h.elim,.refl,nrb,fun hn hh=>hep hn rb hh hrb,fun hn y hy=>s811.live (hep hn y hy)⟩ e111 e5 e311 ⟨no1,live8 e18⟩ ⟨nb5,d5⟩ ⟨no3,live8 e38⟩ fun H12 mp mn mc g sp sn sc cv s12 r1 r2 f1 f2 f12 hA=>?_
    have s011:Step (fun _=>False) H H11:=((s07.own s8 ownN).and s811)
    exact kk H12 mp mn mc g sp sn sc cv (s011.own s12 fun y hy=>hy.elim (ownN y) fun e'=>e'▸(s07.own s8 ownN).mono _ hrb) r1 r2 (fun y hy=>s011.mono y (f1 y hy)) (fun y hy=>s011.mono y (f2 y hy)) f12 hA
theorem blrefuse {N:Int} {ep:OA} {ec:Nat} {K:OA→Nat→Nat→OA→Nat→Nat→Int→Hp→Prop} (he:Rdr H ep n e) (hn:n<2 ^ 63) (hz:chk N n e≠0)
    (kk:∀H',Step (fun _=>False) H H'→K none 0 0 none 0 0 (chk N n e) H'):Q11.call N ep n ec E H K:=by
  refine Q11.of (Q11.run_eq ?_)
  unfold Q11.run_t
  refine nwk fun b1 H1 hb1 e1 s1=>?_
  simp only [get_at e1,gZ,gS,ldI_mk,ldS_mk]
  refine gcheck (he.keep s1 fun _ _ _ h=>h) hn fun H2 a s2=>?_
  refine nwst rfl rfl fun b2 H4 hb2 e2 s4=>?_
  simp only [get_at e2,gZ,gS,ldI_mk,ldS_mk]
  refine bcn (fun _=>?_) fun h=>(hz h).elim
  try simp only [get_at e2,gZ,gS,ldI_mk,ldS_mk]
  exact kk H4 ((s1.and s2).and s4)
def BlF (N:Int) (n:Nat) (e:Nat→Edg) (mn:Nat) (g:Nat→Int) (cn:Nat) (cv:Nat→Int):Prop:=
  (chk N n e≠0∧mn=0∧cn=0)∨(chk N n e=0∧Right N n e∧BlA N.toNat n e g mn cv cn)
theorem sBlo {N:Int} {ep:OA} {ec:Nat} {K:OA→Nat→Nat→OA→Nat→Nat→Int→Hp→Prop} (he:Rdr H ep n e) (hn:n<2 ^ 63)
    (kk:∀H' mp mn mc g sp sn sc cv,Step (fun _=>False) H H'→Row H' mp mn mc g→Row H' sp sn sc cv→(∀y,fpS mp y→H y=none)→(∀y,fpS sp y→H y=none)→(∀y,fpS sp y→¬fpS mp y)→mn<2 ^ 62→sn<2 ^ 62→BlF N n e mn g sn cv→K mp mn mc sp sn sc (chk N n e) H') :
    Q11.call N ep n ec E H K:=by
  by_cases hz:chk N n e=0
  · have hr:=chk_zero.1 hz
    have hN0:=hr.N0; have hN1:=hr.N1; have hn1:=hr.n1
    obtain ⟨M,rfl⟩:∃M:Nat,N=M:=⟨N.toNat,by omega⟩
    refine blsolve he hr fun H' mp mn mc g sp sn sc cv s r1 r2 f1 f2 f12 hA=>?_
    have l1:=hA.lrg.tk.ris.len
    have l2:=hA.lrg.ris.len
    have:=kk H' mp mn mc g sp sn sc cv s r1 r2 f1 f2 f12 (by omega) (by omega) (.inr ⟨hz,hr,by rw [tN]; exact hA⟩)
    rwa [hz] at this
  · exact blrefuse he hn hz fun H' s=>kk H' none 0 0 (fun _=>0) none 0 0 (fun _=>0) s Row.nil Row.nil (fun y h=>by rw [fpS_none] at h; exact h.elim) (fun y h=>by rw [fpS_none] at h; exact h.elim) (fun y h=>by rw [fpS_none] at h; exact h.elim) (by decide) (by decide) (.inl ⟨hz,rfl,rfl⟩)
end
end Go.Mz
