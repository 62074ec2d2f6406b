/-
  Joined: RefF, RefP, RefC.
-/
import Derived.Test.YtndgjfbibkdokaaPkA09
import Derived.Test.YtndgjfbibkdokaaPkA01
import Derived.Test.YtndgjfbibkdokaaGRed
import Derived.Test.YtndgjfbibkdokaaPkM
import Derived.Test.YtndgjfbibkdokaaGRec
set_option linter.unusedVariables false
/-
  The document's functions of layer 12, walked, more: Weights, Worth, Pair, Cheapest.
-/
namespace Go.Mz
section
variable {E:VP}
theorem Rdr.slzS {H:Hp} {p:OA} {n:Nat} {f:Nat→Sl × Int} (h:Rdr H p n f) {i:Int} (h0:0≤i) (h1:i<(n:Int)) {G:OA→Nat→Nat→Prop}
    (k:G (f i.toNat).1.p (f i.toNat).1.n (f i.toNat).1.c):Mz.ix p n i 2 fun b o=>ldS (H.get b o) G:=by
  refine h.ix (α:=Sl × Int) h0 h1 fun b o _ hg=>?_
  have g0:=hg 0 (by decide)
  simp only [El.enc,Nat.add_zero] at g0
  simp at g0
  rw [g0]
  exact k
theorem Rdr.slzZ {H:Hp} {p:OA} {n:Nat} {f:Nat→Sl × Int} (h:Rdr H p n f) {i:Int} (h0:0≤i) (h1:i<(n:Int)) {G:Int→Prop}
    (k:G (f i.toNat).2):Mz.ix p n i 2 fun b o=>ldI .i64 (H.get b (o+1)) G:=by
  refine h.ix (α:=Sl × Int) h0 h1 fun b o _ hg=>?_
  have g1:=hg 1 (by decide)
  simp only [El.enc] at g1
  simp at g1
  rw [g1]
  exact k
theorem rweights {n:Int} {yp:OA} {yn yc:Nat} {sp:OA} {sn sc:Nat} {Y:Nat→Int} {z:Nat→Int} {sl:Nat→Sl} {nd:Nat→Nat→Int} {H:Hp} {K:Bool→Hp→Prop}
    (hdu:DualR H yp yn sp sn Y z sl nd) (hyn:yn<2 ^ 63) (hsn:sn<2 ^ 62)
    (kt:∀H',Step (fun _=>False) H H'→Wt n Y yn z (fun i=>(sl i).n) nd sn→K true H') (kf:∀H',Step (fun _=>False) H H'→¬Wt n Y yn z (fun i=>(sl i).n) nd sn→K false H') :
    Q22.call n yp yn yc sp sn sc E H K:=by
  refine Q22.of (Q22.run_eq ?_)
  unfold Q22.run_t
  refine nwk fun db H1 hb1 e1 s1=>?_
  simp only [get_at e1,gZ,gS,ldI_mk,ldS_mk]
  refine rpots (hdu.keep s1).y hyn (fun H2 s2 hp=>?_) fun H2 s2 hp=>bcb (fun _=>kf _ (s1.and s2) fun hh=>hp ⟨hh.ylen,hh.ybnd⟩) fun h=>by cases h
  refine bcb (fun h=>by cases h) fun _=>?_
  have s02:=s1.and s2
  have e12:=s2.keep _ _ e1 fun h=>h
  simp only [get_at e12,gZ,gS,ldI_mk,ldS_mk]
  refine bc (fun h=>kf _ s02 fun hh=>by have:=hh.slen; omega) fun hsl=>?_
  refine Q22.l1_rule (fun m d3 i5 H'=>n=m∧db=d3∧Step (fun _=>False) H2 H'∧∃i:Nat,i5=i∧i≤sn∧∀a,a<i→(3≤(sl a).n∧(sl a).n%2=1)∧(0≤z a∧z a≤4398046511104)∧Ris (nd a) (sl a).n n)
    (fun m d3 i5 H'=>sn-i5.toNat) ?_ ⟨rfl,rfl,.refl,0,rfl,by omega,fun a ha=>by omega⟩
  rintro m d3 i5 H3 ⟨rfl,rfl,s3,i,rfl,hi,hs⟩ X hX
  have s03:=s02.and s3
  have e13:=s3.keep _ _ e12 fun h=>h
  have hd3:=hdu.keep s03
  refine Q22.b1_eq ?_
  unfold Q22.b1_t
  simp only [get_at e13,gZ,gS,ldI_mk,ldS_mk]
  refine bc (fun hlt=>?_) fun hge=>?_
  · refine hd3.s.slz (by omega) (by omega) ?_
    simp only [tN]
    refine nwst rfl rfl fun b4 H4 hb4 e4 s4=>?_
    have s04:=s03.and s4
    obtain ⟨hnr,hnl⟩:=hd3.nd i (by omega)
    simp only [get_at e4,gZ,gS,ldI_mk,ldS_mk]
    refine bc (fun h=>kf _ s04 fun hh=>by have:=(hh.sets i (by omega)).1.1; omega) fun g1=>?_
    try simp only [get_at e4,gZ,gS,ldI_mk,ldS_mk]
    refine ⟨by decide,?_⟩
    have hmd:Int.tmod (((sl i).n:Nat):Int) 2=(((sl i).n%2:Nat):Int):=by
      rw [Int.tmod_eq_emod_of_nonneg (by omega)]; omega
    rw [hmd]
    refine bc (fun h=>kf _ s04 fun hh=>by have:=(hh.sets i (by omega)).1.2; omega) fun g2=>?_
    try simp only [get_at e4,gZ,gS,ldI_mk,ldS_mk]
    refine rrising (hnr.keep s4 fun _ _ _ h=>h) hnl (fun hris=>?_) fun h=>bcb (fun _=>kf _ s04 fun hh=>h (hh.sets i (by omega)).2.2) fun h=>by cases h
    refine bcb (fun h=>by cases h) fun _=>?_
    try simp only [get_at e4,gZ,gS,ldI_mk,ldS_mk]
    refine bc (fun h=>kf _ s04 fun hh=>by have:=(hh.sets i (by omega)).2.1.1; omega) fun g3=>?_
    try simp only [get_at e4,gZ,gS,ldI_mk,ldS_mk]
    refine bc (fun h=>kf _ s04 fun hh=>by have:=(hh.sets i (by omega)).2.1.2; omega) fun g4=>?_
    rw [i64w (by omega) (by omega)]
    refine hX _ _ _ _ ⟨rfl,rfl,s3.and s4,i+1,by omega,by omega,fun a ha=>?_⟩ (by omega)
    by_cases ea:a=i
    · subst ea; exact ⟨⟨by omega,by omega⟩,⟨by omega,by omega⟩,hris⟩
    · exact hs a (by omega)
  · have:i=sn:=by omega
    subst this
    exact kt _ s03 ⟨hp.1,by omega,hp.2,hs⟩
theorem Wt.zb {n:Int} {Y:Nat→Int} {yn:Nat} {z:Nat→Int} {ln:Nat→Nat} {nd:Nat→Nat→Int} {sn:Nat} (h:Wt n Y yn z ln nd sn) (hn:n≤1024) {a:Nat} (ha:a<sn) :
    0≤z a*((ln a / 2:Nat):Int)∧z a*((ln a / 2:Nat):Int)≤4398046511104*512:=by
  obtain ⟨h1,h2,h3⟩:=h.sets a ha
  have hl:=h3.len
  exact ⟨Int.mul_nonneg h2.1 (by omega),Int.mul_le_mul h2.2 (by omega) (by omega) (by omega)⟩
theorem Wt.zt {n:Int} {Y:Nat→Int} {yn:Nat} {z:Nat→Int} {ln:Nat→Nat} {nd:Nat→Nat→Int} {sn:Nat} (h:Wt n Y yn z ln nd sn) (hn:n≤1024) {a:Nat} (ha:a<sn) {t:Nat} (ht:t≤ln a / 2) :
    0≤z a*(t:Int)∧z a*(t:Int)≤4398046511104*512:=by
  obtain ⟨h1,h2,h3⟩:=h.sets a ha
  have hl:=h3.len
  exact ⟨Int.mul_nonneg h2.1 (by omega),Int.mul_le_mul h2.2 (by omega) (by omega) (by omega)⟩
theorem rworth {n:Int} {yp:OA} {yn yc:Nat} {sp:OA} {sn sc:Nat} {Y:Nat→Int} {z:Nat→Int} {sl:Nat→Sl} {nd:Nat→Nat→Int} {H:Hp} {K:Int→Hp→Prop}
    (hdu:DualR H yp yn sp sn Y z sl nd) (hw:Wt n Y yn z (fun i=>(sl i).n) nd sn) (hn:n≤1024)
    (kk:∀H',Step (fun _=>False) H H'→K (wsum Y yn z (fun i=>(sl i).n) sn) H'):Q24.call yp yn yc sp sn sc E H K:=by
  have hyl:=hw.ylen
  have hsl:=hw.slen
  refine Q24.of (Q24.run_eq ?_)
  unfold Q24.run_t
  refine nwk fun db H1 hb1 e1 s1=>?_
  have hd1:=hdu.keep s1
  refine Q24.l1_rule (fun d x i4 H'=>db=d∧H1=H'∧∃i:Nat,i4=i∧i≤yn∧x=psum Y i) (fun d x i4 H'=>yn-i4.toNat) ?_ ⟨rfl,rfl,0,rfl,by omega,rfl⟩
  rintro d x i4 H' ⟨rfl,rfl,i,rfl,hi,rfl⟩ X hX
  refine Q24.b1_eq ?_
  unfold Q24.b1_t
  simp only [get_at e1,gZ,gS,ldI_mk,ldS_mk]
  have hp:=psum_bound (f:=Y) (a:=-4398046511104) (b:=4398046511104) (i:=i) fun v hv=>hw.ybnd v (by omega)
  refine bc (fun hlt=>?_) fun hge=>?_
  · have hy:=hw.ybnd i (by omega)
    refine hd1.y.ixI (by omega) (by omega) ?_
    simp only [tN]
    rw [i64w (n:=psum Y i+Y i) (by omega) (by omega),i64w (by omega) (by omega)]
    exact hX _ _ _ _ ⟨rfl,rfl,i+1,by omega,by omega,rfl⟩ (by omega)
  have:i=yn:=by omega
  subst this
  clear hX
  refine Q24.j1_eq ?_
  unfold Q24.j1_t
  refine Q24.l2_rule (fun d x i5 H'=>db=d∧H1=H'∧∃j:Nat,i5=j∧j≤sn∧x=psum Y i-psum (fun a=>z a*(((sl a).n / 2:Nat):Int)) j) (fun d x i5 H'=>sn-i5.toNat) ?_ ⟨rfl,rfl,0,rfl,by omega,by simp [psum]⟩
  rintro d x i5 H' ⟨rfl,rfl,j,rfl,hj,rfl⟩ X hX
  refine Q24.b2_eq ?_
  unfold Q24.b2_t
  simp only [get_at e1,gZ,gS,ldI_mk,ldS_mk]
  have hpw:=psum_bound (f:=fun a=>z a*(((sl a).n / 2:Nat):Int)) (a:=0) (b:=4398046511104*512) (i:=j) fun a ha=>hw.zb hn (by omega)
  refine bc (fun hlt=>?_) fun hge=>?_
  · refine Q24.l3_rule (fun d x i5 k6 H'=>db=d∧i5=j∧H1=H'∧∃t:Nat,k6=2+2*(t:Int)∧t≤(sl j).n / 2∧x=psum Y i-psum (fun a=>z a*(((sl a).n / 2:Nat):Int)) j-z j*(t:Int))
      (fun d x i5 k6 H'=>((sl j).n+2-k6).toNat) ?_ ⟨rfl,rfl,rfl,0,rfl,by omega,by simp⟩
    rintro d x i5 k6 H' ⟨rfl,rfl,rfl,t,rfl,ht,rfl⟩ X' hX'
    have hzt:=hw.zt hn (a:=j) (by omega) ht
    obtain ⟨hnr,hnl⟩:=hd1.nd j (by omega)
    have hodd:=(hw.sets j (by omega)).1.2
    have hz:=(hw.sets j (by omega)).2.1
    have hln:=(hw.sets j (by omega)).2.2.len
    try simp only at hodd hln
    refine Q24.b3_eq ?_
    unfold Q24.b3_t
    simp only [get_at e1,gZ,gS,ldI_mk,ldS_mk]
    refine hd1.s.slzS (by omega) (by omega) ?_
    simp only [tN]
    refine bc (fun hlt2=>?_) fun hge2=>?_
    · refine hd1.s.slzZ (by omega) (by omega) ?_
      simp only [tN]
      rw [i64w (n:=_-z j) (by omega) (by omega),i64w (by omega) (by omega)]
      refine hX' _ _ _ _ _ ⟨rfl,rfl,rfl,t+1,by omega,by omega,?_⟩ (by omega)
      rw [Int.natCast_add,Int.mul_add]
      omega
    · have et:t=(sl j).n / 2:=by omega
      subst et
      clear hX'
      refine Q24.j2_eq ?_
      unfold Q24.j2_t
      rw [i64w (by omega) (by omega)]
      refine hX _ _ _ _ ⟨rfl,rfl,j+1,by omega,by omega,?_⟩ (by omega)
      simp only [psum]
      omega
  · have:j=sn:=by omega
    subst this
    exact kk _ s1
open Classical in
theorem rpair {n:Int} {yp:OA} {yn yc:Nat} {sp:OA} {sn sc:Nat} {Y:Nat→Int} {z:Nat→Int} {sl:Nat→Sl} {nd:Nat→Nat→Int} {u v:Int} {H:Hp} {K:Int→Hp→Prop}
    (hdu:DualR H yp yn sp sn Y z sl nd) (hw:Wt n Y yn z (fun i=>(sl i).n) nd sn) (hn:n≤1024) (u0:0≤u) (u1:u<n) (v0:0≤v) (v1:v<n)
    (kk:∀H',Step (fun _=>False) H H'→K (prW Y z (fun i=>(sl i).n) nd sn u v) H'):Q23.call yp yn yc sp sn sc u v E H K:=by
  have hyl:=hw.ylen
  have hsl:=hw.slen
  refine Q23.of (Q23.run_eq ?_)
  unfold Q23.run_t
  refine nwk fun db H1 hb1 e1 s1=>?_
  have hd1:=hdu.keep s1
  simp only [get_at e1,gZ,gS,ldI_mk,ldS_mk]
  refine hd1.y.ixI (by omega) (by omega) ?_
  try simp only [get_at e1,gZ,gS,ldI_mk,ldS_mk]
  refine hd1.y.ixI (by omega) (by omega) ?_
  have b1:=hw.ybnd u.toNat (by omega)
  have b2:=hw.ybnd v.toNat (by omega)
  rw [i64w (by omega) (by omega)]
  refine Q23.l1_rule (fun u' v' d x i8 H'=>u=u'∧v=v'∧db=d∧H1=H'∧∃i:Nat,i8=i∧i≤sn∧x=Y u.toNat+Y v.toNat-psum (fun i=>if In (nd i) (sl i).n u∧In (nd i) (sl i).n v then z i else 0) i)
    (fun u' v' d x i8 H'=>sn-i8.toNat) ?_ ⟨rfl,rfl,rfl,rfl,0,rfl,by omega,by simp [psum]⟩
  rintro u' v' d x i8 H' ⟨rfl,rfl,rfl,rfl,i,rfl,hi,rfl⟩ X hX
  have hpb:=psum_bound (f:=fun i=>if In (nd i) (sl i).n u∧In (nd i) (sl i).n v then z i else 0) (a:=0) (b:=4398046511104) (i:=i) fun j hj=>by
    have:=(hw.sets j (by omega)).2.1
    split<;>omega
  refine Q23.b1_eq ?_
  unfold Q23.b1_t
  simp only [get_at e1,gZ,gS,ldI_mk,ldS_mk]
  refine bc (fun hlt=>?_) fun hge=>?_
  · have hz:=(hw.sets i (by omega)).2.1
    obtain ⟨hnr,hnl⟩:=hd1.nd i (by omega)
    have next:∀x,x=(if In (nd i) (sl i).n u∧In (nd i) (sl i).n v then z i else 0)→Q23.j1 u v db (Y u.toNat+Y v.toNat-psum (fun i=>if In (nd i) (sl i).n u∧In (nd i) (sl i).n v then z i else 0) i-x) (i:Int) X E H1 K:=fun x hx=>by
      refine Q23.j1_eq ?_
      unfold Q23.j1_t
      rw [i64w (by omega) (by omega)]
      refine hX _ _ _ _ _ _ ⟨rfl,rfl,rfl,rfl,i+1,by omega,by omega,?_⟩ (by omega)
      rw [hx]
      simp only [psum]
      omega
    refine hd1.s.slzS (by omega) (by omega) ?_
    simp only [tN]
    refine rhas hnr hnl (fun hu=>?_) fun hu=>bcb (fun h=>by cases h) fun _=>?_
    · refine bcb (fun _=>?_) fun h=>by cases h
      simp only [get_at e1,gZ,gS,ldI_mk,ldS_mk]
      refine hd1.s.slzS (by omega) (by omega) ?_
      simp only [tN]
      refine rhas hnr hnl (fun hv=>?_) fun hv=>bcb (fun h=>by cases h) fun _=>?_
      · refine bcb (fun _=>?_) fun h=>by cases h
        simp only [get_at e1,gZ,gS,ldI_mk,ldS_mk]
        refine hd1.s.slzZ (by omega) (by omega) ?_
        simp only [tN]
        rw [i64w (n:=_-z i) (by omega) (by omega)]
        exact next (z i) (by rw [if_pos ⟨hu,hv⟩])
      · have:=next 0 (by rw [if_neg fun h=>hv h.2])
        rwa [Int.sub_zero] at this
    · have:=next 0 (by rw [if_neg fun h=>hu h.1])
      rwa [Int.sub_zero] at this
  · have:i=sn:=by omega
    subst this
    exact kk _ s1
theorem rcheapest {N:Int} {ep:OA} {n ec:Nat} {e:Nat→Edg} {p:OA} {k c:Nat} {m:Nat→Int} {yp:OA} {yn yc:Nat} {sp:OA} {sn sc:Nat} {Y:Nat→Int} {z:Nat→Int} {sl:Nat→Sl} {nd:Nat→Nat→Int} {H:Hp} {K:Int→Int→Hp→Prop}
    (he:Rdr H ep n e) (hm:Rdr H p k m) (hk:k<2 ^ 63) (hd:DualR H yp yn sp sn Y z sl nd) (hyn:yn<2 ^ 63) (hsn:sn<2 ^ 62)
    (kk:∀H' c,Step (fun _=>False) H H'→Out N n e (ChpP N n e m k Y yn z (fun i=>(sl i).n) nd sn) c→K (if c=0 then cst e m k else 0) c H'):Q9.call N ep n ec p k c yp yn yc sp sn sc E H K:=by
  refine Q9.of (Q9.run_eq ?_)
  unfold Q9.run_t
  refine nwk fun b1 H1 hb1 e1 s1=>?_
  refine nwk fun b2 H2 hb2 e2 s2=>?_
  have s02:=s1.and s2
  have e12:=s2.keep _ _ e1 fun h=>h
  simp only [get_at e12,gZ,gS,ldI_mk,ldS_mk]
  refine rmatching (he.keep s02 fun _ _ _ h=>h) (hm.keep s02 fun _ _ _ h=>h) hk fun H3 c1 s3 o1=>?_
  have s03:=s02.and s3
  have e13:=s3.keep _ _ e12 fun h=>h
  have e23:=s3.keep _ _ e2 fun h=>h
  have bad:c1≠0→K 0 c1 H3:=fun hc=>by
    have:=kk H3 c1 s03 (by
      rcases o1 with ⟨h,_⟩ | h | ⟨h1,h2,h3⟩
      · exact absurd h hc
      · exact .inr (.inl h)
      · exact .inr (.inr ⟨h1,h2,fun hh=>h3 hh.tk⟩))
    rwa [if_neg hc] at this
  refine bcn bad fun hc=>?_
  obtain ⟨hr,ht⟩:=o1.ok hc
  have hN0:=hr.N0; have hN1:=hr.N1; have hn1:=hr.n1
  have hkn:=ht.ris.len
  have no:∀H',Step (fun _=>False) H H'→¬ChpP N n e m k Y yn z (fun i=>(sl i).n) nd sn→K 0 221 H':=fun H' s h=>by
    have:=kk H' 221 s (.inr (.inr ⟨rfl,hr,h⟩))
    rwa [if_neg (by decide)] at this
  simp only [get_at e13,get_at e23,gZ,gS,ldI_mk,ldS_mk]
  rw [i64w (n:=(k:Int)+(k:Int)) (by omega) (by omega)]
  refine bcn (fun h=>no _ s03 fun hh=>h (by have:=hh.all; omega)) fun h2k=>?_
  try simp only [get_at e13,get_at e23,gZ,gS,ldI_mk,ldS_mk]
  refine rweights (hd.keep s03) hyn hsn (fun H4 s4 hw=>?_) fun H4 s4 hw=>bcb (fun _=>no _ (s03.and s4) fun hh=>hw hh.wt) fun h=>by cases h
  refine bcb (fun h=>by cases h) fun _=>?_
  have s04:=s03.and s4
  have e14:=s4.keep _ _ e13 fun h=>h
  have e24:=s4.keep _ _ e23 fun h=>h
  have hyl:=hw.ylen
  have hsl:=hw.slen
  refine Q9.l1_rule (fun tp tn tc g3 d5 i9 H'=>p=tp∧k=tn∧b1=g3∧b2=d5∧Step (fun _=>False) H4 H'∧∃i:Nat,i9=i∧i≤n∧∀a,a<i→lp (e a)∨prW Y z (fun i=>(sl i).n) nd sn (e a).fr (e a).to≤2*(e a).co)
    (fun tp tn tc g3 d5 i9 H'=>n-i9.toNat) ?_ ⟨rfl,rfl,rfl,rfl,.refl,0,rfl,by omega,fun a ha=>by omega⟩
  rintro tp tn tc g3 d5 i9 H5 ⟨rfl,rfl,rfl,rfl,s5,i,rfl,hi,hed⟩ X hX
  have s05:=s04.and s5
  have e15:=s5.keep _ _ e14 fun h=>h
  have e25:=s5.keep _ _ e24 fun h=>h
  refine Q9.b1_eq ?_
  unfold Q9.b1_t
  simp only [get_at e15,gZ,gS,ldI_mk,ldS_mk]
  refine bc (fun hlt=>?_) fun hge=>?_
  · have hx:=hr.ed i (by omega)
    have hf0:=hx.f0; have hf1:=hx.f1; have ht0:=hx.t0; have ht1:=hx.t1
    have ho0:=hx.k0; have ho1:=hx.k1
    refine (he.keep s05 fun _ _ _ h=>h).edge (by omega) (by omega) ?_
    simp only [tN]
    refine nwst rfl rfl fun b6 H6 hb6 e6 s6=>?_
    have s06:=s05.and s6
    have e26:=s6.keep _ _ e25 fun h=>h
    simp only [get_at e6,get_at e26,gZ,gS,ldI_mk,ldS_mk]
    have next:∀H',Step (fun _=>False) H4 H'→(lp (e i)∨prW Y z (fun i=>(sl i).n) nd sn (e i).fr (e i).to≤2*(e i).co)→Q9.j1 p k tc b1 b2 (i:Int) X E H' K:=fun H' s h=>by
      refine Q9.j1_eq ?_
      unfold Q9.j1_t
      rw [i64w (by omega) (by omega)]
      refine hX _ _ _ _ _ _ _ ⟨rfl,rfl,rfl,rfl,s,i+1,by omega,by omega,fun a ha=>?_⟩ (by omega)
      by_cases ea:a=i
      · subst ea; exact h
      · exact hed a (by omega)
    refine bcn (fun hl=>?_) fun hl=>next _ (s5.and s6) (.inl hl)
    try simp only [get_at e6,get_at e26,gZ,gS,ldI_mk,ldS_mk]
    refine rpair (hd.keep s06) hw hN1 hf0 hf1 ht0 ht1 fun H7 s7=>?_
    have e67:=s7.keep _ _ e6 fun h=>h
    simp only [get_at e67,gZ,gS,ldI_mk,ldS_mk,true_and]
    rw [i64w (by omega) (by omega)]
    refine bc (fun h=>no _ (s06.and s7) fun hh=>?_) fun h=>next _ ((s5.and s6).and s7) (.inr (by omega))
    rcases hh.ed i (by omega) with h' | h'
    · exact hl h'
    · omega
  · have:i=n:=by omega
    subst this
    clear hX
    refine Q9.j2_eq ?_
    unfold Q9.j2_t
    simp only [get_at e15,gZ,gS,ldI_mk,ldS_mk]
    refine rcost (he.keep s05 fun _ _ _ h=>h) hr (hm.keep s05 fun _ _ _ h=>h) ht.ris fun H6 s6=>?_
    have s06:=s05.and s6
    have e26:=s6.keep _ _ e25 fun h=>h
    simp only [get_at e26,gZ,gS,ldI_mk,ldS_mk]
    refine rworth (hd.keep s06) hw hN1 fun H7 s7=>?_
    have hcb:=cst_bound hr ht.ris
    rw [i64w (n:=cst e m k+cst e m k) (by omega) (by omega)]
    refine bcn (fun h=>no _ (s06.and s7) fun hh=>h (by have:=hh.sum; omega)) fun h=>?_
    have:=kk H7 0 (s06.and s7) (.inl ⟨rfl,hr,ht,by omega,hw,hed,by omega⟩)
    rwa [if_pos rfl] at this
end
end Go.Mz
/-
  The plain law of the document's parts: rounds over the edges make every node's label the least node that it hangs together with; parts are numbered in the order of these. No program in sight.
-/
namespace Go.Mz
theorem cnt_lt {p q:Nat→Bool} {n w:Nat} (h:∀i,i<n→p i=true→q i=true) (hw:w<n) (hp:p w=false) (hq:q w=true):cnt p n<cnt q n:=by
  induction n with
  | zero=>omega
  | succ n ih=>
    simp only [cnt]
    by_cases e:w=n
    · subst e
      have:=cnt_mono (n:=w) fun i hi=>h i (by omega)
      rw [hp,hq]; simp; omega
    · have:=ih (fun i hi=>h i (by omega)) (by omega)
      cases hp':p n with
      | false=>simp; omega
      | true=>rw [h n (by omega) hp']; simp; omega
def stepN (g:Nat→Nat) (u v:Nat):Nat→Nat:=if g u<g v then upf g v (g u) else upf g u (g v)
def roundN (g:Nat→Nat) (pr:Nat→Nat × Nat):Nat→Nat→Nat
  | 0=>g
  | i+1=>stepN (roundN g pr i) (pr i).1 (pr i).2
def roundsN (g:Nat→Nat) (pr:Nat→Nat × Nat) (k:Nat):Nat→Nat→Nat
  | 0=>g
  | r+1=>roundN (roundsN g pr k r) pr k
def Prs (pr:Nat→Nat × Nat) (k:Nat) (x y:Nat):Prop:=∃i,i<k∧x=(pr i).1∧y=(pr i).2
structure Lst (R:Nat→Nat→Prop) (L:Nat→Nat):Prop where
  cn:∀v,Cn R (L v) v
  le:∀u v,Cn R u v→L v≤u
theorem lst_ex (R:Nat→Nat→Prop):∃L,Lst R L:=by
  have each:∀v,∃m,Cn R m v∧∀u,Cn R u v→m≤u:=fun v=>by
    have key:∀n,(∃u,u≤n∧Cn R u v)→∃m,Cn R m v∧∀u,Cn R u v→m≤u:=by
      intro n
      induction n with
      | zero => rintro ⟨u, hu, hc⟩; have : u = 0 := by omega
                subst this; exact ⟨0,hc,fun _ _=>Nat.zero_le _⟩
      | succ n ih=>
        rintro ⟨u,hu,hc⟩
        by_cases h:∃u,u≤n∧Cn R u v
        · exact ih h
        · refine ⟨u,hc,fun w hw=>?_⟩
          by_cases hwn:w≤n
          · exact (h ⟨w,hwn,hw⟩).elim
          · omega
    exact key v ⟨v,Nat.le_refl _,.refl v⟩
  obtain ⟨L,hL⟩:=Classical.axiomOfChoice each
  exact ⟨L,fun v=>(hL v).1,fun u v h=>(hL v).2 u h⟩
section
variable {R:Nat→Nat→Prop} {L:Nat→Nat} {M:Nat} {g:Nat→Nat} {u v w:Nat}
theorem Lst.eq (h:Lst R L) (k:Cn R u v):L u=L v:=
  Nat.le_antisymm (h.le _ _ ((h.cn v).trans k.symm)) (h.le _ _ ((h.cn u).trans k))
theorem Lst.self (h:Lst R L):L v≤v:=h.le v v (.refl v)
theorem Lst.idem (h:Lst R L):L (L v)=L v:=h.eq (h.cn v)
theorem Lst.iff (h:Lst R L):L u=L v↔Cn R u v:=⟨fun e=>(h.cn u).symm.trans (e▸h.cn v),h.eq⟩
def GInv (R:Nat→Nat→Prop) (M:Nat) (g:Nat→Nat):Prop:=∀v,v<M→Cn R (g v) v∧g v≤v
def bad (L:Nat→Nat) (M:Nat) (g:Nat→Nat):Nat:=cnt (fun v=>!(g v == L v)) M
theorem GInv.step (h:Lst R L) (hg:GInv R M g) (hu:u<M) (hv:v<M) (e:Cn R u v) :
    GInv R M (stepN g u v)∧(∀w,w<M→g w=L w→stepN g u v w=L w)∧(g u=L u∨g v=L v→stepN g u v u=L u∧stepN g u v v=L v):=by
  have en:=h.eq e
  have hgu:=hg u hu
  have hgv:=hg v hv
  have lu:=h.le _ _ hgu.1
  have lv:=h.le _ _ hgv.1
  unfold stepN
  split
  · rename_i hlt
    refine ⟨fun w hw=>?_,fun w hw hgw=>?_,fun hor=>?_⟩
    · by_cases ew:w=v
      · subst ew; rw [upf_same]; exact ⟨hgu.1.trans e,by omega⟩
      · rw [upf_ne ew]; exact hg w hw
    · by_cases ew:w=v
      · subst ew; omega
      · rw [upf_ne ew]; exact hgw
    · have:g u=L u:=by omega
      rw [upf_same]
      by_cases ew:u=v
      · subst ew; omega
      · rw [upf_ne ew]; exact ⟨this,by omega⟩
  · rename_i hlt
    refine ⟨fun w hw=>?_,fun w hw hgw=>?_,fun hor=>?_⟩
    · by_cases ew:w=u
      · subst ew; rw [upf_same]; exact ⟨hgv.1.trans e.symm,by omega⟩
      · rw [upf_ne ew]; exact hg w hw
    · by_cases ew:w=u
      · subst ew; rw [upf_same]; omega
      · rw [upf_ne ew]; exact hgw
    · have:g v=L v:=by omega
      rw [upf_same]
      by_cases ew:v=u
      · subst ew; rw [upf_same]; omega
      · rw [upf_ne ew]; exact ⟨by omega,this⟩
variable {pr:Nat→Nat × Nat} {k:Nat}
theorem roundN_inv (h:Lst (Prs pr k) L) (hr:∀i,i<k→(pr i).1<M∧(pr i).2<M) (hg:GInv (Prs pr k) M g):∀i,i≤k→GInv (Prs pr k) M (roundN g pr i)∧∀w,w<M→g w=L w→roundN g pr i w=L w
  | 0,_=>⟨hg,fun _ _ e=>e⟩
  | i+1,hi=>by
    obtain ⟨h1,h2⟩:=roundN_inv h hr hg i (by omega)
    obtain ⟨e1,e2⟩:=hr i (by omega)
    obtain ⟨s1,s2,_⟩:=h1.step h e1 e2 (.edge ⟨i,by omega,rfl,rfl⟩)
    exact ⟨s1,fun w hw e=>s2 w hw (h2 w hw e)⟩
theorem roundN_later (h:Lst (Prs pr k) L) (hr:∀i,i<k→(pr i).1<M∧(pr i).2<M) (hg:GInv (Prs pr k) M g) {i:Nat} (hw:w<M) (e:roundN g pr i w=L w):∀d,i+d≤k→roundN g pr (i+d) w=L w
  | 0,_=>e
  | d+1,hd=>by
    obtain ⟨h1,_⟩:=roundN_inv h hr hg (i+d) (by omega)
    obtain ⟨e1,e2⟩:=hr (i+d) (by omega)
    exact (h1.step h e1 e2 (.edge ⟨i+d,by omega,rfl,rfl⟩)).2.1 w hw (roundN_later h hr hg hw e d (by omega))
theorem round_bad (h:Lst (Prs pr k) L) (hr:∀i,i<k→(pr i).1<M∧(pr i).2<M) (hg:GInv (Prs pr k) M g):bad L M (roundN g pr k)<bad L M g∨∀v,v<M→g v=L v:=by
  obtain ⟨h1,h2⟩:=roundN_inv h hr hg k (Nat.le_refl _)
  by_cases hx:∃w,w<M∧roundN g pr k w=L w∧g w≠L w
  · obtain ⟨w,hw,e1,e2⟩:=hx
    refine .inl (cnt_lt (fun i hi hp=>?_) hw (by simp [e1]) (by simp [e2]))
    simp only [Bool.not_eq_true',beq_eq_false_iff_ne] at hp ⊢
    exact fun e=>hp (h2 i hi e)
  · refine .inr ?_
    have back:∀w,w<M→roundN g pr k w=L w→g w=L w:=fun w hw e=>by
      by_cases e2:g w=L w
      · exact e2
      · exact (hx ⟨w,hw,e,e2⟩).elim
    have edge:∀x y,Prs pr k x y→(g x=L x)=(g y=L y):=by
      rintro x y ⟨i,hi,rfl,rfl⟩
      obtain ⟨e1,e2⟩:=hr i hi
      obtain ⟨q1,q2⟩:=roundN_inv h hr hg i (by omega)
      have s:=(q1.step h e1 e2 (.edge ⟨i,hi,rfl,rfl⟩)).2.2
      have fin:∀w,w<M→roundN g pr (i+1) w=L w→g w=L w:=fun w hw e=>back w hw (by
        have:=roundN_later h hr hg hw e (k-(i+1)) (by omega)
        rwa [show i+1+(k-(i+1))=k by omega] at this)
      exact propext ⟨fun e=>fin _ e2 (s (.inl (q2 _ e1 e))).2,fun e=>fin _ e1 (s (.inr (q2 _ e2 e))).1⟩
    intro v hv
    have hm:L v<M:=Nat.lt_of_le_of_lt h.self hv
    have:=(h.cn v).resp (fun x=>g x=L x) edge
    refine this.mp ?_
    have e1:=h.idem (v:=v)
    have a:=(hg _ hm).2
    have b:=h.le _ _ (hg _ hm).1
    omega
theorem roundsN_inv (h:Lst (Prs pr k) L) (hr:∀i,i<k→(pr i).1<M∧(pr i).2<M) (hg:GInv (Prs pr k) M g):∀r,GInv (Prs pr k) M (roundsN g pr k r)∧bad L M (roundsN g pr k r)≤bad L M g-r
  | 0=>⟨hg,Nat.le_refl _⟩
  | r+1=>by
    obtain ⟨h1,h2⟩:=roundsN_inv h hr hg r
    obtain ⟨q1,q2⟩:=roundN_inv h hr h1 k (Nat.le_refl _)
    refine ⟨q1,?_⟩
    rcases round_bad h hr h1 with hb | hb
    · show bad L M (roundN (roundsN g pr k r) pr k)≤_
      omega
    · have:bad L M (roundN (roundsN g pr k r) pr k)=0:=cnt_none fun i hi=>by rw [q2 i hi (hb i hi)]; simp
      show bad L M (roundN (roundsN g pr k r) pr k)≤_
      omega
theorem parts_done (h:Lst (Prs pr k) L) (hr:∀i,i<k→(pr i).1<M∧(pr i).2<M) (hv:v<M):roundsN (fun v=>v) pr k M v=L v:=by
  have hg:GInv (Prs pr k) M (fun v=>v):=fun v hv=>⟨.refl v,Nat.le_refl _⟩
  obtain ⟨_,hb⟩:=roundsN_inv h hr hg M
  have hn:bad L M (fun v=>v)≤M:=cnt_le _ _
  have h0:bad L M (roundsN (fun v=>v) pr k M)=0:=by omega
  by_cases e1:roundsN (fun v=>v) pr k M v=L v
  · exact e1
  · have:=cnt_pos (p:=fun v=>!(roundsN (fun v=>v) pr k M v == L v)) hv (by simp [e1])
    unfold bad at h0
    omega
def pno (L:Nat→Nat) (v:Nat):Nat:=cnt (fun w=>L w == w) (L v)
theorem sm_pno {F:Nat→Nat}:∀s,sm F (cnt (fun w=>L w == w) s)=sm (fun u=>if L u=u then F (cnt (fun w=>L w == w) u) else 0) s:=by
  intro s
  induction s with
  | zero=>rfl
  | succ s ih=>
    simp only [cnt,sm]
    by_cases h:L s=s
    · simp only [h,beq_self_eq_true,if_true]
      show sm F (cnt _ s)+F (cnt _ s)=_
      rw [ih]
    · have:(L s == s)=false:=by simpa using h
      simp only [this,h,if_false,Bool.false_eq_true,Nat.add_zero]
      exact ih
theorem pno_lt (h:Lst R L) {v:Nat} (hv:v<M):pno L v<cnt (fun w=>L w == w) M:=by
  unfold pno
  have hl:=h.self (v:=v)
  have e:=h.idem (v:=v)
  have key:∀d,cnt (fun w=>L w == w) (L v)<cnt (fun w=>L w == w) (L v+1+d):=by
    intro d
    induction d with
    | zero=>simp only [Nat.add_zero,cnt,e,beq_self_eq_true,if_true]; omega
    | succ d ih=>show _<cnt _ (L v+1+d)+_; omega
  have:=key (M-(L v+1))
  rwa [show L v+1+(M-(L v+1))=M by omega] at this
theorem pno_inj (h:Lst R L) (e:pno L u=pno L v):L u=L v:=by
  unfold pno at e
  have mono:∀a d,L a=a→cnt (fun w=>L w == w) a<cnt (fun w=>L w == w) (a+1+d):=by
    intro a d ha
    induction d with
    | zero=>simp only [Nat.add_zero,cnt,ha,beq_self_eq_true,if_true]; omega
    | succ d ih=>show _<cnt _ (a+1+d)+_; omega
  rcases Nat.lt_trichotomy (L u) (L v) with hlt | heq | hlt
  · have:=mono (L u) (L v-(L u+1)) h.idem
    rw [show L u+1+(L v-(L u+1))=L v by omega] at this
    omega
  · exact heq
  · have:=mono (L v) (L u-(L v+1)) h.idem
    rw [show L v+1+(L u-(L v+1))=L u by omega] at this
    omega
end
/-! ### The parts that are left -/
def lft (e:Nat→Edg) (W:Nat→Bool):Nat→List Edg
  | 0=>[]
  | i+1=>if okE W (e i) then lft e W i++[e i] else lft e W i
theorem mem_lft {e:Nat→Edg} {W:Nat→Bool} {x:Edg}:∀{n:Nat},x∈lft e W n↔∃j,j<n∧okE W (e j)=true∧e j=x:=by
  intro n
  induction n with
  | zero=>simp [lft]
  | succ n ih=>
    unfold lft
    by_cases h:okE W (e n)=true
    · rw [if_pos h,List.mem_append,ih]
      constructor
      · rintro (⟨j,hj,hk,hx⟩ | hx)
        · exact ⟨j,by omega,hk,hx⟩
        · simp at hx; exact ⟨n,by omega,h,hx.symm⟩
      · rintro ⟨j,hj,hk,hx⟩
        by_cases ej:j=n
        · subst ej; right; simp [hx]
        · exact .inl ⟨j,by omega,hk,hx⟩
    · rw [if_neg h,ih]
      constructor
      · rintro ⟨j,hj,hk,hx⟩; exact ⟨j,by omega,hk,hx⟩
      · rintro ⟨j,hj,hk,hx⟩
        by_cases ej:j=n
        · subst ej; exact absurd hk h
        · exact ⟨j,by omega,hk,hx⟩
theorem lft_len {e:Nat→Edg} {W:Nat→Bool}:∀n,(lft e W n).length≤n:=by
  intro n
  induction n with
  | zero=>exact Nat.le_refl _
  | succ n ih=>
    unfold lft
    split
    · simp; omega
    · omega
def ePr (e:Nat→Edg):Nat→Nat × Nat:=fun i=>((e i).fr.toNat,(e i).to.toNat)
theorem odd_parts {N:Int} {n:Nat} {e:Nat→Edg} {W:Nat→Bool} {L:Nat→Nat} (hR:∀u v,Adj e n W u v→u<N.toNat∧v<N.toNat) (h:Lst (Adj e n W) L) :
    sm (fun j=>cnt (fun v=>!W v && pno L v == j) N.toNat%2) N.toNat=oddN N n e W:=by
  have hW:∀{a b:Nat},Cn (Adj e n W) a b→W a=W b:=fun hc=>hc.resp W fun a b hab=>by rw [hab.left.1,hab.left.2]
  have hodd:∀s,oddB (Adj e n W) W N.toNat s=sm (fun s=>(open Classical in if Fst (Adj e n W) W s then csz (Adj e n W) N.toNat s%2 else 0)) s:=by
    intro s
    induction s with
    | zero=>rfl
    | succ s ih=>simp only [sm,←ih]; rfl
  have hz:∀j,cnt (fun w=>L w == w) N.toNat≤j→cnt (fun v=>!W v && pno L v == j) N.toNat%2=0:=fun j hj=>by
    rw [cnt_none fun v hv=>?_]
    have:=pno_lt h hv
    have hne:(pno L v == j)=false:=by simp; omega
    simp [hne]
  have e1:sm (fun j=>cnt (fun v=>!W v && pno L v == j) N.toNat%2) N.toNat=sm (fun j=>cnt (fun v=>!W v && pno L v == j) N.toNat%2) (cnt (fun w=>L w == w) N.toNat):=by
    have hle:=cnt_le (fun w=>L w == w) N.toNat
    have key:∀(F:Nat→Nat) (c:Nat),(∀j,c≤j→F j=0)→∀d,sm F (c+d)=sm F c:=by
      intro F c hF d
      induction d with
      | zero=>rfl
      | succ d ih=>
        have:sm F (c+(d+1))=sm F (c+d)+F (c+d):=rfl
        rw [this,ih,hF _ (by omega),Nat.add_zero]
    have:=key (fun j=>cnt (fun v=>!W v && pno L v == j) N.toNat%2) (cnt (fun w=>L w == w) N.toNat) hz (N.toNat-cnt (fun w=>L w == w) N.toNat)
    rwa [show cnt (fun w=>L w == w) N.toNat+(N.toNat-cnt (fun w=>L w == w) N.toNat)=N.toNat by omega] at this
  rw [e1,sm_pno]
  show _=oddB (Adj e n W) W N.toNat N.toNat
  rw [hodd]
  refine sm_congr fun s hs=>?_
  have hfix:L s=s↔∀u,u<s→¬Cn (Adj e n W) u s:=by
    constructor
    · intro he u hu hc; have:=h.le u s hc; omega
    · intro hall
      have:=h.self (v:=s)
      by_cases he:L s=s
      · exact he
      · exact (hall (L s) (by omega) (h.cn s)).elim
  have hpno:∀v,L s=s→(pno L v=cnt (fun w=>L w == w) s↔Cn (Adj e n W) s v):=fun v he=>by
    have e2:cnt (fun w=>L w == w) s=pno L s:=by unfold pno; rw [he]
    rw [e2]
    constructor
    · intro hp; exact (h.iff.1 (pno_inj h hp)).symm
    · intro hc; unfold pno; rw [h.eq hc]
  by_cases he:L s=s
  · rw [if_pos he]
    by_cases hw:W s=true
    · have hnf:¬Fst (Adj e n W) W s:=fun hf=>by rw [hf.1] at hw; cases hw
      rw [if_neg hnf,cnt_none fun v hv=>?_]
      by_cases hc:Cn (Adj e n W) s v
      · rw [←hW hc,hw]; rfl
      · have:(pno L v == cnt (fun w=>L w == w) s)=false:=by simpa using fun hp=>hc ((hpno v he).1 hp)
        simp [this]
    · have hw':W s=false:=by simpa using hw
      have hf:Fst (Adj e n W) W s:=⟨hw',hfix.1 he⟩
      rw [if_pos hf]
      congr 1
      refine cnt_congr fun v hv=>?_
      by_cases hc:Cn (Adj e n W) s v
      · have:pno L v=cnt (fun w=>L w == w) s:=(hpno v he).2 hc
        rw [←hW hc,hw']
        simp [this,hc]
      · have:(pno L v == cnt (fun w=>L w == w) s)=false:=by simpa using fun hp=>hc ((hpno v he).1 hp)
        simp [this,hc]
  · rw [if_neg he]
    have hnf:¬Fst (Adj e n W) W s:=fun hf=>he (hfix.2 hf.2)
    rw [if_neg hnf]
theorem lft_cn {e:Nat→Edg} {W:Nat→Bool} {n:Nat} {f:Nat→Edg} (hf:∀i,i<(lft e W n).length→f i=(lft e W n)[i]?.getD (0,0,0,0)) {L:Nat→Nat} (h:Lst (Prs (ePr f) (lft e W n).length) L):Lst (Adj e n W) L:=by
  have h1:∀u v,Prs (ePr f) (lft e W n).length u v→Cn (Adj e n W) u v:=by
    rintro u v ⟨i,hi,rfl,rfl⟩
    have:=List.getElem_mem hi
    obtain ⟨j,hj,hk,hx⟩:=mem_lft.1 this
    refine .edge ⟨j,hj,hk,.inl ?_⟩
    have e1:f i=e j:=by rw [hf i hi,List.getElem?_eq_getElem hi,hx]; rfl
    unfold ePr
    rw [e1]
    exact ⟨rfl,rfl⟩
  have h2:∀u v,Adj e n W u v→Cn (Prs (ePr f) (lft e W n).length) u v:=by
    rintro u v ⟨j,hj,hk,h⟩
    obtain ⟨i,hi,hx⟩:=List.getElem_of_mem (mem_lft.2 ⟨j,hj,hk,rfl⟩:e j∈lft e W n)
    have e1:f i=e j:=by rw [hf i hi,List.getElem?_eq_getElem hi,hx]; rfl
    have hp:Prs (ePr f) (lft e W n).length (e j).fr.toNat (e j).to.toNat:=⟨i,hi,by unfold ePr; rw [e1],by unfold ePr; rw [e1]⟩
    rcases h with ⟨rfl,rfl⟩ | ⟨rfl,rfl⟩
    · exact .edge hp
    · exact .symm (.edge hp)
  exact ⟨fun v=>(h.cn v).mono h1,fun u v hc=>h.le u v (hc.mono h2)⟩
end Go.Mz
/-
  The document's functions of layers 4 and 12, walked: Numbered, Parts, Odd, Largest, NoPerfect.
-/
namespace Go.Mz
section
variable {E:VP}
theorem rnumbered {p:OA} {M c:Nat} {L:Nat→Nat} {R:Nat→Nat→Prop} {H:Hp} {K:OA→Nat→Nat→Hp→Prop} (hL:Lst R L) (hr:Rdr H p M (fun v=>(L v:Int))) (hM:M≤1024)
    (kk:∀b H',Step (fun _=>False) H H'→H b=none→Row H' (some ⟨b,0,none⟩) M M (fun v=>(pno L v:Int))→K (some ⟨b,0,none⟩) M M H'):Q50.call p M c E H K:=by
  refine Q50.of (Q50.run_eq ?_)
  unfold Q50.run_t
  refine Row.mkI (by omega) (by omega) fun b H1 hb r1 s1=>?_
  simp only [tN] at r1 ⊢
  refine Q50.l1_rule (fun tp tn tc op on oc ct v5 H'=>p=tp∧M=tn∧op=some ⟨b,0,none⟩∧M=on∧M=oc∧∃v:Nat,v5=v∧v≤M∧ct=(cnt (fun w=>L w == w) v:Int)∧Step (fun _=>False) H H'∧∃f,Row H' (some ⟨b,0,none⟩) M M f∧∀u,u<v→f u=(pno L u:Int))
    (fun tp tn tc op on oc ct v5 H'=>M-v5.toNat) ?_ ⟨rfl,rfl,rfl,rfl,rfl,0,rfl,by omega,rfl,s1,_,r1,fun u hu=>by omega⟩
  clear r1 s1
  rintro tp tn tc op on oc ct v5 H2 ⟨rfl,rfl,rfl,rfl,rfl,v,rfl,hv,rfl,s2,f,r2,hf⟩ X hX
  have hr2:=hr.keep s2 fun _ _ _ h=>h
  refine Q50.b1_eq ?_
  unfold Q50.b1_t
  refine bc (fun hlt=>?_) fun hge=>?_
  · have hself:=hL.self (v:=v)
    have hle:=cnt_le (fun w=>L w == w) v
    refine hr2.ixI (by omega) (by omega) ?_
    simp only [tN]
    have next:∀H' (x:Int) g,Step (fun _=>False) H H'→x=(cnt (fun w=>L w == w) (v+1):Int)→Row H' (some ⟨b,0,none⟩) M M (upf f v g)→g=(pno L v:Int)→Q50.j1 p M tc (some ⟨b,0,none⟩) M M x (v:Int) X E H' K:=fun H' x g s hx r hg=>by
      refine Q50.j1_eq ?_
      unfold Q50.j1_t
      rw [i64w (by omega) (by omega)]
      refine hX _ _ _ _ _ _ _ _ _ ⟨rfl,rfl,rfl,rfl,rfl,v+1,by omega,by omega,hx,s,_,r,fun u hu=>?_⟩ (by omega)
      by_cases eu:u=v
      · subst eu; rw [upf_same,hg]
      · rw [upf_ne eu]; exact hf u (by omega)
    have own:∀{H'},Step (fpS (some ⟨b,0,none⟩)) H2 H'→Step (fun _=>False) H H':=fun s=>s2.own s fun y hy=>by rw [fpS_mk] at hy; exact hy▸hb
    refine bc (fun h=>?_) fun h=>?_
    · have h':L v=v:=by omega
      refine r2.stI (by omega) (by omega) _ fun H3 r3 s3=>?_
      simp only [tN] at r3
      rw [i64w (by omega) (by omega)]
      refine next _ _ _ (own s3) ?_ r3 (by unfold pno; rw [h'])
      simp only [cnt,h',beq_self_eq_true,if_true]; omega
    · have h':L v≠v:=fun h'=>h (by omega)
      refine hr2.ixI (by omega) (by omega) ?_
      simp only [tN]
      refine r2.ixI (by omega) (by omega) ?_
      refine r2.stI (by omega) (by omega) _ fun H3 r3 s3=>?_
      simp only [tN] at r3
      refine next _ _ _ (own s3) ?_ r3 (by rw [hf _ (by omega)]; unfold pno; rw [hL.idem])
      have:(L v == v)=false:=by simpa using h'
      simp only [cnt,this,Bool.false_eq_true,if_false,Nat.add_zero]
  · have:v=M:=by omega
    subst this
    exact kk b _ s2 hb (r2.congr hf)
theorem cast_stepN {g:Nat→Nat} {u v:Nat}:(fun i=>((stepN g u v i:Nat):Int))=if g u<g v then upf (fun i=>(g i:Int)) v (g u:Int) else upf (fun i=>(g i:Int)) u (g v:Int):=by
  unfold stepN
  split<;>funext i<;>unfold upf<;>split<;>rfl
theorem rparts {N:Int} {ep:OA} {n ec:Nat} {e:Nat→Edg} {L:Nat→Nat} {H:Hp} {K:OA→Nat→Nat→Int→Hp→Prop} (he:Rdr H ep n e) (hr:Right N n e) (hL:Lst (Prs (ePr e) n) L)
    (kk:∀b H',Step (fun _=>False) H H'→H b=none→Row H' (some ⟨b,0,none⟩) N.toNat N.toNat (fun v=>(pno L v:Int))→K (some ⟨b,0,none⟩) N.toNat N.toNat 0 H'):Q39.call N ep n ec E H K:=by
  have hN0:=hr.N0; have hN1:=hr.N1; have hn1:=hr.n1
  refine Q39.of (Q39.run_eq ?_)
  unfold Q39.run_t
  refine nwk fun b1 H1 hb1 e1 s1=>?_
  simp only [get_at e1,gZ,gS,ldI_mk,ldS_mk]
  refine rcheck (he.keep s1 fun _ _ _ h=>h) fun H2 a s2=>?_
  refine bcn (fun h=>(h (chk_zero.2 hr)).elim) fun _=>?_
  have s02:=s1.and s2
  have e12:=s2.keep _ _ e1 fun h=>h
  simp only [get_at e12,gZ,gS,ldI_mk,ldS_mk]
  refine Row.mkI hN0 (by omega) fun b2 H3 hb2 r3 s3=>?_
  have e13:=s3.keep _ _ e12 fun h=>h
  have ne:b1≠b2:=ne_of_live hb2 (by rw [e12]; exact fun h=>by cases h)
  have f2:H b2=none:=s02.mono _ hb2
  have own:∀{H' H''},Step (fun _=>False) H H'→Step (fpS (some ⟨b2,0,none⟩)) H' H''→Step (fun _=>False) H H'':=fun s s'=>s.own s' fun y hy=>by rw [fpS_mk] at hy; exact hy▸f2
  have kb:∀{H' H''},H' b1=some ⟨[.int .i64 N,.slice ep n ec],24⟩→Step (fpS (some ⟨b2,0,none⟩)) H' H''→H'' b1=some ⟨[.int .i64 N,.slice ep n ec],24⟩:=fun e' s'=>s'.keep _ _ e' (by rw [fpS_mk]; exact ne)
  have hrng:∀i,i<n→(ePr e i).1<N.toNat∧(ePr e i).2<N.toNat:=fun i hi=>by
    have hx:=hr.ed i hi
    have hf0:=hx.f0; have hf1:=hx.f1; have ht0:=hx.t0; have ht1:=hx.t1
    unfold ePr
    exact ⟨by show (e i).fr.toNat<_; omega,by show (e i).to.toNat<_; omega⟩
  have hid:GInv (Prs (ePr e) n) N.toNat (fun v=>v):=fun v _=>⟨.refl v,Nat.le_refl _⟩
  refine Q39.l1_rule (fun g1 lp ln lc v7 H'=>b1=g1∧lp=some ⟨b2,0,none⟩∧ln=N.toNat∧lc=N.toNat∧∃v:Nat,v7=v∧v≤N.toNat∧Step (fun _=>False) H H'∧H' b1=some ⟨[.int .i64 N,.slice ep n ec],24⟩∧∃f,Row H' (some ⟨b2,0,none⟩) N.toNat N.toNat f∧∀u,u<v→f u=(u:Int))
    (fun g1 lp ln lc v7 H'=>N.toNat-v7.toNat) ?_ ⟨rfl,rfl,rfl,rfl,0,rfl,by omega,s02.and s3,e13,_,r3,fun u hu=>by omega⟩
  clear r3 e13 s3 hb2 e12 s2 e1 s1 s02
  rintro g1 lp ln lc v7 H4 ⟨rfl,rfl,rfl,rfl,v,rfl,hv,s4,e4,f,r4,hf⟩ X hX
  refine Q39.b1_eq ?_
  unfold Q39.b1_t
  simp only [get_at e4,gZ,gS,ldI_mk,ldS_mk]
  refine bc (fun hlt=>?_) fun hge=>?_
  · refine r4.stI (by omega) (by omega) _ fun H5 r5 s5=>?_
    simp only [tN] at r5
    rw [i64w (by omega) (by omega)]
    refine hX _ _ _ _ _ _ ⟨rfl,rfl,rfl,rfl,v+1,by omega,by omega,own s4 s5,kb e4 s5,_,r5,fun u hu=>?_⟩ (by omega)
    by_cases eu:u=v
    · subst eu; rw [upf_same]
    · rw [upf_ne eu]; exact hf u (by omega)
  have:v=N.toNat:=by omega
  subst this
  clear hX
  refine Q39.j1_eq ?_
  unfold Q39.j1_t
  refine Q39.l2_rule (fun g1 lp ln lc r8 H'=>b1=g1∧lp=some ⟨b2,0,none⟩∧ln=N.toNat∧lc=N.toNat∧∃r:Nat,r8=r∧r≤N.toNat∧Step (fun _=>False) H H'∧H' b1=some ⟨[.int .i64 N,.slice ep n ec],24⟩∧Row H' (some ⟨b2,0,none⟩) N.toNat N.toNat (fun v=>((roundsN (fun v=>v) (ePr e) n r v:Nat):Int)))
    (fun g1 lp ln lc r8 H'=>N.toNat-r8.toNat) ?_ ⟨rfl,rfl,rfl,rfl,0,rfl,by omega,s4,e4,r4.congr fun u hu=>hf u hu⟩
  clear r4 e4 s4 hf
  rintro g1 lp ln lc r8 H5 ⟨rfl,rfl,rfl,rfl,r,rfl,hr',s5,e5,r5⟩ X hX
  refine Q39.b2_eq ?_
  unfold Q39.b2_t
  simp only [get_at e5,gZ,gS,ldI_mk,ldS_mk]
  refine bc (fun hlt=>?_) fun hge=>?_
  · refine Q39.l3_rule (fun g1 lp ln lc r8 i9 H'=>b1=g1∧lp=some ⟨b2,0,none⟩∧ln=N.toNat∧lc=N.toNat∧r8=r∧∃i:Nat,i9=i∧i≤n∧Step (fun _=>False) H H'∧H' b1=some ⟨[.int .i64 N,.slice ep n ec],24⟩∧Row H' (some ⟨b2,0,none⟩) N.toNat N.toNat (fun v=>((roundN (roundsN (fun v=>v) (ePr e) n r) (ePr e) i v:Nat):Int)))
      (fun g1 lp ln lc r8 i9 H'=>n-i9.toNat) ?_ ⟨rfl,rfl,rfl,rfl,rfl,0,rfl,by omega,s5,e5,r5⟩
    clear r5 e5 s5
    rintro g1 lp ln lc r8 i9 H6 ⟨rfl,rfl,rfl,rfl,rfl,i,rfl,hi,s6,e6,r6⟩ Y hY
    refine Q39.b3_eq ?_
    unfold Q39.b3_t
    simp only [get_at e6,gZ,gS,ldI_mk,ldS_mk]
    refine bc (fun hlt2=>?_) fun hge2=>?_
    · have he6:=he.keep s6 fun _ _ _ h=>h
      have hx:=hr.ed i (by omega)
      have hf0:=hx.f0; have hf1:=hx.f1; have ht0:=hx.t0; have ht1:=hx.t1
      obtain ⟨a,ha⟩:∃a:Nat,(e i).fr=a:=⟨(e i).fr.toNat,by omega⟩
      obtain ⟨d,hd⟩:∃d:Nat,(e i).to=d:=⟨(e i).to.toNat,by omega⟩
      have ea:(ePr e i).1=a:=by show (e i).fr.toNat=a; omega
      have ed:(ePr e i).2=d:=by show (e i).to.toNat=d; omega
      have hG:=roundN_inv hL hrng (roundsN_inv hL hrng hid r).1 i hi
      refine he6.edgeF (by omega) (by omega) ?_
      simp only [tN]
      refine he6.edgeT (by omega) (by omega) ?_
      simp only [tN]
      rw [ha,hd]
      have next:∀H',Row H' (some ⟨b2,0,none⟩) N.toNat N.toNat (fun v=>((stepN (roundN (roundsN (fun v=>v) (ePr e) n r) (ePr e) i) a d v:Nat):Int))→Step (fpS (some ⟨b2,0,none⟩)) H6 H'→Q39.j2 b1 (some ⟨b2,0,none⟩) N.toNat N.toNat (r:Int) (i:Int) X Y E H' K:=fun H' r' s'=>by
        refine Q39.j2_eq ?_
        unfold Q39.j2_t
        rw [i64w (by omega) (by omega)]
        refine hY _ _ _ _ _ _ _ ⟨rfl,rfl,rfl,rfl,rfl,i+1,by omega,by omega,own s6 s',kb e6 s',?_⟩ (by omega)
        have:roundN (roundsN (fun v=>v) (ePr e) n r) (ePr e) (i+1)=stepN (roundN (roundsN (fun v=>v) (ePr e) n r) (ePr e) i) a d:=by
          show stepN _ (ePr e i).1 (ePr e i).2=_
          rw [ea,ed]
        rw [this]; exact r'
      refine r6.ixI (by omega) (by omega) ?_
      refine r6.ixI (by omega) (by omega) ?_
      simp only [tN]
      refine bc (fun hc=>?_) fun hc=>?_
      · refine r6.ixI (by omega) (by omega) ?_
        refine r6.stI (by omega) (by omega) _ fun H7 r7 s7=>?_
        simp only [tN] at r7
        refine next _ ?_ s7
        rw [cast_stepN,if_pos (by omega)]; exact r7
      · refine r6.ixI (by omega) (by omega) ?_
        refine r6.stI (by omega) (by omega) _ fun H7 r7 s7=>?_
        simp only [tN] at r7
        refine next _ ?_ s7
        rw [cast_stepN,if_neg (by omega)]; exact r7
    · have:i=n:=by omega
      subst this
      refine Q39.j3_eq ?_
      unfold Q39.j3_t
      rw [i64w (by omega) (by omega)]
      exact hX _ _ _ _ _ _ ⟨rfl,rfl,rfl,rfl,r+1,by omega,by omega,s6,e6,r6⟩ (by omega)
  · have:r=N.toNat:=by omega
    subst this
    refine Q39.j4_eq ?_
    unfold Q39.j4_t
    have hrow:Row H5 (some ⟨b2,0,none⟩) N.toNat N.toNat (fun v=>(L v:Int)):=r5.congr fun v hv=>by rw [parts_done hL hrng hv]
    refine rnumbered hL hrow.rdr (by omega) fun b H6 s6 hb r6=>?_
    exact kk b _ (s5.and s6) (s5.mono _ hb) r6
open Classical in
theorem rodd {N:Int} {ep:OA} {n ec:Nat} {e:Nat→Edg} {vp:OA} {q vc:Nat} {set:Nat→Int} {H:Hp} {K:Int→Hp→Prop} (he:Rdr H ep n e) (hr:Right N n e) (hv:Rdr H vp q set) (hq:q<2 ^ 63)
    (kk:∀H',Step (fun _=>False) H H'→K (oddS N n e set q) H'):Q21.call N ep n ec vp q vc E H K:=by
  have hN0:=hr.N0; have hN1:=hr.N1; have hn1:=hr.n1
  refine Q21.of (Q21.run_eq ?_)
  unfold Q21.run_t
  refine nwk fun b1 H1 hb1 e1 s1=>?_
  simp only [get_at e1,gZ,gS,ldI_mk,ldS_mk]
  refine nwst rfl rfl fun b2 H2 hb2 e2 s2=>?_
  have f2:H b2=none:=s1.mono _ hb2
  have ne12:b1≠b2:=ne_of_live hb2 (by rw [e1]; exact fun h=>by cases h)
  obtain ⟨W,hW⟩:∃W:Nat→Bool,W=fun v:Nat=>decide (In set q (v:Int)):=⟨_,rfl⟩
  have hWi:∀v:Nat,W v=true↔In set q (v:Int):=fun v=>by rw [hW]; simp
  have hH1:H b1=none:=hb1
  refine Q21.l1_rule (fun tp tn tc g2 lf i6 H'=>vp=tp∧q=tn∧vc=tc∧b1=g2∧b2=lf∧∃i:Nat,i6=i∧i≤n∧Step (fun _=>False) H H'∧H' b1=some ⟨[.int .i64 N,.slice ep n ec],24⟩∧∃op oc,H' b2=some ⟨[.int .i64 N,.slice op (lft e W i).length oc],24⟩∧Row H' op (lft e W i).length oc (lsE (lft e W i))∧∀y,fpS op y→H y=none∧y≠b1∧y≠b2)
    (fun tp tn tc g2 lf i6 H'=>n-i6.toNat) ?_ ⟨rfl,rfl,rfl,rfl,rfl,0,rfl,by omega,s1.and s2,s2.keep _ _ e1 fun h=>h,none,0,e2,.nil,fun y hy=>by rw [fpS_none] at hy; exact hy.elim⟩
  clear e2 s2 hb2 e1 s1
  rintro tp tn tc g2 lf i6 H3 ⟨rfl,rfl,rfl,rfl,rfl,i,rfl,hi,s3,e3,op,oc,e32,ro,hop⟩ X hX
  refine Q21.b1_eq ?_
  unfold Q21.b1_t
  simp only [get_at e3,gZ,gS,ldI_mk,ldS_mk]
  refine bc (fun hlt=>?_) fun hge=>?_
  · have he3:=he.keep s3 fun _ _ _ h=>h
    have hv3:=hv.keep s3 fun _ _ _ h=>h
    have hx:=hr.ed i (by omega)
    have hf0:=hx.f0; have hf1:=hx.f1; have ht0:=hx.t0; have ht1:=hx.t1
    have okv:okE W (e i)=true↔¬In set q (e i).fr∧¬In set q (e i).to:=by
      unfold okE
      rw [Bool.and_eq_true,Bool.not_eq_true',Bool.not_eq_true']
      have h1:=hWi (e i).fr.toNat
      have h2:=hWi (e i).to.toNat
      rw [show (((e i).fr.toNat:Nat):Int)=(e i).fr by omega] at h1
      rw [show (((e i).to.toNat:Nat):Int)=(e i).to by omega] at h2
      rw [←h1,←h2]; simp
    have next:∀H' op' oc',Step (fun _=>False) H H'→H' b1=some ⟨[.int .i64 N,.slice ep n ec],24⟩→H' b2=some ⟨[.int .i64 N,.slice op' (lft e W (i+1)).length oc'],24⟩→Row H' op' (lft e W (i+1)).length oc' (lsE (lft e W (i+1)))→(∀y,fpS op' y→H y=none∧y≠b1∧y≠b2)→Q21.j1 vp q vc b1 b2 (i:Int) X E H' K:=fun H' op' oc' s a1 a2 a3 a4=>by
      refine Q21.j1_eq ?_
      unfold Q21.j1_t
      rw [i64w (by omega) (by omega)]
      exact hX _ _ _ _ _ _ _ ⟨rfl,rfl,rfl,rfl,rfl,i+1,by omega,by omega,s,a1,op',oc',a2,a3,a4⟩ (by omega)
    have skip:¬(¬In set q (e i).fr∧¬In set q (e i).to)→Q21.j1 vp q vc b1 b2 (i:Int) X E H3 K:=fun h=>by
      have hl:lft e W (i+1)=lft e W i:=by unfold lft; rw [if_neg fun h'=>h (okv.1 h')]; cases i<;>rfl
      exact next H3 op oc s3 e3 (by rw [hl]; exact e32) (by rw [hl]; exact ro) hop
    refine he3.edgeF (by omega) (by omega) ?_
    simp only [tN]
    refine rhas hv3 hq (fun h1=>bcb (fun h=>by cases h) fun _=>skip fun h=>h.1 h1) fun h1=>?_
    refine bcb (fun _=>?_) fun h=>by cases h
    simp only [get_at e3,gZ,gS,ldI_mk,ldS_mk]
    refine he3.edgeT (by omega) (by omega) ?_
    simp only [tN]
    refine rhas hv3 hq (fun h2=>bcb (fun h=>by cases h) fun _=>skip fun h=>h.2 h2) fun h2=>?_
    refine bcb (fun _=>?_) fun h=>by cases h
    simp only [get_at e3,get_at e32,gZ,gS,ldI_mk,ldS_mk]
    refine he3.edge (by omega) (by omega) ?_
    simp only [tN]
    have hll:=lft_len (e:=e) (W:=W) i
    refine ro.app (α:=Edg) (e i) rfl (by omega) (by decide) fun op' oc' H4 r4 s4 f4=>?_
    have e42:=s4.keep _ _ e32 fun h=>(hop _ h).2.2 rfl
    have e4:=s4.keep _ _ e3 fun h=>(hop _ h).2.1 rfl
    refine stp e42 (by simp) rfl fun H5 e5 s5=>?_
    have hl:lft e W (i+1)=lft e W i++[e i]:=by
      show (if okE W (e i) then lft e W i++[e i] else lft e W i)=_
      rw [if_pos (okv.2 ⟨h1,h2⟩)]
    have hop':∀y,fpS op' y→H y=none∧y≠b1∧y≠b2:=fun y hy=>by
      rcases f4 y hy with h | h
      · exact hop y h
      · exact ⟨s3.mono _ h,fun ey=>(by rw [ey,e3] at h; cases h),fun ey=>(by rw [ey,e32] at h; cases h)⟩
    rw [lsE_app] at r4
    refine next H5 op' oc' ((s3.own s4 fun y hy=>(hop y hy).1).own s5 fun y hy=>hy▸f2) (s5.keep _ _ e4 ne12) ?_ ?_ hop'
    · rw [hl,List.length_append]; exact e5
    · rw [hl,List.length_append]; exact r4.keep s5 fun y hy h=>(hop' y hy).2.2 h
  have:i=n:=by omega
  subst this
  clear hX
  refine Q21.j2_eq ?_
  unfold Q21.j2_t
  simp only [get_at e32,gZ,gS,ldI_mk,ldS_mk]
  have hlen:=lft_len (e:=e) (W:=W) i
  have hrl:Right N (lft e W i).length (lsE (lft e W i)):=⟨hN0,hN1,by omega,fun j hj=>by
    obtain ⟨a,ha,_,hx⟩:=mem_lft.1 (lsE_mem hj)
    rw [←hx]; exact hr.ed a ha⟩
  obtain ⟨L,hL⟩:=lst_ex (Prs (ePr (lsE (lft e W i))) (lft e W i).length)
  refine rparts ro.rdr hrl hL fun pb H4 s4 hpb rp=>?_
  have hLA:Lst (Adj e i W) L:=lft_cn (f:=lsE (lft e W i)) (fun j _=>rfl) hL
  have s04:=s3.and s4
  have e4:=s4.keep _ _ e3 fun h=>h
  simp only [get_at e4,gZ,gS,ldI_mk,ldS_mk]
  refine Row.mkI hN0 (by omega) fun zb H5 hzb rz s5=>?_
  have s05:=s04.and s5
  have fz:H zb=none:=s04.mono _ hzb
  have own:∀{H' H''},Step (fun _=>False) H H'→Step (fpS (some ⟨zb,0,none⟩)) H' H''→Step (fun _=>False) H H'':=fun s s'=>s.own s' fun y hy=>by rw [fpS_mk] at hy; exact hy▸fz
  have nz1:b1≠zb:=ne_of_live hzb (by rw [e4]; exact fun h=>by cases h)
  have nzp:pb≠zb:=ne_of_live hzb (rp.live ⟨_,rfl⟩)
  refine Q21.l2_rule (fun tp tn tc g2 pp pn pc zp zn zc v10 H'=>vp=tp∧q=tn∧b1=g2∧pp=some ⟨pb,0,none⟩∧pn=N.toNat∧zp=some ⟨zb,0,none⟩∧zn=N.toNat∧zc=N.toNat∧∃v:Nat,v10=v∧v≤N.toNat∧Step (fun _=>False) H H'∧H' b1=some ⟨[.int .i64 N,.slice ep i ec],24⟩∧Row H' (some ⟨pb,0,none⟩) N.toNat N.toNat (fun v=>(pno L v:Int))∧Row H' (some ⟨zb,0,none⟩) N.toNat N.toNat (fun j=>(cnt (fun u=>!W u && pno L u == j) v:Int)))
    (fun tp tn tc g2 pp pn pc zp zn zc v10 H'=>N.toNat-v10.toNat) ?_ ⟨rfl,rfl,rfl,rfl,rfl,rfl,rfl,rfl,0,rfl,by omega,s05,s5.keep _ _ e4 fun h=>h,rp.keep s5 fun _ _ h=>h,rz⟩
  clear rz s5 hzb e4 s04 rp hpb s4 ro e32 hop s3 e3 s05
  rintro tp tn tc g2 pp pn pc zp zn zc v10 H6 ⟨rfl,rfl,rfl,rfl,rfl,rfl,rfl,rfl,v,rfl,hv',s6,e6,rp,rz⟩ X hX
  refine Q21.b2_eq ?_
  unfold Q21.b2_t
  simp only [get_at e6,gZ,gS,ldI_mk,ldS_mk]
  refine bc (fun hlt=>?_) fun hge=>?_
  · have hpl:=pno_lt (M:=N.toNat) hLA (v:=v) (by omega)
    have hcl:=cnt_le (fun w=>L w == w) N.toNat
    have next:∀H',Step (fun _=>False) H H'→H' b1=some ⟨[.int .i64 N,.slice ep i ec],24⟩→Row H' (some ⟨pb,0,none⟩) N.toNat N.toNat (fun v=>(pno L v:Int))→Row H' (some ⟨zb,0,none⟩) N.toNat N.toNat (fun j=>(cnt (fun u=>!W u && pno L u == j) (v+1):Int))→Q21.j3 vp q tc b1 (some ⟨pb,0,none⟩) N.toNat pc (some ⟨zb,0,none⟩) N.toNat N.toNat (v:Int) X E H' K:=fun H' s a1 a2 a3=>by
      refine Q21.j3_eq ?_
      unfold Q21.j3_t
      rw [i64w (by omega) (by omega)]
      exact hX _ _ _ _ _ _ _ _ _ _ _ _ ⟨rfl,rfl,rfl,rfl,rfl,rfl,rfl,rfl,v+1,by omega,by omega,s,a1,a2,a3⟩ (by omega)
    refine rhas (hv.keep s6 fun _ _ _ h=>h) hq (fun h=>bcb (fun h=>by cases h) fun _=>?_) fun h=>?_
    · refine next H6 s6 e6 rp (rz.congr fun j _=>?_)
      have:W v=true:=(hWi v).2 h
      simp [cnt,this]
    · refine bcb (fun _=>?_) fun h=>by cases h
      have hwv:W v=false:=by cases hw':W v with
        | false=>rfl
        | true=>exact (h ((hWi v).1 hw')).elim
      refine rp.ixI (by omega) (by omega) ?_
      simp only [tN]
      refine rz.ixI (by omega) (by omega) ?_
      simp only [tN]
      have hcv:=cnt_le (fun u=>!W u && pno L u == pno L v) v
      rw [i64w (n:=(cnt (fun u=>!W u && pno L u == pno L v) v:Int)+1) (by omega) (by omega)]
      refine rz.stI (by omega) (by omega) _ fun H7 r7 s7=>?_
      simp only [tN] at r7
      refine next H7 (own s6 s7) (s7.keep _ _ e6 (by rw [fpS_mk]; exact nz1)) (rp.keep s7 fun y hy hy'=>by rw [fpS_mk] at hy hy'; exact nzp (hy.symm.trans hy')) (r7.congr fun j _=>?_)
      by_cases ej:j=pno L v
      · subst ej; rw [upf_same]; simp [cnt,hwv]
      · rw [upf_ne ej]
        have:(pno L v == j)=false:=by simp; omega
        simp [cnt,this]
  · have:v=N.toNat:=by omega
    subst this
    clear hX
    refine Q21.j4_eq ?_
    unfold Q21.j4_t
    refine Q21.l3_rule (fun g2 zp zn zc n11 v12 H'=>b1=g2∧zp=some ⟨zb,0,none⟩∧zn=N.toNat∧H6=H'∧∃j:Nat,v12=j∧j≤N.toNat∧n11=(sm (fun j=>cnt (fun u=>!W u && pno L u == j) N.toNat%2) j:Int))
      (fun g2 zp zn zc n11 v12 H'=>N.toNat-v12.toNat) ?_ ⟨rfl,rfl,rfl,rfl,0,rfl,by omega,rfl⟩
    rintro g2 zp zn zc n11 v12 H' ⟨rfl,rfl,rfl,rfl,j,rfl,hj,rfl⟩ Y hY
    have hsm:∀j,sm (fun j=>cnt (fun u=>!W u && pno L u == j) N.toNat%2) j≤j:=by
      intro j
      induction j with
      | zero=>exact Nat.le_refl _
      | succ j ih=>simp only [sm]; omega
    have hsj:=hsm j
    refine Q21.b3_eq ?_
    unfold Q21.b3_t
    simp only [get_at e6,gZ,gS,ldI_mk,ldS_mk]
    refine bc (fun hlt=>?_) fun hge=>?_
    · refine rz.ixI (by omega) (by omega) ?_
      simp only [tN]
      refine ⟨by decide,?_⟩
      have htm:Int.tmod (cnt (fun u=>!W u && pno L u == j) N.toNat:Int) 2=((cnt (fun u=>!W u && pno L u == j) N.toNat%2:Nat):Int):=by
        rw [Int.tmod_eq_emod_of_nonneg (by omega)]; omega
      rw [htm,i64w (n:=_+((cnt (fun u=>!W u && pno L u == j) N.toNat%2:Nat):Int)) (by omega) (by omega),i64w (by omega) (by omega)]
      exact hY _ _ _ _ _ _ _ ⟨rfl,rfl,rfl,rfl,j+1,by omega,by omega,by simp only [sm]; omega⟩ (by omega)
    · have:j=N.toNat:=by omega
      subst this
      have hRR:∀u v,Adj e i W u v→u<N.toNat∧v<N.toNat:=fun u v ⟨j,hj,_,h⟩=>by
        have hx:=hr.ed j hj
        have:=hx.f0; have:=hx.f1; have:=hx.t0; have:=hx.t1
        rcases h with ⟨h1,h2⟩ | ⟨h1,h2⟩<;>omega
      rw [odd_parts hRR hLA]
      have:oddN N i e W=oddS N i e set q:=by rw [hW]; rfl
      rw [this]
      exact kk _ s6
theorem rnoperfect {N:Int} {ep:OA} {n ec:Nat} {e:Nat→Edg} {vp:OA} {q vc:Nat} {set:Nat→Int} {H:Hp} {K:Int→Hp→Prop} (he:Rdr H ep n e) (hv:Rdr H vp q set) (hq:q<2 ^ 63)
    (kk:∀H' c,Step (fun _=>False) H H'→Out N n e (NopP N n e set q) c→K c H'):Q8.call N ep n ec vp q vc E H K:=by
  refine Q8.of (Q8.run_eq ?_)
  unfold Q8.run_t
  refine nwk fun b1 H1 hb1 e1 s1=>?_
  simp only [get_at e1,gZ,gS,ldI_mk,ldS_mk]
  refine rcheck (he.keep s1 fun _ _ _ h=>h) fun H2 a s2=>?_
  have s02:=s1.and s2
  refine bc (fun hc=>?_) fun hc=>kk _ _ s02 (.inr (.inl ⟨rfl,hc⟩))
  have hr:=chk_zero.1 hc
  have e12:=s2.keep _ _ e1 fun h=>h
  have no:∀H',Step (fun _=>False) H H'→¬NopP N n e set q→K 221 H':=fun H' s h=>kk H' 221 s (.inr (.inr ⟨rfl,hr,h⟩))
  simp only [get_at e12,gZ,gS,ldI_mk,ldS_mk]
  refine rrising (hv.keep s02 fun _ _ _ h=>h) hq (fun hs=>?_) fun hs=>bcb (fun _=>no _ s02 fun hh=>hs hh.ris) fun h=>by cases h
  refine bcb (fun h=>by cases h) fun _=>?_
  try simp only [get_at e12,gZ,gS,ldI_mk,ldS_mk]
  refine rodd (he.keep s02 fun _ _ _ h=>h) hr (hv.keep s02 fun _ _ _ h=>h) hq fun H3 s3=>?_
  refine bc (fun h=>no _ (s02.and s3) fun hh=>by have:=hh.lt; omega) fun h=>?_
  rw [hc]
  exact kk _ _ (s02.and s3) (.inl ⟨rfl,hr,hs,by omega⟩)
end
end Go.Mz
