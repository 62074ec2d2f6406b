/-
  Joined: RefF, DeD, PeD.
-/
import Derived.Test.YtndgjfbibkdokaaPkA09
import Derived.Test.YtndgjfbibkdokaaPkA01
import Derived.Test.YtndgjfbibkdokaaGRed
import Derived.Test.YtndgjfbibkdokaaPkA08
import Derived.Test.YtndgjfbibkdokaaGR18
import Derived.Test.YtndgjfbibkdokaaMzZ
import Derived.Test.YtndgjfbibkdokaaGL18
set_option linter.unusedVariables false
/-
  The document's functions of layer 12, walked, more: Weights, Worth, Pair, Cheapest.
-/
namespace Go.Mz
section
variable {E:VP}
theorem Rdr.slzS {H:Hp} {p:OA} {n:Nat} {f:Nat→Sl × Int} (h:Rdr H p n f) {i:Int} (h0:0≤i) (h1:i<(n:Int)) {G:OA→Nat→Nat→Prop}
    (k:G (f i.toNat).1.p (f i.toNat).1.n (f i.toNat).1.c):Mz.ix p n i 2 fun b o=>ldS (H.get b o) G:=by
  refine h.ix (α:=Sl × Int) h0 h1 fun b o _ hg=>?_
  have g0:=hg 0 (by decide)
  simp only [El.enc,Nat.add_zero] at g0
  simp at g0
  rw [g0]
  exact k
theorem Rdr.slzZ {H:Hp} {p:OA} {n:Nat} {f:Nat→Sl × Int} (h:Rdr H p n f) {i:Int} (h0:0≤i) (h1:i<(n:Int)) {G:Int→Prop}
    (k:G (f i.toNat).2):Mz.ix p n i 2 fun b o=>ldI .i64 (H.get b (o+1)) G:=by
  refine h.ix (α:=Sl × Int) h0 h1 fun b o _ hg=>?_
  have g1:=hg 1 (by decide)
  simp only [El.enc] at g1
  simp at g1
  rw [g1]
  exact k
theorem rweights {n:Int} {yp:OA} {yn yc:Nat} {sp:OA} {sn sc:Nat} {Y:Nat→Int} {z:Nat→Int} {sl:Nat→Sl} {nd:Nat→Nat→Int} {H:Hp} {K:Bool→Hp→Prop}
    (hdu:DualR H yp yn sp sn Y z sl nd) (hyn:yn<2 ^ 63) (hsn:sn<2 ^ 62)
    (kt:∀H',Step (fun _=>False) H H'→Wt n Y yn z (fun i=>(sl i).n) nd sn→K true H') (kf:∀H',Step (fun _=>False) H H'→¬Wt n Y yn z (fun i=>(sl i).n) nd sn→K false H') :
    Q18.call n yp yn yc sp sn sc E H K:=by
  refine Q18.of (Q18.run_eq ?_)
  unfold Q18.run_t
  refine nwk fun db H1 hb1 e1 s1=>?_
  simp only [get_at e1,gZ,gS,ldI_mk,ldS_mk]
  refine rpots (hdu.keep s1).y hyn (fun H2 s2 hp=>?_) fun H2 s2 hp=>bcb (fun _=>kf _ (s1.and s2) fun hh=>hp ⟨hh.ylen,hh.ybnd⟩) fun h=>by cases h
  refine bcb (fun h=>by cases h) fun _=>?_
  have s02:=s1.and s2
  have e12:=s2.keep _ _ e1 fun h=>h
  simp only [get_at e12,gZ,gS,ldI_mk,ldS_mk]
  refine bc (fun h=>kf _ s02 fun hh=>by have:=hh.slen; omega) fun hsl=>?_
  refine Q18.l1_rule (fun m d3 i5 H'=>n=m∧db=d3∧Step (fun _=>False) H2 H'∧∃i:Nat,i5=i∧i≤sn∧∀a,a<i→(3≤(sl a).n∧(sl a).n%2=1)∧(0≤z a∧z a≤4398046511104)∧Ris (nd a) (sl a).n n)
    (fun m d3 i5 H'=>sn-i5.toNat) ?_ ⟨rfl,rfl,.refl,0,rfl,by omega,fun a ha=>by omega⟩
  rintro m d3 i5 H3 ⟨rfl,rfl,s3,i,rfl,hi,hs⟩ X hX
  have s03:=s02.and s3
  have e13:=s3.keep _ _ e12 fun h=>h
  have hd3:=hdu.keep s03
  refine Q18.b1_eq ?_
  unfold Q18.b1_t
  simp only [get_at e13,gZ,gS,ldI_mk,ldS_mk]
  refine bc (fun hlt=>?_) fun hge=>?_
  · refine hd3.s.slz (by omega) (by omega) ?_
    simp only [tN]
    refine nwst rfl rfl fun b4 H4 hb4 e4 s4=>?_
    have s04:=s03.and s4
    obtain ⟨hnr,hnl⟩:=hd3.nd i (by omega)
    simp only [get_at e4,gZ,gS,ldI_mk,ldS_mk]
    refine bc (fun h=>kf _ s04 fun hh=>by have:=(hh.sets i (by omega)).1.1; omega) fun g1=>?_
    try simp only [get_at e4,gZ,gS,ldI_mk,ldS_mk]
    refine ⟨by decide,?_⟩
    have hmd:Int.tmod (((sl i).n:Nat):Int) 2=(((sl i).n%2:Nat):Int):=by
      rw [Int.tmod_eq_emod_of_nonneg (by omega)]; omega
    rw [hmd]
    refine bc (fun h=>kf _ s04 fun hh=>by have:=(hh.sets i (by omega)).1.2; omega) fun g2=>?_
    try simp only [get_at e4,gZ,gS,ldI_mk,ldS_mk]
    refine rrising (hnr.keep s4 fun _ _ _ h=>h) hnl (fun hris=>?_) fun h=>bcb (fun _=>kf _ s04 fun hh=>h (hh.sets i (by omega)).2.2) fun h=>by cases h
    refine bcb (fun h=>by cases h) fun _=>?_
    try simp only [get_at e4,gZ,gS,ldI_mk,ldS_mk]
    refine bc (fun h=>kf _ s04 fun hh=>by have:=(hh.sets i (by omega)).2.1.1; omega) fun g3=>?_
    try simp only [get_at e4,gZ,gS,ldI_mk,ldS_mk]
    refine bc (fun h=>kf _ s04 fun hh=>by have:=(hh.sets i (by omega)).2.1.2; omega) fun g4=>?_
    rw [i64w (by omega) (by omega)]
    refine hX _ _ _ _ ⟨rfl,rfl,s3.and s4,i+1,by omega,by omega,fun a ha=>?_⟩ (by omega)
    by_cases ea:a=i
    · subst ea; exact ⟨⟨by omega,by omega⟩,⟨by omega,by omega⟩,hris⟩
    · exact hs a (by omega)
  · have:i=sn:=by omega
    subst this
    exact kt _ s03 ⟨hp.1,by omega,hp.2,hs⟩
theorem Wt.zb {n:Int} {Y:Nat→Int} {yn:Nat} {z:Nat→Int} {ln:Nat→Nat} {nd:Nat→Nat→Int} {sn:Nat} (h:Wt n Y yn z ln nd sn) (hn:n≤1024) {a:Nat} (ha:a<sn) :
    0≤z a*((ln a / 2:Nat):Int)∧z a*((ln a / 2:Nat):Int)≤4398046511104*512:=by
  obtain ⟨h1,h2,h3⟩:=h.sets a ha
  have hl:=h3.len
  exact ⟨Int.mul_nonneg h2.1 (by omega),Int.mul_le_mul h2.2 (by omega) (by omega) (by omega)⟩
theorem Wt.zt {n:Int} {Y:Nat→Int} {yn:Nat} {z:Nat→Int} {ln:Nat→Nat} {nd:Nat→Nat→Int} {sn:Nat} (h:Wt n Y yn z ln nd sn) (hn:n≤1024) {a:Nat} (ha:a<sn) {t:Nat} (ht:t≤ln a / 2) :
    0≤z a*(t:Int)∧z a*(t:Int)≤4398046511104*512:=by
  obtain ⟨h1,h2,h3⟩:=h.sets a ha
  have hl:=h3.len
  exact ⟨Int.mul_nonneg h2.1 (by omega),Int.mul_le_mul h2.2 (by omega) (by omega) (by omega)⟩
theorem rworth {n:Int} {yp:OA} {yn yc:Nat} {sp:OA} {sn sc:Nat} {Y:Nat→Int} {z:Nat→Int} {sl:Nat→Sl} {nd:Nat→Nat→Int} {H:Hp} {K:Int→Hp→Prop}
    (hdu:DualR H yp yn sp sn Y z sl nd) (hw:Wt n Y yn z (fun i=>(sl i).n) nd sn) (hn:n≤1024)
    (kk:∀H',Step (fun _=>False) H H'→K (wsum Y yn z (fun i=>(sl i).n) sn) H'):Q20.call yp yn yc sp sn sc E H K:=by
  have hyl:=hw.ylen
  have hsl:=hw.slen
  refine Q20.of (Q20.run_eq ?_)
  unfold Q20.run_t
  refine nwk fun db H1 hb1 e1 s1=>?_
  have hd1:=hdu.keep s1
  refine Q20.l1_rule (fun d x i4 H'=>db=d∧H1=H'∧∃i:Nat,i4=i∧i≤yn∧x=psum Y i) (fun d x i4 H'=>yn-i4.toNat) ?_ ⟨rfl,rfl,0,rfl,by omega,rfl⟩
  rintro d x i4 H' ⟨rfl,rfl,i,rfl,hi,rfl⟩ X hX
  refine Q20.b1_eq ?_
  unfold Q20.b1_t
  simp only [get_at e1,gZ,gS,ldI_mk,ldS_mk]
  have hp:=psum_bound (f:=Y) (a:=-4398046511104) (b:=4398046511104) (i:=i) fun v hv=>hw.ybnd v (by omega)
  refine bc (fun hlt=>?_) fun hge=>?_
  · have hy:=hw.ybnd i (by omega)
    refine hd1.y.ixI (by omega) (by omega) ?_
    simp only [tN]
    rw [i64w (n:=psum Y i+Y i) (by omega) (by omega),i64w (by omega) (by omega)]
    exact hX _ _ _ _ ⟨rfl,rfl,i+1,by omega,by omega,rfl⟩ (by omega)
  have:i=yn:=by omega
  subst this
  clear hX
  refine Q20.j1_eq ?_
  unfold Q20.j1_t
  refine Q20.l2_rule (fun d x i5 H'=>db=d∧H1=H'∧∃j:Nat,i5=j∧j≤sn∧x=psum Y i-psum (fun a=>z a*(((sl a).n / 2:Nat):Int)) j) (fun d x i5 H'=>sn-i5.toNat) ?_ ⟨rfl,rfl,0,rfl,by omega,by simp [psum]⟩
  rintro d x i5 H' ⟨rfl,rfl,j,rfl,hj,rfl⟩ X hX
  refine Q20.b2_eq ?_
  unfold Q20.b2_t
  simp only [get_at e1,gZ,gS,ldI_mk,ldS_mk]
  have hpw:=psum_bound (f:=fun a=>z a*(((sl a).n / 2:Nat):Int)) (a:=0) (b:=4398046511104*512) (i:=j) fun a ha=>hw.zb hn (by omega)
  refine bc (fun hlt=>?_) fun hge=>?_
  · refine Q20.l3_rule (fun d x i5 k6 H'=>db=d∧i5=j∧H1=H'∧∃t:Nat,k6=2+2*(t:Int)∧t≤(sl j).n / 2∧x=psum Y i-psum (fun a=>z a*(((sl a).n / 2:Nat):Int)) j-z j*(t:Int))
      (fun d x i5 k6 H'=>((sl j).n+2-k6).toNat) ?_ ⟨rfl,rfl,rfl,0,rfl,by omega,by simp⟩
    rintro d x i5 k6 H' ⟨rfl,rfl,rfl,t,rfl,ht,rfl⟩ X' hX'
    have hzt:=hw.zt hn (a:=j) (by omega) ht
    obtain ⟨hnr,hnl⟩:=hd1.nd j (by omega)
    have hodd:=(hw.sets j (by omega)).1.2
    have hz:=(hw.sets j (by omega)).2.1
    have hln:=(hw.sets j (by omega)).2.2.len
    try simp only at hodd hln
    refine Q20.b3_eq ?_
    unfold Q20.b3_t
    simp only [get_at e1,gZ,gS,ldI_mk,ldS_mk]
    refine hd1.s.slzS (by omega) (by omega) ?_
    simp only [tN]
    refine bc (fun hlt2=>?_) fun hge2=>?_
    · refine hd1.s.slzZ (by omega) (by omega) ?_
      simp only [tN]
      rw [i64w (n:=_-z j) (by omega) (by omega),i64w (by omega) (by omega)]
      refine hX' _ _ _ _ _ ⟨rfl,rfl,rfl,t+1,by omega,by omega,?_⟩ (by omega)
      rw [Int.natCast_add,Int.mul_add]
      omega
    · have et:t=(sl j).n / 2:=by omega
      subst et
      clear hX'
      refine Q20.j2_eq ?_
      unfold Q20.j2_t
      rw [i64w (by omega) (by omega)]
      refine hX _ _ _ _ ⟨rfl,rfl,j+1,by omega,by omega,?_⟩ (by omega)
      simp only [psum]
      omega
  · have:j=sn:=by omega
    subst this
    exact kk _ s1
open Classical in
theorem rpair {n:Int} {yp:OA} {yn yc:Nat} {sp:OA} {sn sc:Nat} {Y:Nat→Int} {z:Nat→Int} {sl:Nat→Sl} {nd:Nat→Nat→Int} {u v:Int} {H:Hp} {K:Int→Hp→Prop}
    (hdu:DualR H yp yn sp sn Y z sl nd) (hw:Wt n Y yn z (fun i=>(sl i).n) nd sn) (hn:n≤1024) (u0:0≤u) (u1:u<n) (v0:0≤v) (v1:v<n)
    (kk:∀H',Step (fun _=>False) H H'→K (prW Y z (fun i=>(sl i).n) nd sn u v) H'):Q19.call yp yn yc sp sn sc u v E H K:=by
  have hyl:=hw.ylen
  have hsl:=hw.slen
  refine Q19.of (Q19.run_eq ?_)
  unfold Q19.run_t
  refine nwk fun db H1 hb1 e1 s1=>?_
  have hd1:=hdu.keep s1
  simp only [get_at e1,gZ,gS,ldI_mk,ldS_mk]
  refine hd1.y.ixI (by omega) (by omega) ?_
  try simp only [get_at e1,gZ,gS,ldI_mk,ldS_mk]
  refine hd1.y.ixI (by omega) (by omega) ?_
  have b1:=hw.ybnd u.toNat (by omega)
  have b2:=hw.ybnd v.toNat (by omega)
  rw [i64w (by omega) (by omega)]
  refine Q19.l1_rule (fun u' v' d x i8 H'=>u=u'∧v=v'∧db=d∧H1=H'∧∃i:Nat,i8=i∧i≤sn∧x=Y u.toNat+Y v.toNat-psum (fun i=>if In (nd i) (sl i).n u∧In (nd i) (sl i).n v then z i else 0) i)
    (fun u' v' d x i8 H'=>sn-i8.toNat) ?_ ⟨rfl,rfl,rfl,rfl,0,rfl,by omega,by simp [psum]⟩
  rintro u' v' d x i8 H' ⟨rfl,rfl,rfl,rfl,i,rfl,hi,rfl⟩ X hX
  have hpb:=psum_bound (f:=fun i=>if In (nd i) (sl i).n u∧In (nd i) (sl i).n v then z i else 0) (a:=0) (b:=4398046511104) (i:=i) fun j hj=>by
    have:=(hw.sets j (by omega)).2.1
    split<;>omega
  refine Q19.b1_eq ?_
  unfold Q19.b1_t
  simp only [get_at e1,gZ,gS,ldI_mk,ldS_mk]
  refine bc (fun hlt=>?_) fun hge=>?_
  · have hz:=(hw.sets i (by omega)).2.1
    obtain ⟨hnr,hnl⟩:=hd1.nd i (by omega)
    have next:∀x,x=(if In (nd i) (sl i).n u∧In (nd i) (sl i).n v then z i else 0)→Q19.j1 u v db (Y u.toNat+Y v.toNat-psum (fun i=>if In (nd i) (sl i).n u∧In (nd i) (sl i).n v then z i else 0) i-x) (i:Int) X E H1 K:=fun x hx=>by
      refine Q19.j1_eq ?_
      unfold Q19.j1_t
      rw [i64w (by omega) (by omega)]
      refine hX _ _ _ _ _ _ ⟨rfl,rfl,rfl,rfl,i+1,by omega,by omega,?_⟩ (by omega)
      rw [hx]
      simp only [psum]
      omega
    refine hd1.s.slzS (by omega) (by omega) ?_
    simp only [tN]
    refine rhas hnr hnl (fun hu=>?_) fun hu=>bcb (fun h=>by cases h) fun _=>?_
    · refine bcb (fun _=>?_) fun h=>by cases h
      simp only [get_at e1,gZ,gS,ldI_mk,ldS_mk]
      refine hd1.s.slzS (by omega) (by omega) ?_
      simp only [tN]
      refine rhas hnr hnl (fun hv=>?_) fun hv=>bcb (fun h=>by cases h) fun _=>?_
      · refine bcb (fun _=>?_) fun h=>by cases h
        simp only [get_at e1,gZ,gS,ldI_mk,ldS_mk]
        refine hd1.s.slzZ (by omega) (by omega) ?_
        simp only [tN]
        rw [i64w (n:=_-z i) (by omega) (by omega)]
        exact next (z i) (by rw [if_pos ⟨hu,hv⟩])
      · have:=next 0 (by rw [if_neg fun h=>hv h.2])
        rwa [Int.sub_zero] at this
    · have:=next 0 (by rw [if_neg fun h=>hu h.1])
      rwa [Int.sub_zero] at this
  · have:i=sn:=by omega
    subst this
    exact kk _ s1
end
end Go.Mz
/-
  The document's functions of layer 18 of tables, walked: Table, Mates, Dense.
-/
namespace Go.Mz
section
variable {dp:OA} {dn dc:Nat} {dl:Nat→Sl} {row:Nat→Nat→Int} {E:VP} {H:Hp}
theorem rtable {K:Int→Hp→Prop} (hd:TabR H dp dn dl row) (hdn:dn<2 ^ 63) (kk:K (tblC dn dl row) H):Q9.call dp dn dc E H K:=by
  refine Q9.of (Q9.run_eq ?_)
  unfold Q9.run_t
  have three:¬Sqr dn dl→K 3 H:=fun h=>by rw [tbl3 h] at kk; exact kk
  refine bc (fun hgt=>three fun hh=>by have:=hh.1; omega) fun hle=>?_
  refine Q9.l1_rule (fun dip din dic n3 i4 H2=>dip=dp∧din=dn∧n3=(dn:Int)∧H2=H∧∃i:Nat,i4=i∧i≤dn∧∀a,a<i→(dl a).n=dn)
    (fun _ _ _ _ i4 _=>dn-i4.toNat) ?_ ⟨rfl,rfl,rfl,rfl,0,rfl,Nat.zero_le _,fun a h=>by omega⟩
  rintro dip din dic n3 i4 H2 ⟨rfl,hdin,rfl,rfl,i,rfl,hi,hall⟩ X1 hX
  subst hdin
  refine Q9.b1_eq ?_
  unfold Q9.b1_t
  refine bc (fun hl=>?_) fun hge=>?_
  · have hl:i<din:=by omega
    refine hd.d.ixS (by omega) (by omega) ?_
    rw [tN]
    have hrn:=(hd.r i hl).2
    refine bcn (fun hne=>three fun hh=>by have:=hh.2 i hl; omega) fun heq=>?_
    rw [i64w (by omega) (by omega)]
    refine hX _ _ _ _ _ _ ⟨rfl,rfl,rfl,rfl,i+1,by omega,by omega,fun a ha=>?_⟩ (by omega)
    by_cases ea:a=i
    · subst ea; omega
    · exact hall a (by omega)
  · have:i=din:=by omega
    subst this
    clear hX
    have hs:Sqr i dl:=⟨by omega,hall⟩
    refine Q9.j1_eq ?_
    unfold Q9.j1_t
    have bad:¬Rng i row→K 31 H2:=fun h=>by rw [tbl31 hs h] at kk; exact kk
    refine Q9.l2_rule (fun dip2 din dic n3 i5 H3=>dip2=dip∧din=i∧n3=(i:Int)∧H3=H2∧∃a:Nat,i5=a∧a≤i∧∀u w,u<a→u<w→w<i→-2147483648≤row u w∧row u w≤2147483648)
      (fun _ _ _ _ i5 _=>i-i5.toNat) ?_ ⟨rfl,rfl,rfl,rfl,0,rfl,Nat.zero_le _,fun u w h=>by omega⟩
    rintro dip2 din dic n3 i5 H3 ⟨rfl,hdin,rfl,rfl,a,rfl,ha,hr1⟩ X1 hX
    subst hdin
    refine Q9.b2_eq ?_
    unfold Q9.b2_t
    refine bc (fun hl=>?_) fun hge2=>?_
    · have hl:a<din:=by omega
      have hrow:=(hd.r a hl).1
      rw [hs.2 a hl] at hrow
      rw [i64w (by omega) (by omega)]
      refine Q9.l3_rule (fun dip3 din' dic n3 i5 j6 H4=>dip3=dip2∧din'=din∧n3=(din:Int)∧i5=(a:Int)∧H4=H3∧∃t:Nat,j6=((a+1+t:Nat):Int)∧a+1+t≤din∧∀w,a<w→w<a+1+t→-2147483648≤row a w∧row a w≤2147483648)
        (fun _ _ _ _ _ j6 _=>din-j6.toNat) ?_ ⟨rfl,rfl,rfl,rfl,rfl,0,rfl,by omega,fun w h1 h2=>by omega⟩
      rintro dip3 din' dic n3 i5 j6 H4 ⟨rfl,hdin',rfl,rfl,rfl,t,rfl,ht,hr2⟩ X2 hX2
      subst hdin'
      refine Q9.b3_eq ?_
      unfold Q9.b3_t
      refine bc (fun hl2=>?_) fun hge3=>?_
      · have hl2:a+1+t<din':=by omega
        refine hd.d.ixS (by omega) (by omega) ?_
        rw [tN,hs.2 a hl]
        refine hrow.ixI (by omega) (by omega) ?_
        rw [tN]
        refine bc (fun hlow=>bad fun hh=>by have:=hh a (a+1+t) (by omega) hl2; omega) fun hlow=>?_
        refine hd.d.ixS (by omega) (by omega) ?_
        rw [tN,hs.2 a hl]
        refine hrow.ixI (by omega) (by omega) ?_
        rw [tN]
        refine bc (fun hhi=>bad fun hh=>by have:=hh a (a+1+t) (by omega) hl2; omega) fun hhi=>?_
        rw [i64w (by omega) (by omega)]
        refine hX2 _ _ _ _ _ _ _ ⟨rfl,rfl,rfl,rfl,rfl,t+1,by omega,by omega,fun w h1 h2=>?_⟩ (by omega)
        by_cases eb:w=a+1+t
        · subst eb; omega
        · exact hr2 w h1 (by omega)
      · have ht':t=din'-(a+1):=by omega
        subst ht'
        refine Q9.j2_eq ?_
        unfold Q9.j2_t
        rw [i64w (by omega) (by omega)]
        refine hX _ _ _ _ _ _ ⟨rfl,rfl,rfl,rfl,a+1,by omega,by omega,fun u w h1 h2 h3=>?_⟩ (by omega)
        by_cases ea:u=a
        · subst ea; exact hr2 w h2 (by omega)
        · exact hr1 u w (by omega) h2 h3
    · have:a=din:=by omega
      subst this
      have hg:Rng a row:=fun u w h1 h2=>hr1 u w (by omega) h1 h2
      have hodd:Int.tmod (a:Int) 2=((a%2:Nat):Int):=rfl
      refine Q9.j3_eq ?_
      unfold Q9.j3_t
      refine ⟨by decide,?_⟩
      rw [hodd]
      refine bc (fun ho=>?_) fun he=>?_
      · rw [tbl170 hs hg (by omega)] at kk; exact kk
      · rw [tbl0 hs hg (by omega)] at kk; exact kk
def mco (D:Nat→Nat→Int) (mate:Nat→Nat) (i:Nat):Int:=psum (fun v=>if v<mate v then D v (mate v) else 0) i
theorem mco_twice {D:Nat→Nat→Int} {mate:Nat→Nat} {n:Nat} (hm:∀v,v<n→mate v<n∧mate v≠v∧mate (mate v)=v):psum (fun v=>D (min v (mate v)) (max v (mate v))) n=2*mco D mate n:=by
  have h1:psum (fun v=>D (min v (mate v)) (max v (mate v))) n=psum (fun v=>(fun v=>if v<mate v then D v (mate v) else 0) v+(fun v=>if v<mate v then D v (mate v) else 0) (mate v)) n:=psum_congr fun v hv=>by
    obtain ⟨a,b,c⟩:=hm v hv
    show D (min v (mate v)) (max v (mate v))=(if v<mate v then D v (mate v) else 0)+(if mate v<mate (mate v) then D (mate v) (mate (mate v)) else 0)
    rw [c]
    by_cases h:v<mate v
    · rw [if_pos h,if_neg (by omega),Nat.min_eq_left (by omega),Nat.max_eq_right (by omega)]; omega
    · rw [if_neg h,if_pos (by omega),Nat.min_eq_right (by omega),Nat.max_eq_left (by omega)]; omega
  rw [h1,psum_add,psum_perm (y:=fun v=>if v<mate v then D v (mate v) else 0) (s:=mate) fun v hv=>⟨(hm v hv).1,(hm v hv).2.2⟩]
  unfold mco
  omega
theorem rmates {mp:OA} {mc:Nat} {mate:Nat→Nat} {K:Int→Bool→Hp→Prop} (hd:TabR H dp dn dl row) (hs:Sqr dn dl) (hg:Rng dn row) (hm:∀v,v<dn→mate v<dn∧mate v≠v∧mate (mate v)=v) (rm:Rdr H mp dn (fun v=>(mate v:Int)))
    (kk:K (mco row mate dn) true H):Q10.call dp dn dc mp dn mc E H K:=by
  have hn:=hs.1
  refine Q10.of (Q10.run_eq ?_)
  unfold Q10.run_t
  refine bcn (fun h=>(h rfl).elim) fun _=>?_
  refine Q10.l1_rule (fun dip din dic ma mn mcc to6 i7 H2=>dip=dp∧din=dn∧ma=mp∧mn=dn∧H2=H∧∃i:Nat,i7=i∧i≤dn∧to6=mco row mate i∧-2147483648*(i:Int)≤to6∧to6≤2147483648*(i:Int))
    (fun _ _ _ _ _ _ _ i7 _=>dn-i7.toNat) ?_ ⟨rfl,rfl,rfl,rfl,rfl,0,rfl,Nat.zero_le _,rfl,by omega,by omega⟩
  rintro dip din dic ma mn mcc to6 i7 H2 ⟨rfl,hdin,rfl,hmn,rfl,i,rfl,hi,hto,ht0,ht1⟩ X1 hX
  subst hdin
  subst hmn
  refine Q10.b1_eq ?_
  unfold Q10.b1_t
  refine bc (fun hl=>?_) fun hge=>?_
  · have hl:i<mn:=by omega
    obtain ⟨m1,m2,m3⟩:=hm i hl
    refine rm.ixI (by omega) (by omega) ?_
    rw [tN]
    refine bc (fun h=>by omega) fun _=>?_
    refine bc (fun h=>by omega) fun _=>?_
    refine bc (fun h=>by omega) fun _=>?_
    refine rm.ixI (by omega) (by omega) ?_
    rw [tN]
    refine bcn (fun h=>by omega) fun _=>?_
    have hsu:mco row mate (i+1)=mco row mate i+(if i<mate i then row i (mate i) else 0):=rfl
    have j1:∀x:Int,x=mco row mate (i+1)→-2147483648*((i+1:Nat):Int)≤x→x≤2147483648*((i+1:Nat):Int)→Q10.j1 dip mn dic ma mn mcc x (i:Int) X1 E H2 K:=fun x h1 h2 h3=>by
      refine Q10.j1_eq ?_
      unfold Q10.j1_t
      rw [i64w (by omega) (by omega)]
      exact hX _ _ _ _ _ _ _ _ _ ⟨rfl,rfl,rfl,rfl,rfl,i+1,by omega,by omega,h1,h2,h3⟩ (by omega)
    refine bc (fun hlt=>?_) fun hge2=>?_
    · have hlt:i<mate i:=by omega
      have hD:=hg i (mate i) hlt m1
      refine hd.d.ixS (by omega) (by omega) ?_
      rw [tN,hs.2 i hl]
      have hrow:=(hd.r i hl).1
      rw [hs.2 i hl] at hrow
      refine hrow.ixI (by omega) (by omega) ?_
      rw [tN,i64w (by omega) (by omega)]
      rw [if_pos hlt] at hsu
      exact j1 _ (by rw [hsu,hto]) (by omega) (by omega)
    · rw [if_neg (by omega)] at hsu
      exact j1 _ (by rw [hsu,hto]; omega) (by omega) (by omega)
  · have:i=mn:=by omega
    subst this
    rw [hto]
    exact kk
theorem rdense18 {yp:OA} {yn yc:Nat} {sp:OA} {sn sc:Nat} {Y:Nat→Int} {z:Nat→Int} {sl:Nat→Sl} {nd:Nat→Nat→Int} {total:Int} {K:Bool→Hp→Prop} (hd:TabR H dp dn dl row) (hs:Sqr dn dl) (hg:Rng dn row) (hdu:DualR H yp yn sp sn Y z sl nd)
    (hw:Wt (dn:Int) Y yn z (fun i=>(sl i).n) nd sn) (hsum:wsum Y yn z (fun i=>(sl i).n) sn=2*total) (hb:-1125899906842624≤total∧total≤1125899906842624) (hp:∀i j:Nat,i<j→j<dn→prW Y z (fun i=>(sl i).n) nd sn (i:Int) (j:Int)≤2*row i j)
    (kk:∀H',Step (fun _=>False) H H'→K true H'):Q11.call dp dn dc yp yn yc sp sn sc total E H K:=by
  have hn:=hs.1
  have hyn:=hw.ylen
  have hsn:=hw.slen
  refine Q11.of (Q11.run_eq ?_)
  unfold Q11.run_t
  refine nwk fun b1 H1 hb1 e1 s1=>?_
  simp only [get_at e1,gZ,gS,ldI_mk,ldS_mk]
  refine rweights (hdu.keep s1) (by omega) (by omega) (fun H2 s2 _=>?_) fun H2 s2 h=>(h hw).elim
  have e12:=s2.keep _ _ e1 fun h=>h
  have s02:=s1.and s2
  refine bcb (fun h=>by cases h) fun _=>?_
  simp only [get_at e12,gZ,gS,ldI_mk,ldS_mk]
  refine rworth (hdu.keep s02) hw (by omega) fun H3 s3=>?_
  have e13:=s3.keep _ _ e12 fun h=>h
  have s03:=s02.and s3
  rw [i64w (n:=total+total) (by omega) (by omega)]
  refine bcn (fun h=>by omega) fun _=>?_
  refine Q11.l1_rule (fun dip din dic d4 n7 i8 H'=>dip=dp∧din=dn∧d4=b1∧n7=(dn:Int)∧Step (fun _=>False) H H'∧H' b1=some ⟨[.slice yp yn yc,.slice sp sn sc],41⟩∧∃i:Nat,i8=i∧i≤dn)
    (fun _ _ _ _ _ i8 _=>dn-i8.toNat) ?_ ⟨rfl,rfl,rfl,rfl,s03,e13,0,rfl,Nat.zero_le _⟩
  clear e13 s03 s3 e12 s02 s2 e1
  rintro dip din dic d4 n7 i8 H4 ⟨rfl,hdin,rfl,rfl,s4,e4,i,rfl,hi⟩ X1 hX
  subst hdin
  refine Q11.b1_eq ?_
  unfold Q11.b1_t
  refine bc (fun hl=>?_) fun hge=>kk H4 s4
  have hl:i<din:=by omega
  rw [i64w (by omega) (by omega)]
  refine Q11.l2_rule (fun dip' din' dic d4' n7 i8 j9 H'=>dip'=dip∧din'=din∧d4'=d4∧n7=(din:Int)∧i8=(i:Int)∧Step (fun _=>False) H H'∧H' d4=some ⟨[.slice yp yn yc,.slice sp sn sc],41⟩∧∃j:Nat,j9=j∧i<j∧j≤din)
    (fun _ _ _ _ _ _ j9 _=>din-j9.toNat) ?_ ⟨rfl,rfl,rfl,rfl,rfl,s4,e4,i+1,by omega,by omega,by omega⟩
  clear s4 e4
  rintro dip' din' dic d4' n7 i8 j9 H5 ⟨rfl,hdin',rfl,rfl,rfl,s5,e5,j,rfl,hij,hj⟩ X2 hX2
  subst hdin'
  refine Q11.b2_eq ?_
  unfold Q11.b2_t
  refine bc (fun hl2=>?_) fun hge2=>?_
  · have hl2:j<din':=by omega
    have hd5:=hd.keep s5
    have hrow:=(hd5.r i hl).1
    rw [hs.2 i hl] at hrow
    have hD:=hg i j hij hl2
    simp only [get_at e5,gZ,gS,ldI_mk,ldS_mk]
    have cell:∀{H'},Step (fun _=>False) H H'→∀{G:Nat→Nat→Prop},(∀b o,(∀H'',Step (fun _=>False) H' H''→H''.get b o=some (.slice (dl i).p (dl i).n (dl i).c))→G b o)→Mz.ix dip' din' (i:Int) 1 G:=fun {H'} s G k=>by
      refine (hd.keep s).d.ix (α:=Sl) (by omega) (by omega) fun b o hb hgt=>k b o fun H'' s''=>?_
      have:=hgt 0 (by decide)
      rw [Nat.add_zero,tN] at this
      exact s''.get this fun h=>h
    have num:∀{H'},Step (fun _=>False) H H'→∀{G:Nat→Nat→Prop},(∀b o,(∀H'',Step (fun _=>False) H' H''→H''.get b o=some (.int .i64 (row i j)))→G b o)→Mz.ix (dl i).p (dl i).n (j:Int) 1 G:=fun {H'} s G k=>by
      have hr':=((hd.keep s).r i hl).1
      refine hr'.ix (α:=Int) (by omega) (by rw [hs.2 i hl]; omega) fun b o hb hgt=>k b o fun H'' s''=>?_
      have:=hgt 0 (by decide)
      rw [Nat.add_zero,tN] at this
      exact s''.get this fun h=>h
    refine cell s5 fun b o g=>?_
    rw [g H5 .refl]
    simp only [ldS_mk]
    refine num s5 fun b' o' g'=>?_
    rw [g' H5 .refl]
    simp only [ldI_mk]
    refine cell s5 fun b3 o3 g3=>?_
    rw [g3 H5 .refl]
    simp only [ldS_mk]
    refine num s5 fun b4 o4 g4=>?_
    rw [g4 H5 .refl]
    simp only [ldI_mk]
    refine rpair (hdu.keep s5) hw (by omega) (by omega) (by omega) (by omega) (by omega) fun H6 s6=>?_
    have s06:=s5.and s6
    rw [g H6 s6,g' H6 s6,g3 H6 s6,g4 H6 s6]
    simp only [ldS_mk,ldI_mk,true_and]
    have hpr:=hp i j hij hl2
    rw [i64w (n:=row i j+row i j) (by omega) (by omega)]
    refine bc (fun h=>by omega) fun _=>?_
    rw [i64w (by omega) (by omega)]
    exact hX2 _ _ _ _ _ _ _ _ ⟨rfl,rfl,rfl,rfl,rfl,s06,s6.keep _ _ e5 fun h=>h,j+1,by omega,by omega,by omega⟩ (by omega)
  · refine Q11.j1_eq ?_
    unfold Q11.j1_t
    rw [i64w (by omega) (by omega)]
    exact hX _ _ _ _ _ _ _ ⟨rfl,rfl,rfl,rfl,s5,e5,i+1,by omega,by omega⟩ (by omega)
end
end Go.Mz
/-
  plain, of the laws of layer 18: duals are copied set by set, however many there are.
-/
namespace Go.Mz
section
variable {E:VP}
theorem rplain18 {yp:OA} {yn yc:Nat} {sp:OA} {sn sc:Nat} {Y:Nat→Int} {z:Nat→Int} {sl:Nat→Sl} {nd:Nat→Nat→Int} {H:Hp} {K:OA→Nat→Nat→OA→Nat→Nat→Hp→Prop}
    (hd:DualR H yp yn sp sn Y z sl nd) (hsz:sn*32≤reachBytes)
    (kk:∀H' sp' sc',Step (fun _=>False) H H'→DualR H' yp yn sp' sn Y z sl nd→K yp yn yc sp' sn sc' H'):Q7.call yp yn yc sp sn sc E H K:=by
  have hsn:sn≤4398046511104:=by unfold reachBytes at hsz; omega
  refine Q7.of (Q7.run_eq ?_)
  unfold Q7.run_t
  refine nwk fun b1 H1 hb1 e1 s1=>?_
  refine nwk fun b2 H2 hb2 e2 s2=>?_
  have e12:=s2.keep _ _ e1 fun h=>h
  simp only [get_at e12,gZ,gS,ldI_mk,ldS_mk]
  refine nwst rfl rfl fun b3 H3 hb3 e3 s3=>?_
  have e13:=s3.keep _ _ e12 fun h=>h
  have e23:=s3.keep _ _ e2 fun h=>h
  simp only [get_at e13,gZ,gS,ldI_mk,ldS_mk]
  have s03:=(s1.and s2).and s3
  have f2:H b2=none:=s1.mono _ hb2
  have f3:H b3=none:=(s1.and s2).mono _ hb3
  have ne23:b2≠b3:=fun h=>by rw [h,hb3] at e2; cases e2
  refine Q7.l1_rule (fun t2 o3 tp tn tc t11 t12 H'=>b2=t2∧b3=o3∧sp=tp∧sn=tn∧t11=sn∧∃i:Nat,t12=i∧i≤sn∧Step (fun _=>False) H H'∧H' b2=some ⟨[.slice none 0 0,.slice none 0 0],41⟩∧
      ∃ap ac,H' b3=some ⟨[.slice yp yn yc,.slice ap i ac],41⟩∧Row H' ap i ac (fun j=>(sl j,z j))∧∀y,fpS ap y→H y=none∧y≠b2∧y≠b3)
    (fun t2 o3 tp tn tc t11 t12 H'=>sn-t12.toNat) ?_ ⟨rfl,rfl,rfl,rfl,rfl,0,rfl,by omega,s03,e23,none,0,e3,Row.nil,fun y hy=>(by rw [fpS_none] at hy; exact hy.elim)⟩
  clear e3 e13 e23 s3 hb3 e12 e2 hb2 s2 e1 hb1 s1 s03
  rintro t2 o3 tp tn tc t11 t12 H4 ⟨rfl,rfl,rfl,rfl,rfl,i,rfl,hi,s4,g2,ap,ac,g3,ra,ha⟩ X hX
  refine Q7.b1_eq ?_
  unfold Q7.b1_t
  refine bc (fun hlt=>?_) fun hge=>?_
  · refine (hd.keep s4).s.slz (by omega) (by omega) ?_
    simp only [tN]
    refine nwst rfl rfl fun b5 H5 hb5 e5 s5=>?_
    have g25:=s5.keep _ _ g2 fun h=>h
    have g35:=s5.keep _ _ g3 fun h=>h
    simp only [get_at e5,get_at g35,gZ,gS,ldI_mk,ldS_mk]
    have ra5:=ra.keep s5 fun _ _ h=>h
    refine ra5.appW (α:=Sl × Int) (sl i,z i) rfl (by omega) (by omega) fun ap' ac' H6 r6 s6 f6=>?_
    have n2:¬fpS ap b2:=fun h=>(ha _ h).2.1 rfl
    have n3:¬fpS ap b3:=fun h=>(ha _ h).2.2 rfl
    have g26:=s6.keep _ _ g25 n2
    have g36:=s6.keep _ _ g35 n3
    have s46:=(s4.and s5).own s6 fun y hy=>(ha y hy).1
    refine stp g36 (by simp) rfl fun H7 e7 s7=>?_
    replace e7:H7 b3=some ⟨[.slice yp yn yc,.slice ap' (i+1) ac'],41⟩:=e7
    have hnew:∀y,fpS ap' y→H y=none∧y≠b2∧y≠b3:=fun y hy=>by
      rcases f6 y hy with h | h
      · exact ha y h
      · refine ⟨(s4.and s5).mono _ h,fun e=>?_,fun e=>?_⟩
        · rw [e,g25] at h; cases h
        · rw [e,g35] at h; cases h
    rw [i64w (by omega) (by omega)]
    refine hX _ _ _ _ _ _ _ _ ⟨rfl,rfl,rfl,rfl,rfl,i+1,by omega,by omega,s46.own s7 fun y hy=>hy▸f3,s7.keep _ _ g26 ne23,ap',ac',e7,?_,hnew⟩ (by omega)
    refine (r6.congr fun j hj=>?_).keep s7 fun y hy h=>(hnew y hy).2.2 h
    by_cases ej:j=i
    · subst ej; rw [upf_same]
    · rw [upf_ne ej]
  · have:i=sn:=by omega
    subst this
    refine Q7.j1_eq ?_
    unfold Q7.j1_t
    simp only [get_at g3,gZ,gS,ldI_mk,ldS_mk]
    refine stk g2 rfl rfl fun H5 e5 s5=>?_
    simp only [get_at e5,gZ,gS,ldI_mk,ldS_mk]
    have s05:=s4.own s5 fun y hy=>hy▸f2
    have h5:=hd.keep s05
    exact kk _ _ _ s05 ⟨h5.y,(ra.keep s5 fun y hy h=>(ha y hy).2.1 h).rdr,h5.nd⟩
end
end Go.Mz
