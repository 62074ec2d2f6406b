/-
  Joined: DeK, RfK, KpA.
-/
import Derived.Test.YtndgjfbibkdokaaPkA08
import Derived.Test.YtndgjfbibkdokaaMzZ
import Derived.Test.YtndgjfbibkdokaaGLFK
import Derived.Test.YtndgjfbibkdokaaPkM
import Derived.Test.YtndgjfbibkdokaaGRfc
set_option linter.unusedSimpArgs false
set_option linter.unusedVariables false
/-
  PerfectKeeps, its loops walked: the first answer is written over; a table is copied, and compared.
-/
namespace Go.Mz
structure FstR (H H':Hp) (ap:OA) (an ac:Nat) (a:Nat→Int) (yp:OA) (yn yc:Nat) (Y:Nat→Int) (sp:OA) (sn sc:Nat) (z:Nat→Int) (S:Nat→Sl) (F:Nat→Nat→Int):Prop where
  ra:Row H' ap an ac a
  ry:Row H' yp yn yc Y
  rs:Row H' sp sn sc (fun j=>((S j,z j):Sl × Int))
  re:∀j,j<sn→Row H' (S j).p (S j).n (S j).c (F j)
  fa:∀y,fpS ap y→H y=none
  fy:∀y,fpS yp y→H y=none
  fs:∀y,fpS sp y→H y=none
  fe:∀j,j<sn→∀y,fpS (S j).p y→H y=none
  aw:∀y,fpS ap y→¬fpS yp y∧¬fpS sp y∧∀j,j<sn→¬fpS (S j).p y
  ys:∀y,fpS yp y→¬fpS sp y∧∀j,j<sn→¬fpS (S j).p y
  es:∀j,j<sn→∀y,fpS (S j).p y→¬fpS sp y
  dj:∀i j,i<j→j<sn→∀y,fpS (S j).p y→¬fpS (S i).p y
section
variable {E:VP} {K:Bool→Hp→Prop} {H:Hp} {dp:OA} {dn dc g2 x7 y12:Nat} {e10 c14:Int} {bp:OA} {bn bk:Nat}
theorem pk1 {ap:OA} {an ac:Nat} {a:Nat→Int} (ra:Row H ap an ac a)
    (kk:∀H',Step (fpS ap) H H'→Q0.j1 dp dn dc g2 x7 e10 bp bn bk y12 c14 E H' K) :
    Q0.l1 dp dn dc g2 ap an ac x7 e10 bp bn bk y12 c14 (an:Int) 0 E H K:=by
  have hle:=ra.le; have hcap:=ra.cap
  refine Q0.l1_rule (fun d1 d2 d3 v2 q1 q2 q3 v7 v10 w1 w2 w3 v12 v14 t79 t80 H'=>dp=d1∧dn=d2∧dc=d3∧g2=v2∧ap=q1∧an=q2∧ac=q3∧x7=v7∧e10=v10∧bp=w1∧bn=w2∧bk=w3∧y12=v12∧c14=v14∧(an:Int)=t79∧∃(i:Nat) (f:Nat→Int),t80=i∧i≤an∧Step (fpS ap) H H'∧Row H' ap an ac f)
    (fun _ _ _ _ _ _ _ _ _ _ _ _ _ _ _ t80 _=>an-t80.toNat) ?_ ⟨rfl,rfl,rfl,rfl,rfl,rfl,rfl,rfl,rfl,rfl,rfl,rfl,rfl,rfl,rfl,0,a,rfl,Nat.zero_le _,.refl,ra⟩
  rintro d1 d2 d3 v2 q1 q2 q3 v7 v10 w1 w2 w3 v12 v14 t79 t80 H1 ⟨rfl,rfl,rfl,rfl,rfl,rfl,rfl,rfl,rfl,rfl,rfl,rfl,rfl,rfl,rfl,i,f,rfl,hi,s1,r1⟩ X hX
  refine Q0.b1_eq ?_
  unfold Q0.b1_t
  refine bc (fun hl=>?_) fun hge=>kk H1 s1
  refine r1.stI (by omega) (by omega) _ fun H2 r2 s2=>?_
  rw [i64w (by omega) (by omega)]
  exact hX _ _ _ _ _ _ _ _ _ _ _ _ _ _ _ _ _ ⟨rfl,rfl,rfl,rfl,rfl,rfl,rfl,rfl,rfl,rfl,rfl,rfl,rfl,rfl,rfl,i+1,_,by omega,by omega,s1.trans s2 fun _ h=>.inl h,r2⟩ (by omega)
theorem pk2 {yp sp:OA} {yn yc sn sc:Nat} {Y:Nat→Int} (hx:H x7=some ⟨[.slice yp yn yc,.slice sp sn sc],30⟩) (ry:Row H yp yn yc Y) (nx:¬fpS yp x7)
    (kk:∀H',Step (fpS yp) H H'→Q0.j2 dp dn dc g2 x7 e10 bp bn bk y12 c14 E H' K) :
    Q0.l2 dp dn dc g2 x7 e10 bp bn bk y12 c14 (yn:Int) 0 E H K:=by
  have hle:=ry.le; have hcap:=ry.cap
  refine Q0.l2_rule (fun d1 d2 d3 v2 v7 v10 w1 w2 w3 v12 v14 t89 t90 H'=>dp=d1∧dn=d2∧dc=d3∧g2=v2∧x7=v7∧e10=v10∧bp=w1∧bn=w2∧bk=w3∧y12=v12∧c14=v14∧(yn:Int)=t89∧∃(i:Nat) (f:Nat→Int),t90=i∧i≤yn∧Step (fpS yp) H H'∧Row H' yp yn yc f)
    (fun _ _ _ _ _ _ _ _ _ _ _ _ t90 _=>yn-t90.toNat) ?_ ⟨rfl,rfl,rfl,rfl,rfl,rfl,rfl,rfl,rfl,rfl,rfl,rfl,0,Y,rfl,Nat.zero_le _,.refl,ry⟩
  rintro d1 d2 d3 v2 v7 v10 w1 w2 w3 v12 v14 t89 t90 H1 ⟨rfl,rfl,rfl,rfl,rfl,rfl,rfl,rfl,rfl,rfl,rfl,rfl,i,f,rfl,hi,s1,r1⟩ X hX
  have e1:=s1.keep _ _ hx nx
  refine Q0.b2_eq ?_
  unfold Q0.b2_t
  refine bc (fun hl=>?_) fun hge=>kk H1 s1
  simp only [get_at e1,gZ,gS,ldI_mk,ldS_mk]
  refine r1.stI (by omega) (by omega) _ fun H2 r2 s2=>?_
  rw [i64w (by omega) (by omega)]
  exact hX _ _ _ _ _ _ _ _ _ _ _ _ _ _ ⟨rfl,rfl,rfl,rfl,rfl,rfl,rfl,rfl,rfl,rfl,rfl,rfl,i+1,_,by omega,by omega,s1.trans s2 fun _ h=>.inl h,r2⟩ (by omega)
theorem pk3 {yp sp:OA} {yn yc sn sc:Nat} {z:Nat→Int} {S:Nat→Sl} {W:Nat→Prop} (hx:H x7=some ⟨[.slice yp yn yc,.slice sp sn sc],30⟩) (rs:Row H sp sn sc (fun j=>((S j,z j):Sl × Int)))
    (re:∀j,j<sn→∃f:Nat→Int,Row H (S j).p (S j).n (S j).c f) (dj:∀i j,i<j→j<sn→∀y,fpS (S j).p y→¬fpS (S i).p y) (hW:∀j,j<sn→∀y,fpS (S j).p y→W y) (nx:¬W x7) (ns:∀y,fpS sp y→¬W y)
    (kk:∀H',Step W H H'→Q0.j4 dp dn dc g2 e10 bp bn bk y12 c14 E H' K) :
    Q0.l3 dp dn dc g2 x7 e10 bp bn bk y12 c14 (sn:Int) 0 E H K:=by
  have hle:=rs.le; have hcap:=rs.cap
  refine Q0.l3_rule (fun d1 d2 d3 v2 v7 v10 w1 w2 w3 v12 v14 t100 t101 H'=>dp=d1∧dn=d2∧dc=d3∧g2=v2∧x7=v7∧e10=v10∧bp=w1∧bn=w2∧bk=w3∧y12=v12∧c14=v14∧(sn:Int)=t100∧∃i:Nat,t101=i∧i≤sn∧Step W H H'∧∀j,i≤j→j<sn→∃f:Nat→Int,Row H' (S j).p (S j).n (S j).c f)
    (fun _ _ _ _ _ _ _ _ _ _ _ _ t101 _=>sn-t101.toNat) ?_ ⟨rfl,rfl,rfl,rfl,rfl,rfl,rfl,rfl,rfl,rfl,rfl,rfl,0,rfl,Nat.zero_le _,.refl,fun j _ hj=>re j hj⟩
  rintro d1 d2 d3 v2 v7 v10 w1 w2 w3 v12 v14 t100 t101 H1 ⟨rfl,rfl,rfl,rfl,rfl,rfl,rfl,rfl,rfl,rfl,rfl,rfl,i,rfl,hi,s1,re1⟩ X hX
  have e1:=s1.keep _ _ hx nx
  have rs1:=rs.keep s1 ns
  refine Q0.b3_eq ?_
  unfold Q0.b3_t
  refine bc (fun hl=>?_) fun hge=>kk H1 s1
  have hl:i<sn:=by omega
  simp only [get_at e1,gZ,gS,ldI_mk,ldS_mk]
  have slx:∀{H2:Hp},Step W H H2→∀{G:OA→Nat→Nat→Prop},G (S i).p (S i).n (S i).c→Mz.ix sp sn (i:Int) 2 fun b o=>ldS (H2.get b o) G:=fun {H2} s {G} k=>by
    refine (rs.keep s ns).ix (α:=Sl × Int) (by omega) (by omega) fun b o _ hg=>?_
    have g0:=hg 0 (by decide)
    rw [tN] at g0
    simp only [El.enc,Nat.add_zero] at g0
    simp at g0
    rw [g0]
    exact k
  refine slx s1 ?_
  obtain ⟨f0,r0⟩:=re1 i (Nat.le_refl _) hl
  have hle2:=r0.le; have hcap2:=r0.cap
  refine Q0.l4_rule (fun d1 d2 d3 v2 v7 v10 w1 w2 w3 v12 v14 i18 t100 t101 t110 t111 H'=>dp=d1∧dn=d2∧dc=d3∧g2=v2∧x7=v7∧e10=v10∧bp=w1∧bn=w2∧bk=w3∧y12=v12∧c14=v14∧(i:Int)=i18∧(sn:Int)=t100∧(i:Int)=t101∧((S i).n:Int)=t110∧∃k:Nat,t111=k∧k≤(S i).n∧Step (fpS (S i).p) H1 H'∧(∃f:Nat→Int,Row H' (S i).p (S i).n (S i).c f))
    (fun _ _ _ _ _ _ _ _ _ _ _ _ _ _ _ t111 _=>(S i).n-t111.toNat) ?_ ⟨rfl,rfl,rfl,rfl,rfl,rfl,rfl,rfl,rfl,rfl,rfl,rfl,rfl,rfl,rfl,0,rfl,Nat.zero_le _,.refl,f0,r0⟩
  rintro d1 d2 d3 v2 v7 v10 w1 w2 w3 v12 v14 i18 t100 t101 t110 t111 H2 ⟨rfl,rfl,rfl,rfl,rfl,rfl,rfl,rfl,rfl,rfl,rfl,rfl,rfl,rfl,rfl,k,rfl,hk,s2,f,r2⟩ X2 hX2
  have s02:Step W H H2:=s1.trans s2 fun y hy=>.inl (hW i hl y hy)
  have e2:=s02.keep _ _ hx nx
  refine Q0.b4_eq ?_
  unfold Q0.b4_t
  refine bc (fun hl2=>?_) fun hge2=>?_
  · simp only [get_at e2,gZ,gS,ldI_mk,ldS_mk]
    refine slx s02 ?_
    refine r2.stI (by omega) (by omega) _ fun H3 r3 s3=>?_
    rw [i64w (by omega) (by omega)]
    exact hX2 _ _ _ _ _ _ _ _ _ _ _ _ _ _ _ _ _ ⟨rfl,rfl,rfl,rfl,rfl,rfl,rfl,rfl,rfl,rfl,rfl,rfl,rfl,rfl,rfl,k+1,by omega,by omega,s2.trans s3 fun _ h=>.inl h,_,r3⟩ (by omega)
  · refine Q0.j3_eq ?_
    unfold Q0.j3_t
    rw [i64w (by omega) (by omega)]
    refine hX _ _ _ _ _ _ _ _ _ _ _ _ _ _ ⟨rfl,rfl,rfl,rfl,rfl,rfl,rfl,rfl,rfl,rfl,rfl,rfl,i+1,by omega,by omega,s02,fun j hj hj2=>?_⟩ (by omega)
    obtain ⟨f3,r3⟩:=re1 j (by omega) hj2
    exact ⟨f3,r3.keep s2 fun y hy hh=>dj i j (by omega) hj2 y hy hh⟩
theorem pk5 {dl:Nat→Sl} {row:Nat→Nat→Int} (hd:TabR H dp dn dl row) (hdn:dn≤5864062014805) (hn:∀i,i<dn→(dl i).n≤17592186044416)
    (kk:∀H' rp rc sl,Step (fun _=>False) H H'→TabR H' rp dn sl row→(∀i,i<dn→(sl i).n=(dl i).n)→Q0.j5 dp dn dc g2 e10 bp bn bk y12 c14 rp dn rc E H' K) :
    Q0.l5 dp dn dc g2 e10 bp bn bk y12 c14 none 0 0 dp dn dc (dn:Int) 0 E H K:=by
  refine Q0.l5_rule (fun d1 d2 d3 v2 v10 w1 w2 w3 v12 v14 rp rn rc t1 t2 t3 t125 t126 H'=>dp=d1∧dn=d2∧dc=d3∧g2=v2∧e10=v10∧bp=w1∧bn=w2∧bk=w3∧y12=v12∧c14=v14∧dp=t1∧dn=t2∧dc=t3∧(dn:Int)=t125∧∃(i:Nat) (sl:Nat→Sl),t126=i∧rn=i∧i≤dn∧Step (fun _=>False) H H'∧Row H' rp i rc sl∧(∀y,fpS rp y→H y=none)∧∀j,j<i→(sl j).n=(dl j).n∧Rdr H' (sl j).p (dl j).n (row j)∧(0<(dl j).n→∀y,fpS (sl j).p y→¬fpS rp y))
    (fun _ _ _ _ _ _ _ _ _ _ _ _ _ _ _ _ _ t126 _=>dn-t126.toNat) ?_ ⟨rfl,rfl,rfl,rfl,rfl,rfl,rfl,rfl,rfl,rfl,rfl,rfl,rfl,rfl,0,fun _=>⟨none,0,0⟩,rfl,rfl,Nat.zero_le _,.refl,.nil,fun y hy=>by rw [fpS_none] at hy; exact hy.elim,fun j hj=>by omega⟩
  rintro d1 d2 d3 v2 v10 w1 w2 w3 v12 v14 rp rn rc t1 t2 t3 t125 t126 H1 ⟨rfl,rfl,rfl,rfl,rfl,rfl,rfl,rfl,rfl,rfl,rfl,rfl,rfl,rfl,i,sl,rfl,rfl,hi,s1,rr,fr,hsl⟩ X hX
  refine Q0.b5_eq ?_
  unfold Q0.b5_t
  have hd1:=hd.keep s1
  refine bc (fun hl=>?_) fun hge=>?_
  · have hl:rn<dn:=by omega
    have hn1:=hn rn hl
    refine hd1.d.ixS (by omega) (by omega) ?_
    rw [tN]
    refine nwk fun b2 H2 hb2 e2 s2=>?_
    have s02:=s1.and s2
    refine Rdr.dupE (α:=Int) ((hd.keep s02).r rn hl).1 e2 rfl rfl (by omega) (by omega) fun p3 c3 H3 r3 s3 f3=>?_
    have f3n:∀y,fpS p3 y→H1 y=none:=fun y hy=>(f3 y hy).elim (fun h=>h▸hb2) (s2.mono y)
    have s13:Step (fun _=>False) H1 H3:=s2.own s3 fun y hy=>hy▸hb2
    have rr3:=rr.keep s13 fun _ _ h=>h
    refine Row.appW (α:=Sl) rr3 ⟨p3,(dl rn).n,c3⟩ rfl (by omega) (by omega) fun p4 c4 H4 r4 s4 f4=>?_
    rw [i64w (by omega) (by omega)]
    have f4n:∀y,fpS p4 y→H y=none:=fun y hy=>(f4 y hy).elim (fr y) fun h=>(s1.and s13).mono y h
    refine hX _ _ _ _ _ _ _ _ _ _ _ _ _ _ _ _ _ _ _ ⟨rfl,rfl,rfl,rfl,rfl,rfl,rfl,rfl,rfl,rfl,rfl,rfl,rfl,rfl,rn+1,_,by omega,rfl,by omega,(s1.and s13).own s4 fr,r4,f4n,fun j hj=>?_⟩ (by omega)
    by_cases e:j=rn
    · rw [e,upf_same]
      exact ⟨rfl,(r3.keep s4 fun y hy hh=>rr.live hh (f3n y hy)).rdr,fun _ y hy hh=>(f4 y hh).elim (fun h=>rr.live h (f3n y hy)) fun h=>r3.live hy h⟩
    · rw [upf_ne e]
      obtain ⟨a1,a2,a3⟩:=hsl j (by omega)
      have a2':=a2.keep s13 fun _ _ _ h=>h
      refine ⟨a1,?_,fun h0 y hy hh=>(f4 y hh).elim (a3 h0 y hy) fun h=>a2'.live hy h0 h⟩
      rcases Nat.eq_zero_or_pos (dl j).n with h0 | h0
      · exact fun i hi=>by omega
      · exact a2'.keep s4 fun y hy _ hh=>a3 h0 y hy hh
  · have:rn=dn:=by omega
    subst this
    exact kk H1 rp rc sl s1 ⟨rr.rdr,fun j hj=>by
      obtain ⟨a1,a2,_⟩:=hsl j hj
      rw [a1]
      exact ⟨a2,(hd.r j hj).2⟩⟩ fun j hj=>(hsl j hj).1
theorem pk6 {rp:OA} {rc:Nat} {dl sl:Nat→Sl} {row:Nat→Nat→Int} (hd:TabR H dp dn dl row) (hr:TabR H rp dn sl row) (hdn:dn<2 ^ 62) (hn:∀i,i<dn→(sl i).n=(dl i).n)
    (kk:Q0.j7 g2 e10 bp bn bk y12 c14 E H K) :
    Q0.l6 g2 e10 bp bn bk y12 c14 rp dn rc dp dn dc (dn:Int) 0 E H K:=by
  refine Q0.l6_rule (fun v2 v10 w1 w2 w3 v12 v14 q1 q2 q3 t1 t2 t3 t140 t141 H'=>g2=v2∧e10=v10∧bp=w1∧bn=w2∧bk=w3∧y12=v12∧c14=v14∧rp=q1∧dn=q2∧rc=q3∧dp=t1∧dn=t2∧dc=t3∧(dn:Int)=t140∧H=H'∧∃i:Nat,t141=i∧i≤dn)
    (fun _ _ _ _ _ _ _ _ _ _ _ _ _ _ t141 _=>dn-t141.toNat) ?_ ⟨rfl,rfl,rfl,rfl,rfl,rfl,rfl,rfl,rfl,rfl,rfl,rfl,rfl,rfl,rfl,0,rfl,Nat.zero_le _⟩
  rintro v2 v10 w1 w2 w3 v12 v14 q1 q2 q3 t1 t2 t3 t140 t141 H1 ⟨rfl,rfl,rfl,rfl,rfl,rfl,rfl,rfl,rfl,rfl,rfl,rfl,rfl,rfl,rfl,i,rfl,hi⟩ X hX
  refine Q0.b6_eq ?_
  unfold Q0.b6_t
  refine bc (fun hl=>?_) fun hge=>kk
  have hl:i<dn:=by omega
  refine hd.d.ixS (by omega) (by omega) ?_
  rw [tN]
  have hrow:=hd.r i hl
  have hrow2:=hr.r i hl
  rw [hn i hl] at hrow2
  refine Q0.l7_rule (fun v2 v10 w1 w2 w3 v12 v14 q1 q2 q3 v23 u1 u2 u3 t1 t2 t3 t140 t141 t147 t148 H'=>g2=v2∧e10=v10∧bp=w1∧bn=w2∧bk=w3∧y12=v12∧c14=v14∧rp=q1∧dn=q2∧rc=q3∧(i:Int)=v23∧(dl i).p=u1∧(dl i).n=u2∧(dl i).c=u3∧dp=t1∧dn=t2∧dc=t3∧(dn:Int)=t140∧(i:Int)=t141∧((dl i).n:Int)=t147∧H=H'∧∃j:Nat,t148=j∧j≤(dl i).n)
    (fun _ _ _ _ _ _ _ _ _ _ _ _ _ _ _ _ _ _ _ _ t148 _=>(dl i).n-t148.toNat) ?_ ⟨rfl,rfl,rfl,rfl,rfl,rfl,rfl,rfl,rfl,rfl,rfl,rfl,rfl,rfl,rfl,rfl,rfl,rfl,rfl,rfl,rfl,0,rfl,Nat.zero_le _⟩
  rintro v2 v10 w1 w2 w3 v12 v14 q1 q2 q3 v23 u1 u2 u3 t1 t2 t3 t140 t141 t147 t148 H2 ⟨rfl,rfl,rfl,rfl,rfl,rfl,rfl,rfl,rfl,rfl,rfl,rfl,rfl,rfl,rfl,rfl,rfl,rfl,rfl,rfl,rfl,j,rfl,hj⟩ X2 hX2
  refine Q0.b7_eq ?_
  unfold Q0.b7_t
  refine bc (fun hl2=>?_) fun hge2=>?_
  · refine hr.d.ixS (by omega) (by omega) ?_
    rw [tN,hn i hl]
    refine hrow2.1.ixI (by omega) (by omega) ?_
    refine hrow.1.ixI (by omega) (by omega) ?_
    refine bcn (fun h=>(h rfl).elim) fun _=>?_
    have:=hrow.2
    rw [i64w (by omega) (by omega)]
    exact hX2 _ _ _ _ _ _ _ _ _ _ _ _ _ _ _ _ _ _ _ _ _ _ ⟨rfl,rfl,rfl,rfl,rfl,rfl,rfl,rfl,rfl,rfl,rfl,rfl,rfl,rfl,rfl,rfl,rfl,rfl,rfl,rfl,rfl,j+1,by omega,by omega⟩ (by omega)
  · refine Q0.j6_eq ?_
    unfold Q0.j6_t
    rw [i64w (by omega) (by omega)]
    exact hX _ _ _ _ _ _ _ _ _ _ _ _ _ _ _ _ ⟨rfl,rfl,rfl,rfl,rfl,rfl,rfl,rfl,rfl,rfl,rfl,rfl,rfl,rfl,rfl,i+1,by omega,by omega⟩ (by omega)
end
end Go.Mz
/-
  The document's functions of layer 3, walked: Copy and Same.
-/
namespace Go.Mz
section
variable {E:VP}
theorem rsame3 {N:Int} {p p':OA} {n c c':Nat} {e:Nat→Edg} {H:Hp} {K:Bool→Hp→Prop} (he:Rdr H p n e) (he':Rdr H p' n e) (hn:n<2 ^ 62)
    (kk:∀H',Step (fun _=>False) H H'→K true H'):Q9.call N p n c N p' n c' E H K:=by
  refine Q9.of (Q9.run_eq ?_)
  unfold Q9.run_t
  refine nwk fun b1 H1 hb1 e1 s1=>?_
  refine nwk fun b2 H2 hb2 e2 s2=>?_
  have e12:=s2.keep _ _ e1 fun h=>h
  have s02:=s1.and s2
  simp only [get_at e12,get_at e2,gZ,gS,ldI_mk,ldS_mk]
  refine bcn (fun h=>(h trivial).elim) fun _=>?_
  try simp only [get_at e12,get_at e2,gZ,gS,ldI_mk,ldS_mk]
  refine bcn (fun h=>(h trivial).elim) fun _=>?_
  have f1:=he.keep s02 fun _ _ _ h=>h
  have f2:=he'.keep s02 fun _ _ _ h=>h
  refine Q9.l1_rule (fun a2 b3 i5 H'=>b1=a2∧b2=b3∧H2=H'∧∃i:Nat,i5=i∧i≤n) (fun a2 b3 i5 H'=>n-i5.toNat) ?_ ⟨rfl,rfl,rfl,0,rfl,by omega⟩
  rintro a2 b3 i5 H' ⟨rfl,rfl,rfl,i,rfl,hi⟩ X hX
  refine Q9.b1_eq ?_
  unfold Q9.b1_t
  simp only [get_at e12,get_at e2,gZ,gS,ldI_mk,ldS_mk]
  refine bc (fun hlt=>?_) fun hge=>kk _ s02
  refine f1.edge (by omega) (by omega) ?_
  refine f2.edge (by omega) (by omega) ?_
  simp only [tN,decide_true,Bool.and_self,Bool.not_true]
  refine bcb (fun h=>by cases h) fun _=>?_
  rw [i64w (by omega) (by omega)]
  exact hX _ _ _ _ ⟨rfl,rfl,rfl,i+1,by omega,by omega⟩ (by omega)
theorem rcopy {N:Int} {p:OA} {n c:Nat} {e:Nat→Edg} {H:Hp} {K:Int→OA→Nat→Nat→Hp→Prop} (he:Rdr H p n e) (hn:n≤4398046511104)
    (kk:∀H' p' c' e',Step (fun _=>False) H H'→Row H' p' n c' e'→(∀i,i<n→e' i=e i)→(∀y,fpS p' y→H y=none)→K N p' n c' H'):Q7.call N p n c E H K:=by
  refine Q7.of (Q7.run_eq ?_)
  unfold Q7.run_t
  refine nwk fun b1 H1 hb1 e1 s1=>?_
  refine nwk fun b2 H2 hb2 e2 s2=>?_
  have e12:=s2.keep _ _ e1 fun h=>h
  simp only [get_at e12,gZ,gS,ldI_mk,ldS_mk]
  refine nwst rfl rfl fun b3 H4 hb3 e3 s4=>?_
  have e14:=s4.keep _ _ e12 fun h=>h
  have e24:=s4.keep _ _ e2 fun h=>h
  have s04:=(s1.and s2).and s4
  have f2:H b2=none:=s1.mono _ hb2
  have f3:H b3=none:=(s1.and s2).mono _ hb3
  have d12:b2≠b1:=fun h=>by rw [h,e1] at hb2; cases hb2
  have d13:b3≠b1:=fun h=>by rw [h,e12] at hb3; cases hb3
  have d23:b3≠b2:=fun h=>by rw [h,e2] at hb3; cases hb3
  refine Q7.l1_rule (fun g1 t2 out3 i4 H'=>g1=b1∧t2=b2∧out3=b3∧∃(i:Nat) (p':OA) (c':Nat) (e':Nat→Edg),i4=i∧i≤n∧Step (fun _=>False) H H'∧H' b1=some ⟨[.int .i64 N,.slice p n c],24⟩∧H' b2=some ⟨[.int .i64 0,.slice none 0 0],24⟩∧H' b3=some ⟨[.int .i64 N,.slice p' i c'],24⟩∧
      Row H' p' i c' e'∧(∀j,j<i→e' j=e j)∧(∀y,fpS p' y→H y=none)∧¬fpS p' b1∧¬fpS p' b2∧¬fpS p' b3)
    (fun g1 t2 out3 i4 H'=>n-i4.toNat) ?_ ⟨rfl,rfl,rfl,0,none,0,fun _=>(0,0,0,0),rfl,Nat.zero_le _,s04,e14,e24,e3,Row.nil,fun j hj=>by omega,fun y h=>by rw [fpS_none] at h; exact h.elim,fun h=>by rw [fpS_none] at h; exact h.elim,fun h=>by rw [fpS_none] at h; exact h.elim,fun h=>by rw [fpS_none] at h; exact h.elim⟩
  rintro g1 t2 out3 i4 H5 ⟨rfl,rfl,rfl,i,p',c',e',rfl,hi,s5,q1,q2,q3,r5,hee,ff,n1,n2,n3⟩ X hX
  refine Q7.b1_eq ?_
  unfold Q7.b1_t
  simp only [get_at q1,gZ,gS,ldI_mk,ldS_mk]
  refine bc (fun hlt=>?_) fun hge=>?_
  · simp only [get_at q3,get_at q1,gZ,gS,ldI_mk,ldS_mk]
    refine (he.keep s5 fun _ _ _ h=>h).edge (by omega) (by omega) ?_
    rw [tN]
    refine Row.appW (α:=Edg) r5 (e i) rfl (by omega) (by omega) fun p6 c6 H6 r6 s6 f6=>?_
    have live5:∀{b:Nat} {x:Blk},H5 b=some x→H5 b≠none:=fun h h'=>by rw [h] at h'; cases h'
    have q16:=s6.keep _ _ q1 n1
    have q26:=s6.keep _ _ q2 n2
    have q36:=s6.keep _ _ q3 n3
    have m1:¬fpS p6 g1:=fun h=>(f6 _ h).elim n1 (live5 q1)
    have m2:¬fpS p6 t2:=fun h=>(f6 _ h).elim n2 (live5 q2)
    have m3:¬fpS p6 out3:=fun h=>(f6 _ h).elim n3 (live5 q3)
    refine stp q36 (by simp) rfl fun H7 q37 s7=>?_
    replace q37:H7 out3=some ⟨[.int .i64 N,.slice p6 (i+1) c6],24⟩:=q37
    rw [i64w (by omega) (by omega)]
    refine hX _ _ _ _ _ ⟨rfl,rfl,rfl,i+1,p6,c6,upf e' i (e i),by omega,by omega,(s5.own s6 ff).own s7 (fun y hy=>hy▸f3),s7.keep _ _ q16 (fun h=>d13 h.symm),s7.keep _ _ q26 (fun h=>d23 h.symm),q37,r6.keep s7 (fun y hy h=>m3 (h▸hy)),fun j hj=>?_,fun y hy=>?_,m1,m2,m3⟩ (by omega)
    · by_cases ej:j=i
      · subst ej; rw [upf_same]
      · rw [upf_ne ej]; exact hee j (by omega)
    · rcases f6 y hy with h | h
      · exact ff y h
      · exact s5.mono y h
  · have hin:i=n:=by omega
    subst hin
    refine Q7.j1_eq ?_
    unfold Q7.j1_t
    simp only [get_at q3,gZ,gS,ldI_mk,ldS_mk]
    refine stk q2 rfl rfl fun H6 q6 s6=>?_
    simp only [get_at q6,gZ,gS,ldI_mk,ldS_mk]
    exact kk H6 p' c' e' (s5.own s6 fun y hy=>hy▸f2) (r5.keep s6 fun y hy h=>n2 (h▸hy)) hee ff
end
end Go.Mz
/-
  What the statements on keeping what is handed in do first: a copy of the graph with one more edge behind its own.
-/
namespace Go.Mz
theorem Rdr.edgeQ {H:Hp} {p:OA} {n:Nat} {f:Nat→Edg} (h:Rdr H p n f) {i:Int} (h0:0≤i) (h1:i<(n:Int)) {G:Int→Prop}
    (k:G (f i.toNat).cp):Mz.ix p n i 4 fun b o=>ldI .i64 (H.get b (o+2)) G:=by
  refine h.ix (α:=Edg) h0 h1 fun b o _ hg=>?_
  rw [(Rdr.cells4 hg).2.2.1]
  exact k
section
variable {E:VP}
theorem kmine {N:Int} {ep:OA} {n ec b1:Nat} {e:Nat→Edg} {H:Hp} {X:Nat→Hp→Prop} (he:Rdr H ep n e) (hn:n≤4398046511103) (e1:H b1=some ⟨[.int .i64 N,.slice ep n ec],24⟩)
    (k:∀b2 H' p c e',Step (fun _=>False) H H'→H' b2=some ⟨[.int .i64 N,.slice p n c],24⟩→H b2=none→Row H' p (n+1) c e'→(∀i,i<n→e' i=e i)→e' n=(0,0,-7,0)→(∀y,fpS p y→H y=none)→¬fpS p b2→X b2 H') :
    Q7.call N ep n ec E H fun r_2_Nodes r_2_Edgesp r_2_Edgesn r_2_Edgesc H_3=>
      nw H_3 ⟨[.int .i64 0,.slice none 0 0],24⟩ fun b_2 H_4=>
      stC H_4 b_2 0 [.int .i64 r_2_Nodes,.slice r_2_Edgesp r_2_Edgesn r_2_Edgesc] fun H_5=>
      ldS (H_5.get b_2 1) fun x_3p x_3n x_3c=>
      nw H_5 ⟨[.int .i64 0,.int .i64 0,.int .i64 (-7),.int .i64 0],49⟩ fun b_3 H_6=>
      ldS (H_6.get b1 1) fun x_4p x_4n x_4c=>
      appM 49 [.i .i64,.i .i64,.i .i64,.i .i64] 32 x_3p x_3n x_3c (some ⟨b_3,0,none⟩) 1 H_6 fun a_1p a_1n a_1c H_7=>
      (ldS (H_7.get b1 1) fun x_17p x_17n x_17c=>
      Value.slice x_17p x_17n x_17c=Value.slice x_4p x_4n x_4c)∧
      ((0:Int)≤(x_4n:Int)∧(x_4n:Int)≤(a_1c:Int))∧
      stC H_7 b_2 1 [.slice (slp a_1p 0 a_1c 4) ((x_4n:Int).toNat) a_1c] fun H_8=>X b_2 H_8:=by
  refine rcopy he (by omega) fun H3 p3 c3 e' s3 r3 hee f3=>?_
  refine nwst rfl rfl fun b2 H5 hb2 e2 s5=>?_
  have s35:=s3.and s5
  have e15:=s35.keep _ _ e1 fun h=>h
  have r5:=r3.keep s5 fun _ _ h=>h
  have fb2:H b2=none:=s3.mono _ hb2
  have d21:b2≠b1:=fun h=>by rw [h,s3.keep _ _ e1 fun h=>h] at hb2; cases hb2
  have n2:¬fpS p3 b2:=fun h=>r3.live h hb2
  have n1:¬fpS p3 b1:=fun h=>by have:=f3 _ h; rw [e1] at this; cases this
  simp only [get_at e2,gZ,gS,ldI_mk,ldS_mk]
  intro b3 hb3
  have st6:Step (fun _=>False) H5 (H5.upd b3 ⟨[.int .i64 0,.int .i64 0,.int .i64 (-7),.int .i64 0],49⟩):=Step.new hb3
  have e16:=st6.keep _ _ e15 fun h=>h
  simp only [get_at e16,gZ,gS,ldI_mk,ldS_mk]
  refine Row.appW (α:=Edg) r5 ((0,0,-7,0):Edg) rfl (by omega) (by omega) (fun p7 c7 H7 r7 s7 f7=>?_) b3 hb3
  have e17:=s7.keep _ _ e15 n1
  have e27:=s7.keep _ _ e2 n2
  have s07:=s35.own s7 f3
  have f07:∀y,fpS p7 y→H y=none:=fun y hy=>(f7 y hy).elim (f3 y) (s35.mono y)
  have m2:¬fpS p7 b2:=fun h=>(f7 _ h).elim n2 fun h=>by rw [e2] at h; cases h
  simp only [get_at e17,gZ,gS,ldI_mk,ldS_mk]
  have hle:=r7.le
  refine ⟨trivial,⟨by omega,by omega⟩,?_⟩
  rw [tN,r7.slp0]
  refine stp e27 (by simp) rfl fun H8 e28 s8=>?_
  replace e28:H8 b2=some ⟨[.int .i64 N,.slice p7 n c7],24⟩:=e28
  exact k b2 H8 p7 c7 _ (s07.own s8 fun y hy=>hy▸fb2) e28 fb2 (r7.keep s8 fun y hy h=>m2 (h▸hy)) (fun i hi=>by rw [upf_ne (by omega)]; exact hee i hi) upf_same f07 m2
theorem ksame {N:Int} {ep p:OA} {n ec c b1 b2:Nat} {e e':Nat→Edg} {H:Hp} {Y Z Z':Hp→Prop} (he:Rdr H ep n e) (hn:n≤4398046511103) (e1:H b1=some ⟨[.int .i64 N,.slice ep n ec],24⟩) (e2:H b2=some ⟨[.int .i64 N,.slice p n c],24⟩)
    (r:Row H p (n+1) c e') (hee:∀i,i<n→e' i=e i) (hl:e' n=(0,0,-7,0)) (k:∀H',Step (fun _=>False) H H'→Y H') :
    ldI .i64 (H.get b2 0) fun x_9=>
    ldS (H.get b2 1) fun x_10p x_10n x_10c=>
    ldI .i64 (H.get b1 0) fun x_11=>
    ldS (H.get b1 1) fun x_12p x_12n x_12c=>
    Q9.call x_9 x_10p x_10n x_10c x_11 x_12p x_12n x_12c E H fun r_9 H_11=>
    bcase ((!r_9)) (Z H_11)
    (ldS (H_11.get b2 1) fun x_13p x_13n x_13c=>
    ldS (H_11.get b1 1) fun x_14p x_14n x_14c=>
    ((0:Int)≤(IntKind.wrap .i64 ((x_14n:Int)+1))∧(IntKind.wrap .i64 ((x_14n:Int)+1))≤(x_13c:Int))∧
    ldS (H_11.get b1 1) fun x_15p x_15n x_15c=>
    ix (slp x_13p 0 x_13c 4) ((IntKind.wrap .i64 ((x_14n:Int)+1)).toNat) (x_15n:Int) 4 fun b_4 o_1=>
    ldI .i64 (H_11.get b_4 (o_1+2)) fun x_16=>
    bcase (!decide ((x_16:Int)=(-7))) (Z' H_11) (Y H_11)):=by
  simp only [get_at e1,get_at e2,gZ,gS,ldI_mk,ldS_mk]
  have g:Rdr H p n e:=((r.cut (m:=n) (by omega)).congr hee).rdr
  have hle:=r.le
  refine rsame3 g he (by omega) fun H20 s20=>?_
  have e1g:=s20.keep _ _ e1 fun h=>h
  have e2g:=s20.keep _ _ e2 fun h=>h
  refine bcb (fun h=>by cases h) fun _=>?_
  simp only [get_at e1g,get_at e2g,gZ,gS,ldI_mk,ldS_mk]
  have r20:=r.keep s20 fun _ _ h=>h
  rw [i64w (by omega) (by omega)]
  refine ⟨⟨by omega,by omega⟩,?_⟩
  rw [r20.slp0]
  have en:((n:Int)+1).toNat=n+1:=by omega
  rw [en]
  refine r20.rdr.edgeQ (by omega) (by omega) ?_
  rw [tN,hl]
  refine bcn (fun h=>(h rfl).elim) fun _=>?_
  exact k H20 s20
end
end Go.Mz
