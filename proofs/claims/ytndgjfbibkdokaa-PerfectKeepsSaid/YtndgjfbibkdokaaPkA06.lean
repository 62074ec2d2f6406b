/-
  Joined: PmJ, PmK, SoI, PmL, PmM, PfQ, PmN, PfR, PfT, BmB.
-/
import Derived.Test.YtndgjfbibkdokaaPkA05
import Derived.Test.YtndgjfbibkdokaaPkM
import Derived.Test.YtndgjfbibkdokaaShp
import Derived.Test.YtndgjfbibkdokaaTab
import Derived.Test.YtndgjfbibkdokaaPkA04
import Derived.Test.YtndgjfbibkdokaaPkA02
set_option linter.unusedSimpArgs false
set_option linter.unusedVariables false
/-
  Walks of layer 18: a stage.
-/
namespace Go.Mz
structure Bdq (n:Nat) (R0 W Q:Int):Prop where
  r0:-2 ^ 40≤R0∧R0≤2 ^ 40
  w0:W≤2 ^ 42
  q0:Q≤2 ^ 50
  wq:(W-2*R0)*(n:Int)≤4*Q
open Classical in
noncomputable def smu (n ne:Nat) (fr to:Nat→Nat) (tw:Nat→Int) (σ:KS):Nat:=(n-outs σ n)*4194304+2*lives σ+if Act n ne fr to tw σ then 0 else 1
theorem smu_act {n ne:Nat} {fr to:Nat→Nat} {tw:Nat→Int} {σ:KS} (h:Act n ne fr to tw σ):smu n ne fr to tw σ=(n-outs σ n)*4194304+2*lives σ:=by
  unfold smu; rw [if_pos h,Nat.add_zero]
theorem smu_not {n ne:Nat} {fr to:Nat→Nat} {tw:Nat→Int} {σ:KS} (h:¬Act n ne fr to tw σ):smu n ne fr to tw σ=(n-outs σ n)*4194304+2*lives σ+1:=by
  unfold smu; rw [if_neg h]
theorem smu_le {n ne:Nat} {fr to:Nat→Nat} {tw:Nat→Int} {σ:KS}:(n-outs σ n)*4194304+2*lives σ≤smu n ne fr to tw σ∧smu n ne fr to tw σ≤(n-outs σ n)*4194304+2*lives σ+1:=by
  by_cases h:Act n ne fr to tw σ
  · rw [smu_act h]; omega
  · rw [smu_not h]; omega
def SgJ (H0:Hp) (Y:PY) (n ne:Nat) (fr to:Nat→Nat) (tw:Nat→Int) (R0:Int) (s f0:Nat) (H1:Hp) (k:Nat):Prop:=
  ∃(X:KX) (σ:KS) (D:Int) (d:Nat→Nat),k=smu n ne fr to tw σ∧PsM H0 H1 Y X n ne fr to tw σ∧Inv n ne fr to tw R0 D σ∧Tr n ne fr to tw (R0+D) σ d∧cnt (fun v=>decide (σ.mb v=-1)) n=f0∧σ.m≤n+s*n+outs σ n
section
variable {E:VP}
variable {H0 H Hc:Hp} {Y:PY} {X:KX} {n ne:Nat} {fr to:Nat→Nat} {tw:Nat→Int} {σ σ':KS} {b i e u s:Nat} {R0 R D W Q t:Int} {d:Nat→Nat}
theorem Inv.dq (G:Gp n ne fr to tw R0 W) (I:Inv n ne fr to tw R0 D σ) {g:Nat→Int} (hg:MM n ne fr to n g) (hall:∀v,v<n→0≤g v) (hB:Bdq n R0 W Q) (hf:2≤cnt (fun v=>decide (σ.mb v=-1)) n):D≤Q:=by
  have h1:=I.bound G hg hall
  have h2:=hB.wq
  have h0:=I.du.d0
  have h3:2*D*2≤2*D*(cnt (fun v=>decide (σ.mb v=-1)) n:Int):=Int.mul_le_mul_of_nonneg_left (by omega) (by omega)
  omega
theorem pstage3 {g:Nat→Int} {f0:Nat} {K:Hp→Prop} (h:PsM H0 H Y X n ne fr to tw σ) (G:Gp n ne fr to tw R0 W) (hg:MM n ne fr to n g) (hall:∀v,v<n→0≤g v) (hB:Bdq n R0 W Q) (I:Inv n ne fr to tw R0 D σ) (T:Tr n ne fr to tw (R0+D) σ d)
    (hf:cnt (fun v=>decide (σ.mb v=-1)) n=f0) (hf2:2≤f0) (hs:2*(s+1)≤n) (hm:σ.m≤n+s*n+outs σ n)
    (k:∀H' X' σ' D',PsM H0 H' Y X' n ne fr to tw σ'→Inv n ne fr to tw R0 D' σ'→f0=cnt (fun v=>decide (σ'.mb v=-1)) n+2→σ'.m≤n+(s+1)*n→D'≤Q→K H'):Q36.j3 (some ⟨Y.sb,0,none⟩) E H K:=by
  have hnN:=h.nN
  have hsn:s*n≤511*1024:=Nat.le_trans (Nat.mul_le_mul_left s hnN) (Nat.mul_le_mul_right 1024 (by omega))
  have hsn1:(s+1)*n=s*n+n:=by rw [Nat.add_mul,Nat.one_mul]
  refine Q36.j3_eq ?_
  unfold Q36.j3_t
  refine Q36.l3_rule (fun s0 H1=>s0=some ⟨Y.sb,0,none⟩∧∃k,SgJ H0 Y n ne fr to tw R0 s f0 H1 k)
    (fun s0 H1=>gm (SgJ H0 Y n ne fr to tw R0 s f0 H1)) ?_ ⟨rfl,_,X,σ,D,d,rfl,h,I,T,hf,hm⟩
  clear h I T hf hm
  rintro s0 H1 ⟨rfl,k0,hk0⟩ X1 hX
  obtain ⟨X,σ,D,d,ek,h,I,T,hf,hm⟩:=(gm_of hk0).1
  have hX':∀(H':Hp) (X':KX) (σ':KS) (D':Int) (d':Nat→Nat),PsM H0 H' Y X' n ne fr to tw σ'→Inv n ne fr to tw R0 D' σ'→Tr n ne fr to tw (R0+D') σ' d'→cnt (fun v=>decide (σ'.mb v=-1)) n=f0→σ'.m≤n+s*n+outs σ' n→smu n ne fr to tw σ'<smu n ne fr to tw σ→X1 (Q36.f3 (some ⟨Y.sb,0,none⟩)) H':=fun H' X' σ' D' d' h' I' T' f' m' hlt=>by
    have hJ:SgJ H0 Y n ne fr to tw R0 s f0 H' (smu n ne fr to tw σ'):=⟨X',σ',D',d',rfl,h',I',T',f',m'⟩
    refine hX _ _ ⟨rfl,_,hJ⟩ (Nat.lt_of_le_of_lt (gm_of hJ).2 ?_)
    rw [ek]; exact hlt
  clear hX ek hk0 k0
  have ho:=outs_le (σ:=σ) (n:=n)
  have hlv:=lives_le (σ:=σ)
  have hd:=I.dq G hg hall hB (by omega)
  have hBd:Bds R0 D W:=⟨hB.r0,by have:=hB.q0; omega,hB.w0⟩
  have hmm:σ.m≤1048576:=by omega
  refine Q36.b3_eq ?_
  unfold Q36.b3_t
  refine pstep h G I T hBd hmm ⟨fun H' h' hno=>?_,fun H' X' σ' d' h' I' T' emb hc=>?_,fun H' σ' h' I' hc em=>?_⟩
  · show bcase false _ (bcase (!false) _ _)
    rw [bcase_f]
    show bcase true _ _
    rw [bcase_t]
    have hbd:∀t,Fit n ne fr to tw σ t→t≤2 ^ 52:=fun t Ft=>by
      have:=(I.chg G T Ft).1.dq G hg hall hB (by show 2≤cnt (fun v=>decide (σ.mb v=-1)) n; omega)
      have:=I.du.d0
      have:=hB.q0
      omega
    refine pchange h' G I T hBd hmm hbd fun H'' t h'' Ft At=>?_
    obtain ⟨I2,T2⟩:=I.chg G T Ft
    refine hX' H'' X _ _ d h'' I2 T2 hf hm ?_
    rw [smu_act (At.act G),smu_not hno]
    show (n-outs σ n)*4194304+2*lives σ<_
    omega
  · show bcase false _ (bcase (!true) _ _)
    rw [bcase_f]
    show bcase false _ _
    rw [bcase_f]
    have ho':=outs_le (σ:=σ') (n:=n)
    have hlv':=lives_le (σ:=σ')
    have l1:=smu_le (n:=n) (ne:=ne) (fr:=fr) (to:=to) (tw:=tw) (σ:=σ)
    have l2:=smu_le (n:=n) (ne:=ne) (fr:=fr) (to:=to) (tw:=tw) (σ:=σ')
    refine hX' H' X' σ' D d' h' I' T' (by rw [emb]; exact hf) ?_ ?_
    · rcases hc with ⟨a,b⟩ | ⟨a,b,c⟩<;>omega
    · rcases hc with ⟨a,b⟩ | ⟨a,b,c⟩<;>omega
  · show bcase true _ _
    rw [bcase_t]
    exact k H' X σ' D h' I' (by rw [←hf]; exact hc) (by omega) hd
theorem pstage {g:Nat→Int} {f0:Nat} {K:Hp→Prop} (h:PsM H0 H Y X n ne fr to tw σ) (G:Gp n ne fr to tw R0 W) (hg:MM n ne fr to n g) (hall:∀v,v<n→0≤g v) (hB:Bdq n R0 W Q) (I:Inv n ne fr to tw R0 D σ)
    (hf:cnt (fun v=>decide (σ.mb v=-1)) n=f0) (hf2:2≤f0) (hs:2*(s+1)≤n) (hm:σ.m≤n+s*n)
    (k:∀H' X' σ' D',PsM H0 H' Y X' n ne fr to tw σ'→Inv n ne fr to tw R0 D' σ'→f0=cnt (fun v=>decide (σ'.mb v=-1)) n+2→σ'.m≤n+(s+1)*n→D'≤Q→K H'):Q36.call (some ⟨Y.sb,0,none⟩) E H K:=by
  have hnN:=h.nN
  have hK:=I.kp
  have hsn:s*n≤511*1024:=Nat.le_trans (Nat.mul_le_mul_left s hnN) (Nat.mul_le_mul_right 1024 (by omega))
  refine Q36.of (Q36.run_eq ?_)
  unfold Q36.run_t
  simp only [nn_mk,get_at h.cell,gZ,gS,ldI_mk,ldS_mk,Nat.zero_add]
  refine Q36.l1_rule (fun s0 t10 t11 H1=>s0=some ⟨Y.sb,0,none⟩∧t10=(σ.m:Int)∧∃(i:Nat) (lab ve:Nat→Int) (vi vo:Nat→Nat),t11=i∧i≤σ.m∧PsM H0 H1 Y X n ne fr to tw (σ.lbl lab ve vi vo)∧∀b,b<i→lab b=0∧ve b=-1)
    (fun _ _ t11 _=>σ.m-t11.toNat) ?_ ⟨rfl,rfl,0,_,_,_,_,rfl,Nat.zero_le _,h,fun b hb=>by omega⟩
  clear h
  rintro s0 t10 t11 H1 ⟨rfl,rfl,i,lab,ve,vi,vo,rfl,hi,h,hl⟩ X1 hX
  refine Q36.b1_eq ?_
  unfold Q36.b1_t
  refine bc (fun hlt=>?_) fun hge=>?_
  · have hlt:i<σ.m:=by omega
    refine pmark (b:=i) (i:=0) (o:=0) h hlt fun H2 h2 s2=>?_
    rw [i64w (by omega) (by omega)]
    refine hX _ _ _ _ ⟨rfl,rfl,i+1,upf lab i 0,upf ve i (-1),upf vi i 0,upf vo i 0,by omega,by omega,h2,fun b hb=>?_⟩ (by omega)
    by_cases e:b=i
    · rw [e,upf_same,upf_same]; exact ⟨rfl,rfl⟩
    · rw [upf_ne e,upf_ne e]; exact hl b (by omega)
  · have:i=σ.m:=by omega
    subst this
    clear hX
    refine Q36.j1_eq ?_
    unfold Q36.j1_t
    simp only [nn_mk,get_at h.cell,gZ,gS,ldI_mk,ldS_mk,Nat.zero_add]
    refine Q36.l2_rule (fun s0 t22 t23 H2=>s0=some ⟨Y.sb,0,none⟩∧t22=(n:Int)∧∃(i:Nat) (lab ve:Nat→Int) (vi vo:Nat→Nat),t23=i∧i≤n∧PsM H0 H2 Y X n ne fr to tw (σ.lbl lab ve vi vo)∧(∀v,v<i→σ.mb v=-1→lab (σ.surf v)=1)∧(∀b,b<σ.m→ve b=-1)∧∀b,b<σ.m→(∀v,v<i→σ.mb v=-1→σ.surf v≠b)→lab b=0)
      (fun _ _ t23 _=>n-t23.toNat) ?_ ⟨rfl,rfl,0,lab,ve,vi,vo,rfl,Nat.zero_le _,h,fun v hv=>by omega,fun b hb=>(hl b hb).2,fun b hb _=>(hl b hb).1⟩
    clear h hl lab ve vi vo
    rintro s0 t22 t23 H2 ⟨rfl,rfl,i,lab,ve,vi,vo,rfl,hi,h,l1,l2,l3⟩ X1 hX
    refine Q36.b2_eq ?_
    unfold Q36.b2_t
    refine bc (fun hlt=>?_) fun hge=>?_
    · have hlt:i<n:=by omega
      have hsi:=(hK.srf i hlt).1.1
      simp only [nn_mk,get_at h.cell,gZ,gS,ldI_mk,ldS_mk,Nat.zero_add]
      refine h.rb.ixI (by omega) (by omega) ?_
      rw [tN]
      refine bc (fun hneg=>?_) fun hpos=>?_
      · have hneg:σ.mb i=-1:=I.mm.neg hlt (by omega) hneg
        refine h.rf.ixI (by omega) (by omega) ?_
        rw [tN]
        refine pmark (b:=σ.surf i) (i:=0) (o:=0) h hsi fun H3 h3 s3=>?_
        refine Q36.j2_eq ?_
        unfold Q36.j2_t
        rw [i64w (by omega) (by omega)]
        refine hX _ _ _ _ ⟨rfl,rfl,i+1,upf lab (σ.surf i) 1,upf ve (σ.surf i) (-1),upf vi (σ.surf i) 0,upf vo (σ.surf i) 0,by omega,by omega,h3,fun v hv hm'=>?_,fun b hb=>?_,fun b hb hno=>?_⟩ (by omega)
        · by_cases e:σ.surf v=σ.surf i
          · rw [e,upf_same]
          · rw [upf_ne e]
            exact l1 v (by
              have:v≠i:=fun e'=>e (by rw [e'])
              omega) hm'
        · by_cases e:b=σ.surf i
          · rw [e,upf_same]
          · rw [upf_ne e]; exact l2 b hb
        · rw [upf_ne fun e=>hno i (by omega) hneg e.symm]
          exact l3 b hb fun v hv=>hno v (by omega)
      · have hpos:¬σ.mb i<0:=hpos
        refine Q36.j2_eq ?_
        unfold Q36.j2_t
        rw [i64w (by omega) (by omega)]
        refine hX _ _ _ _ ⟨rfl,rfl,i+1,lab,ve,vi,vo,by omega,by omega,h,fun v hv hm'=>?_,l2,fun b hb hno=>l3 b hb fun v hv=>hno v (by omega)⟩ (by omega)
        exact l1 v (by
          have:v≠i:=fun e'=>by rw [e'] at hm'; omega
          omega) hm'
    · have:i=n:=by omega
      subst this
      have T:=Tr.begin' (vi:=vi) (vo:=vo) G I (lab:=lab) (ve:=ve) (fun v hv hm'=>⟨l1 v hv hm',l2 _ (hK.srf v hv).1.1⟩) fun b hb hno=>l3 b hb.1 hno
      exact pstage3 h G hg hall hB I.lbl T hf hf2 hs (by show σ.m≤_; omega) k
end
end Go.Mz
/-
  Walks of layer 18: a new search.
-/
namespace Go.Mz
def KS.ini (n:Nat) (R0:Int):KS where
  m:=n
  kn:=fun _=>0
  kd:=fun _ _=>0
  le:=fun _ _=>0
  li:=fun _ _=>0
  lo:=fun _ _=>0
  base:=fun v=>v
  z:=fun _=>0
  lab:=fun _=>0
  ve:=fun _=>0
  vi:=fun _=>0
  vo:=fun _=>0
  up:=fun _=>-1
  y:=fun _=>R0
  mb:=fun _=>-1
  surf:=fun v=>v
theorem Inv.ini {n ne:Nat} {fr to:Nat→Nat} {tw:Nat→Int} {R0 W:Int} (G:Gp n ne fr to tw R0 W):Inv n ne fr to tw R0 0 (KS.ini n R0):=by
  have nl:∀b,¬(KS.ini n R0).Lv n b:=fun b hb=>by
    have h1:=hb.1
    have h2:b<n:=hb.2.1
    omega
  have c0:∀u v,cov (KS.ini n R0) u v=0:=fun u v=>psum_zero fun i _=>by
    by_cases h:Kin (KS.ini n R0).up u i∧Kin (KS.ini n R0).up v i
    · exact zin_pos h.1 h.2
    · exact zin_neg h
  refine ⟨⟨Nat.le_refl _,fun c _=>.inr (.inl rfl),fun c _=>by show (-1:Int)<0; decide,fun v _=>by show (-1:Int)≠-2; decide,fun b hb=>(nl b hb).elim,fun b i hb=>(nl b hb).elim,fun b i j hb=>(nl b hb).elim,fun b i hb=>(nl b hb).elim,fun v hv=>⟨⟨hv,rfl⟩,.here v⟩⟩,⟨fun v _=>rfl,fun b hb=>(nl b hb).elim⟩,fun v _ _=>.inl rfl,?_⟩
  refine ⟨Int.le_refl _,fun b _=>by show (0:Int)≤0∧(0:Int)%2=0∧(0:Int)≤2*0; decide,fun b _=>rfl,fun b _ _=>rfl,fun v _=>by show R0-0≤R0∧R0≤R0+0; omega,fun e he=>?_,fun b i hb=>(nl b hb).elim,fun v e _ hm=>?_,fun u v hu hv hs=>?_,fun v _ _=>by show R0=R0+0; omega⟩
  · rw [c0]
    have:=G.lo e he
    show R0+R0-0≤tw e
    omega
  · have hm:(-1:Int)=((e:Nat):Int):=hm
    omega
  · show (R0-R0)%2=0
    rw [Int.sub_self]; rfl
section
variable {E:VP}
variable {H0 H Hc:Hp} {n ne:Nat} {fr to:Nat→Nat} {tw:Nat→Int}
theorem pcmp {u v t u' v' t':Int} {K:Int→Hp→Prop} (hb:-2 ^ 62≤t-t'∧t-t'≤2 ^ 62) (k:∀H' x,Step (fun _=>False) H H'→(x<0↔t<t')→K x H'):Q35.call u v t u' v' t' E H K:=by
  refine Q35.of (Q35.run_eq ?_)
  unfold Q35.run_t
  refine nwk fun b1 H1 hb1 e1 s1=>?_
  refine nwk fun b2 H2 hb2 e2 s2=>?_
  have e12:=s2.keep _ _ e1 fun h=>h
  simp only [get_at e12,get_at e2,gZ,gS,ldI_mk]
  rw [i64w (n:=t-t') (by omega) (by omega)]
  refine k H2 _ (s1.trans s2 fun _ h=>h.elim) ?_
  split<;>split<;>omega
theorem sMin {p:OA} {c:Nat} {f:Nat→Thr} {K:Int→Int→Int→Hp→Prop} (h:Rdr H p n f) (hn:n<2 ^ 62) (h0:0<n) (hf:∀i,i<n→-2 ^ 60≤(f i).2.2∧(f i).2.2≤2 ^ 60)
    (k:∀H' i,Step (fun _=>False) H H'→i<n→(∀e,e<n→(f i).2.2≤(f e).2.2)→K (f i).1 (f i).2.1 (f i).2.2 H'):Q34.call p n c 61 [] E H K:=by
  refine Q34.of (Q34.run_eq ?_)
  unfold Q34.run_t
  refine nwk fun t4 H1 hb1 e1 s1=>?_
  refine bc (fun hlt=>by omega) fun hge=>?_
  refine (h.keep s1 fun _ _ _ h=>h).ix3 (by omega) (by omega) fun b2 o2 y1 y2 y3=>?_
  simp only [y1,y2,y3,ldI_mk]
  refine nwst rfl rfl fun m5 H3 hb3 e3 s3=>?_
  have e13:=s3.keep _ _ e1 fun h=>h
  have n45:t4≠m5:=fun e=>by rw [←e,e1] at hb3; cases hb3
  have hm5:H m5=none:=s1.none_at hb3
  have ht4:H t4=none:=hb1
  refine Q34.l1_rule (fun xp xn xc cg ck t4' m5' i6 H4=>xp=p∧xn=n∧cg=61∧ck=[]∧t4'=t4∧m5'=m5∧∃i j:Nat,i6=i∧i≤n∧j<i∧Step (fun _=>False) H H4∧H4 t4=some ⟨[.int .i64 0,.int .i64 0,.int .i64 0],75⟩∧H4 m5=some ⟨[.int .i64 (f j).1,.int .i64 (f j).2.1,.int .i64 (f j).2.2],75⟩∧∀e,e<i→(f j).2.2≤(f e).2.2)
    (fun _ _ _ _ _ _ _ i6 _=>n-i6.toNat) ?_ ⟨rfl,rfl,rfl,rfl,rfl,rfl,1,0,rfl,h0,by omega,s1.trans s3 fun _ h=>h.elim,e13,e3,fun e he=>by rw [show e=0 by omega]; exact Int.le_refl _⟩
  clear e13 e3 s3 s1 e1 y1 y2 y3 hb1 hb3
  rintro xp xn xc cg ck t4' m5' i6 H4 ⟨rfl,rfl,rfl,rfl,rfl,rfl,i,j,rfl,hi,hj,s4,e4,em,hmin⟩ X1 hX
  refine Q34.b1_eq ?_
  unfold Q34.b1_t
  refine bc (fun hl=>?_) fun hge2=>?_
  · have hl:i<xn:=by omega
    have nx:∀H5 j',j'<i+1→Step (fun _=>False) H H5→H5 t4'=some ⟨[.int .i64 0,.int .i64 0,.int .i64 0],75⟩→H5 m5'=some ⟨[.int .i64 (f j').1,.int .i64 (f j').2.1,.int .i64 (f j').2.2],75⟩→(∀e,e<i+1→(f j').2.2≤(f e).2.2)→Q34.j1 xp xn xc 61 [] t4' m5' (i:Int) X1 E H5 K:=fun H5 j' h1 h2 h3 h4 h5=>by
      refine Q34.j1_eq ?_
      unfold Q34.j1_t
      rw [i64w (by omega) (by omega)]
      exact hX _ _ _ _ _ _ _ _ _ ⟨rfl,rfl,rfl,rfl,rfl,rfl,i+1,j',by omega,by omega,h1,h2,h3,h4,h5⟩ (by omega)
    refine (h.keep s4 fun _ _ _ h=>h).ix3 (by omega) (by omega) fun b2 o2 y1 y2 y3=>?_
    simp only [tN] at y1 y2 y3
    simp only [y1,y2,y3,get_at em,gZ,gS,ldI_mk]
    refine ⟨rfl,?_⟩
    have hfi:=hf i hl
    have hfj:=hf j (by omega)
    show Q35.call (f i).1 (f i).2.1 (f i).2.2 (f j).1 (f j).2.1 (f j).2.2 E H4 (fun x H_1=>bcase (decide ((x:Int)<0)) (
      ix xp xn (i:Int) 3 fun b_2 o_2=>
      ldI .i64 (H_1.get b_2 o_2) fun x_7=>
      ldI .i64 (H_1.get b_2 (o_2+1)) fun x_8=>
      ldI .i64 (H_1.get b_2 (o_2+2)) fun x_9=>
      stC H_1 m5' 0 [.int .i64 x_7,.int .i64 x_8,.int .i64 x_9] fun H_2=>
      Q34.j1 xp xn xc 61 [] t4' m5' (i:Int) X1 E H_2 K)
      (Q34.j1 xp xn xc 61 [] t4' m5' (i:Int) X1 E H_1 K))
    refine pcmp (by omega) fun H5 x s5 hx=>?_
    have s45:=s4.trans s5 fun _ h=>h.elim
    have e45:=s5.keep _ _ e4 fun h=>h
    have em5:=s5.keep _ _ em fun h=>h
    refine bc (fun hneg=>?_) fun hpos=>?_
    · have hlt:=hx.1 hneg
      refine (h.keep s45 fun _ _ _ h=>h).ix3 (by omega) (by omega) fun b3 o3 z1 z2 z3=>?_
      simp only [tN] at z1 z2 z3
      simp only [z1,z2,z3,ldI_mk]
      refine stk em5 rfl rfl fun H6 e6 s6=>?_
      refine nx H6 i (by omega) (s45.own s6 fun y hy=>hy▸hm5) (s6.keep _ _ e45 n45) e6 fun e he=>?_
      by_cases ei:e=i
      · rw [ei]; exact Int.le_refl _
      · have:=hmin e (by omega); omega
    · have hge3:¬(f i).2.2<(f j).2.2:=fun hh=>hpos (hx.2 hh)
      refine nx H5 j (by omega) s45 e45 em5 fun e he=>?_
      by_cases ei:e=i
      · rw [ei]; omega
      · exact hmin e (by omega)
  · have:i=xn:=by omega
    subst this
    refine Q34.j2_eq ?_
    unfold Q34.j2_t
    simp only [get_at em,gZ,gS,ldI_mk]
    refine stk e4 rfl rfl fun H5 e5 s5=>?_
    simp only [get_at e5,gZ,gS,ldI_mk]
    exact k H5 j (s4.own s5 fun y hy=>hy▸ht4) (by omega) hmin
theorem pnew {ep:OA} {ec:Nat} {W:Int} {K:OA→Hp→Prop} (he:Rdr H ep ne (edF fr to tw)) (hn:n≤1024) (hne:ne<2 ^ 62) (hN:Nds n ne fr to) (hnl:∀e,e<ne→fr e≠to e) (hev:∀e,e<ne→tw e%2=0) (hlo:∀e,e<ne→-2 ^ 40≤tw e) (hhi:∀e,e<ne→tw e≤W) (hW:W≤2 ^ 40)
    (k:∀H' Y X R0,Y.ep=ep→PsM H H' Y X n ne fr to tw (KS.ini n R0)→Gp n ne fr to tw R0 W→(ne=0→R0=0)→(∀x,(∀e,e<ne→x≤tw e)→0<ne→x≤2*R0)→-2 ^ 40≤R0∧R0≤2 ^ 40→K (some ⟨Y.sb,0,none⟩) H'):Q13.call (n:Int) ep ne ec E H K:=by
  refine Q13.of (Q13.run_eq ?_)
  unfold Q13.run_t
  refine Row.mkI (by omega) (by omega) fun yb H1 hyb ry s1=>?_
  rw [tN] at ry ⊢
  refine Row.mkI (by omega) (by omega) fun bb H2 hbb rb s2=>?_
  rw [tN] at rb
  have ry2:=ry.keep s2 fun _ _ h=>h
  refine Row.mkI (by omega) (by omega) fun fb H3 hfb rf s3=>?_
  rw [tN] at rf
  have ry3:=ry2.keep s3 fun _ _ h=>h
  have rb3:=rb.keep s3 fun _ _ h=>h
  refine nwk fun sb H4 hsb es s4=>?_
  have ry4:=ry3.keep s4 fun _ _ h=>h
  have rb4:=rb3.keep s4 fun _ _ h=>h
  have rf4:=rf.keep s4 fun _ _ h=>h
  have n1:sb≠yb:=fun e=>ry3.live ⟨0,rfl⟩ (e▸hsb)
  have n2:sb≠bb:=fun e=>rb3.live ⟨0,rfl⟩ (e▸hsb)
  have n3:sb≠fb:=fun e=>rf.live ⟨0,rfl⟩ (e▸hsb)
  have n4:yb≠bb:=fun e=>ry.live ⟨0,rfl⟩ (e▸hbb)
  have n5:yb≠fb:=fun e=>ry2.live ⟨0,rfl⟩ (e▸hfb)
  have n6:bb≠fb:=fun e=>rb.live ⟨0,rfl⟩ (e▸hfb)
  have o1:H yb=none:=hyb
  have o2:H bb=none:=s1.none_at hbb
  have o3:H fb=none:=s1.none_at (s2.none_at hfb)
  have o4:H sb=none:=s1.none_at (s2.none_at (s3.none_at hsb))
  have s04:Step (fun _=>False) H H4:=((s1.trans s2 fun _ h=>h.elim).trans s3 fun _ h=>h.elim).trans s4 fun _ h=>h.elim
  refine Q13.l1_rule (fun ed en ec' s5 t19 t20 H5=>ed=ep∧en=ne∧s5=some ⟨sb,0,none⟩∧t19=(n:Int)∧∃(i:Nat) (kp:OA) (kc:Nat),t20=i∧i≤n∧Step (fun _=>False) H H5∧
      H5 sb=some ⟨[.int .i64 (n:Int),.slice ep ne ec,.slice (some ⟨yb,0,none⟩) n n,.slice (some ⟨bb,0,none⟩) n n,.slice kp i kc,.slice (some ⟨fb,0,none⟩) n n],112⟩∧
      Row H5 (some ⟨yb,0,none⟩) n n (fun _=>(0:Int))∧Row H5 (some ⟨bb,0,none⟩) n n (fun v=>if v<i then (-1:Int) else 0)∧Row H5 (some ⟨fb,0,none⟩) n n (fun v=>if v<i then (v:Int) else 0)∧
      Row H5 kp i kc (fun b=>(⟨⟨none,0,0⟩,⟨none,0,0⟩,(b:Int),0,0,0,0,0,-1⟩:Kn))∧∀y,fpS kp y→H y=none∧y≠sb∧y≠yb∧y≠bb∧y≠fb)
    (fun _ _ _ _ _ t20 _=>n-t20.toNat) ?_ ⟨rfl,rfl,rfl,rfl,0,none,0,rfl,Nat.zero_le _,s04,es,ry4,rb4.congr fun v _=>(if_neg (by omega)).symm,rf4.congr fun v _=>(if_neg (by omega)).symm,.nil,fun y hy=>by rw [fpS_none] at hy; exact hy.elim⟩
  clear ry ry2 ry3 ry4 rb rb3 rb4 rf rf4 es s04 s1 s2 s3 s4 hyb hbb hfb hsb
  rintro ed en ec' s5 t19 t20 H5 ⟨rfl,rfl,rfl,rfl,i,kp,kc,rfl,hi,st,es,ry,rb,rf,rk,fk⟩ X1 hX
  refine Q13.b1_eq ?_
  unfold Q13.b1_t
  refine bc (fun hl=>?_) fun hge=>?_
  · have hl:i<n:=by omega
    simp only [nn_mk,get_at es,gZ,gS,ldI_mk,ldS_mk,Nat.zero_add]
    refine rb.stI (by omega) (by omega) _ fun H6 r6 s6=>?_
    have rf6:=rf.keep s6 fun y hy hh=>n6 ((fp1 hh).symm.trans (fp1 hy))
    refine rf6.stI (by omega) (by omega) _ fun H7 r7 s7=>?_
    rw [tN] at r6 r7
    have es7:=s7.keep _ _ (s6.keep _ _ es fun hh=>n2 (fp1 hh)) fun hh=>n3 (fp1 hh)
    have ry7:=(ry.keep s6 fun y hy hh=>n4 ((fp1 hy).symm.trans (fp1 hh))).keep s7 fun y hy hh=>n5 ((fp1 hy).symm.trans (fp1 hh))
    have rk7:=(rk.keep s6 fun y hy hh=>(fk y hy).2.2.2.1 (fp1 hh)).keep s7 fun y hy hh=>(fk y hy).2.2.2.2 (fp1 hh)
    have r67:=r6.keep s7 fun y hy hh=>n6 ((fp1 hy).symm.trans (fp1 hh))
    have st7:=(st.own s6 fun y hy=>fp1 hy▸o2).own s7 fun y hy=>fp1 hy▸o3
    simp only [nn_mk,get_at es7,gZ,gS,ldI_mk,ldS_mk,Nat.zero_add]
    refine Row.app (α:=Kn) rk7 (⟨⟨none,0,0⟩,⟨none,0,0⟩,(i:Int),0,0,0,0,0,-1⟩:Kn) rfl (by omega) (by decide) fun p8 c8 H8 r8 s8 f8=>?_
    have es8:=s8.keep _ _ es7 fun hh=>(fk _ hh).2.1 rfl
    refine stp es8 (by simp) rfl fun H9 e9 s9=>?_
    have f9:∀y,fpS p8 y→H y=none∧y≠sb∧y≠yb∧y≠bb∧y≠fb:=fun y hy=>by
      rcases f8 y hy with hh | hh
      · exact fk y hh
      · exact ⟨st7.none_at hh,fun e=>(by rw [e,es7] at hh; cases hh),fun e=>ry7.live ⟨0,rfl⟩ (e▸hh),fun e=>r67.live ⟨0,rfl⟩ (e▸hh),fun e=>r7.live ⟨0,rfl⟩ (e▸hh)⟩
    rw [i64w (by omega) (by omega)]
    refine hX _ _ _ _ _ _ _ ⟨rfl,rfl,rfl,rfl,i+1,p8,c8,by omega,by omega,(st7.own s8 fun y hy=>(fk y hy).1).own s9 fun y hy=>hy▸o4,e9,?_,?_,?_,?_,f9⟩ (by omega)
    · exact (ry7.keep s8 fun y hy hh=>(fk y hh).2.2.1 (fp1 hy)).keep s9 fun y hy hh=>n1 (hh.symm.trans (fp1 hy))
    · refine ((r67.keep s8 fun y hy hh=>(fk y hh).2.2.2.1 (fp1 hy)).keep s9 fun y hy hh=>n2 (hh.symm.trans (fp1 hy))).congr fun v hv=>?_
      by_cases e:v=i
      · rw [e,upf_same,if_pos (by omega)]
      · rw [upf_ne e]
        by_cases e2:v<i
        · rw [if_pos e2,if_pos (by omega)]
        · rw [if_neg e2,if_neg (by omega)]
    · refine ((r7.keep s8 fun y hy hh=>(fk y hh).2.2.2.2 (fp1 hy)).keep s9 fun y hy hh=>n3 (hh.symm.trans (fp1 hy))).congr fun v hv=>?_
      by_cases e:v=i
      · rw [e,upf_same,if_pos (by omega)]
      · rw [upf_ne e]
        by_cases e2:v<i
        · rw [if_pos e2,if_pos (by omega)]
        · rw [if_neg e2,if_neg (by omega)]
    · refine (r8.keep s9 fun y hy hh=>(f9 y hy).2.1 hh).congr fun v hv=>?_
      by_cases e:v=i
      · rw [e,upf_same]
      · rw [upf_ne e]
  · have:i=n:=by omega
    subst this
    clear hX
    have fin:∀H6 R0,Step (fun y=>y=yb) H5 H6→Row H6 (some ⟨yb,0,none⟩) i i (fun _=>R0)→PsM H H6 ⟨sb,yb,bb,fb,ed,ec⟩ ⟨kp,kc,fun _=>⟨none,0,0⟩,fun _=>⟨none,0,0⟩⟩ i en fr to tw (KS.ini i R0):=fun H6 R0 s6 r6=>by
      have nl:∀b,i≤b→¬b<(KS.ini i R0).m:=fun b h1 h2=>by
        have h2:b<i:=h2
        omega
      refine ⟨st.own s6 fun y hy=>hy▸o1,he,s6.keep _ _ es fun hh=>n1 hh,r6,?_,?_,?_,fun b h1 h2=>(nl b h1 h2).elim,fun b h1 h2=>(nl b h1 h2).elim,fun b j h1 h2=>(nl b h1 h2).elim,fun b h1 h2=>(nl b h1 h2).elim,o4,o1,o2,o3,fk,n1,n2,n3,n4,n5,n6,hn,by omega⟩
      · exact (rb.keep s6 fun y hy hh=>n4 (hh.symm.trans (fp1 hy))).congr fun v hv=>if_pos hv
      · exact (rf.keep s6 fun y hy hh=>n5 (hh.symm.trans (fp1 hy))).congr fun v hv=>if_pos hv
      · exact rk.keep s6 fun y hy hh=>(fk y hy).2.2.1 hh
    refine Q13.j1_eq ?_
    unfold Q13.j1_t
    refine bc (fun hpos=>?_) fun hzero=>?_
    · have hpos:0<en:=by omega
      refine sMin (he.keep st fun _ _ _ h=>h) hne hpos (fun e hle=>by have:=hlo e hle; have:=hhi e hle; show -2 ^ 60≤tw e∧tw e≤2 ^ 60; omega) fun H6 m s6 hm hmin=>?_
      have hmin:∀e,e<en→tw m≤tw e:=hmin
      have es6:=s6.keep _ _ es fun h=>h
      simp only [nn_mk,get_at es6,gZ,gS,ldI_mk,ldS_mk,Nat.zero_add]
      have hmev:=hev m hm
      have hml:=hlo m hm
      have hmh:=hhi m hm
      have ed2:Int.tdiv (tw m) 2=tw m / 2:=by
        rcases Int.lt_or_le (tw m) 0 with h1 | h1
        · have h2:(2:Int) ∣ tw m:=Int.dvd_of_emod_eq_zero hmev
          exact Int.tdiv_eq_ediv_of_dvd h2
        · exact Int.tdiv_eq_ediv_of_nonneg h1
      refine Q13.l2_rule (fun s5 le t58 t59 H7=>s5=some ⟨sb,0,none⟩∧le=tw m∧t58=(i:Int)∧∃j:Nat,t59=j∧j≤i∧Step (fun y=>y=yb) H5 H7∧Row H7 (some ⟨yb,0,none⟩) i i (fun v=>if v<j then tw m / 2 else 0))
        (fun _ _ _ t59 _=>i-t59.toNat) ?_ ⟨rfl,rfl,rfl,0,rfl,Nat.zero_le _,s6.weak fun _ h=>h.elim,(ry.keep s6 fun _ _ h=>h).congr fun v _=>(if_neg (by omega)).symm⟩
      rintro s5 le t58 t59 H7 ⟨rfl,rfl,rfl,j,rfl,hj,s7,r7⟩ X1 hX
      have es7:=s7.keep _ _ es fun hh=>n1 hh
      refine Q13.b2_eq ?_
      unfold Q13.b2_t
      refine bc (fun hl=>?_) fun hge=>?_
      · have hl:j<i:=by omega
        simp only [nn_mk,get_at es7,gZ,gS,ldI_mk,ldS_mk,Nat.zero_add]
        refine ⟨by omega,?_⟩
        rw [ed2,i64w (n:=tw m / 2) (by omega) (by omega),i64w (by omega) (by omega)]
        refine r7.stI (by omega) (by omega) _ fun H8 r8 s8=>?_
        rw [tN] at r8
        refine hX _ _ _ _ _ ⟨rfl,rfl,rfl,j+1,by omega,by omega,s7.trans s8 fun y hy=>.inl (fp1 hy),r8.congr fun v hv=>?_⟩ (by omega)
        by_cases e:v=j
        · rw [e,upf_same,if_pos (by omega)]
        · rw [upf_ne e]
          by_cases e2:v<j
          · rw [if_pos e2,if_pos (by omega)]
          · rw [if_neg e2,if_neg (by omega)]
      · have:j=i:=by omega
        subst this
        refine k H7 ⟨sb,yb,bb,fb,ed,ec⟩ _ (tw m / 2) rfl (fin H7 _ s7 (r7.congr fun v hv=>if_pos hv)) ⟨hN,hnl,hev,fun e hle=>by have:=hmin e hle; omega,hhi⟩ (fun h0=>by omega) (fun x hx _=>by have:=hx m hm; omega) (by omega)
    · have hz:en=0:=by omega
      refine k H5 ⟨sb,yb,bb,fb,ed,ec⟩ _ 0 rfl (fin H5 0 (Step.refl) ry) ⟨hN,hnl,hev,fun e hle=>by omega,hhi⟩ (fun _=>rfl) (fun x _ h0=>by omega) (by omega)
end
end Go.Mz
/-
  slices.Sort over whole numbers, from the kit's contract to plain heaps.
-/
namespace Go.Mz
open Go.RowKit
theorem hp_ahead (w:World) (m:Nat):hp (Sort.ahead w m)=hp w:=rfl
theorem hp_putRow {w:World} {b o:Nat} {x:Blk} {d:Array Int} (hx:hp w b=some x) :
    hp (Sort.putRow (Value.int .i64) w b o d)=(hp w).upd b ⟨(Sort.putCells (Value.int .i64) o d x.cells.toArray).toList,x.ty⟩:=by
  have ho:=hp_obj hx
  funext b'
  by_cases e:b'=b
  · subst e
    simp [hp,Sort.putRow,Sort.mapBlock,Array.getElem?_modify,ho,Sort.onCells,vis,Hp.upd]
  · have e':¬b=b':=fun h=>e h.symm
    simp [hp,Sort.putRow,Sort.mapBlock,Array.getElem?_modify,e,e',Hp.upd]
theorem hp_grow {w:World} {os:Array Obj} {b:Nat} (hb:b<w.heap.size):hp (Sort.grow w os) b=hp w b:=by
  simp [hp,Sort.grow,Array.getElem?_append,hb]
theorem putRow_size (w:World) (b o:Nat) (d:Array Int):(Sort.putRow (Value.int .i64) w b o d).heap.size=w.heap.size:=by
  simp [Sort.putRow,Sort.mapBlock]
section
variable {E:VP}
theorem sortI {p:OA} {n c:Nat} {f:Nat→Int} {H:Hp} {K:Hp→Prop} (h:Row H p n c f) (hn:n<4611686018427387904)
    (k:∀H' g,Row H' p n c g→Step (fpS p) H H'→(∀i j,i<j→j<n→g i≤g j)→((List.range n).map g).Perm ((List.range n).map f)→K H'):Q15.call p n c E H K:=by
  unfold Q15.call
  intro w hw
  subst hw
  rcases h.cells with ⟨rfl,hc⟩ | ⟨b,o,x,rfl,hx,⟨hl,hz⟩,ha⟩
  · have h0:n=0:=by have:=h.le; omega
    subst h0
    refine (show Calls P0 32 #[.slice none 0 c] w _ from Proofs.Any.slices_Sort_int_none Proofs.Try.lays189 none c w).mono ?_
    rintro e w' ⟨rfl,rfl⟩
    exact ⟨Rest.refl w',k _ f h .refl (fun i j _ hj=>by omega) (List.Perm.refl _)⟩
  · obtain ⟨zs,hzs⟩:∃zs,zs=(List.range n).map f:=⟨_,rfl⟩
    have hlen:zs.length=n:=by rw [hzs]; simp
    have hw1:El.w Int=1:=rfl
    rw [hw1] at hl
    have hle:=h.le
    have hcell:∀j,j<n→x.cells[o+j]?=some (.int .i64 (f j)):=fun j hj=>by
      have:=ha j hj 0 (by decide)
      rw [hw1,Nat.mul_one,Nat.add_zero] at this
      exact this
    have hH:Sort.Holds (Value.int .i64) w b o zs.toArray:=fun j hj=>by
      have hj':j<n:=by simpa [hlen] using hj
      refine ⟨cell_of_hp ?_,frozen_of_hp hx hz⟩
      rw [get_at (show hp w b=some ⟨x.cells,x.ty⟩ from hx),hcell j hj']
      have:zs.toArray[j]! = f j:=by
        rw [getElem!_pos zs.toArray j hj]
        simp [hzs]
      rw [this]
    have hb:b<w.heap.size:=hp_lt hx
    have hcall:=Proofs.Any.slices_Sort_int Proofs.Try.lays189 b o c zs w hH hb (by omega)
    rw [hlen] at hcall
    refine (show Calls P0 32 #[.slice (some ⟨b,o,none⟩) n c] w _ from hcall).mono ?_
    rintro e w' ⟨rfl,m,os,rfl⟩
    obtain ⟨sz,hsz⟩:∃sz,sz=zs.mergeSort fun x y=>decide (x≤y):=⟨_,rfl⟩
    have hperm:sz.Perm zs:=by rw [hsz]; exact List.mergeSort_perm zs _
    have hslen:sz.length=n:=by rw [hperm.length_eq,hlen]
    have hsorted:sz.Pairwise fun a b=>decide (a≤b)=true:=by
      rw [hsz]
      exact List.pairwise_mergeSort (fun a b c h1 h2=>by simp at h1 h2 ⊢; omega) (fun a b=>by simp; omega) zs
    rw [←hsz]
    have hx1:hp (Sort.ahead w m) b=some x:=hx
    have hP:=hp_putRow (o:=o) (d:=sz.toArray) hx1
    have hs1:(Sort.putRow (Value.int .i64) (Sort.ahead w m) b o sz.toArray).heap.size=w.heap.size:=putRow_size _ _ _ _
    have hat:∀b',b'<w.heap.size→hp (Sort.grow (Sort.putRow (Value.int .i64) (Sort.ahead w m) b o sz.toArray) os) b'=((hp w).upd b ⟨(Sort.putCells (Value.int .i64) o sz.toArray x.cells.toArray).toList,x.ty⟩) b':=fun b' hb'=>by
      rw [hp_grow (by rw [hs1]; exact hb'),hP,hp_ahead]
    have hst:Step (fpS (some ⟨b,o,none⟩)) (hp w) (hp (Sort.grow (Sort.putRow (Value.int .i64) (Sort.ahead w m) b o sz.toArray) os)):=by
      refine ⟨fun b' y hy hf=>?_,fun b' hn'=>?_⟩
      · rw [hat b' (hp_lt hy)]
        have:b'≠b:=fun e=>hf (by rw [fpS_mk]; exact e)
        rw [upd_ne this]; exact hy
      · cases hy:hp w b' with
        | none=>rfl
        | some y=>
          rw [hat b' (hp_lt hy)] at hn'
          by_cases e:b'=b
          · subst e; rw [upd_same] at hn'; cases hn'
          · rw [upd_ne e,hy] at hn'; cases hn'
    refine ⟨⟨rfl,rfl,rfl,?_,fun b' hb' hh=>?_,fun b' hh h'=>hh (hst.mono b' h'),by show w.drawn≤w.drawn+m; omega⟩,?_⟩
    · show w.heap.size≤_
      simp [Sort.grow,hs1]
    · have hne:b≠b':=fun e=>by subst e; rw [hx] at hh; cases hh
      have h1:b'<(Sort.putRow (Value.int .i64) (Sort.ahead w m) b o sz.toArray).heap.size:=by rw [hs1]; exact hb'
      simp only [Sort.grow,Array.getElem?_append,h1,if_true]
      simp [Sort.putRow,Sort.mapBlock,Array.getElem?_modify,hne,Sort.ahead]
    · refine k _ (fun i=>sz[i]?.getD 0) ⟨h.le,h.cap,.inr ⟨b,o,⟨(Sort.putCells (Value.int .i64) o sz.toArray x.cells.toArray).toList,x.ty⟩,rfl,by rw [hat b hb,upd_same],⟨by rw [hw1]; simp [Sort.putCells]; omega,hz⟩,fun i hi j hj=>?_⟩⟩ hst (fun i j hij hj=>?_) ?_
      · have hj0:j=0:=by rw [hw1] at hj; omega
        subst hj0
        rw [hw1]
        have hlt:o+i<x.cells.length:=by omega
        have hb':o≤o+i*1+0∧o+i*1+0<o+sz.length:=by omega
        simp only [Sort.putCells,Array.getElem?_toList,Array.getElem?_mapIdx,List.size_toArray,hb',and_self,if_true]
        have e1:o+i*1+0=o+i:=by omega
        rw [e1,List.getElem?_toArray,List.getElem?_eq_getElem hlt]
        have e2:o+i-o=i:=by omega
        have hsi:i<sz.toArray.size:=by simp [hslen,hi]
        simp only [Option.map_some,e2]
        rw [getElem!_pos sz.toArray i hsi]
        have e3:sz[i]?.getD 0=sz.toArray[i]:=by rw [List.getElem?_eq_getElem (by omega)]; rfl
        rw [e3]; rfl
      · have:=List.pairwise_iff_getElem.1 hsorted i j (by omega) (by omega) hij
        simp only [List.getElem?_eq_getElem (show i<sz.length by omega),List.getElem?_eq_getElem (show j<sz.length by omega),Option.getD_some]
        simpa using this
      · have:(List.range n).map (fun i=>sz[i]?.getD 0)=sz:=by
          apply List.ext_getElem (by simp [hslen])
          intro i h1 h2
          simp [List.getElem?_eq_getElem h2]
        rw [this,←hzs]
        exact hperm
end
end Go.Mz
/-
  Walks of layer 18: the answer of a search: its sets.
-/
namespace Go.Mz
theorem map_lsF {l:List Nat}:(List.range l.length).map (lsF l)=l.map (fun (v:Nat)=>(v:Int)):=by
  apply List.ext_getElem
  · simp
  · intro i h1 h2
    simp only [List.length_map,List.length_range] at h1
    simp only [List.getElem_map,List.getElem_range]
    exact lsF_ltp h1
theorem sorted_ris {l:List Nat} {n:Nat} {g:Nat→Int} (hnd:l.Nodup) (hlt:∀v∈l,v<n) (hs:∀i j,i<j→j<l.length→g i≤g j) (hp:((List.range l.length).map g).Perm ((List.range l.length).map (lsF l))) :
    Ris g l.length (n:Int)∧∀v:Nat,In g l.length (v:Int)↔v∈l:=by
  rw [map_lsF] at hp
  have hmem:∀x:Int,x∈(List.range l.length).map g↔∃v,v∈l∧(v:Int)=x:=fun x=>by
    rw [hp.mem_iff,List.mem_map]
  have hnd2:((List.range l.length).map g).Nodup:=by
    rw [hp.nodup_iff]
    exact List.Pairwise.map _ (fun a b h=>by intro e; exact h (by omega)) hnd
  have hgm:∀i,i<l.length→∃v,v∈l∧(v:Int)=g i:=fun i hi=>(hmem _).1 (List.mem_map.2 ⟨i,List.mem_range.2 hi,rfl⟩)
  refine ⟨fun i hi=>?_,fun v=>?_⟩
  · obtain ⟨v,hv,e⟩:=hgm i hi
    have:=hlt v hv
    refine ⟨by omega,by omega,fun h0=>?_⟩
    have h1:=hs (i-1) i (by omega) hi
    have hne:g (i-1)≠g i:=fun e=>by
      have hk:=List.pairwise_iff_getElem.1 (List.pairwise_map.1 hnd2) (i-1) i (by simp; omega) (by simp; omega) (by omega)
      simp only [List.getElem_range] at hk
      exact hk e
    omega
  · constructor
    · rintro ⟨i,hi,e⟩
      obtain ⟨w,hw,e2⟩:=hgm i hi
      have:w=v:=by omega
      exact this▸hw
    · intro hv
      obtain ⟨i,hi,e⟩:=List.mem_map.1 ((hmem (v:Int)).2 ⟨v,hv,rfl⟩)
      exact ⟨i,List.mem_range.1 hi,e⟩
structure SetR (Hb Hc:Hp) (db n:Nat) (σ:KS) (b:Nat) (sp:OA) (k sc:Nat) (bl:Nat→Nat) (S:Nat→Sl) (F:Nat→Nat→Int):Prop where
  rs:Row Hc sp k sc (fun j=>((S j,σ.z (bl j)):Sl × Int))
  bg:∀j,j<k→n≤bl j∧bl j<b∧σ.up (bl j)≠-2∧0<σ.z (bl j)
  inc:∀i j,i<j→j<k→bl i<bl j
  all:∀c,n≤c→c<b→σ.up c≠-2→0<σ.z c→∃j,j<k∧bl j=c
  each:∀j,j<k→(S j).n=(nd n σ (bl j)).length∧Row Hc (S j).p (S j).n (S j).c (F j)∧Ris (F j) (S j).n (n:Int)∧∀v:Nat,In (F j) (S j).n (v:Int)↔v∈nd n σ (bl j)
  fs:∀y,fpS sp y→Hb y=none∧y≠db
  fe:∀j,j<k→∀y,fpS (S j).p y→Hb y=none∧y≠db∧¬fpS sp y
  dj:∀i j,i<j→j<k→∀y,fpS (S j).p y→¬fpS (S i).p y
section
variable {E:VP}
variable {H0 H Hc:Hp} {Y:PY} {X:KX} {n ne:Nat} {fr to:Nat→Nat} {tw:Nat→Int} {σ σ':KS} {R0 D W:Int}
theorem SetR.len {Hb:Hp} {db b k sc:Nat} {sp:OA} {bl:Nat→Nat} {S:Nat→Sl} {F:Nat→Nat→Int} (h:SetR Hb Hc db n σ b sp k sc bl S F):k≤b:=by
  have key:∀j,j<k→j≤bl j:=by
    intro j
    induction j with
    | zero=>intro _; exact Nat.zero_le _
    | succ j ih=>intro hj; have:=ih (by omega); have:=h.inc j (j+1) (by omega) hj; omega
  rcases Nat.eq_zero_or_pos k with e | e
  · omega
  · have:=key (k-1) (by omega)
    have:=(h.bg (k-1) (by omega)).2.1
    omega
theorem psets {t3:Nat} {mp:OA} {mn mc:Nat} {K:OA→Nat→Nat→OA→Nat→Nat→OA→Nat→Nat→Hp→Prop} (h:PsM H0 H Y X n ne fr to tw σ) (I:Inv n ne fr to tw R0 D σ) (hm:σ.m≤1048576) (ht:H t3=some ⟨[.slice none 0 0,.slice none 0 0],30⟩)
    (k:∀H' sp k sc bl S F,Step (·=t3) H H'→SetR H H' t3 n σ σ.m sp k sc bl S F→K mp mn mc (some ⟨Y.yb,0,none⟩) n n sp k sc H'):Q14.j3 (some ⟨Y.sb,0,none⟩) t3 mp mn mc E H K:=by
  have hK:=I.kp
  have hnN:=h.nN
  refine Q14.j3_eq ?_
  unfold Q14.j3_t
  simp only [nn_mk,get_at h.cell,gZ,gS,ldI_mk,ldS_mk,Nat.zero_add]
  refine nwst rfl rfl fun db H2 hdb e2 s2=>?_
  have h2:=h.keep0 s2
  have ndt:t3≠db:=fun e=>by rw [←e,ht] at hdb; cases hdb
  simp only [nn_mk,get_at h2.cell,gZ,gS,ldI_mk,ldS_mk,Nat.zero_add]
  refine Q14.l3_rule (fun s0 t3' mp' mn' mc' d' b' H3=>s0=some ⟨Y.sb,0,none⟩∧t3'=t3∧mp'=mp∧mn'=mn∧mc'=mc∧d'=db∧∃(b k sc:Nat) (sp:OA) (bl:Nat→Nat) (S:Nat→Sl) (F:Nat→Nat→Int),b'=b∧n≤b∧b≤σ.m∧Step (fun _=>False) H H3∧SetR H H3 db n σ b sp k sc bl S F∧
      H3 db=some ⟨[.slice (some ⟨Y.yb,0,none⟩) n n,.slice sp k sc],30⟩)
    (fun _ _ _ _ _ _ b' _=>σ.m-b'.toNat) ?_ ⟨rfl,rfl,rfl,rfl,rfl,rfl,n,0,0,none,fun _=>0,fun _=>⟨none,0,0⟩,fun _ _=>0,rfl,Nat.le_refl _,hK.nm,s2,⟨.nil,fun j hj=>by omega,fun i j h1 h2=>by omega,fun c h1 h2=>by omega,fun j hj=>by omega,fun y hy=>by rw [fpS_none] at hy; exact hy.elim,fun j hj=>by omega,fun i j h1 h2=>by omega⟩,e2⟩
  clear h2 e2 s2
  rintro s0 t3' mp' mn' mc' d' b' H3 ⟨rfl,rfl,rfl,rfl,rfl,rfl,b,q,sc,sp,bl,S,F,rfl,hb,hbm,st,J,ed⟩ X1 hX
  have h3:=h.keep0 st
  refine Q14.b3_eq ?_
  unfold Q14.b3_t
  simp only [nn_mk,get_at h3.cell,gZ,gS,ldI_mk,ldS_mk,Nat.zero_add]
  refine bc (fun hl=>?_) fun hge=>?_
  · have hl:b<σ.m:=by omega
    refine h3.pt (by omega) (by omega) fun c3 o3 q3=>?_
    rw [tN] at q3
    have g3:=h3.get q3 hl
    simp only [g3.1,g3.2.1,g3.2.2.1,g3.2.2.2.1,g3.2.2.2.2.1,g3.2.2.2.2.2.1,g3.2.2.2.2.2.2.1,g3.2.2.2.2.2.2.2.1,g3.2.2.2.2.2.2.2.2,ldI_mk,ldS_mk]
    refine nwst rfl rfl fun b4 H4 hb4 e4 s4=>?_
    have h4:=h3.keep0 s4
    have st4:=st.trans s4 fun _ h=>h.elim
    have ed4:=s4.keep _ _ ed fun h=>h
    simp only [get_at e4,gZ,gS,ldI_mk,ldS_mk]
    have J4:SetR H H4 d' n σ b sp q sc bl S F:=⟨J.rs.keep s4 fun _ _ h=>h,J.bg,J.inc,J.all,fun j hj=>⟨(J.each j hj).1,(J.each j hj).2.1.keep s4 fun _ _ h=>h,(J.each j hj).2.2⟩,J.fs,J.fe,J.dj⟩
    have nx:(σ.up b=-2∨¬0<σ.z b)→Q14.j4 (some ⟨Y.sb,0,none⟩) t3' mp' mn' mc' d' (b:Int) X1 E H4 K:=fun hno=>by
      refine Q14.j4_eq ?_
      unfold Q14.j4_t
      rw [i64w (by omega) (by omega)]
      refine hX _ _ _ _ _ _ _ _ ⟨rfl,rfl,rfl,rfl,rfl,rfl,b+1,q,sc,sp,bl,S,F,by omega,by omega,by omega,st4,⟨J4.rs,fun j hj=>by have:=J4.bg j hj; exact ⟨this.1,by omega,this.2.2⟩,J4.inc,fun c h1 h2 h3 h4=>?_,J4.each,J4.fs,J4.fe,J4.dj⟩,ed4⟩ (by omega)
      by_cases e:c=b
      · subst e
        rcases hno with h5 | h5
        · exact (h3 h5).elim
        · exact (h5 h4).elim
      · exact J4.all c h1 (by omega) h3 h4
    refine bcn (fun hu=>?_) fun hu=>nx (.inl hu)
    refine bc (fun hz=>?_) fun hz=>nx (.inr hz)
    have hmem:=nd_mem hK h.kl b hl hu
    have hlen:=nd_len hK h.kl hl hu
    have hnodup:=nd_nodup hK h.kl b hl hu
    refine pnodes b h4 hl (Nat.le_trans hlen hnN) fun H5 p5 c5 s5 r5 f5=>?_
    have e45:=s5.keep _ _ e4 fun h=>h
    have ed5:=s5.keep _ _ ed4 fun h=>h
    refine sortI r5 (by omega) fun H6 g r6 s6 hs hp=>?_
    obtain ⟨hris,hin⟩:=sorted_ris hnodup (fun v hv=>((hmem v).1 hv).1) hs hp
    have f5H:∀y,fpS p5 y→H y=none:=fun y hy=>st4.none_at (f5 y hy)
    have f5d:∀y,fpS p5 y→y≠d':=fun y hy e=>by have:=f5 y hy; rw [e,ed4] at this; cases this
    have f5s:∀y,fpS p5 y→¬fpS sp y:=fun y hy hh=>J4.rs.live hh (f5 y hy)
    have f54:∀y,fpS p5 y→y≠b4:=fun y hy e=>by have:=f5 y hy; rw [e,e4] at this; cases this
    have f5e:∀j,j<q→∀y,fpS p5 y→¬fpS (S j).p y:=fun j hj y hy hh=>(J4.each j hj).2.1.live hh (f5 y hy)
    have ed6:=s6.keep _ _ ed5 fun hh=>f5d _ hh rfl
    have e46:=s6.keep _ _ e45 fun hh=>f54 _ hh rfl
    have rs6:=(J4.rs.keep s5 fun _ _ h=>h).keep s6 fun y hy hh=>f5s y hh hy
    have st6:=(st4.trans s5 fun _ h=>h.elim).own s6 f5H
    have hql:=J.len
    simp only [get_at ed6,get_at e46,gZ,gS,ldI_mk,ldS_mk]
    refine Row.app (α:=Sl × Int) rs6 ((⟨p5,(nd n σ b).length,c5⟩,σ.z b):Sl × Int) rfl (by omega) (by decide) fun p7 c7 H7 r7 s7 f7=>?_
    have ed7:=s7.keep _ _ ed6 fun hh=>(J4.fs _ hh).2 rfl
    refine stp ed7 (by simp) rfl fun H8 e8 s8=>?_
    have f7n:∀y,fpS p7 y→H y=none∧y≠d':=fun y hy=>by
      rcases f7 y hy with hh | hh
      · exact J4.fs y hh
      · exact ⟨st6.none_at hh,fun e=>by rw [e,ed6] at hh; cases hh⟩
    have f7p:∀y,fpS p5 y→¬fpS p7 y:=fun y hy hh=>by
      rcases f7 y hh with h1 | h1
      · exact f5s y hy h1
      · exact r6.live hy h1
    refine Q14.j4_eq ?_
    unfold Q14.j4_t
    rw [i64w (by omega) (by omega)]
    refine hX _ _ _ _ _ _ _ _ ⟨rfl,rfl,rfl,rfl,rfl,rfl,b+1,q+1,c7,p7,upf bl q b,upf S q ⟨p5,(nd n σ b).length,c5⟩,upf F q g,by omega,by omega,by omega,(st6.own s7 fun y hy=>(J4.fs y hy).1).own s8 fun y hy=>hy▸hdb,?_,e8⟩ (by omega)
    · refine ⟨?_,fun j hj=>?_,fun i j hij hj=>?_,fun c h1 h2 h3' h4'=>?_,fun j hj=>?_,f7n,fun j hj y hy=>?_,fun i j hij hj y hy=>?_⟩
      · refine (r7.keep s8 fun y hy hh=>(f7n y hy).2 hh).congr fun j hj=>?_
        by_cases e:j=q
        · rw [e,upf_same,upf_same,upf_same]
        · rw [upf_ne e,upf_ne e,upf_ne e]
      · by_cases e:j=q
        · rw [e,upf_same]; exact ⟨hb,by omega,hu,hz⟩
        · rw [upf_ne e]
          have:=J4.bg j (by omega)
          exact ⟨this.1,by omega,this.2.2⟩
      · by_cases e:j=q
        · rw [e,upf_same,upf_ne (by omega)]
          exact (J4.bg i (by omega)).2.1
        · rw [upf_ne e,upf_ne (by omega)]
          exact J4.inc i j hij (by omega)
      · by_cases e:c=b
        · exact ⟨q,by omega,by rw [upf_same,e]⟩
        · obtain ⟨j,hj,ej⟩:=J4.all c h1 (by omega) h3' h4'
          exact ⟨j,by omega,by rw [upf_ne (by omega)]; exact ej⟩
      · by_cases e:j=q
        · rw [e,upf_same,upf_same,upf_same]
          exact ⟨rfl,(r6.keep s7 fun y hy hh=>f5s y hy hh).keep s8 fun y hy hh=>f5d y hy hh,hris,hin⟩
        · rw [upf_ne e,upf_ne e,upf_ne e]
          obtain ⟨a1,a2,a3⟩:=J4.each j (by omega)
          refine ⟨a1,?_,a3⟩
          exact (((a2.keep s5 fun _ _ h=>h).keep s6 fun y hy hh=>f5e j (by omega) y hh hy).keep s7 fun y hy hh=>(J4.fe j (by omega) y hy).2.2 hh).keep s8 fun y hy hh=>(J4.fe j (by omega) y hy).2.1 hh
      · by_cases e:j=q
        · rw [e,upf_same] at hy
          exact ⟨f5H y hy,f5d y hy,f7p y hy⟩
        · rw [upf_ne e] at hy
          obtain ⟨a1,a2,a3⟩:=J4.fe j (by omega) y hy
          refine ⟨a1,a2,fun hh=>?_⟩
          rcases f7 y hh with h1 | h1
          · exact a3 h1
          · have hlv:=((J4.each j (by omega)).2.1.keep s5 fun _ _ h=>h).keep s6 fun y hy hh=>f5e j (by omega) y hh hy
            exact hlv.live hy h1
      · rw [upf_ne (by omega:i≠q)]
        by_cases e:j=q
        · rw [e,upf_same] at hy
          exact f5e i (by omega) y hy
        · rw [upf_ne e] at hy
          exact J4.dj i j hij (by omega) y hy
  · have:b=σ.m:=by omega
    subst this
    refine Q14.j5_eq ?_
    unfold Q14.j5_t
    have et:=st.keep _ _ ht fun h=>h
    simp only [get_at ed,gZ,gS,ldI_mk,ldS_mk]
    refine stk et rfl rfl fun H4 e4 s4=>?_
    simp only [get_at e4,gZ,gS,ldI_mk,ldS_mk]
    have nt:∀y,H y=none→y≠t3':=fun y hy e=>by rw [e,ht] at hy; cases hy
    exact k H4 sp q sc bl S F ((st.weak fun _ h=>h.elim).trans s4 fun _ h=>.inl h) ⟨J.rs.keep s4 fun y hy hh=>nt y (J.fs y hy).1 hh,J.bg,J.inc,J.all,fun j hj=>⟨(J.each j hj).1,(J.each j hj).2.1.keep s4 fun y hy hh=>nt y (J.fe j hj y hy).1 hh,(J.each j hj).2.2⟩,fun y hy=>⟨(J.fs y hy).1,nt y (J.fs y hy).1⟩,fun j hj y hy=>⟨(J.fe j hj y hy).1,nt y (J.fe j hj y hy).1,(J.fe j hj y hy).2.2⟩,J.dj⟩
end
end Go.Mz
/-
  Walks of layer 18: a search, to its end.
-/
namespace Go.Mz
def mls (fr:Nat→Nat) (mb:Nat→Int):Nat→List Nat
  | 0=>[]
  | v+1=>if fr (mb v).toNat=v then mls fr mb v++[(mb v).toNat] else mls fr mb v
theorem mls_len {fr:Nat→Nat} {mb:Nat→Int}:∀v,(mls fr mb v).length≤v
  | 0=>Nat.le_refl _
  | v+1=>by
    have:=mls_len (fr:=fr) (mb:=mb) v
    unfold mls
    split
    · simp; omega
    · omega
section
variable {E:VP}
variable {H0 H H' Hc:Hp} {Y:PY} {X:KX} {n ne:Nat} {fr to:Nat→Nat} {tw:Nat→Int} {σ σ':KS} {R0 D W Q:Int}
theorem PsM.put {t:Nat} {x:Blk} (h:PsM H0 H Y X n ne fr to tw σ) (ht:H t=none) (s:Step (fun _=>False) H H') (e:H' t=some x):PsM (H0.upd t x) H' Y X n ne fr to tw σ:=by
  have a:=h.fresh ht
  have h0:=h.st.none_at ht
  have h':=h.keep0 s
  have up:∀{y},y≠t→H0 y=none→(H0.upd t x) y=none:=fun hy hn=>by rw [upd_ne hy]; exact hn
  refine ⟨⟨fun b y hb _=>?_,fun b hb=>?_⟩,h.he.keep (Step.new (F:=fun _=>False) h0) fun _ _ _ h=>h,h'.cell,h'.ry,h'.rb,h'.rf,h'.rk,h'.kd,h'.ka,h'.kl,h'.km,up (fun e=>a.s e.symm) h.f1,up (fun e=>a.y e.symm) h.f2,up (fun e=>a.b e.symm) h.f3,up (fun e=>a.f e.symm) h.f4,fun y hy=>⟨up (fun e=>a.k (e▸hy)) (h.fk y hy).1,(h.fk y hy).2⟩,h.d1,h.d2,h.d3,h.d4,h.d5,h.d6,h.nN,h.nE⟩
  · by_cases eb:b=t
    · rw [eb,upd_same] at hb; rw [eb,e]; exact hb
    · rw [upd_ne eb] at hb
      exact h'.st.keep b y hb (fun h=>h)
  · by_cases eb:b=t
    · rw [eb,e] at hb; cases hb
    · rw [upd_ne eb]; exact h'.st.none_at hb
theorem pmatch18 {t3:Nat} {K:OA→Nat→Nat→OA→Nat→Nat→OA→Nat→Nat→Hp→Prop} (h:PsM H0 H Y X n ne fr to tw σ) (I:Inv n ne fr to tw R0 D σ) (G:Gp n ne fr to tw R0 W) (hm:σ.m≤1048576) (hall:∀v,v<n→0≤σ.mb v) (ht:H t3=some ⟨[.slice none 0 0,.slice none 0 0],30⟩) (at3:AwP Y X t3)
    (k:∀Hs H' mp mc sp ks sc bl S F,Step (fun _=>False) H Hs→Step (·=t3) Hs H'→Row H' mp (mls fr σ.mb n).length mc (lsF (mls fr σ.mb n))→(∀y,fpS mp y→H y=none∧Hs y≠none)→SetR Hs H' t3 n σ σ.m sp ks sc bl S F→K mp (mls fr σ.mb n).length mc (some ⟨Y.yb,0,none⟩) n n sp ks sc H'):Q14.j1 (some ⟨Y.sb,0,none⟩) t3 E H K:=by
  have hnN:=h.nN
  refine Q14.j1_eq ?_
  unfold Q14.j1_t
  simp only [nn_mk,get_at h.cell,gZ,gS,ldI_mk,ldS_mk,Nat.zero_add]
  refine Q14.l2_rule (fun s0 t3' mp mn mc bp bn bc' t25 t26 H1=>s0=some ⟨Y.sb,0,none⟩∧t3'=t3∧bp=some ⟨Y.bb,0,none⟩∧bn=n∧t25=(n:Int)∧∃i:Nat,t26=i∧i≤n∧mn=(mls fr σ.mb i).length∧Step (fun _=>False) H H1∧Row H1 mp (mls fr σ.mb i).length mc (lsF (mls fr σ.mb i))∧∀y,fpS mp y→H y=none)
    (fun _ _ _ _ _ _ _ _ _ t26 _=>n-t26.toNat) ?_ ⟨rfl,rfl,rfl,rfl,rfl,0,rfl,Nat.zero_le _,rfl,.refl,.nil,fun y hy=>by rw [fpS_none] at hy; exact hy.elim⟩
  rintro s0 t3' mp mn mc bp bn bc' t25 t26 H1 ⟨rfl,rfl,rfl,rfl,rfl,i,rfl,hi,rfl,s1,r1,f1⟩ X1 hX
  have h1:=h.keep0 s1
  have hml:=mls_len (fr:=fr) (mb:=σ.mb) i
  refine Q14.b2_eq ?_
  unfold Q14.b2_t
  refine bc (fun hl=>?_) fun hge=>?_
  · have hl:i<bn:=by omega
    obtain ⟨e,he,hen,_⟩:=I.mm.en hl (by omega) (hall i hl)
    refine h1.rb.ixI (by omega) (by omega) ?_
    rw [tN,he]
    have hnE:=h.nE
    have hlt:=hen.1
    simp only [nn_mk,get_at h1.cell,gZ,gS,ldI_mk,ldS_mk,Nat.zero_add]
    refine h1.ed.ix3 (by omega) (by omega) fun c3 o3 y1 y2 y3=>?_
    simp only [tN,edF] at y1
    simp only [y1,ldI_mk]
    have het:(σ.mb i).toNat=e:=by rw [he,tN]
    refine bc (fun heq=>?_) fun hne=>?_
    · have em:mls fr σ.mb (i+1)=mls fr σ.mb i++[e]:=by
        show (if fr (σ.mb i).toNat=i then mls fr σ.mb i++[(σ.mb i).toNat] else mls fr σ.mb i)=_
        rw [het,if_pos (by omega)]
      refine r1.appI _ (by omega) fun p2 c2 H2 r2 s2 f2=>?_
      rw [lsF_app] at r2
      refine Q14.j2_eq ?_
      unfold Q14.j2_t
      rw [i64w (by omega) (by omega)]
      refine hX _ _ _ _ _ _ _ _ _ _ _ ⟨rfl,rfl,rfl,rfl,rfl,i+1,by omega,by omega,by rw [em,List.length_append]; rfl,s1.own s2 f1,by rw [em,List.length_append]; exact r2,fun y hy=>?_⟩ (by omega)
      rcases f2 y hy with hh | hh
      · exact f1 y hh
      · exact s1.none_at hh
    · have em:mls fr σ.mb (i+1)=mls fr σ.mb i:=by
        show (if fr (σ.mb i).toNat=i then mls fr σ.mb i++[(σ.mb i).toNat] else mls fr σ.mb i)=_
        rw [het,if_neg (by omega)]
      refine Q14.j2_eq ?_
      unfold Q14.j2_t
      rw [i64w (by omega) (by omega)]
      exact hX _ _ _ _ _ _ _ _ _ _ _ ⟨rfl,rfl,rfl,rfl,rfl,i+1,by omega,by omega,by rw [em],s1,by rw [em]; exact r1,f1⟩ (by omega)
  · have:i=bn:=by omega
    subst this
    have ht1:=s1.keep _ _ ht fun h=>h
    refine psets h1 I hm ht1 fun H2 sp ks sc bl S F s2 hS=>?_
    exact k H1 H2 mp mc sp ks sc bl S F s1 s2 (r1.keep s2 fun y hy hh=>ne_of_live (f1 y hy) (by rw [ht]; simp) hh.symm) (fun y hy=>⟨f1 y hy,r1.live hy⟩) hS
structure SoR (H0 Hs H':Hp) (n ne:Nat) (fr to:Nat→Nat) (tw:Nat→Int) (R0 Q:Int) (t3 yb:Nat) (σ:KS) (D:Int) (mp:OA) (mc:Nat) (sp:OA) (ks sc:Nat) (bl:Nat→Nat) (S:Nat→Sl) (F:Nat→Nat→Int):Prop where
  st:Step (fun _=>False) H0 H'
  inv:Inv n ne fr to tw R0 D σ
  dq:D≤Q
  all:∀v,v<n→0≤σ.mb v
  kl:∀b i,n≤b→b<σ.m→i<σ.kn b→σ.kd b i<b
  ry:Row H' (some ⟨yb,0,none⟩) n n σ.y
  rm:Row H' mp (mls fr σ.mb n).length mc (lsF (mls fr σ.mb n))
  set:SetR Hs H' t3 n σ σ.m sp ks sc bl S F
  f1:∀y,fpS mp y→H0 y=none∧y≠yb∧¬fpS sp y∧∀j,j<ks→¬fpS (S j).p y
  f2:H0 yb=none
  f3:∀y,fpS sp y→H0 y=none∧y≠yb
  f4:∀j,j<ks→∀y,fpS (S j).p y→H0 y=none∧y≠yb
theorem psolve {g:Nat→Int} {K:OA→Nat→Nat→OA→Nat→Nat→OA→Nat→Nat→Hp→Prop} (h:PsM H0 H Y X n ne fr to tw (KS.ini n R0)) (G:Gp n ne fr to tw R0 W) (hg:MM n ne fr to n g) (hall:∀v,v<n→0≤g v) (hB:Bdq n R0 W Q) (hQ:0≤Q) (hev:n%2=0)
    (k:∀Hs H' t3 σ D mp mc sp ks sc bl S F,SoR H0 Hs H' n ne fr to tw R0 Q t3 Y.yb σ D mp mc sp ks sc bl S F→K mp (mls fr σ.mb n).length mc (some ⟨Y.yb,0,none⟩) n n sp ks sc H'):Q14.call (some ⟨Y.sb,0,none⟩) E H K:=by
  have hnN:=h.nN
  refine Q14.of (Q14.run_eq ?_)
  unfold Q14.run_t
  refine nwk fun t3 H1 ht3 e1 s1=>?_
  have h0t:H0 t3=none:=h.st.none_at ht3
  have h1:=h.put ht3 s1 e1
  simp only [nn_mk,get_at h1.cell,gZ,gS,ldI_mk,ldS_mk,Nat.zero_add]
  refine ⟨by omega,?_⟩
  have ed:IntKind.wrap .i64 (Int.tdiv (n:Int) 2)=((n / 2:Nat):Int):=by
    rw [show Int.tdiv (n:Int) 2=((n / 2:Nat):Int) from rfl,i64w (by omega) (by omega)]
  rw [ed]
  have c0:cnt (fun v=>decide ((KS.ini n R0).mb v=-1)) n=n:=cnt_all fun i _=>rfl
  refine Q14.l1_rule (fun s0 t3' t15 t16 H2=>s0=some ⟨Y.sb,0,none⟩∧t3'=t3∧t15=((n / 2:Nat):Int)∧∃(s:Nat) (X:KX) (σ:KS) (D:Int),t16=s∧s≤n / 2∧PsM (H0.upd t3 ⟨[.slice none 0 0,.slice none 0 0],30⟩) H2 Y X n ne fr to tw σ∧Inv n ne fr to tw R0 D σ∧cnt (fun v=>decide (σ.mb v=-1)) n+2*s=n∧σ.m≤n+s*n∧D≤Q)
    (fun _ _ _ t16 _=>n / 2-t16.toNat) ?_ ⟨rfl,rfl,rfl,0,X,_,0,rfl,Nat.zero_le _,h1,.ini G,by rw [c0]; rfl,by rw [Nat.zero_mul]; exact Nat.le_refl _,hQ⟩
  clear h h1 e1 s1 c0
  rintro s0 t3' t15 t16 H2 ⟨rfl,rfl,rfl,s,X,σ,D,rfl,hs,h2,I,hf,hm,hd⟩ X1 hX
  refine Q14.b1_eq ?_
  unfold Q14.b1_t
  refine bc (fun hl=>?_) fun hge=>?_
  · have hl:s<n / 2:=by omega
    refine pstage (s:=s) h2 G hg hall hB I rfl (by omega) (by omega) hm fun H3 X3 σ3 D3 h3 I3 f3 m3 d3=>?_
    rw [i64w (by omega) (by omega)]
    exact hX _ _ _ _ _ ⟨rfl,rfl,rfl,s+1,X3,σ3,D3,by omega,by omega,h3,I3,by omega,m3,d3⟩ (by omega)
  · have hsn:s=n / 2:=by omega
    have hmm:σ.m≤1048576:=by
      have:s*n≤512*1024:=Nat.le_trans (Nat.mul_le_mul_left s hnN) (Nat.mul_le_mul_right 1024 (by omega))
      omega
    have hall':∀v,v<n→0≤σ.mb v:=fun v hv=>by
      rcases I.mm v hv (by omega) with e | ⟨i,e,_⟩
      · have:=cnt_pos (p:=fun v=>decide (σ.mb v=-1)) hv (decide_eq_true e)
        omega
      · omega
    have et:H2 t3'=some ⟨[.slice none 0 0,.slice none 0 0],30⟩:=h2.st.keep _ _ upd_same fun h=>h
    have ne3:∀y,(H0.upd t3' ⟨[.slice none 0 0,.slice none 0 0],30⟩) y=none→t3'≠y:=fun y hy e=>by rw [←e,upd_same] at hy; cases hy
    have a3:AwP Y X t3':=⟨ne3 _ h2.f1,ne3 _ h2.f2,ne3 _ h2.f3,ne3 _ h2.f4,fun hh=>ne3 _ (h2.fk _ hh).1 rfl⟩
    have s02:Step (fun _=>False) H0 H2:=(Step.new h0t).trans h2.st fun _ h=>h.elim
    refine pmatch18 h2 I G hmm hall' et a3 fun Hs H' mp mc sp ks sc bl S F q1 q2 rm fm hS=>?_
    have yl:H2 Y.yb≠none:=h2.ry.live ⟨0,rfl⟩
    have yls:Hs Y.yb≠none:=q1.live yl
    refine k Hs H' t3' σ D mp mc sp ks sc bl S F ⟨(s02.trans q1 fun _ h=>h.elim).own q2 fun y hy=>hy▸h0t,I,hd,hall',h2.kl,(h2.ry.keep q1 fun _ _ h=>h).keep q2 fun y hy hh=>a3.y (hh.symm.trans (fp1 hy)),rm,hS,fun y hy=>⟨s02.none_at (fm y hy).1,fun e=>yl (e▸(fm y hy).1),fun hh=>(fm y hy).2 (hS.fs y hh).1,fun j hj hh=>(fm y hy).2 (hS.fe j hj y hh).1⟩,?_,fun y hy=>⟨s02.none_at (q1.none_at (hS.fs y hy).1),fun e=>yls (e▸(hS.fs y hy).1)⟩,fun j hj y hy=>⟨s02.none_at (q1.none_at (hS.fe j hj y hy).1),fun e=>yls (e▸(hS.fe j hj y hy).1)⟩⟩
    have:=h2.f2
    rwa [upd_ne (ne3 _ h2.f2).symm] at this
end
end Go.Mz
/-
  What a search's answer is, in plain words: sums over the sets that weigh something. No program in sight.
-/
namespace Go.Mz
open Classical in
theorem psum_named {f:Nat→Int} {bl:Nat→Nat} {k m:Nat} (hlt:∀j,j<k→bl j<m) (hinj:∀i j,i<k→j<k→bl i=bl j→i=j):psum (fun j=>f (bl j)) k=psum (fun b=>if ∃j,j<k∧bl j=b then f b else 0) m:=by
  have h1:psum (fun j=>f (bl j)) k=psum (fun j=>psum (fun b=>if b=bl j then f b else 0) m) k:=psum_congr fun j hj=>by
    rw [←psum_single (x:=f (bl j)) (hlt j hj)]
    exact psum_congr fun b _=>by
      by_cases e:b=bl j
      · rw [if_pos e,if_pos e,e]
      · rw [if_neg e,if_neg e]
  rw [h1,psum_swap]
  refine psum_congr fun b _=>?_
  by_cases hx:∃j,j<k∧bl j=b
  · rw [if_pos hx]
    obtain ⟨j,hj,ej⟩:=hx
    refine Eq.trans (psum_congr fun i hi=>?_) (psum_single (x:=f b) hj)
    by_cases e:i=j
    · rw [if_pos e,if_pos (by rw [e]; exact ej.symm)]
    · rw [if_neg e,if_neg fun e'=>e (hinj i j hi hj (by rw [ej]; exact e'.symm))]
  · rw [if_neg hx]
    exact psum_zero fun j hj=>if_neg fun e=>hx ⟨j,hj,e.symm⟩
section
variable {n ne:Nat} {fr to:Nat→Nat} {tw:Nat→Int} {R0 D R W:Int} {σ σ':KS} {b c u v w x:Nat}
theorem Inv.inside (G:Gp n ne fr to tw R0 W) (h:Inv n ne fr to tw R0 D σ) (hb:b<σ.m) (hu:σ.up b≠-2) [DecidablePred fun v=>Kin σ.up v b]:cnt (fun v=>decide (Kin σ.up v b)) n=cnt (wi σ fr to σ.mb b) n+1∧cnt (wi σ fr to σ.mb b) n%2=0:=by
  have hw:=BasI.within h.kp b hb hu (h.ba.at' b)
  have key:∀v,v<n→(wi σ fr to σ.mb b v=true↔Kin σ.up v b∧v≠σ.base b):=fun v hv=>by
    constructor
    · intro hs
      obtain ⟨h0,h1,h2⟩:=odt hs
      refine ⟨h1,fun e=>?_⟩
      obtain ⟨i,e1,e2,e3,e4,e5,e6⟩:=h.mm.en hv (by omega) h0
      have hx:=h.mm.ltN G.nd hv h0
      have hne:mt fr to σ.mb v≠σ.base b:=by rw [e3,←e]; exact e2.ne
      obtain ⟨j,m1,m2,m3,m4,m5⟩:=BasI.mate' h.kp b hb hu (h.ba.at' b) _ hx h2 hne
      have:j=i:=by omega
      subst this
      apply m5
      rw [e3,e2.oo]; exact e
    · rintro ⟨k1,k2⟩
      obtain ⟨e,m1,m2,m3,m4,m5⟩:=BasI.mate' h.kp b hb hu (h.ba.at' b) v hv k1 k2
      have h0:0≤σ.mb v:=by omega
      obtain ⟨i,e1,e2,e3,e4,e5,e6⟩:=h.mm.en hv (by omega) h0
      have:i=e:=by omega
      subst this
      exact wi_of h0 k1 (by rw [e3]; exact m3)
  refine ⟨?_,?_⟩
  · refine cnt_less hw.2 (decide_eq_true hw.1) ?_ fun i hi hne=>?_
    · cases hq:wi σ fr to σ.mb b (σ.base b) with
      | false=>rfl
      | true=>exact ((key _ hw.2).1 hq).2 rfl |>.elim
    · have:=key i hi
      by_cases hk:Kin σ.up i b
      · rw [decide_eq_true hk,this.2 ⟨hk,hne⟩]
      · rw [decide_eq_false hk]
        cases hq:wi σ fr to σ.mb b i with
        | false=>rfl
        | true=>exact (hk (this.1 hq).1).elim
  · refine cnt_pairs (mt fr to σ.mb) _ rfl fun v hv hs=>?_
    obtain ⟨h0,h1,h2⟩:=odt hs
    obtain ⟨i,e1,e2,e3,e4,e5,e6⟩:=h.mm.en hv (by omega) h0
    exact ⟨h.mm.ltN G.nd hv h0,wi_of (by omega) h2 (by rw [e6]; exact h1),by rw [e3]; exact e2.ne,e6⟩
theorem Inv.worth (G:Gp n ne fr to tw R0 W) (h:Inv n ne fr to tw R0 D σ) (hall:∀v,v<n→0≤σ.mb v):psum (fun v=>tw (σ.mb v).toNat) n=2*psum σ.y n-psum (fun b=>σ.z b*(cnt (wi σ fr to σ.mb b) n:Int)) σ.m:=by
  rw [←csum_eq]
  have p1:psum (fun v=>tw (σ.mb v).toNat) n=psum (fun v=>σ.y v+σ.y (mt fr to σ.mb v)-cov σ v (mt fr to σ.mb v)) n:=psum_congr fun v hv=>by
    obtain ⟨i,e1,e2,e3,_⟩:=h.mm.en hv (by omega) (hall v hv)
    rw [e3,e1,tN]
    exact ((h.du.tm v i hv e1).at' e2).symm
  have p2:psum (fun v=>cov σ v (mt fr to σ.mb v)) n=csum σ fr to σ.mb n:=psum_congr fun v hv=>(if_pos (hall v hv)).symm
  rw [p1,psum_sub,psum_add,psum_perm (y:=σ.y) (s:=mt fr to σ.mb) fun v hv=>⟨h.mm.ltN G.nd hv (hall v hv),by
    obtain ⟨i,_,_,_,_,_,e6⟩:=h.mm.en hv (by omega) (hall v hv)
    exact e6⟩,p2]
  omega
/-! ### A node of its own for each composite -/
def lf (n:Nat) (kd:Nat→Nat→Nat):Nat→Nat→Nat
  | 0,b=>b
  | f+1,b=>if b<n then b else lf n kd f (kd b 0)
theorem lf_in (h:Kps n ne fr to σ):∀(b f:Nat),b<f→b<σ.m→σ.up b≠-2→lf n σ.kd f b<n∧Kin σ.up (lf n σ.kd f b) b:=by
  intro b
  induction b using Nat.strongRecOn with
  | _ b ih=>
    intro f hf hb hu
    obtain ⟨f',rfl⟩:∃f',f=f'+1:=⟨f-1,by omega⟩
    unfold lf
    by_cases hn:b<n
    · rw [if_pos hn]; exact ⟨hn,.here b⟩
    · rw [if_neg hn]
      have lv:σ.Lv n b:=⟨by omega,hb,hu⟩
      have h0:0<σ.kn b:=by have:=(h.odd b lv).2; omega
      obtain ⟨k1,k2⟩:=h.kid b 0 lv h0
      obtain ⟨i1,i2⟩:=ih _ k1 f' (by omega) (h.up_lt k2).1 (by omega)
      exact ⟨i1,i2.trans (.one k2)⟩
theorem lf_way (h:Kps n ne fr to σ):∀(e f c:Nat),e<f→e<σ.m→σ.up e≠-2→n≤c→Kin σ.up c e→Kin σ.up (lf n σ.kd f e) c→Kin σ.up (lf n σ.kd f e) (σ.kd c 0):=by
  intro e
  induction e using Nat.strongRecOn with
  | _ e ih=>
    intro f c hf he hu hc hce hk
    obtain ⟨f',rfl⟩:∃f',f=f'+1:=⟨f-1,by omega⟩
    by_cases hn:e<n
    · have:=hce.le h.upg
      omega
    · have lv:σ.Lv n e:=⟨by omega,he,hu⟩
      have h0:0<σ.kn e:=by have:=(h.odd e lv).2; omega
      obtain ⟨k1,k2⟩:=h.kid e 0 lv h0
      have hl:lf n σ.kd (f'+1) e=lf n σ.kd f' (σ.kd e 0):=by
        conv=>lhs; unfold lf
        rw [if_neg hn]
      have hin:=lf_in h _ f' (show σ.kd e 0<f' by omega) (h.up_lt k2).1 (by omega)
      rw [hl] at hk ⊢
      by_cases hce':c=e
      · rw [hce']; exact hin.2
      · -- c lies in the first kid
        obtain ⟨i,hi,hci⟩:=h.which lv hce hce'
        have:i=0:=h.kidn lv hi h0 (hk.trans hci) hin.2
        subst this
        exact ih _ k1 f' c (by omega) (h.up_lt k2).1 (by omega) hc hci hk
def own (n:Nat) (σ:KS) (b:Nat):Nat:=lf n σ.kd (σ.kd b 1+1) (σ.kd b 1)
theorem own_lt (h:Kps n ne fr to σ) (hb:σ.Lv n b):own n σ b<n∧Kin σ.up (own n σ b) (σ.kd b 1):=by
  have h1:1<σ.kn b:=by have:=(h.odd b hb).2; omega
  obtain ⟨k1,k2⟩:=h.kid b 1 hb h1
  exact lf_in h _ _ (by omega) (h.up_lt k2).1 (by omega)
theorem own_inj (h:Kps n ne fr to σ) (hb:σ.Lv n b) (hc:σ.Lv n c) (e:own n σ b=own n σ c):b=c:=by
  have key:∀{b c:Nat},σ.Lv n b→σ.Lv n c→own n σ b=own n σ c→Kin σ.up b c→b=c:=fun {b c} hb hc e hk=>by
    by_cases hbc:b=c
    · exact hbc
    · exfalso
      have h1b:1<σ.kn b:=by have:=(h.odd b hb).2; omega
      have h1c:1<σ.kn c:=by have:=(h.odd c hc).2; omega
      have ob:=own_lt h hb
      have oc:=own_lt h hc
      obtain ⟨i,hi,hbi⟩:=h.which hc hk hbc
      have hv:Kin σ.up (own n σ c) b:=by rw [←e]; exact h.kin hb h1b ob.2
      have:i=1:=h.kidn hc hi h1c (hv.trans hbi) oc.2
      subst this
      obtain ⟨k1,k2⟩:=h.kid c 1 hc h1c
      have:=lf_way h (σ.kd c 1) (σ.kd c 1+1) b (by omega) (h.up_lt k2).1 (by omega) hb.1 hbi hv
      have hk0:Kin σ.up (own n σ b) (σ.kd b 0):=by rw [e]; exact this
      have:=h.kidn hb (show 0<σ.kn b by omega) h1b hk0 ob.2
      omega
  have ob:=own_lt h hb
  have oc:=own_lt h hc
  have kb:Kin σ.up (own n σ b) b:=h.kin hb (by have:=(h.odd b hb).2; omega) ob.2
  have kc:Kin σ.up (own n σ b) c:=by rw [e]; exact h.kin hc (by have:=(h.odd c hc).2; omega) oc.2
  rcases kb.comp kc with hk | hk
  · exact key hb hc e hk
  · exact (key hc hb e.symm hk).symm
end
end Go.Mz
/-
  What a search's answer says, in the words of the vouching.
-/
namespace Go.Mz
section
variable {H0 Hs H':Hp} {n ne:Nat} {fr to:Nat→Nat} {tw:Nat→Int} {R0 D W Q:Int} {t3 yb:Nat} {σ:KS} {mp sp:OA} {mc ks sc:Nat} {bl:Nat→Nat} {S:Nat→Sl} {F:Nat→Nat→Int} {u v:Nat}
theorem SoR.live (h:SoR H0 Hs H' n ne fr to tw R0 Q t3 yb σ D mp mc sp ks sc bl S F) {j:Nat} (hj:j<ks):σ.Lv n (bl j):=by
  obtain ⟨a1,a2,a3,a4⟩:=h.set.bg j hj
  exact ⟨a1,a2,a3⟩
theorem SoR.mem (h:SoR H0 Hs H' n ne fr to tw R0 Q t3 yb σ D mp mc sp ks sc bl S F) {j:Nat} (hj:j<ks) (hv:v<n):In (F j) (S j).n (v:Int)↔Kin σ.up v (bl j):=by
  have lv:=h.live hj
  rw [(h.set.each j hj).2.2.2 v,nd_mem h.inv.kp h.kl _ lv.2.1 lv.2.2]
  exact ⟨fun hh=>hh.2,fun hh=>⟨hv,hh⟩⟩
theorem SoR.blinj (h:SoR H0 Hs H' n ne fr to tw R0 Q t3 yb σ D mp mc sp ks sc bl S F):∀i j,i<ks→j<ks→bl i=bl j→i=j:=fun i j hi hj e=>by
  rcases Nat.lt_trichotomy i j with h1 | h1 | h1
  · have:=h.set.inc i j h1 hj; omega
  · exact h1
  · have:=h.set.inc j i h1 hi; omega
theorem nodup_len {l:List Nat} {N:Nat} {p:Nat→Bool} (hn:l.Nodup) (hm:∀v,v∈l↔v<N∧p v=true):l.length=cnt p N:=by
  rw [←cnt_len]
  refine List.Perm.length_eq ((List.perm_ext_iff_of_nodup hn (List.Pairwise.filter _ List.nodup_range)).2 fun a=>?_)
  rw [hm,List.mem_filter,List.mem_range]
open Classical in
theorem SoR.size (G:Gp n ne fr to tw R0 W) (h:SoR H0 Hs H' n ne fr to tw R0 Q t3 yb σ D mp mc sp ks sc bl S F) {j:Nat} (hj:j<ks):(S j).n=cnt (wi σ fr to σ.mb (bl j)) n+1∧cnt (wi σ fr to σ.mb (bl j)) n%2=0∧3≤(S j).n:=by
  have lv:=h.live hj
  have hK:=h.inv.kp
  obtain ⟨i1,i2⟩:=h.inv.inside G lv.2.1 lv.2.2
  have e1:(S j).n=cnt (fun v=>decide (Kin σ.up v (bl j))) n:=by
    rw [(h.set.each j hj).1]
    refine nodup_len (nd_nodup hK h.kl _ lv.2.1 lv.2.2) fun v=>?_
    rw [nd_mem hK h.kl _ lv.2.1 lv.2.2 v,decide_eq_true_iff]
  have h3:=(hK.odd _ lv).2
  obtain ⟨k1,k2⟩:=hK.kid _ 0 lv (by omega)
  obtain ⟨k3,k4⟩:=hK.kid _ 1 lv (by omega)
  obtain ⟨x,hx,hxk⟩:=hK.some _ (hK.up_lt k2).1 (by omega)
  obtain ⟨y,hy,hyk⟩:=hK.some _ (hK.up_lt k4).1 (by omega)
  have hxy:x≠y:=fun e=>by
    have:=hK.kidn lv (show 0<σ.kn (bl j) by omega) (show 1<σ.kn (bl j) by omega) hxk (e▸hyk)
    omega
  have c1:=cnt_less (p:=fun v=>decide (Kin σ.up v (bl j))) (q:=fun v=>decide (Kin σ.up v (bl j)∧v≠x)) hx (decide_eq_true (hxk.trans (.one k2))) (by simp) fun i _ hne=>by simp [hne]
  have c2:=cnt_pos (p:=fun v=>decide (Kin σ.up v (bl j)∧v≠x)) hy (decide_eq_true ⟨hyk.trans (.one k4),Ne.symm hxy⟩)
  refine ⟨by rw [e1]; exact i1,i2,by omega⟩
theorem SoR.few (h:SoR H0 Hs H' n ne fr to tw R0 Q t3 yb σ D mp mc sp ks sc bl S F):ks≤n:=by
  have hK:=h.inv.kp
  have hnd:((List.range ks).map fun j=>own n σ (bl j)).Nodup:=by
    rw [List.Nodup,List.pairwise_map]
    refine List.Pairwise.imp_of_mem (fun {a b} ha hb hab=>?_) (List.pairwise_lt_range (n:=ks))
    intro e
    have:=h.blinj a b (List.mem_range.1 ha) (List.mem_range.1 hb) (own_inj hK (h.live (List.mem_range.1 ha)) (h.live (List.mem_range.1 hb)) e)
    omega
  have:=cnt_list (q:=fun _=>true) (N:=n) hnd fun x hx=>by
    obtain ⟨j,hj,e⟩:=List.mem_map.1 hx
    exact ⟨by rw [←e]; exact (own_lt hK (h.live (List.mem_range.1 hj))).1,rfl⟩
  have h2:=cnt_le (fun _=>true) n
  simp only [List.length_map,List.length_range] at this
  omega
theorem SoR.wt (G:Gp n ne fr to tw R0 W) (h:SoR H0 Hs H' n ne fr to tw R0 Q t3 yb σ D mp mc sp ks sc bl S F) (hb:-4398046511104≤R0-Q∧R0+Q≤4398046511104) (hq:2*Q≤4398046511104):Wt (n:Int) σ.y n (fun j=>σ.z (bl j)) (fun j=>(S j).n) F ks:=by
  refine ⟨rfl,by have:=h.few; omega,fun v hv=>?_,fun j hj=>?_⟩
  · have:=h.inv.du.yb v hv
    have:=h.dq
    omega
  · obtain ⟨s1,s2,s3⟩:=h.size G hj
    have hz:=h.inv.du.z0 _ (h.live hj).2.1
    have:=h.dq
    exact ⟨⟨s3,by show (S j).n%2=1; omega⟩,⟨hz.1,by show σ.z (bl j)≤_; omega⟩,(h.set.each j hj).2.2.1⟩
theorem SoR.sum (h:SoR H0 Hs H' n ne fr to tw R0 Q t3 yb σ D mp mc sp ks sc bl S F) {f:Nat→Int} (h0:∀b,b<σ.m→σ.z b=0→f b=0):psum (fun j=>f (bl j)) ks=psum f σ.m:=by
  classical
  rw [psum_named (fun j hj=>(h.live hj).2.1) h.blinj]
  refine psum_congr fun b hb=>?_
  by_cases hx:∃j,j<ks∧bl j=b
  · rw [if_pos hx]
  · rw [if_neg hx]
    refine (h0 b hb ?_).symm
    obtain ⟨z1,_⟩:=h.inv.du.z0 b hb
    refine Classical.byContradiction fun hne=>?_
    refine hx (h.set.all b ?_ hb (fun e=>hne (h.inv.du.zg b hb e)) (by omega))
    rcases Nat.lt_or_ge b n with h1 | h1
    · exact (hne (h.inv.du.zn b h1)).elim
    · exact h1
theorem SoR.pr (h:SoR H0 Hs H' n ne fr to tw R0 Q t3 yb σ D mp mc sp ks sc bl S F) (hu:u<n) (hv:v<n):prW σ.y (fun j=>σ.z (bl j)) (fun j=>(S j).n) F ks (u:Int) (v:Int)=σ.y u+σ.y v-cov σ u v:=by
  classical
  unfold prW
  simp only [tN]
  have:=h.sum (f:=zin σ u v) fun b _ hz=>by
    by_cases hk:Kin σ.up u b∧Kin σ.up v b
    · rw [zin_pos hk.1 hk.2]; exact hz
    · exact zin_neg hk
  have e1:psum (fun i=>if In (F i) (S i).n (u:Int)∧In (F i) (S i).n (v:Int) then σ.z (bl i) else 0) ks=psum (fun j=>zin σ u v (bl j)) ks:=psum_congr fun j hj=>by
    by_cases hk:Kin σ.up u (bl j)∧Kin σ.up v (bl j)
    · rw [zin_pos hk.1 hk.2,if_pos ⟨(h.mem hj hu).2 hk.1,(h.mem hj hv).2 hk.2⟩]
    · rw [zin_neg hk,if_neg fun hh=>hk ⟨(h.mem hj hu).1 hh.1,(h.mem hj hv).1 hh.2⟩]
  rw [e1,this]
  rfl
theorem SoR.twice (G:Gp n ne fr to tw R0 W) (h:SoR H0 Hs H' n ne fr to tw R0 Q t3 yb σ D mp mc sp ks sc bl S F):2*wsum σ.y n (fun j=>σ.z (bl j)) (fun j=>(S j).n) ks=psum (fun v=>tw (σ.mb v).toNat) n:=by
  rw [h.inv.worth G h.all]
  unfold wsum
  have e1:psum (fun i=>σ.z (bl i)*(((S i).n / 2:Nat):Int)) ks=psum (fun j=>σ.z (bl j)*((cnt (wi σ fr to σ.mb (bl j)) n / 2:Nat):Int)) ks:=psum_congr fun j hj=>by
    obtain ⟨s1,s2,s3⟩:=h.size G hj
    rw [show (S j).n / 2=cnt (wi σ fr to σ.mb (bl j)) n / 2 by omega]
  have e2:=h.sum (f:=fun b=>σ.z b*((cnt (wi σ fr to σ.mb b) n / 2:Nat):Int)) fun b _ hz=>by show σ.z b*_=0; rw [hz,Int.zero_mul]
  have e3:psum (fun b=>σ.z b*(cnt (wi σ fr to σ.mb b) n:Int)) σ.m=2*psum (fun b=>σ.z b*((cnt (wi σ fr to σ.mb b) n / 2:Nat):Int)) σ.m:=by
    rw [←psum_mulc]
    refine psum_congr fun b hb=>?_
    by_cases hz:σ.z b=0
    · rw [hz]; simp
    · have hu:σ.up b≠-2:=fun e=>hz (h.inv.du.zg b hb e)
      classical
      obtain ⟨_,i2⟩:=h.inv.inside G hb hu
      have:(cnt (wi σ fr to σ.mb b) n:Int)=2*((cnt (wi σ fr to σ.mb b) n / 2:Nat):Int):=by omega
      rw [this,←Int.mul_assoc,Int.mul_comm (σ.z b) 2,Int.mul_assoc]
  have e2:psum (fun j=>σ.z (bl j)*((cnt (wi σ fr to σ.mb (bl j)) n / 2:Nat):Int)) ks=psum (fun b=>σ.z b*((cnt (wi σ fr to σ.mb b) n / 2:Nat):Int)) σ.m:=e2
  have e1:psum (fun i=>(fun j=>σ.z (bl j)) i*(((fun j=>(S j).n) i / 2:Nat):Int)) ks=psum (fun j=>σ.z (bl j)*((cnt (wi σ fr to σ.mb (bl j)) n / 2:Nat):Int)) ks:=e1
  rw [e3,e1,e2]
  omega
end
end Go.Mz
/-
  The edges that match, as a list, in plain words. No program in sight.
-/
namespace Go.Mz
section
variable {n ne:Nat} {fr to:Nat→Nat} {tw f:Nat→Int} {mb:Nat→Int} {k e:Nat}
theorem mls_mem:e∈mls fr mb k↔∃v,v<k∧(mb v).toNat=e∧fr e=v:=by
  induction k with
  | zero=>exact ⟨fun h=>(by cases h),fun ⟨v,h,_⟩=>by omega⟩
  | succ k ih=>
    show e∈(if fr (mb k).toNat=k then mls fr mb k++[(mb k).toNat] else mls fr mb k)↔_
    by_cases h:fr (mb k).toNat=k
    · rw [if_pos h,List.mem_append,ih,List.mem_singleton]
      constructor
      · rintro (⟨v,h1,h2,h3⟩ | h1)
        · exact ⟨v,by omega,h2,h3⟩
        · exact ⟨k,by omega,h1.symm,by rw [h1]; exact h⟩
      · rintro ⟨v,h1,h2,h3⟩
        by_cases ev:v=k
        · subst ev; exact .inr h2.symm
        · exact .inl ⟨v,by omega,h2,h3⟩
    · rw [if_neg h,ih]
      constructor
      · rintro ⟨v,h1,h2,h3⟩; exact ⟨v,by omega,h2,h3⟩
      · rintro ⟨v,h1,h2,h3⟩
        by_cases ev:v=k
        · subst ev; exact (h (by rw [h2]; exact h3)).elim
        · exact ⟨v,by omega,h2,h3⟩
theorem mls_nodup:(mls fr mb k).Nodup:=by
  induction k with
  | zero=>exact List.nodup_nil
  | succ k ih=>
    show (if fr (mb k).toNat=k then mls fr mb k++[(mb k).toNat] else mls fr mb k).Nodup
    by_cases h:fr (mb k).toNat=k
    · rw [if_pos h,List.nodup_append]
      refine ⟨ih,by simp,fun x hx y hy e=>?_⟩
      rw [List.mem_singleton] at hy
      obtain ⟨v,h1,h2,h3⟩:=mls_mem.1 hx
      rw [e,hy,h] at h3
      omega
    · rw [if_neg h]; exact ih
def lsum (f:Nat→Int):List Nat→Int
  | []=>0
  | x :: l=>f x+lsum f l
theorem lsum_app {l r:List Nat}:lsum f (l++r)=lsum f l+lsum f r:=by
  induction l with
  | nil=>simp [lsum]
  | cons x l ih=>simp only [List.cons_append,lsum,ih]; omega
theorem lsum_mls:lsum f (mls fr mb k)=psum (fun v=>if fr (mb v).toNat=v then f (mb v).toNat else 0) k:=by
  induction k with
  | zero=>rfl
  | succ k ih=>
    show lsum f (if fr (mb k).toNat=k then mls fr mb k++[(mb k).toNat] else mls fr mb k)=psum (fun v=>if fr (mb v).toNat=v then f (mb v).toNat else 0) k+(if fr (mb k).toNat=k then f (mb k).toNat else 0)
    by_cases h:fr (mb k).toNat=k
    · rw [if_pos h,if_pos h,lsum_app,ih]; simp [lsum]
    · rw [if_neg h,if_neg h,ih]; omega
theorem mls_twice (hN:Nds n ne fr to) (hm:MM n ne fr to n mb) (hall:∀v,v<n→0≤mb v):psum (fun v=>f (mb v).toNat) n=2*lsum f (mls fr mb n):=by
  rw [lsum_mls]
  have h1:psum (fun v=>f (mb v).toNat) n=psum (fun v=>(fun v=>if fr (mb v).toNat=v then f (mb v).toNat else 0) v+(fun v=>if fr (mb v).toNat=v then f (mb v).toNat else 0) (mt fr to mb v)) n:=psum_congr fun v hv=>by
    obtain ⟨i,e1,e2,e3,e4,e5,e6⟩:=hm.en hv (by omega) (hall v hv)
    show f (mb v).toNat=(if fr (mb v).toNat=v then f (mb v).toNat else 0)+(if fr (mb (mt fr to mb v)).toNat=mt fr to mb v then f (mb (mt fr to mb v)).toNat else 0)
    rw [e5,e3,e1,tN]
    rcases e2.2.2 with h | h
    · rw [if_pos h.symm,if_neg fun hh=>e2.ne (by rw [←hh,h])]; omega
    · rw [if_neg fun hh=>e2.2.1 (by rw [hh]; exact h),if_pos (by unfold ot; omega)]; omega
  rw [h1,psum_add,psum_perm (y:=fun v=>if fr (mb v).toNat=v then f (mb v).toNat else 0) (s:=mt fr to mb) fun v hv=>⟨hm.ltN hN hv (hall v hv),by
    obtain ⟨i,_,_,_,_,_,e6⟩:=hm.en hv (by omega) (hall v hv)
    exact e6⟩]
  omega
theorem lsum_one {l:List Nat}:lsum (fun _=>1) l=(l.length:Int):=by
  induction l with
  | nil=>rfl
  | cons x l ih=>simp only [lsum,ih,List.length_cons]; omega
theorem mls_half (hN:Nds n ne fr to) (hm:MM n ne fr to n mb) (hall:∀v,v<n→0≤mb v):2*(mls fr mb n).length=n:=by
  have:=mls_twice (f:=fun _=>1) hN hm hall
  rw [psum_const,lsum_one] at this
  omega
end
section
variable {H0 Hs H':Hp} {n ne:Nat} {fr to:Nat→Nat} {tw:Nat→Int} {R0 D W Q:Int} {t3 yb:Nat} {σ:KS} {mp sp:OA} {mc ks sc:Nat} {bl:Nat→Nat} {S:Nat→Sl} {F:Nat→Nat→Int} {u v:Nat}
theorem SoR.cost (G:Gp n ne fr to tw R0 W) (h:SoR H0 Hs H' n ne fr to tw R0 Q t3 yb σ D mp mc sp ks sc bl S F):wsum σ.y n (fun j=>σ.z (bl j)) (fun j=>(S j).n) ks=lsum tw (mls fr σ.mb n):=by
  have h1:=h.twice G
  rw [mls_twice (f:=tw) G.nd h.inv.mm h.all] at h1
  omega
end
end Go.Mz
/-
  Edges without loops, numbered anew, in plain words. No program in sight.
-/
namespace Go.Mz
section
variable {M n k:Nat} {fr to wh:Nat→Nat} {b:Nat→Int}
theorem MM.renum (hN:Nds M n fr to) (h:MM M n fr to M b) (hall:∀v,v<M→0≤b v) (hw:∀j,j<k→wh j<n∧fr (wh j)≠to (wh j)) (hs:∀i,i<n→fr i≠to i→∃j,j<k∧wh j=i) (hi:∀i j,i<k→j<k→wh i=wh j→i=j) :
    ∃g,MM M k (fun j=>fr (wh j)) (fun j=>to (wh j)) M g∧∀v,v<M→0≤g v:=by
  classical
  have ex:∀v,v<M→∃j:Nat,j<k∧b v=(wh j:Int):=fun v hv=>by
    obtain ⟨i,e1,e2,_⟩:=h.en hv (by omega) (hall v hv)
    obtain ⟨j,hj,ej⟩:=hs i e2.1 e2.2.1
    exact ⟨j,hj,by rw [ej]; exact e1⟩
  let g:Nat→Int:=fun v=>if hv:v<M then ((Classical.choose (ex v hv):Nat):Int) else -1
  have hg:∀v,v<M→∃j:Nat,g v=j∧j<k∧b v=(wh j:Int):=fun v hv=>by
    have:=Classical.choose_spec (ex v hv)
    exact ⟨Classical.choose (ex v hv),dif_pos hv,this.1,this.2⟩
  refine ⟨g,fun v hv _=>?_,fun v hv=>?_⟩
  · obtain ⟨j,e1,e2,e3⟩:=hg v hv
    rcases h v hv (by omega) with e | ⟨i,a1,a2,a3,a4⟩
    · omega
    · have ei:i=wh j:=by omega
      subst ei
      have hx:ot fr to (wh j) v<M:=a2.ot.nd hN
      obtain ⟨j',c1,c2,c3⟩:=hg _ hx
      have:wh j'=wh j:=by omega
      have:=hi _ _ c2 e2 this
      subst this
      exact .inr ⟨j',e1,⟨c2,a2.2.1,a2.2.2⟩,by show ot fr to (wh j') v≠M; omega,c1⟩
  · obtain ⟨j,e1,_⟩:=hg v hv
    omega
end
end Go.Mz
/-
  Walks of layer 17: the start of a look; where two ways back meet; marking a way back.
-/
namespace Go.Mz
section
variable {E:VP}
variable {H0 H:Hp} {Y:LY} {M n:Nat} {e:Nat→Edg} {mb:Nat→Int} {v4 v5 v6 v7:Value} {base ρ:Nat→Nat} {via:Nat→Int} {ev:Nat→Bool} {qp:OA} {qc r:Nat} {Q:List Nat}
theorem blbegin {K:Hp→Prop} (h:BsC H0 H Y M n e (incs (ef e) (et e) n) mb v4 v5 v6 v7) (hM:M≤1024) (hr:r<M)
    (k:∀H' xb xv xe qp qc,BkM H0 H' { Y with xb:=xb,xv:=xv,xe:=xe } M n e mb (fun v=>v) (fun _=>-1) (fun v=>decide (v=r)) qp qc [r]→K H'):Q41.call (some ⟨Y.sb,0,none⟩) (r:Int) E H K:=by
  refine Q41.of (Q41.run_eq ?_)
  unfold Q41.run_t
  simp only [nn_mk,get_at h.cell,gZ,gS,ldI_mk,ldS_mk,Nat.zero_add]
  refine Row.mkI (by omega) (by omega) fun xb H1 hb1 r1 s1=>?_
  refine Row.mkI (by omega) (by omega) fun xv H2 hb2 r2 s2=>?_
  refine Row.mkB (by omega) (by omega) fun xe H3 hb3 r3 s3=>?_
  rw [tN] at r1 r2 r3 ⊢
  have hd1:xb≠xv:=fun hh=>r1.live ⟨0,rfl⟩ (hh▸hb2)
  have r1':=r1.keep s2 fun _ _ h=>h
  have hd2:xb≠xe:=fun hh=>r1'.live ⟨0,rfl⟩ (hh▸hb3)
  have hd3:xv≠xe:=fun hh=>r2.live ⟨0,rfl⟩ (hh▸hb3)
  have a1:=h.fresh hb1
  have c1:=h.keep0 s1
  have a2:=c1.fresh hb2
  have c2:=c1.keep0 s2
  have a3:=c2.fresh hb3
  have c3:=c2.keep0 s3
  have f1:H0 xb=none:=h.st.mono _ hb1
  have f2:H0 xv=none:=c1.st.mono _ hb2
  have f3:H0 xe=none:=c2.st.mono _ hb3
  have r13:=r1'.keep s3 fun _ _ h=>h
  have r23:=r2.keep s3 fun _ _ h=>h
  try simp only [nn_mk,Nat.zero_add]
  refine stp c3.cell (by simp) rfl fun H4 e4 s4=>?_
  have c4:=c3.setC (w4:=.slice (some ⟨xb,0,none⟩) M M) (w5:=v5) (w6:=v6) (w7:=v7) s4 e4
  refine stp c4.cell (by simp) rfl fun H5 e5 s5=>?_
  have c5:=c4.setC (w4:=.slice (some ⟨xb,0,none⟩) M M) (w5:=.slice (some ⟨xv,0,none⟩) M M) (w6:=v6) (w7:=v7) s5 e5
  refine stp c5.cell (by simp) rfl fun H6 e6 s6=>?_
  have c6:=c5.setC (w4:=.slice (some ⟨xb,0,none⟩) M M) (w5:=.slice (some ⟨xv,0,none⟩) M M) (w6:=.slice (some ⟨xe,0,none⟩) M M) (w7:=v7) s6 e6
  have s36:Step (·=Y.sb) H3 H6:=(s4.trans s5 fun _ h=>.inl h).trans s6 fun _ h=>.inl h
  have nsb:∀{x:Nat},x≠Y.sb→∀y,fpS (some ⟨x,0,none⟩) y→¬y=Y.sb:=fun hx y hy hh=>by rw [fpS_mk] at hy; exact hx (hy.symm.trans hh)
  have r16:=r13.keep s36 (nsb a1.s)
  have r26:=r23.keep s36 (nsb a2.s)
  have r36:=r3.keep s36 (nsb a3.s)
  refine Q41.l1_rule (fun s0 r0 t26 t27 H'=>s0=some ⟨Y.sb,0,none⟩∧r0=(r:Int)∧t26=(M:Int)∧∃(v:Nat) (ba vi:Nat→Int),t27=v∧v≤M∧BsC H0 H' Y M n e (incs (ef e) (et e) n) mb (.slice (some ⟨xb,0,none⟩) M M) (.slice (some ⟨xv,0,none⟩) M M) (.slice (some ⟨xe,0,none⟩) M M) v7∧
      Row H' (some ⟨xb,0,none⟩) M M ba∧Row H' (some ⟨xv,0,none⟩) M M vi∧Row H' (some ⟨xe,0,none⟩) M M (fun _=>false)∧(∀u,u<v→ba u=u)∧∀u,u<v→vi u=-1)
    (fun s0 r0 t26 t27 H'=>M-t27.toNat) ?_ ⟨rfl,rfl,rfl,0,_,_,rfl,Nat.zero_le _,c6,r16,r26,r36,fun u hu=>by omega,fun u hu=>by omega⟩
  rintro s0 r0 t26 t27 H7 ⟨rfl,rfl,rfl,v,ba,vi,rfl,hv,c7,q1,q2,q3,hba,hvi⟩ X hX
  refine Q41.b1_eq ?_
  unfold Q41.b1_t
  refine bc (fun hlt=>?_) fun hge=>?_
  · simp only [nn_mk,get_at c7.cell,gZ,gS,ldI_mk,ldS_mk,Nat.zero_add]
    refine q1.stI (by omega) (by omega) _ fun H8 q1' s8=>?_
    have q28:=q2.keep s8 fun y hy hh=>by rw [fpS_mk] at hy hh; exact hd1 (hh.symm.trans hy)
    have q38:=q3.keep s8 fun y hy hh=>by rw [fpS_mk] at hy hh; exact hd2 (hh.symm.trans hy)
    have c8:=c7.keep s8 fun y hy=>by rw [fpS_mk] at hy; exact hy▸⟨f1,a1⟩
    refine q28.stI (by omega) (by omega) _ fun H9 q2' s9=>?_
    have q19:=q1'.keep s9 fun y hy hh=>by rw [fpS_mk] at hy hh; exact hd1 (hy.symm.trans hh)
    have q39:=q38.keep s9 fun y hy hh=>by rw [fpS_mk] at hy hh; exact hd3 (hh.symm.trans hy)
    have c9:=c8.keep s9 fun y hy=>by rw [fpS_mk] at hy; exact hy▸⟨f2,a2⟩
    rw [tN] at q2' q19
    rw [i64w (by omega) (by omega)]
    refine hX _ _ _ _ _ ⟨rfl,rfl,rfl,v+1,_,_,by omega,by omega,c9,q19,q2',q39,fun u hu=>?_,fun u hu=>?_⟩ (by omega)
    · by_cases eu:u=v
      · rw [eu,upf_same]
      · rw [upf_ne eu]; exact hba u (by omega)
    · by_cases eu:u=v
      · rw [eu,upf_same]
      · rw [upf_ne eu]; exact hvi u (by omega)
  · clear hX
    refine Q41.j1_eq ?_
    unfold Q41.j1_t
    simp only [nn_mk,get_at c7.cell,gZ,gS,ldI_mk,ldS_mk,Nat.zero_add]
    refine q3.stB (by omega) (by omega) _ fun H8 q3' s8=>?_
    have q18:=q1.keep s8 fun y hy hh=>by rw [fpS_mk] at hy hh; exact hd2 (hy.symm.trans hh)
    have q28:=q2.keep s8 fun y hy hh=>by rw [fpS_mk] at hy hh; exact hd3 (hy.symm.trans hh)
    have c8:=c7.keep s8 fun y hy=>by rw [fpS_mk] at hy; exact hy▸⟨f3,a3⟩
    refine nwk fun qb H9 hqb eq s9=>?_
    have c9:=c8.keep0 s9
    have aq:=c8.fresh hqb
    try simp only [nn_mk,Nat.zero_add]
    refine stp c9.cell (by simp) rfl fun H10 e10 s10=>?_
    have c10:=c9.setC (w4:=.slice (some ⟨xb,0,none⟩) M M) (w5:=.slice (some ⟨xv,0,none⟩) M M) (w6:=.slice (some ⟨xe,0,none⟩) M M) (w7:=.slice (some ⟨qb,0,none⟩) 1 1) s10 e10
    have rq:Row H9 (some ⟨qb,0,none⟩) 1 1 (lsF [r]):=by
      refine ⟨Nat.le_refl _,by decide,.inr ⟨qb,0,_,rfl,eq,⟨by simp [El.w],rfl⟩,fun i hi j hj=>?_⟩⟩
      have:i=0:=by omega
      subst this
      have:j=0:=by have:El.w Int=1:=rfl; omega
      subst this
      rfl
    have live8:∀{x:Nat} {α:Type} [El α] {f:Nat→α},Row H8 (some ⟨x,0,none⟩) M M f→x≠qb:=fun hx hh=>hx.live ⟨0,rfl⟩ (hh▸hqb)
    refine k H10 xb xv xe (some ⟨qb,0,none⟩) 1 ⟨?_,?_,?_,?_,?_,?_,?_,?_,?_,f1,f2,f3,hd1,hd2,hd3⟩
    · exact ⟨c10.st,c10.he,c10.cell,c10.out,c10.rb,c10.fs,c10.fb,c10.d1,c10.d2,c10.d3,c10.d4⟩
    · exact (((q18.keep s9 fun _ _ h=>h).keep s10 (nsb a1.s)).congr fun u hu=>hba u (by omega))
    · exact (((q28.keep s9 fun _ _ h=>h).keep s10 (nsb a2.s)).congr fun u hu=>hvi u (by omega))
    · refine (((q3'.keep s9 fun _ _ h=>h).keep s10 (nsb a3.s)).congr fun u hu=>?_)
      rw [tN]
      by_cases eu:u=r
      · rw [eu,upf_same]; simp
      · rw [upf_ne eu]; simp [eu]
    · exact rq.keep s10 (nsb aq.s)
    · exact ⟨a1.s,a1.n,a1.b,a1.l⟩
    · exact ⟨a2.s,a2.n,a2.b,a2.l⟩
    · exact ⟨a3.s,a3.n,a3.b,a3.l⟩
    · intro y hy
      rw [fpS_mk] at hy
      subst hy
      exact ⟨c8.st.mono _ hqb,⟨aq.s,aq.n,aq.b,aq.l⟩,(live8 q18).symm,(live8 q28).symm,(live8 q3').symm⟩
theorem Tre.stn (hN:Nds M n (ef e) (et e)) (hMM:MM M n (ef e) (et e) M mb) (hT:Tre M n (ef e) (et e) mb r base via ev ρ) {u:Nat} (hu:u<M) (he:ev u=true) (hne:u≠r):∃j k:Nat,mb u=j∧En n (ef e) (et e) j u∧mt (ef e) (et e) mb u<M∧via (mt (ef e) (et e) mb u)=k∧En n (ef e) (et e) k (mt (ef e) (et e) mb u):=by
  obtain ⟨hb,k,hk,hen,_⟩:=hT.st u hu he hne
  obtain ⟨j,ej,hj,_⟩:=hMM.en hu (by omega) hb
  exact ⟨j,k,ej,hj,hMM.ltN hN hu hb,hk,hen⟩
def MtA (H0:Hp) (Y:LY) (M n:Nat) (e:Nat→Edg) (mb:Nat→Int) (base:Nat→Nat) (via:Nat→Int) (ev:Nat→Bool) (qp:OA) (qc:Nat) (Q:List Nat) (la:List Nat) (c pb:Nat) (s0:OA) (a1 b2:Int) (p7:OA) (p7n p7c:Nat) (H':Hp) (k:Nat):Prop:=
  s0=some ⟨Y.sb,0,none⟩∧b2=(c:Int)∧p7=some ⟨pb,0,none⟩∧p7n=M∧p7c=M∧∃(x:Nat) (q1 lx:List Nat) (ps:Nat→Bool),a1=x∧k=lx.length∧la=q1++lx∧AP n (ef e) (et e) mb via x lx∧x<M∧ev x=true∧BkM H0 H' Y M n e mb base via ev qp qc Q∧
    Row H' (some ⟨pb,0,none⟩) M M ps∧(∀z,ps z=true→z∈la∧base z=z)∧∀z∈q1,base z=z→ps z=true
def MtB (H0:Hp) (Y:LY) (M n:Nat) (e:Nat→Edg) (mb:Nat→Int) (base:Nat→Nat) (via:Nat→Int) (ev:Nat→Bool) (qp:OA) (qc:Nat) (Q:List Nat) (la lb:List Nat) (pb:Nat) (ps:Nat→Bool) (s0:OA) (b2:Int) (p7:OA) (p7n p7c:Nat) (H':Hp) (k:Nat):Prop:=
  s0=some ⟨Y.sb,0,none⟩∧p7=some ⟨pb,0,none⟩∧p7n=M∧p7c=M∧∃(y:Nat) (q1 ly:List Nat),b2=y∧k=ly.length∧lb=q1++ly∧AP n (ef e) (et e) mb via y ly∧y<M∧ev y=true∧BkM H0 H' Y M n e mb base via ev qp qc Q∧
    Row H' (some ⟨pb,0,none⟩) M M ps∧∀z∈q1,base z=z→z ∉ la
theorem blmeet {a c:Nat} {la lb:List Nat} {K:Int→Hp→Prop} (h:BkM H0 H Y M n e mb base via ev qp qc Q) (hr:Right (M:Int) n e) (hMM:MM M n (ef e) (et e) M mb) (hT:Tre M n (ef e) (et e) mb r base via ev ρ) (ha:a<M) (hc:c<M) (ea:ev a=true) (ec:ev c=true)
    (hla:AP n (ef e) (et e) mb via a la) (hlb:AP n (ef e) (et e) mb via c lb) (hnb:ND (ef e) (et e) mb lb)
    (k:∀H' top,BkM H0 H' Y M n e mb base via ev qp qc Q→Meet2 (ef e) (et e) base la lb top→top<M→K (top:Int) H'):Q47.call (some ⟨Y.sb,0,none⟩) (a:Int) (c:Int) E H K:=by
  have hN:=hr.nds
  have hM1:=hr.N1
  refine Q47.of (Q47.run_eq ?_)
  unfold Q47.run_t
  simp only [nn_mk,get_at h.c.cell,gZ,gS,ldI_mk,ldS_mk,Nat.zero_add]
  refine Row.mkB (by omega) (by omega) fun pb H1 hpb rp s1=>?_
  rw [tN] at rp ⊢
  have ap:=h.fresh hpb
  have fp:H0 pb=none:=h.c.st.mono _ hpb
  have h1:=h.keep0 s1
  have rootA:r∈la:=by
    have:∀{u:Nat} {l:List Nat},AP n (ef e) (et e) mb via u l→u<M→ev u=true→r∈l:=by
      intro u l hA
      induction hA with
      | root h0=>
        rename_i u
        intro hu he
        have:u=r:=Classical.byContradiction fun hne=>by have:=(hT.st u hu he hne).1; omega
        rw [this]; simp
      | step h1 hk he' hl ih=>
        rename_i u k' l'
        intro hu he
        have hne:u≠r:=fun e=>by rw [e,hT.rb] at h1; omega
        obtain ⟨_,k2,hk2,_,hev,_⟩:=hT.st u hu he hne
        have:=Int.ofNat.inj (hk.symm.trans hk2)
        subst this
        exact List.mem_cons_of_mem _ (ih (he'.ot.nd hN) hev)
    exact this hla ha ea
  have other:∀(ps:Nat→Bool) (H':Hp),BkM H0 H' Y M n e mb base via ev qp qc Q→Row H' (some ⟨pb,0,none⟩) M M ps→(∀z,ps z=true→z∈la∧base z=z)→(∀z∈la,base z=z→ps z=true)→Q47.j1 (some ⟨Y.sb,0,none⟩) (c:Int) (some ⟨pb,0,none⟩) M M E H' K:=fun ps H' hB hP hp1 hp2=>by
    refine Q47.j1_eq ?_
    unfold Q47.j1_t
    refine Q47.l2_rule (fun s0 b2 p7 p7n p7c H'=>∃k,MtB H0 Y M n e mb base via ev qp qc Q la lb pb ps s0 b2 p7 p7n p7c H' k) (fun s0 b2 p7 p7n p7c H'=>gm (MtB H0 Y M n e mb base via ev qp qc Q la lb pb ps s0 b2 p7 p7n p7c H')) ?_ ⟨lb.length,rfl,rfl,rfl,rfl,c,[],lb,rfl,rfl,rfl,hlb,hc,ec,hB,hP,fun z hz=>by cases hz⟩
    rintro s0 b2 p7 p7n p7c H2 ⟨k0,hk0⟩ X hX
    have hJ:=(gm_of hk0).1
    generalize gm (MtB H0 Y M n e mb base via ev qp qc Q la lb pb ps s0 b2 p7 p7n p7c H2)=kk at hJ hX
    obtain ⟨rfl,rfl,rfl,rfl,y,q1,ly,rfl,rfl,hl,hA,hy,hey,hB2,hP2,hfar⟩:=hJ
    obtain ⟨p,q,hsp,hpb⟩:=hT.split hN hA hy hey
    have hbN:=hT.baseN hy
    refine Q47.b2_eq ?_
    unfold Q47.b2_t
    simp only [nn_mk,get_at hB2.c.cell,gZ,gS,ldI_mk,ldS_mk,Nat.zero_add]
    refine hB2.rba.ixI (by omega) (by omega) ?_
    rw [tN]
    refine hP2.ixB (by omega) (by omega) ?_
    rw [tN]
    have hlb':lb=(q1++p)++base y :: q:=by rw [hl,hsp]; simp
    refine bcb (fun hps=>?_) fun hps=>?_
    · obtain ⟨hin,hbb⟩:=hp1 _ hps
      refine k H2 (base y) hB2 ⟨hbb,hin,q1++p,q,hlb',fun z hz hzb=>?_⟩ hbN
      rcases List.mem_append.1 hz with hz | hz
      · exact hfar z hz hzb
      · exfalso
        have:z=base y:=by rw [←hpb z hz,hzb]
        have hnd:=hnb.1
        rw [hlb'] at hnd
        exact (List.nodup_append.1 hnd).2.2 z (by simp [hz]) (base y) (by simp) this
    · have hno:base y ∉ la:=fun hin=>by rw [hp2 _ hin (hT.bb hy)] at hps; cases hps
      have hne:base y≠r:=fun e=>hno (e▸rootA)
      have heb:=(hT.evb hy).trans hey
      obtain ⟨j,k2,ej,hj,hmN,hk2,hen2⟩:=hT.stn hN hMM hbN heb hne
      obtain ⟨_,k3,hk3,_,hex,_⟩:=hT.st _ hbN heb hne
      have:=Int.ofNat.inj (hk2.symm.trans hk3)
      subst this
      refine blmate hB2.c hr hj ej ?_
      simp only [nn_mk,get_at hB2.c.cell,gZ,gS,ldI_mk,ldS_mk,Nat.zero_add]
      refine hB2.rvi.ixI (by omega) (by omega) ?_
      rw [tN,hk2]
      refine blother hB2.c hr hen2 ?_
      have hAb:AP n (ef e) (et e) mb via (base y) (base y :: q):=hA.suf hsp
      have hAn:AP n (ef e) (et e) mb via (ot (ef e) (et e) k2 (mt (ef e) (et e) mb (base y))) q:=by
        cases hAb with
        | root h0=>rw [ej] at h0; omega
        | step h1 hk' he' hl'=>
          have:=Int.ofNat.inj (hk2.symm.trans hk')
          subst this
          exact hl'
      have hJ':MtB H0 Y _ n e mb base via ev qp qc Q la lb pb ps (some ⟨Y.sb,0,none⟩) (ot (ef e) (et e) k2 (mt (ef e) (et e) mb (base y)):Int) (some ⟨pb,0,none⟩) _ _ H2 q.length:=⟨rfl,rfl,rfl,rfl,_,(q1++p)++[base y],q,rfl,rfl,by rw [hlb']; simp,hAn,hen2.ot.nd hN,hex,hB2,hP2,fun z hz hzb=>by
        rcases List.mem_append.1 hz with hz | hz
        · rcases List.mem_append.1 hz with hz | hz
          · exact hfar z hz hzb
          · rw [←hzb,hpb z hz]; exact hno
        · rw [List.mem_singleton.1 hz]; exact hno⟩
      refine hX _ _ _ _ _ _ ⟨_,hJ'⟩ (Nat.lt_of_le_of_lt (gm_of hJ').2 ?_)
      rw [hsp]; simp; omega
  refine Q47.l1_rule (fun s0 a1 b2 p7 p7n p7c H'=>∃k,MtA H0 Y M n e mb base via ev qp qc Q la c pb s0 a1 b2 p7 p7n p7c H' k) (fun s0 a1 b2 p7 p7n p7c H'=>gm (MtA H0 Y M n e mb base via ev qp qc Q la c pb s0 a1 b2 p7 p7n p7c H')) ?_ ⟨la.length,rfl,rfl,rfl,rfl,rfl,a,[],la,_,rfl,rfl,rfl,hla,ha,ea,h1,rp,fun z hz=>(by cases hz),fun z hz=>by cases hz⟩
  rintro s0 a1 b2 p7 p7n p7c H2 ⟨k0,hk0⟩ X hX
  have hJ:=(gm_of hk0).1
  generalize gm (MtA H0 Y M n e mb base via ev qp qc Q la c pb s0 a1 b2 p7 p7n p7c H2)=kk at hJ hX
  obtain ⟨rfl,rfl,rfl,rfl,rfl,x,q1,lx,ps,rfl,rfl,hl,hA,hx,hex,hB2,hP2,hp1,hp2⟩:=hJ
  obtain ⟨p,q,hsp,hpb'⟩:=hT.split hN hA hx hex
  have hbN:=hT.baseN hx
  have heb:=(hT.evb hx).trans hex
  have hla':la=(q1++p)++base x :: q:=by rw [hl,hsp]; simp
  refine Q47.b1_eq ?_
  unfold Q47.b1_t
  simp only [nn_mk,get_at hB2.c.cell,gZ,gS,ldI_mk,ldS_mk,Nat.zero_add]
  refine hB2.rba.ixI (by omega) (by omega) ?_
  rw [tN]
  refine hP2.stB (by omega) (by omega) _ fun H3 rp3 s3=>?_
  rw [tN] at rp3
  have hB3:=hB2.keep s3 fun y hy=>by rw [fpS_mk] at hy; exact hy▸⟨fp,ap⟩
  have hp1':∀z,upf ps (base x) true z=true→z∈la∧base z=z:=fun z hz=>by
    by_cases ez:z=base x
    · rw [ez]; exact ⟨by rw [hla']; simp,hT.bb hx⟩
    · rw [upf_ne ez] at hz; exact hp1 z hz
  have hp2':∀z∈(q1++p)++[base x],base z=z→upf ps (base x) true z=true:=fun z hz hzb=>by
    by_cases ez:z=base x
    · rw [ez,upf_same]
    · rw [upf_ne ez]
      rcases List.mem_append.1 hz with hz | hz
      · rcases List.mem_append.1 hz with hz | hz
        · exact hp2 z hz hzb
        · exact (ez (by rw [←hzb,hpb' z hz])).elim
      · exact (ez (List.mem_singleton.1 hz)).elim
  have hAb:AP n (ef e) (et e) mb via (base x) (base x :: q):=hA.suf hsp
  simp only [nn_mk,get_at hB3.c.cell,gZ,gS,ldI_mk,ldS_mk,Nat.zero_add]
  refine hB3.c.rb.ixI (by omega) (by omega) ?_
  rw [tN]
  refine bc (fun hneg=>?_) fun hpos=>?_
  · refine other _ H3 hB3 rp3 hp1' fun z hz hzb=>hp2' z ?_ hzb
    have hq:q=[]:=by
      cases q with
      | nil=>rfl
      | cons w q=>have:=hAb.pos rfl (by simp); omega
    rw [hla',hq] at hz
    exact hz
  · have hne:base x≠r:=fun e=>by rw [e,hT.rb] at hpos; omega
    obtain ⟨j,k2,ej,hj,hmN,hk2,hen2⟩:=hT.stn hN hMM hbN heb hne
    obtain ⟨_,k3,hk3,_,hex2,_⟩:=hT.st _ hbN heb hne
    have:=Int.ofNat.inj (hk2.symm.trans hk3)
    subst this
    refine blmate hB3.c hr hj ej ?_
    simp only [nn_mk,get_at hB3.c.cell,gZ,gS,ldI_mk,ldS_mk,Nat.zero_add]
    refine hB3.rvi.ixI (by omega) (by omega) ?_
    rw [tN,hk2]
    refine bc (fun hh=>by omega) fun _=>?_
    try simp only [nn_mk,get_at hB3.c.cell,gZ,gS,ldI_mk,ldS_mk,Nat.zero_add]
    refine hB3.rvi.ixI (by omega) (by omega) ?_
    rw [tN,hk2]
    refine blother hB3.c hr hen2 ?_
    have hAn:AP n (ef e) (et e) mb via (ot (ef e) (et e) k2 (mt (ef e) (et e) mb (base x))) q:=by
      cases hAb with
      | root h0=>rw [ej] at h0; omega
      | step h1 hk' he' hl'=>
        have:=Int.ofNat.inj (hk2.symm.trans hk')
        subst this
        exact hl'
    have hJ':MtA H0 Y _ n e mb base via ev qp qc Q la c pb (some ⟨Y.sb,0,none⟩) (ot (ef e) (et e) k2 (mt (ef e) (et e) mb (base x)):Int) (c:Int) (some ⟨pb,0,none⟩) _ _ H3 q.length:=⟨rfl,rfl,rfl,rfl,rfl,_,(q1++p)++[base x],q,_,rfl,rfl,by rw [hla']; simp,hAn,hen2.ot.nd hN,hex2,hB3,rp3,hp1',hp2'⟩
    refine hX _ _ _ _ _ _ _ ⟨_,hJ'⟩ (Nat.lt_of_le_of_lt (gm_of hJ').2 ?_)
    rw [hsp]; simp; omega
end
end Go.Mz
