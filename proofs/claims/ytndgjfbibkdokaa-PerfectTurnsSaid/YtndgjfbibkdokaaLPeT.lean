/-
  PerfectTurns, walked: whatever the graph, the node and the amount, it answers true and leaves what was there as it was.
-/
import Derived.Test.YtndgjfbibkdokaaPkA09
import Derived.Test.YtndgjfbibkdokaaGLFT
set_option linter.unusedVariables false
namespace Go.Mz
theorem RightE.trn18 {N:Int} {x:Edg} (h:RightE N x):RightE N (trn x):=⟨h.t0,h.t1,h.f0,h.f1,h.c0,h.c1,h.k0,h.k1⟩
def mor (v d:Int) (x:Edg):Edg:=(x.1,x.2.1,x.2.2.1,if (x.1=v)≠(x.2.1=v) then x.2.2.2+d else x.2.2.2)
section
variable {E:VP}
theorem lpmore {v d c:Int} {b2 n:Nat} {N:Int} {mp:OA} {mc:Nat} {e:Nat→Edg} {H:Hp} {K:Bool→Hp→Prop} (hb:H b2=some ⟨[.int .i64 N,.slice mp n mc],24⟩) (rm:Row H mp n mc e) (dm:¬fpS mp b2) (hn:n≤4096) (hd:-1048576≤d∧d≤1048576) (hco:∀i,i<n→-1048576≤(e i).co∧(e i).co≤1048576)
    (kk:∀H',Step (fpS mp) H H'→H' b2=some ⟨[.int .i64 N,.slice mp n mc],24⟩→Row H' mp n mc (fun i=>mor v d (e i))→Q0.j4 d c b2 E H' K) :
    Q0.l2 v d c b2 (n:Int) 0 E H K:=by
  refine Q0.l2_rule (fun v1 by2 c10 mo22 t138 t139 H1=>v1=v∧by2=d∧c10=c∧mo22=b2∧t138=(n:Int)∧∃i:Nat,t139=i∧i≤n∧Step (fpS mp) H H1∧Row H1 mp n mc (fun j=>if j<i then mor v d (e j) else e j))
    (fun v1 by2 c10 mo22 t138 t139 H1=>n-t139.toNat) ?_ ⟨rfl,rfl,rfl,rfl,rfl,0,rfl,Nat.zero_le _,.refl,rm.congr fun j _=>(if_neg (Nat.not_lt_zero j)).symm⟩
  rintro v1 by2 c10 mo22 t138 t139 H1 ⟨rfl,rfl,rfl,rfl,rfl,i,rfl,hi,s1,r1⟩ X hX
  have e1:=s1.keep _ _ hb dm
  refine Q0.b2_eq ?_
  unfold Q0.b2_t
  refine bc (fun hl=>?_) fun hge=>?_
  · have hl:i<n:=by omega
    simp only [get_at e1,gZ,gS,ldI_mk,ldS_mk]
    refine Row.ixP (α:=Edg) r1 (by omega) (by omega) fun b o q=>?_
    rw [tN] at q
    have hcur:(if i<i then mor v1 by2 (e i) else e i)=e i:=if_neg (Nat.lt_irrefl i)
    have hg:∀j,j<El.w Edg→H1.get b (o+j)=(El.enc (e i))[j]?:=fun j hj=>by
      have h1:H1.get b (o+j)=(El.enc (if i<i then mor v1 by2 (e i) else e i))[j]?:=PtK.get (α:=Edg) q r1 hl j hj
      rwa [hcur] at h1
    have g0:H1.get b (o+0)=_:=hg 0 (by decide)
    have g1:H1.get b (o+1)=_:=hg 1 (by decide)
    have g3:H1.get b (o+3)=_:=hg 3 (by decide)
    rw [Nat.add_zero] at g0
    replace g0:H1.get b o=some (.int .i64 (e i).1):=g0
    replace g1:H1.get b (o+1)=some (.int .i64 (e i).2.1):=g1
    replace g3:H1.get b (o+3)=some (.int .i64 (e i).2.2.2):=g3
    have hc:=hco i hl
    replace hc:-1048576≤(e i).2.2.2∧(e i).2.2.2≤1048576:=hc
    rw [g0,g1,g3]
    simp only [ldI_mk]
    have next:∀H2,Step (fpS mp) H H2→Row H2 mp n mc (fun j=>if j<i+1 then mor v1 by2 (e j) else e j)→Q0.j3 v1 by2 c10 mo22 (n:Int) (i:Int) X E H2 K:=fun H2 s2 r2=>by
      refine Q0.j3_eq ?_
      unfold Q0.j3_t
      rw [i64w (by omega) (by omega)]
      exact hX _ _ _ _ _ _ _ ⟨rfl,rfl,rfl,rfl,rfl,i+1,by omega,by omega,s2,r2⟩ (by omega)
    refine bcb (fun hne=>?_) fun heq=>?_
    · have hne':((e i).1=v1)≠((e i).2.1=v1):=fun hh=>by
        have:decide ((e i).1=v1)=decide ((e i).2.1=v1):=decide_eq_decide.2 (by rw [hh])
        rw [this] at hne
        simp at hne
      rw [i64w (n:=(e i).2.2.2+by2) (by omega) (by omega)]
      refine PtK.st (α:=Edg) q r1 hl (mor v1 by2 (e i)) (by show 3+1≤4; decide) ?_ fun H2 r2 s2=>next H2 (s1.trans s2 fun _ h=>.inl h) (r2.congr fun j hj=>?_)
      · show El.enc (mor v1 by2 (e i))=putL (El.enc (if i<i then mor v1 by2 (e i) else e i)) 3 _
        rw [hcur]
        have:mor v1 by2 (e i)=((e i).1,(e i).2.1,(e i).2.2.1,(e i).2.2.2+by2):=by unfold mor; rw [if_pos hne']
        rw [this]
        rfl
      · by_cases ej:j=i
        · subst ej; rw [upf_same,if_pos (by omega)]
        · rw [upf_ne ej]
          by_cases e3:j<i
          · rw [if_pos e3,if_pos (by omega)]
          · rw [if_neg e3,if_neg (by omega)]
    · have heq':¬((e i).1=v1)≠((e i).2.1=v1):=fun hh=>hh (propext (by
        have:decide ((e i).1=v1)=decide ((e i).2.1=v1):=by simpa using heq
        exact decide_eq_decide.1 this))
      refine next H1 s1 (r1.congr fun j hj=>?_)
      by_cases ej:j=i
      · subst ej
        rw [if_neg (Nat.lt_irrefl j),if_pos (Nat.lt_succ_self j)]
        unfold mor
        rw [if_neg heq']
      · by_cases e3:j<i
        · rw [if_pos e3,if_pos (by omega)]
        · rw [if_neg e3,if_neg (by omega)]
  · have:i=n:=by omega
    subst this
    exact kk H1 s1 e1 (r1.congr fun j hj=>if_pos hj)
theorem lpturns {N v d:Int} {ep:OA} {n ec:Nat} {e:Nat→Edg} {H:Hp} {K:Bool→Hp→Prop} (he:Rdr H ep n e) (hn:n≤4398046511103)
    (kk:∀H',Step (fun _=>False) H H'→K true H'):Q0.call N ep n ec v d E H K:=by
  refine Q0.of (Q0.run_eq ?_)
  unfold Q0.run_t
  refine nwk fun b1 H1 hb1 e1 s1=>?_
  refine lawake18 fun H2 s2=>?_
  have e1:=s2.keep _ _ e1 fun h=>h
  have s02:=s1.and s2
  refine bcb (fun h=>by cases h) fun _=>?_
  simp only [get_at e1,gZ,gS,ldI_mk,ldS_mk]
  refine pSolveO (he.keep s02 fun _ _ _ h=>h) (by omega) fun H3 mp mk mc yp yn yc sp sn sc tp tn tc c cd s3 hO=>?_
  have e13:=s3.keep _ _ e1 fun h=>h
  refine nwk fun b2 H4 hb2 e2 s4=>?_
  refine stk e2 rfl rfl fun H5 e25 s5=>?_
  have s35:Step (fun _=>False) H3 H5:=s4.own s5 fun y hy=>hy▸hb2
  have e15:=s35.keep _ _ e13 fun h=>h
  have s05:=(s02.and s3).and s35
  simp only [get_at e15,gZ,gS,ldI_mk,ldS_mk]
  refine nwk fun b3 H6 hb3 e3 s6=>?_
  have e16:=s6.keep _ _ e15 fun h=>h
  have d13:b1≠b3:=fun h=>by rw [←h,e15] at hb3; cases hb3
  refine stk e3 rfl rfl fun H7 e37 s7=>?_
  have fb3:H b3=none:=s05.mono _ hb3
  have s57:Step (fun _=>False) H5 H7:=s6.own s7 fun y hy=>hy▸hb3
  have s07:=s05.and s57
  have e17:=s7.keep _ _ e16 fun h=>d13 h
  simp only [get_at e17,gZ,gS,ldI_mk,ldS_mk]
  rw [i64w (by omega) (by omega)]
  refine Q0.l1_rule (fun v1 by2 g3 c10 e11 tu12 i13 H'=>v1=v∧by2=d∧g3=b1∧c10=c∧e11=cd∧tu12=b3∧∃(t:Nat) (tp:OA) (tc:Nat) (ft:Nat→Edg),i13=(n:Int)-1-t∧t≤n∧Step (fun y=>y=b3) H7 H'∧H' b3=some ⟨[.int .i64 N,.slice tp t tc],24⟩∧Row H' tp t tc ft∧(∀y,fpS tp y→H7 y=none)∧(∀j,j<t→ft j=trn (e (n-1-j))))
    (fun v1 by2 g3 c10 e11 tu12 i13 H'=>(i13+1).toNat) ?_ ⟨rfl,rfl,rfl,rfl,rfl,rfl,0,none,0,fun _=>(0,0,0,0),by omega,Nat.zero_le _,.refl,e37,Row.nil,fun y h=>by rw [fpS_none] at h; exact h.elim,fun j hj=>by omega⟩
  rintro v1 by2 g3 c10 e11 tu12 i13 H8 ⟨rfl,rfl,rfl,rfl,rfl,rfl,t,tp,tc,ft,rfl,ht,s8,e38,rt,ftp,hft⟩ X hX
  have s08:Step (fun _=>False) H H8:=s07.own s8 fun y hy=>hy▸fb3
  have e18:=s8.keep _ _ e17 d13
  have g8:=he.keep s08 fun _ _ _ h=>h
  have n3:¬fpS tp tu12:=fun h=>by have:=ftp _ h; rw [e37] at this; cases this
  refine Q0.b1_eq ?_
  unfold Q0.b1_t
  refine bc (fun hge0=>?_) fun hneg=>?_
  · have htn:t<n:=by omega
    simp only [get_at e18,gZ,gS,ldI_mk,ldS_mk]
    refine g8.edge (by omega) (by omega) ?_
    have ei:((n:Int)-1-t).toNat=n-1-t:=by omega
    rw [ei]
    refine nwst rfl rfl fun b4 H10 hb4 e4 s10=>?_
    have e3a:=s10.keep _ _ e38 fun h=>h
    have rta:=rt.keep s10 fun _ _ h=>h
    simp only [get_at e3a,get_at e4,gZ,gS,ldI_mk,ldS_mk]
    refine Row.appW (α:=Edg) rta (trn (e (n-1-t))) rfl (by omega) (by omega) fun p6 c6 H11 r6 s11 f6=>?_
    have e3b:=s11.keep _ _ e3a n3
    have live10:H10 tu12≠none:=by rw [e3a]; simp
    have m3:¬fpS p6 tu12:=fun h=>(f6 _ h).elim n3 live10
    have fp6:∀y,fpS p6 y→H7 y=none:=fun y hy=>(f6 y hy).elim (ftp y) fun h=>s8.mono y (s10.mono y h)
    refine stp e3b (by simp) rfl fun H12 e3c s12=>?_
    replace e3c:H12 tu12=some ⟨[.int .i64 N,.slice p6 (t+1) c6],24⟩:=e3c
    have r6c:=r6.keep s12 fun y hy h=>m3 (h▸hy)
    have s812:Step (fun y=>y=tu12) H7 H12:=((s8.and s10).trans s11 fun y hy=>.inr (ftp y hy)).trans s12 fun y hy=>.inl hy
    rw [i64w (by omega) (by omega)]
    refine hX _ _ _ _ _ _ _ _ ⟨rfl,rfl,rfl,rfl,rfl,rfl,t+1,p6,c6,_,by omega,by omega,s812,e3c,r6c,fp6,fun j hj=>?_⟩ (by omega)
    by_cases ej:j=t
    · rw [ej,upf_same]
    · rw [upf_ne ej]; exact hft j (by omega)
  · clear hX
    have htn:t=n:=by omega
    subst htn
    refine Q0.j1_eq ?_
    unfold Q0.j1_t
    simp only [get_at e38,gZ,gS,ldI_mk,ldS_mk]
    refine pSolveO rt.rdr (by omega) fun H9 mp' mk' mc' yp' yn' yc' sp' sn' sc' tp' tn' tc' c' cd' s9 hO'=>?_
    have e19:=s9.keep _ _ e18 fun h=>h
    refine nwk fun b4 H10 hb4 e4 s10=>?_
    refine stk e4 rfl rfl fun H11 e411 s11=>?_
    have s911:Step (fun _=>False) H9 H11:=s10.own s11 fun y hy=>hy▸hb4
    have e111:=s911.keep _ _ e19 fun h=>h
    have s011:=(s08.and s9).and s911
    simp only [get_at e111,gZ,gS,ldI_mk,ldS_mk]
    refine rcheck (he.keep s011 fun _ _ _ h=>h) fun H12 a s12=>?_
    have e112:=s12.keep _ _ e111 fun h=>h
    have s012:=s011.and s12
    have rtr:Right N t ft↔Right N t e:=by
      constructor
      · intro h
        refine ⟨h.N0,h.N1,h.n1,fun i hi=>?_⟩
        have:=(h.ed (t-1-i) (by omega)).trn18
        rw [hft _ (by omega),show t-1-(t-1-i)=i by omega] at this
        exact this
      · intro h
        refine ⟨h.N0,h.N1,h.n1,fun i hi=>?_⟩
        rw [hft i hi]
        exact (h.ed _ (by omega)).trn18
    refine bcn (fun hz=>?_) fun hz=>?_
    · have hz':¬Right N t e:=fun h=>hz (chk_zero.2 h)
      have bad:∀{f:Nat→Edg} {c cd:Int},¬Right N t f→SolO N t f c cd→cd=chk N t f∧cd≠0∧c=0:=fun hnr h=>by
        rcases h with h | ⟨M,hM,hr,_⟩
        · exact h
        · rw [hM] at hnr; exact (hnr hr).elim
      obtain ⟨a1,a2,a3⟩:=bad hz' hO
      obtain ⟨a4,a5,a6⟩:=bad (fun h=>hz' (rtr.1 h)) hO'
      refine bct a1 ?_
      refine bcn (fun _=>?_) fun h=>(a5 h).elim
      refine bct a6 ?_
      rw [decide_eq_true a3]
      exact kk H12 s012
    · have hr:=chk_zero.1 hz
      have hr':=rtr.2 hr
      have hN0:=hr.N0; have hN1:=hr.N1; have hn1:=hr.n1
      obtain ⟨M,rfl⟩:∃M:Nat,N=M:=⟨N.toNat,by omega⟩
      obtain ⟨q1,q2⟩:=hO.turned hr hr' hO' hft
      subst q1
      subst q2
      refine bcn (fun h=>(h rfl).elim) fun _=>?_
      refine bcn (fun h=>(h rfl).elim) fun _=>?_
      have j2:∀H',Step (fun _=>False) H H'→Q0.j2 c10 e11 E H' K:=fun H' s=>by
        refine Q0.j2_eq ?_
        unfold Q0.j2_t
        refine bc (fun _=>kk H' s) fun h=>?_
        rw [decide_eq_true (hO.zero.resolve_left h)]
        exact kk H' s
      refine bcn (fun _=>j2 H12 s012) fun h0=>?_
      refine bc (fun _=>j2 H12 s012) fun hd0=>?_
      refine bc (fun _=>j2 H12 s012) fun hd1=>?_
      refine bc (fun _=>j2 H12 s012) fun hv0=>?_
      simp only [get_at e112,gZ,gS,ldI_mk,ldS_mk]
      refine bc (fun _=>j2 H12 s012) fun hv1=>?_
      have hL:LstP M t e c10:=by
        rcases hO.right hr with ⟨h,_⟩ | ⟨_,h⟩
        · omega
        · exact h
      have hcb:=hL.bnd hr
      try simp only [get_at e112,gZ,gS,ldI_mk,ldS_mk]
      refine rcopy (he.keep s012 fun _ _ _ h=>h) (by omega) fun H13 p' cc' e'' s13 r13 hee f13=>?_
      have s013:=s012.and s13
      refine nwk fun b5 H14 hb5 e5 s14=>?_
      refine stk e5 rfl rfl fun H15 e515 s15=>?_
      have s1315:Step (fun _=>False) H13 H15:=s14.own s15 fun y hy=>hy▸hb5
      have r15:=r13.keep s1315 fun _ _ h=>h
      have s015:=s013.and s1315
      have np5:¬fpS p' b5:=fun h=>r13.live h hb5
      have fp':∀y,fpS p' y→H y=none:=fun y hy=>s012.mono y (f13 y hy)
      simp only [get_at e515,gZ,gS,ldI_mk,ldS_mk]
      refine lpmore e515 r15 np5 hn1 (by omega) (fun i hi=>by rw [hee i hi]; exact ⟨(hr.ed i hi).k0,(hr.ed i hi).k1⟩) fun H16 s16 e516 r16=>?_
      have s016:Step (fun _=>False) H H16:=s015.own s16 fp'
      refine Q0.j4_eq ?_
      unfold Q0.j4_t
      simp only [get_at e516,gZ,gS,ldI_mk,ldS_mk]
      refine pSolveO r16.rdr (by omega) fun H17 _ _ _ _ _ _ _ _ _ _ _ _ c'' cd'' s17 hO''=>?_
      have s017:=s016.and s17
      refine nwk fun b6 H18 hb6 e6 s18=>?_
      refine stk e6 rfl rfl fun H19 e619 s19=>?_
      have s019:=s017.and (s18.own s19 fun y hy=>hy▸hb6:Step (fun _=>False) H17 H19)
      refine bc (fun _=>kk H19 s019) fun h31=>?_
      have hr16:Right (M:Int) t (fun i=>mor v1 by2 (e'' i)):=by
        rcases chk_label (e':=fun i=>mor v1 by2 (e'' i)) hr (fun i hi=>by
          have hx:=hr.ed i hi
          show 0≤(e'' i).fr∧(e'' i).fr<(M:Int)∧0≤(e'' i).to∧(e'' i).to<(M:Int)
          rw [hee i hi]
          exact ⟨hx.f0,hx.f1,hx.t0,hx.t1⟩) with h | h
        · exact chk_zero.1 h
        · rcases hO'' with ⟨q1,_⟩ | ⟨M',hM',q,_⟩
          · exact (h31 (q1.trans h)).elim
          · have:M'=M:=by omega
            subst this
            exact q
      have hL16:LstP M t (fun i=>mor v1 by2 (e'' i)) (c10+by2):=by
        refine hL.more (v:=v1.toNat) hr hr16 (by omega) fun i hi=>?_
        have e3:(fun i=>mor v1 by2 (e'' i)) i=mor v1 by2 (e i):=by show mor v1 by2 (e'' i)=_; rw [hee i hi]
        obtain ⟨f1,f2⟩:=hr.ends hi
        refine ⟨by unfold ef; rw [e3]; rfl,by unfold et; rw [e3]; rfl,?_⟩
        show (mor v1 by2 (e'' i)).co=_
        rw [hee i hi]
        show (if ((e i).fr=v1)≠((e i).to=v1) then (e i).co+by2 else (e i).co)=_
        rw [f1,f2]
        have q1:((ef e i:Int)=v1)=(ef e i=v1.toNat):=propext ⟨fun h=>by omega,fun h=>by omega⟩
        have q2:((et e i:Int)=v1)=(et e i=v1.toNat):=propext ⟨fun h=>by omega,fun h=>by omega⟩
        have key:(((ef e i:Int)=v1)≠((et e i:Int)=v1))↔((ef e i=v1.toNat)≠(et e i=v1.toNat)):=by rw [q1,q2]
        by_cases hh:(ef e i=v1.toNat)≠(et e i=v1.toNat)
        · rw [if_pos hh,if_pos (key.2 hh)]
        · rw [if_neg hh,if_neg fun h=>hh (key.1 h)]; omega
      rcases hO''.right hr16 with ⟨_,_,h⟩ | ⟨h1,h2⟩
      · obtain ⟨b,hb,_⟩:=hL16.ex
        exact (h b hb).elim
      · refine bct h1 ?_
        rw [i64w (by omega) (by omega),decide_eq_true (h2.uniq hL16)]
        exact kk H19 s019
end
end Go.Mz
