/-
  PerfectKeeps, walked: whatever the graph and the table, it answers true and leaves what was there as it was.
-/
import Derived.Test.YtndgjfbibkdokaaPkA08
import Derived.Test.YtndgjfbibkdokaaPkA09
import Derived.Test.YtndgjfbibkdokaaPkA01
set_option linter.unusedSimpArgs false
set_option linter.unusedVariables false
namespace Go.Mz
theorem fstR_none {H H':Hp} {a Y z:Nat→Int} {S:Nat→Sl} {F:Nat→Nat→Int}:FstR H H' none 0 0 a none 0 0 Y none 0 0 z S F:=
  ⟨.nil,.nil,.nil,fun j hj=>by omega,fun y hy=>by rw [fpS_none] at hy; exact hy.elim,fun y hy=>by rw [fpS_none] at hy; exact hy.elim,fun y hy=>by rw [fpS_none] at hy; exact hy.elim,fun j hj=>by omega,fun y hy=>by rw [fpS_none] at hy; exact hy.elim,fun y hy=>by rw [fpS_none] at hy; exact hy.elim,fun j hj=>by omega,fun i j h1 h2=>by omega⟩
theorem SolR.fst {H H':Hp} {M n:Nat} {e:Nat→Edg} {mp:OA} {k mc:Nat} {g:Nat→Int} {yb:Nat} {Y:Nat→Int} {sp:OA} {ks sc:Nat} {z:Nat→Int} {S:Nat→Sl} {F:Nat→Nat→Int} (h:SolR H H' M n e mp k mc g yb Y sp ks sc z S F):FstR H H' mp k mc g (some ⟨yb,0,none⟩) M M Y sp ks sc z S F:=
  ⟨h.rm,h.ry,h.rs,h.re,fun y hy=>(h.f1 y hy).1,fun y hy=>(fp1 hy)▸h.f2,fun y hy=>(h.f3 y hy).1,fun j hj y hy=>(h.f4 j hj y hy).1,fun y hy=>⟨fun hh=>(h.f1 y hy).2.1 (fp1 hh),(h.f1 y hy).2.2⟩,fun y hy=>⟨fun hh=>(h.f3 y hh).2 (fp1 hy),fun j hj hh=>(h.f4 j hj y hh).2.1 (fp1 hy)⟩,fun j hj y hy=>(h.f4 j hj y hy).2.2,h.dj⟩
def FstP (N:Int) (n:Nat) (e:Nat→Edg) (an:Nat) (a:Nat→Int) (yn:Nat) (Y:Nat→Int) (sn:Nat) (z:Nat→Int) (S:Nat→Sl) (F:Nat→Nat→Int) (c cd:Int):Prop:=
  (cd=0→∃M:Nat,N=M∧Right (M:Int) n e∧ChpP (M:Int) n e a an Y yn z (fun j=>(S j).n) F sn∧c=cst e a an)∧(cd≠0→an=0∧∀M:Nat,N=M→Right (M:Int) n e→∀b,¬Ful M n e b)
section
variable {E:VP} {H:Hp} {N:Int} {n:Nat} {e:Nat→Edg}
theorem pSolveK {ep:OA} {ec:Nat} {K:OA→Nat→Nat→OA→Nat→Nat→OA→Nat→Nat→OA→Nat→Nat→Int→Int→Hp→Prop} (he:Rdr H ep n e) (hn:n<2 ^ 62)
    (kk:∀H' ap an ac a yp yn yc Y sp sn sc z S F tp tn tc c cd,Step (fun _=>False) H H'→FstR H H' ap an ac a yp yn yc Y sp sn sc z S F→FstP N n e an a yn Y sn z S F c cd→K ap an ac yp yn yc sp sn sc tp tn tc c cd H'):Q3.call N ep n ec E H K:=
  pSolve he (by omega) (fun H' s hz=>kk _ _ _ _ (fun _=>0) _ _ _ (fun _=>0) _ _ _ (fun _=>0) (fun _=>⟨none,0,0⟩) (fun _ _=>0) _ _ _ _ _ s fstR_none ⟨fun h=>(hz h).elim,fun _=>⟨rfl,fun M hM hr=>(hz (by rw [hM]; exact chk_zero.2 hr)).elim⟩⟩)
    (fun H' sp sn sc cv mn g M s hM hr hA hlt _ _=>kk _ _ _ _ (fun _=>0) _ _ _ (fun _=>0) _ _ _ (fun _=>0) (fun _=>⟨none,0,0⟩) (fun _ _=>0) _ _ _ _ _ s fstR_none ⟨fun h=>(by cases h),fun _=>⟨rfl,fun M' hM' hr'=>by
      have:M'=M:=by omega
      subst this
      exact hA.nofull hlt⟩⟩)
    fun H' mp k mc g yb Y sp ks sc z S F M s hM hr hS=>kk _ _ _ _ g _ _ _ Y _ _ _ z S F _ _ _ _ _ s hS.fst ⟨fun _=>⟨M,hM,hM▸hr,hS.chp,rfl⟩,fun h=>(h rfl).elim⟩
theorem lpkeeps {ep:OA} {ec:Nat} {dp:OA} {dn dc:Nat} {dl:Nat→Sl} {row:Nat→Nat→Int} {K:Bool→Hp→Prop} (he:Rdr H ep n e) (hn:n≤4398046511103) (hd:TabR H dp dn dl row) (hdn:dn≤5864062014805) (hrows:∀i,i<dn→(dl i).n≤17592186044416)
    (kk:∀H',Step (fun _=>False) H H'→K true H'):Q0.call N ep n ec dp dn dc E H K:=by
  refine Q0.of (Q0.run_eq ?_)
  unfold Q0.run_t
  refine nwk fun b1 H1 hb1 e1 s1=>?_
  refine lawake18 fun H2 s2=>?_
  have e12:=s2.keep _ _ e1 fun h=>h
  have s02:=s1.and s2
  refine bcb (fun h=>by cases h) fun _=>?_
  simp only [get_at e12,gZ,gS,ldI_mk,ldS_mk]
  refine kmine (he.keep s02 fun _ _ _ h=>h) hn e12 fun b2 H8 p c e' s8 e28 hb2 r8 hee hl f8 m2=>?_
  have e18:=s8.keep _ _ e12 fun h=>h
  have s08:=s02.and s8
  have g8:Rdr H8 p n e:=((r8.cut (m:=n) (by omega)).congr hee).rdr
  simp only [get_at e28,gZ,gS,ldI_mk,ldS_mk]
  refine pSolveK g8 (by omega) fun H9 ap an ac a yp yn yc Y sp sn sc z S F tp tn tc c1 cd s9 hF hP=>?_
  refine nwk fun b4 H10 hb4 e4 s10=>?_
  refine stk e4 rfl rfl fun H11 e411 s11=>?_
  have s911:Step (fun _=>False) H9 H11:=s10.own s11 fun y hy=>hy▸hb4
  have s811:=s9.and s911
  have e211:=s811.keep _ _ e28 fun h=>h
  simp only [get_at e211,gZ,gS,ldI_mk,ldS_mk]
  refine pSolveK (g8.keep s811 fun _ _ _ h=>h) (by omega) fun H12 ap' an' ac' a' yp' yn' yc' Y' sp' sn' sc' z' S' F' tp' tn' tc' c2 cd' s12 hF' hP'=>?_
  refine nwk fun b5 H13 hb5 e5 s13=>?_
  refine stk e5 rfl rfl fun H14 e514 s14=>?_
  have s1214:Step (fun _=>False) H12 H14:=s13.own s14 fun y hy=>hy▸hb5
  have s1114:=s12.and s1214
  have s814:=s811.and s1114
  have s014:=s08.and s814
  refine ksame (he.keep s014 fun _ _ _ h=>h) hn (s814.keep _ _ e18 fun h=>h) (s1114.keep _ _ e211 fun h=>h) (r8.keep s814 fun _ _ h=>h) hee hl fun H15 s15=>?_
  have s1115:=s1114.and s15
  have s1215:=s1214.and s15
  have s915:=s911.and s1115
  have s815:=s814.and s15
  have s015:=s014.and s15
  have e115:=s815.keep _ _ e18 fun h=>h
  have e415:=s1115.keep _ _ e411 fun h=>h
  have e515:=s15.keep _ _ e514 fun h=>h
  have l9a:∀y,fpS ap y→H9 y≠none:=fun y hy=>hF.ra.live hy
  have l9y:∀y,fpS yp y→H9 y≠none:=fun y hy=>hF.ry.live hy
  have l9e:∀j,j<sn→∀y,fpS (S j).p y→H9 y≠none:=fun j hj y hy=>(hF.re j hj).live hy
  have n4:H9 b4=none:=hb4
  refine pk1 (hF.ra.keep s915 fun _ _ h=>h) fun H16 s16=>?_
  have e416:=s16.keep _ _ e415 fun hh=>l9a _ hh n4
  refine Q0.j1_eq ?_
  unfold Q0.j1_t
  simp only [get_at e416,gZ,gS,ldI_mk,ldS_mk]
  have ry16:=(hF.ry.keep s915 fun _ _ h=>h).keep s16 fun y hy hh=>(hF.aw y hh).1 hy
  refine pk2 e416 ry16 (fun hh=>l9y _ hh n4) fun H17 s17=>?_
  have e417:=s17.keep _ _ e416 fun hh=>l9y _ hh n4
  refine Q0.j2_eq ?_
  unfold Q0.j2_t
  simp only [get_at e417,gZ,gS,ldI_mk,ldS_mk]
  have rs17:=((hF.rs.keep s915 fun _ _ h=>h).keep s16 fun y hy hh=>(hF.aw y hh).2.1 hy).keep s17 fun y hy hh=>(hF.ys y hh).1 hy
  refine pk3 (W:=fun y=>∃j,j<sn∧fpS (S j).p y) e417 rs17 (fun j hj=>⟨F j,((((hF.re j hj).keep s915 fun _ _ h=>h).keep s16 fun y hy hh=>(hF.aw y hh).2.2 j hj hy).keep s17 fun y hy hh=>(hF.ys y hh).2 j hj hy)⟩) hF.dj (fun j hj y hy=>⟨j,hj,hy⟩) (fun ⟨j,hj,hh⟩=>l9e j hj _ hh n4) (fun y hy ⟨j,hj,hh⟩=>hF.es j hj y hh hy) fun H18 s18=>?_
  have s1518:Step (fun y=>fpS ap y∨fpS yp y∨∃j,j<sn∧fpS (S j).p y) H15 H18:=((s16.weak fun _ h=>.inl (.inl h)).trans s17 fun _ h=>.inl (.inr (.inl h))).trans s18 fun _ h=>.inl (.inr (.inr h))
  have l11:∀y,(fpS ap y∨fpS yp y∨∃j,j<sn∧fpS (S j).p y)→H11 y≠none:=fun y hy=>s911.live (hy.elim (l9a y) fun h=>h.elim (l9y y) fun ⟨j,hj,hh⟩=>l9e j hj y hh)
  have fr8:∀y,(fpS ap y∨fpS yp y∨∃j,j<sn∧fpS (S j).p y)→H8 y=none:=fun y hy=>hy.elim (hF.fa y) fun h=>h.elim (hF.fy y) fun ⟨j,hj,hh⟩=>hF.fe j hj y hh
  have s018:Step (fun _=>False) H H18:=s015.own s1518 fun y hy=>s08.mono y (fr8 y hy)
  have e118:=s1518.keep _ _ e115 fun hh=>by have:=fr8 _ hh; rw [e18] at this; cases this
  have e518:=s1518.keep _ _ e515 fun hh=>by
    have:=l11 _ hh
    exact this (s12.none_at hb5)
  have keep2:∀{α:Type} [El α] {q:OA} {k c:Nat} {f:Nat→α},Row H12 q k c f→(∀y,fpS q y→H11 y=none)→Row H18 q k c f:=fun r hf=>(r.keep s1215 fun _ _ h=>h).keep s1518 fun y hy hh=>l11 y hh (hf y hy)
  have ra18:=keep2 hF'.ra hF'.fa
  have ry18:=keep2 hF'.ry hF'.fy
  have rs18:=keep2 hF'.rs hF'.fs
  have re18:∀j,j<sn'→Row H18 (S' j).p (S' j).n (S' j).c (F' j):=fun j hj=>keep2 (hF'.re j hj) (hF'.fe j hj)
  refine Q0.j4_eq ?_
  unfold Q0.j4_t
  refine pk5 (hd.keep s018) hdn hrows fun H19 rp rc sl s19 hT hln=>?_
  have s019:=s018.and s19
  refine Q0.j5_eq ?_
  unfold Q0.j5_t
  have fin:∀H20,Step (fun _=>False) H19 H20→Q0.l6 b1 cd ap' an' ac' b5 c2 rp dn rc dp dn dc (dn:Int) 0 E H20 K:=fun H20 s20=>by
    have s020:=s019.and s20
    have s1820:=s19.and s20
    refine pk6 (hd.keep s020) (hT.keep s20) (by omega) hln ?_
    refine Q0.j7_eq ?_
    unfold Q0.j7_t
    have e120:=s1820.keep _ _ e118 fun h=>h
    have e520:=s1820.keep _ _ e518 fun h=>h
    have same:cd=0↔cd'=0:=by
      constructor
      · intro h
        obtain ⟨M,hM,hr,hC,_⟩:=hP.1 h
        refine Classical.byContradiction fun h'=>?_
        obtain ⟨b,hb,_⟩:=hC.tk.full hr hC.all
        exact (hP'.2 h').2 M hM hr b hb
      · intro h
        obtain ⟨M,hM,hr,hC,_⟩:=hP'.1 h
        refine Classical.byContradiction fun h'=>?_
        obtain ⟨b,hb,_⟩:=hC.tk.full hr hC.all
        exact (hP.2 h').2 M hM hr b hb
    refine bcn (fun h0=>?_) fun h0=>?_
    · have:=(hP'.2 fun h=>h0 (same.2 h)).1
      rw [decide_eq_true (by omega)]
      exact kk H20 s020
    · obtain ⟨M,hM,hr,hC,hc⟩:=hP'.1 (same.1 h0)
      subst hM
      have hM1:=hr.N1
      have hyn:=hC.wt.ylen
      have hsn:=hC.wt.slen
      have hall:=hC.all
      simp only [get_at e120,get_at e520,gZ,gS,ldI_mk,ldS_mk]
      refine vCheapest (he.keep s020 fun _ _ _ h=>h) (by omega) (ra18.keep s1820 fun _ _ h=>h).rdr (by omega) ⟨(ry18.keep s1820 fun _ _ h=>h).rdr,(rs18.keep s1820 fun _ _ h=>h).rdr,fun j hj=>⟨((re18 j hj).keep s1820 fun _ _ h=>h).rdr,by
        have:=(hC.wt.sets j hj).2.2.len
        omega⟩⟩ (by omega) (by omega) fun H21 cc s21 ho=>?_
      have hcc:=ho.good hr hC
      subst hcc
      refine bct (by trivial) ?_
      rw [if_pos rfl,decide_eq_true hc.symm]
      exact kk H21 (s020.and s21)
  refine pDense hT (by omega) (fun H20 s20 _=>fin H20 s20) fun H20 mp mate total yb Y2 sp2 ks2 sc2 z2 S2 F2 s20 _ _=>fin H20 s20
end
end Go.Mz
