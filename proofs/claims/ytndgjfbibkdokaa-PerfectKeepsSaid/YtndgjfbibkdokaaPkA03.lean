/-
  Joined: BlI, BlJ, PfC, PfD, PfN.
-/
import Derived.Test.YtndgjfbibkdokaaPkA02
import Derived.Test.YtndgjfbibkdokaaPkM
import Derived.Test.YtndgjfbibkdokaaPkA01
import Derived.Test.YtndgjfbibkdokaaPkA00
set_option linter.unusedSimpArgs false
set_option linter.unusedVariables false
/-
  Matchings in any graph, in plain words: looks from all nodes that are left out, none of which found a way, prove that no matching is larger; which nodes can be left out. No program in sight.
-/
namespace Go.Mz
structure Fam (M n:Nat) (fr to:Nat→Nat) (mb:Nat→Int) (ba:Nat→Nat→Nat) (vi:Nat→Nat→Int) (ee:Nat→Nat→Bool) (rh:Nat→Nat→Nat):Prop where
  clo:∀r,r<M→mb r=-1→Clo M n fr to mb r (ba r) (vi r) (ee r) (rh r)
def ReP (M:Nat) (mb:Nat→Int) (ee:Nat→Nat→Bool) (v:Nat):Prop:=∃r,r<M∧mb r=-1∧ee r v=true
def AnP (M n:Nat) (fr to:Nat→Nat) (R:Nat→Prop) (v:Nat):Prop:=v<M∧¬R v∧∃i,En n fr to i v∧R (ot fr to i v)
section
variable {M n:Nat} {fr to:Nat→Nat} {mb b':Nat→Int} {ba:Nat→Nat→Nat} {vi:Nat→Nat→Int} {ee:Nat→Nat→Bool} {rh:Nat→Nat→Nat}
open Classical in
theorem cnt_only {r M:Nat} {P:Nat→Prop} (h:∀x,P x→x=r):cnt (fun x=>decide (P x)) M≤1:=by
  by_cases hp:r<M∧P r
  · rw [cnt_less (q:=fun _=>false) hp.1 (decide_eq_true hp.2) rfl (fun i _ hne=>decide_eq_false fun hh=>hne (h i hh)),cnt_none fun _ _=>rfl]
    exact Nat.le_refl _
  · rw [cnt_none fun i hi=>decide_eq_false fun hh=>hp ⟨h i hh▸hi,h i hh▸hh⟩]
    exact Nat.zero_le _
theorem Fam.even0 (h:Fam M n fr to mb ba vi ee rh) {r s:Nat} (hr:r<M) (hb:mb r=-1) (hs:s<M) (hsb:mb s<0) (he:ee r s=true):s=r:=
  Classical.byContradiction fun hne=>by have:=((h.clo r hr hb).T.st s hs he hne).1; omega
theorem Fam.cross (hN:Nds M n fr to) (hMM:MM M n fr to M mb) (h:Fam M n fr to mb ba vi ee rh) {r s u:Nat} (hr:r<M) (hrb:mb r=-1) (hs:s<M) (hsb:mb s=-1) (hu:u<M) (he:ee s u=true):¬OdP M (ee r) (vi r) u:=by
  classical
  intro ho
  by_cases ers:s=r
  · rw [ers,ho.2.1] at he; cases he
  · obtain ⟨b',hb',hbu,hbo⟩:=(h.clo s hs hsb).T.flip hN hMM hu he
    have h1:=(h.clo r hr hrb).hung hN hMM hb'
    have h2:0<cnt (fun a=>decide (OdP M (ee r) (vi r) a∧b' a<0)) M:=cnt_pos hu (decide_eq_true ⟨ho,by omega⟩)
    have h3:cnt (fun x=>decide (ee r x=true∧b' x<0)) M≤cnt (fun x=>decide (x<M∧ee r x=true∧b' x<0)) M:=cnt_mono fun x hx hh=>by
      have:=of_decide_eq_true hh
      exact decide_eq_true ⟨hx,this⟩
    have h4:=cnt_only (M:=M) (r:=r) (P:=fun x=>x<M∧ee r x=true∧b' x<0) fun x ⟨hx,hxe,hxb⟩=>by
      have hxu:x≠u:=fun e=>by rw [e,ho.2.1] at hxe; cases hxe
      exact h.even0 hr hrb hx ((hbo x hx hxu).1 hxb).1 hxe
    have h5:cnt (fun x=>decide (ee r x=true∧b' x<0)) M≤1:=Nat.le_trans h3 (by
      refine Nat.le_trans (Nat.le_of_eq (cnt_congr fun x _=>?_)) h4
      rw [decide_eq_decide])
    have h6:cnt (fun x=>@decide (ee r x=true∧b' x<0) instDecidableAnd) M=cnt (fun x=>decide (ee r x=true∧b' x<0)) M:=cnt_congr fun x _=>by rw [decide_eq_decide]
    omega
theorem Fam.an (hN:Nds M n fr to) (hMM:MM M n fr to M mb) (h:Fam M n fr to mb ba vi ee rh) {v:Nat}:AnP M n fr to (ReP M mb ee) v↔∃r,r<M∧mb r=-1∧OdP M (ee r) (vi r) v:=by
  constructor
  · rintro ⟨hv,hno,i,hi,r,hr,hrb,he⟩
    obtain ⟨h1,_⟩:=(h.clo r hr hrb).cl _ (hi.ot.nd hN) he i hi.ot
    rw [hi.oo] at h1
    have hev:ee r v=false:=Bool.eq_false_iff.2 fun hh=>hno ⟨r,hr,hrb,hh⟩
    exact ⟨r,hr,hrb,hv,hev,h1.resolve_left (by rw [hev]; decide)⟩
  · rintro ⟨r,hr,hrb,ho⟩
    refine ⟨ho.1,fun ⟨s,hs,hsb,he⟩=>h.cross hN hMM hr hrb hs hsb ho.1 he ho,?_⟩
    have C:=h.clo r hr hrb
    obtain ⟨hb,hme,hmb⟩:=C.T.od v ho.1 ho.2.1 ho.2.2
    obtain ⟨_,_,_,_,_,hbm,hmm⟩:=hMM.en ho.1 (by have:=ho.1; omega) hb
    have hmM:=hMM.ltN hN ho.1 hb
    have hmr:mt fr to mb v≠r:=fun e=>by rw [e] at hbm; omega
    obtain ⟨_,k,hk,hen,hex,_⟩:=C.T.st _ hmM hme hmr
    rw [hmm] at hk hen hex
    exact ⟨k,hen,r,hr,hrb,hex⟩
theorem Clo.conn {r:Nat} {base ρ:Nat→Nat} {via:Nat→Int} {ev:Nat→Bool} (hN:Nds M n fr to) (hMM:MM M n fr to M mb) (C:Clo M n fr to mb r base via ev ρ) {Z:Nat→Prop} (hZ:∀x i,x<M→ev x=true→ev (ot fr to i x)=true→base x=base (ot fr to i x)→En n fr to i x→(Z x↔Z (ot fr to i x))) {v:Nat} (hv:v<M) (he:ev v=true):Z v↔Z (base v):=by
  obtain ⟨l,hl,hnd⟩:=C.T.pa v hv he
  clear hnd
  induction hl with
  | root h0=>
    rename_i u
    have:u=r:=Classical.byContradiction fun hne=>by have:=(C.T.st u hv he hne).1; omega
    rw [this,C.T.rr]
  | step h1 hk hen hl ih=>
    rename_i u k l'
    by_cases hb:base u=u
    · rw [hb]
    · have hur:u≠r:=fun e=>by rw [e,C.T.rb] at h1; omega
      obtain ⟨_,k2,hk2,_,hex,_,h2⟩:=C.T.st u hv he hur
      have:=Int.ofNat.inj (hk.symm.trans hk2)
      subst this
      obtain ⟨a1,a2,a3⟩:=h2 hb
      obtain ⟨j,ej,hj,em,_⟩:=hMM.en hv (by omega) h1
      have hmM:=hMM.ltN hN hv h1
      have s1:Z u↔Z (mt fr to mb u):=by
        rw [em]
        exact hZ u j hv he (by rw [←em]; exact a1) (by rw [←em]; exact a2.symm) hj
      have s2:Z (mt fr to mb u)↔Z (ot fr to k (mt fr to mb u)):=hZ _ k hmM a1 hex (by rw [a2,a3]) hen
      rw [s1,s2,ih (hen.ot.nd hN) hex,a3]
def GBs (M n:Nat) (fr to:Nat→Nat) (mb:Nat→Int) (A:Nat→Prop) (c:Nat):Prop:=c<M∧(mb c=-1∨(0≤mb c∧A (mt fr to mb c)))
def GCl (M:Nat) (mb:Nat→Int) (ba:Nat→Nat→Nat) (ee:Nat→Nat→Bool) (c x:Nat):Prop:=x<M∧∃r,r<M∧mb r=-1∧ee r c=true∧ee r x=true∧ba r x=c
theorem Fam.base_of (hN:Nds M n fr to) (hMM:MM M n fr to M mb) (h:Fam M n fr to mb ba vi ee rh) {c r:Nat} (hc:GBs M n fr to mb (AnP M n fr to (ReP M mb ee)) c) (hr:r<M) (hrb:mb r=-1) (he:ee r c=true):ba r c=c:=by
  refine Classical.byContradiction fun hne=>?_
  obtain ⟨h1,h2,h3,_⟩:=(h.clo r hr hrb).T.mate_out hN hMM hc.1 he rfl (fun e=>hne e.symm)
  rcases hc.2 with h4 | ⟨_,h4⟩
  · omega
  · exact h4.2.1 ⟨r,hr,hrb,h3⟩
theorem Fam.cls (hN:Nds M n fr to) (hMM:MM M n fr to M mb) (h:Fam M n fr to mb ba vi ee rh):Cls M n fr to mb (GBs M n fr to mb (AnP M n fr to (ReP M mb ee))) (GCl M mb ba ee) (AnP M n fr to (ReP M mb ee)) where
  lt:=fun c x _ hx=>hx.1
  self:=fun c hc=>by
    rcases hc.2 with h1 | ⟨h1,h2⟩
    · have:=(h.clo c hc.1 h1).T
      exact ⟨hc.1,c,hc.1,h1,this.re,this.re,this.rr⟩
    · obtain ⟨r,hr,hrb,ho⟩:=(h.an hN hMM).1 h2
      obtain ⟨_,h3,_⟩:=(h.clo r hr hrb).T.od _ ho.1 ho.2.1 ho.2.2
      obtain ⟨_,_,_,_,_,_,hmm⟩:=hMM.en hc.1 (by have:=hc.1; omega) h1
      rw [hmm] at h3
      exact ⟨hc.1,r,hr,hrb,h3,h3,h.base_of hN hMM hc hr hrb h3⟩
  dis:=fun c c' x hc hc' ⟨hx,r,hr,hrb,hec,hex,hbx⟩ ⟨_,s,hs,hsb,hec',hex',hbx'⟩=>by
    have C:=h.clo s hs hsb
    have D:=h.clo r hr hrb
    have key:=C.conn hN hMM (Z:=fun y=>ee r y=true∧ba r y=c) (fun y i hy hey heo hbb hi=>by
      have hoM:=hi.ot.nd hN
      constructor
      · rintro ⟨a1,a2⟩
        obtain ⟨c1,c2⟩:=D.cl y hy a1 i hi
        have a3:ee r (ot fr to i y)=true:=Classical.byContradiction fun hn=>by
          have hn':ee r (ot fr to i y)=false:=Bool.eq_false_iff.2 hn
          exact h.cross hN hMM hr hrb hs hsb hoM heo ⟨hoM,hn',c1.resolve_left hn⟩
        exact ⟨a3,by rw [←c2 a3]; exact a2⟩
      · rintro ⟨a1,a2⟩
        obtain ⟨c1,c2⟩:=D.cl _ hoM a1 i hi.ot
        rw [hi.oo] at c1 c2
        have a3:ee r y=true:=Classical.byContradiction fun hn=>by
          have hn':ee r y=false:=Bool.eq_false_iff.2 hn
          exact h.cross hN hMM hr hrb hs hsb hy hey ⟨hy,hn',c1.resolve_left hn⟩
        exact ⟨a3,by rw [←c2 a3]; exact a2⟩) hx hex'
    have h1:=key.1 ⟨hex,hbx⟩
    rw [hbx'] at h1
    rw [←h1.2,h.base_of hN hMM hc' hr hrb h1.1]
  mate:=fun c x hc ⟨hx,r,hr,hrb,hec,hex,hbx⟩ hne=>by
    obtain ⟨h1,h2,h3,h4,h5⟩:=(h.clo r hr hrb).T.mate_out hN hMM hx hex hbx hne
    exact ⟨h1,⟨h2,r,hr,hrb,hec,h3,h4⟩,h5⟩
  cl:=fun c x i hc ⟨hx,r,hr,hrb,hec,hex,hbx⟩ hi=>by
    have hoM:=hi.ot.nd hN
    obtain ⟨h1,h2⟩:=(h.clo r hr hrb).cl x hx hex i hi
    rcases Bool.eq_false_or_eq_true (ee r (ot fr to i x)) with he | he
    · exact .inl ⟨hoM,r,hr,hrb,hec,he,by rw [←h2 he]; exact hbx⟩
    · exact .inr ((h.an hN hMM).2 ⟨r,hr,hrb,hoM,he,h1.resolve_left (by rw [he]; decide)⟩)
  na:=fun c x hc ⟨hx,r,hr,hrb,hec,hex,hbx⟩ ha=>ha.2.1 ⟨r,hr,hrb,hex⟩
  aM:=fun a ha=>ha.1
open Classical in
theorem Fam.many (hN:Nds M n fr to) (hMM:MM M n fr to M mb) (h:Fam M n fr to mb ba vi ee rh):cnt (fun v=>decide (mb v=-1)) M+cnt (fun a=>decide (AnP M n fr to (ReP M mb ee) a)) M≤cnt (fun c=>decide (GBs M n fr to mb (AnP M n fr to (ReP M mb ee)) c)) M:=by
  have h1:=cnt_two (N:=M) (r:=fun c=>decide (GBs M n fr to mb (AnP M n fr to (ReP M mb ee)) c)) (p:=fun v=>decide (mb v=-1)) (q:=fun c=>decide (0≤mb c∧AnP M n fr to (ReP M mb ee) (mt fr to mb c))) (fun v hv=>by
    have e1:decide (GBs M n fr to mb (AnP M n fr to (ReP M mb ee)) v)=decide (mb v=-1∨(0≤mb v∧AnP M n fr to (ReP M mb ee) (mt fr to mb v))):=by
      rw [decide_eq_decide]; unfold GBs; exact ⟨fun hh=>hh.2,fun hh=>⟨hv,hh⟩⟩
    rw [e1,Bool.decide_or]) fun v _ hh=>by
      have:=of_decide_eq_true hh.1
      have:=(of_decide_eq_true hh.2).1
      omega
  have h2:cnt (fun a=>decide (AnP M n fr to (ReP M mb ee) a)) M≤cnt (fun c=>decide (0≤mb c∧AnP M n fr to (ReP M mb ee) (mt fr to mb c))) M:=by
    have pos:∀a,AnP M n fr to (ReP M mb ee) a→0≤mb a:=fun a ha=>by
      obtain ⟨r,hr,hrb,ho⟩:=(h.an hN hMM).1 ha
      exact ((h.clo r hr hrb).T.od a ho.1 ho.2.1 ho.2.2).1
    refine cnt_inj (mt fr to mb) (fun a ha hh=>?_) fun a d ha hd h1 h2 e=>hMM.inj ha hd (pos a (of_decide_eq_true h1)) (pos d (of_decide_eq_true h2)) e
    have hA:=of_decide_eq_true hh
    have hp:=pos a hA
    obtain ⟨_,_,_,_,_,hbm,hmm⟩:=hMM.en ha (by omega) hp
    exact ⟨hMM.ltN hN ha hp,decide_eq_true ⟨by rw [hbm]; omega,by rw [hmm]; exact hA⟩⟩
  omega
open Classical in
theorem Fam.hung (hN:Nds M n fr to) (hMM:MM M n fr to M mb) (hb:MM M n fr to M b') (h:Fam M n fr to mb ba vi ee rh) :
    cnt (fun v=>decide (mb v=-1)) M+cnt (fun a=>decide (AnP M n fr to (ReP M mb ee) a∧b' a<0)) M≤cnt (fun x=>decide (ReP M mb ee x∧b' x<0)) M:=by
  have h1:=(h.cls hN hMM).hung hN hMM hb
  have h2:=h.many hN hMM
  have h3:cnt (fun x=>decide ((∃c,GBs M n fr to mb (AnP M n fr to (ReP M mb ee)) c∧GCl M mb ba ee c x)∧b' x<0)) M≤cnt (fun x=>decide (ReP M mb ee x∧b' x<0)) M:=cnt_mono fun x hx hh=>by
    obtain ⟨⟨c,_,_,r,hr,hrb,_,he,_⟩,hb⟩:=of_decide_eq_true hh
    exact decide_eq_true ⟨⟨r,hr,hrb,he⟩,hb⟩
  omega
end
/-! ### Parts with an odd number of nodes -/
section
variable {M n:Nat} {e:Nat→Edg} {mb:Nat→Int} {ba:Nat→Nat→Nat} {vi:Nat→Nat→Int} {ee:Nat→Nat→Bool} {rh:Nat→Nat→Nat} {W:Nat→Bool}
open Classical in
theorem oddB_cnt {R:Nat→Nat→Prop} {W:Nat→Bool} {N:Nat}:∀s,oddB R W N s=cnt (fun t=>decide (Fst R W t∧csz R N t%2=1)) s
  | 0=>rfl
  | s+1=>by
    show oddB R W N s+(if Fst R W s then csz R N s%2 else 0)=cnt _ s+_
    rw [oddB_cnt s]
    congr 1
    by_cases hF:Fst R W s
    · rw [if_pos hF]
      have:csz R N s%2=0∨csz R N s%2=1:=by omega
      rcases this with hh | hh
      · rw [hh,if_neg (by simp [hh])]
      · rw [hh,if_pos (by simp [hh,hF])]
    · rw [if_neg hF,if_neg (by simp [hF])]
open Classical in
theorem Fam.odd (hr:Right (M:Int) n e) (hMM:MM M n (ef e) (et e) M mb) (h:Fam M n (ef e) (et e) mb ba vi ee rh) (hW:∀v,v<M→(W v=true↔AnP M n (ef e) (et e) (ReP M mb ee) v)) :
    cnt (fun v=>decide (mb v=-1)) M+cnt (fun a=>decide (AnP M n (ef e) (et e) (ReP M mb ee) a)) M≤oddN (M:Int) n e W:=by
  have hN:=hr.nds
  have C:=h.cls hN hMM
  refine Nat.le_trans (h.many hN hMM) ?_
  unfold oddN
  rw [tN,oddB_cnt]
  have hok:∀j,okE W (e j)=true↔W (ef e j)=false∧W (et e j)=false:=fun j=>by
    unfold okE ef et; simp
  have same:∀c,GBs M n (ef e) (et e) mb (AnP M n (ef e) (et e) (ReP M mb ee)) c→∀x,x<M→(Cn (Adj e n W) c x↔GCl M mb ba ee c x):=fun c hc x hx=>by
    constructor
    · intro hcn
      have:=hcn.iff (P:=GCl M mb ba ee c) fun u v ⟨j,hj,hk,hor⟩=>by
        obtain ⟨w1,w2⟩:=(hok j).1 hk
        obtain ⟨n1,n2⟩:=hN j hj
        by_cases hl:ef e j=et e j
        · have:u=v:=by
            unfold ef et at hl
            rcases hor with ⟨a,b⟩ | ⟨a,b⟩<;>omega
          rw [this]
        · have step:∀u v,En n (ef e) (et e) j u→v=ot (ef e) (et e) j u→W v=false→GCl M mb ba ee c u→GCl M mb ba ee c v:=fun u v hu hv hw hcl=>by
            rcases C.cl c u j hc hcl hu with hh | hh
            · rw [hv]; exact hh
            · rw [←hv] at hh
              have:=(hW v hh.1).2 hh
              rw [hw] at this; cases this
          rcases hor with ⟨a,b⟩ | ⟨a,b⟩
          · have hu:En n (ef e) (et e) j u:=⟨hj,hl,.inl a.symm⟩
            have hv:En n (ef e) (et e) j v:=⟨hj,hl,.inr b.symm⟩
            have ev':v=ot (ef e) (et e) j u:=by unfold ot ef et; omega
            have eu':u=ot (ef e) (et e) j v:=by unfold ot ef et; omega
            exact ⟨step u v hu ev' (by rw [←b]; exact w2),step v u hv eu' (by rw [←a]; exact w1)⟩
          · have hu:En n (ef e) (et e) j u:=⟨hj,hl,.inr a.symm⟩
            have hv:En n (ef e) (et e) j v:=⟨hj,hl,.inl b.symm⟩
            have ev':v=ot (ef e) (et e) j u:=by unfold ot ef et; omega
            have eu':u=ot (ef e) (et e) j v:=by unfold ot ef et; omega
            exact ⟨step u v hu ev' (by rw [←b]; exact w1),step v u hv eu' (by rw [←a]; exact w2)⟩
      exact this.1 (C.self c hc)
    · rintro ⟨_,r,hr',hrb,hec,hex,hbx⟩
      have:=(h.clo r hr' hrb).conn hN hMM (Z:=fun y=>Cn (Adj e n W) c y) (fun y i hy hey heo hbb hi=>by
        have hoM:=hi.ot.nd hN
        have w1:W y=false:=Bool.eq_false_iff.2 fun hw=>((hW y hy).1 hw).2.1 ⟨r,hr',hrb,hey⟩
        have w2:W (ot (ef e) (et e) i y)=false:=Bool.eq_false_iff.2 fun hw=>((hW _ hoM).1 hw).2.1 ⟨r,hr',hrb,heo⟩
        have hadj:Adj e n W y (ot (ef e) (et e) i y):=by
          refine ⟨i,hi.1,(hok i).2 ?_,?_⟩
          · rcases hi.2.2 with hy' | hy'
            · have:ot (ef e) (et e) i y=et e i:=by unfold ot; omega
              rw [this] at w2; rw [hy'] at w1; exact ⟨w1,w2⟩
            · have:ot (ef e) (et e) i y=ef e i:=by unfold ot; omega
              rw [this] at w2; rw [hy'] at w1; exact ⟨w2,w1⟩
          · rcases hi.2.2 with hy' | hy'
            · left; unfold ot ef et at *; omega
            · right; unfold ot ef et at *; omega
        exact ⟨fun hh=>hh.trans (.edge hadj),fun hh=>hh.trans (.symm (.edge hadj))⟩) hx hex
      rw [hbx] at this
      exact this.2 (.refl c)
  have least:∀c,Cn (Adj e n W) (gm fun u=>Cn (Adj e n W) u c) c∧(gm fun u=>Cn (Adj e n W) u c)≤c:=fun c=>gm_of (p:=fun u=>Cn (Adj e n W) u c) (.refl c)
  refine cnt_inj (fun c=>gm fun u=>Cn (Adj e n W) u c) (fun c hcM hc=>?_) fun c d hcM hdM hc hd heq=>?_
  · have hc:=of_decide_eq_true hc
    obtain ⟨l1,l2⟩:=least c
    have hfM:(gm fun u=>Cn (Adj e n W) u c)<M:=by omega
    refine ⟨hfM,decide_eq_true ⟨⟨?_,fun u hu hcn=>?_⟩,?_⟩⟩
    · have hcl:=(same c hc _ hfM).1 (.symm l1)
      exact Bool.eq_false_iff.2 fun hw=>C.na c _ hc hcl ((hW _ hfM).1 hw)
    · have:=(gm_of (p:=fun u=>Cn (Adj e n W) u c) (k:=u) (hcn.trans l1)).2
      omega
    · have h1:=C.odd hMM hc
      unfold csz
      rw [cnt_congr (q:=fun x=>decide (GCl M mb ba ee c x)) fun x hx=>?_]
      · exact h1
      · rw [decide_eq_decide,←same c hc x hx]
        exact ⟨fun hh=>(Cn.symm l1).trans hh,fun hh=>l1.trans hh⟩
  · have hc:=of_decide_eq_true hc
    have hd:=of_decide_eq_true hd
    have l1:=(least c).1
    have l2:=(least d).1
    have heq':(gm fun u=>Cn (Adj e n W) u c)=gm fun u=>Cn (Adj e n W) u d:=heq
    rw [heq'] at l1
    have hcd:Cn (Adj e n W) c d:=(Cn.symm l1).trans l2
    exact C.dis c d d hc hd ((same c hc d hdM).1 hcd) (C.self d hd)
end
end Go.Mz
/-
  Matchings in any graph, in plain words: what the answer of a solver is, once no look finds a way. No program in sight.
-/
namespace Go.Mz
def Dv (M n:Nat) (fr to:Nat→Nat) (k v:Nat):Prop:=∃b',MM M n fr to M b'∧b' v=-1∧cnt (fun u=>decide (b' u=-1)) M+2*k=M
def SetP (M n:Nat) (fr to:Nat→Nat) (k v:Nat):Prop:=v<M∧¬Dv M n fr to k v∧∃i,En n fr to i v∧Dv M n fr to k (ot fr to i v)
structure BlA (M n:Nat) (e:Nat→Edg) (m:Nat→Int) (k:Nat) (set:Nat→Int) (q:Nat):Prop where
  lrg:LrgP (M:Int) n e m k set q
  set:∀v:Nat,In set q (v:Int)↔SetP M n (ef e) (et e) k v
  mx:∀b',MM M n (ef e) (et e) M b'→M≤cnt (fun u=>decide (b' u=-1)) M+2*k
  ex:∃b',MM M n (ef e) (et e) M b'∧cnt (fun u=>decide (b' u=-1)) M+2*k=M
section
variable {M n:Nat} {fr to:Nat→Nat} {mb b':Nat→Int} {ba:Nat→Nat→Nat} {vi:Nat→Nat→Int} {ee:Nat→Nat→Bool} {rh:Nat→Nat→Nat}
theorem odt {p:Prop} {d:Decidable p} (h:@decide p d=true):p:=of_decide_eq_true h
theorem cnt_full (p:Nat→Bool):∀N,cnt p N+cnt (fun v=>!p v) N=N
  | 0=>rfl
  | N+1=>by
    have:=cnt_full p N
    simp only [cnt]
    by_cases hp:p N=true
    · rw [if_pos hp,if_neg (by simp [hp])]; omega
    · rw [if_neg hp,if_pos (by simpa using hp)]; omega
theorem MM.count (hN:Nds M n fr to) (h:MM M n fr to M mb):cnt (fun v=>decide (mb v=-1)) M+2*cnt (fun v=>decide (0≤mb v∧v<mt fr to mb v)) M=M:=by
  have h1:=cnt_full (fun v=>decide (mb v=-1)) M
  have h2:=cnt_two (N:=M) (r:=fun v=>!decide (mb v=-1)) (p:=fun v=>decide (0≤mb v∧v<mt fr to mb v)) (q:=fun v=>decide (0≤mb v∧mt fr to mb v<v)) (fun v hv=>by
    by_cases h0:0≤mb v
    · obtain ⟨j,ej,hj,em,_⟩:=h.en hv (by omega) h0
      have hne:mt fr to mb v≠v:=by rw [em]; exact hj.ne
      have hm1:¬mb v=-1:=by omega
      have h5:(decide (0≤mb v∧v<mt fr to mb v) || decide (0≤mb v∧mt fr to mb v<v))=true:=by
        rw [←Bool.decide_or]; exact decide_eq_true (by omega)
      rw [h5]; simp [hm1]
    · have:mb v=-1:=h.neg hv (by omega) (by omega)
      simp [this]) fun v _ hh=>by
      have:=(of_decide_eq_true hh.1).2
      have:=(of_decide_eq_true hh.2).2
      omega
  have h3:cnt (fun v=>decide (0≤mb v∧v<mt fr to mb v)) M≤cnt (fun v=>decide (0≤mb v∧mt fr to mb v<v)) M:=by
    refine cnt_inj (mt fr to mb) (fun v hv hh=>?_) fun v w hv hw h1 h2 e=>h.inj hv hw (of_decide_eq_true h1).1 (of_decide_eq_true h2).1 e
    obtain ⟨h0,hl⟩:=of_decide_eq_true hh
    obtain ⟨_,_,_,_,_,hbm,hmm⟩:=h.en hv (by omega) h0
    exact ⟨h.ltN hN hv h0,decide_eq_true ⟨by rw [hbm]; omega,by rw [hmm]; exact hl⟩⟩
  have h4:cnt (fun v=>decide (0≤mb v∧mt fr to mb v<v)) M≤cnt (fun v=>decide (0≤mb v∧v<mt fr to mb v)) M:=by
    refine cnt_inj (mt fr to mb) (fun v hv hh=>?_) fun v w hv hw h1 h2 e=>h.inj hv hw (of_decide_eq_true h1).1 (of_decide_eq_true h2).1 e
    obtain ⟨h0,hl⟩:=of_decide_eq_true hh
    obtain ⟨_,_,_,_,_,hbm,hmm⟩:=h.en hv (by omega) h0
    exact ⟨h.ltN hN hv h0,decide_eq_true ⟨by rw [hbm]; omega,by rw [hmm]; exact hl⟩⟩
  omega
theorem MM.lt_iff (h:MM M n fr to M mb) {v:Nat} (hv:v<M):mb v<0↔mb v=-1:=⟨fun hh=>h.neg hv (by omega) hh,fun hh=>by omega⟩
theorem Fam.least (hN:Nds M n fr to) (hMM:MM M n fr to M mb) (hb:MM M n fr to M b') (h:Fam M n fr to mb ba vi ee rh):cnt (fun v=>decide (mb v=-1)) M≤cnt (fun v=>decide (b' v=-1)) M∧(cnt (fun v=>decide (b' v=-1)) M≤cnt (fun v=>decide (mb v=-1)) M→∀v,v<M→b' v=-1→ReP M mb ee v):=by
  classical
  have h1:=h.hung hN hMM hb
  have e1:cnt (fun v=>@decide (mb v=-1) (Classical.propDecidable _)) M=cnt (fun v=>decide (mb v=-1)) M:=cnt_congr fun x _=>by rw [decide_eq_decide]
  have e2:cnt (fun v=>@decide (b' v=-1) (Classical.propDecidable _)) M=cnt (fun v=>decide (b' v=-1)) M:=cnt_congr fun x _=>by rw [decide_eq_decide]
  have h1':cnt (fun v=>decide (mb v=-1)) M≤cnt (fun x=>@decide (ReP M mb ee x∧b' x<0) (Classical.propDecidable _)) M:=by
    have:cnt (fun v=>decide (mb v=-1)) M=cnt (fun v=>@decide (mb v=-1) (Classical.propDecidable _)) M:=e1.symm
    have e3:cnt (fun x=>decide (ReP M mb ee x∧b' x<0)) M=cnt (fun x=>@decide (ReP M mb ee x∧b' x<0) (Classical.propDecidable _)) M:=cnt_congr fun x _=>by rw [decide_eq_decide]
    omega
  have h2:cnt (fun x=>@decide (ReP M mb ee x∧b' x<0) (Classical.propDecidable _)) M≤cnt (fun v=>decide (b' v=-1)) M:=cnt_mono fun x hx hh=>decide_eq_true ((hb.lt_iff hx).1 (odt hh).2)
  refine ⟨by omega,fun hle v hv hbv=>Classical.byContradiction fun hno=>?_⟩
  have h3:=cnt_less (p:=fun v=>decide (b' v=-1)) (q:=fun x=>decide (b' x=-1) && !decide (x=v)) hv (decide_eq_true hbv) (by simp) (fun i _ hne=>by simp [hne])
  have h4:cnt (fun x=>@decide (ReP M mb ee x∧b' x<0) (Classical.propDecidable _)) M≤cnt (fun x=>decide (b' x=-1) && !decide (x=v)) M:=cnt_mono fun x hx hh=>by
    obtain ⟨a1,a2⟩:=odt hh
    have:x≠v:=fun e=>hno (e▸a1)
    simp [(hb.lt_iff hx).1 a2,this]
  omega
theorem Fam.dv (hN:Nds M n fr to) (hMM:MM M n fr to M mb) (h:Fam M n fr to mb ba vi ee rh) {k v:Nat} (hk:cnt (fun v=>decide (mb v=-1)) M+2*k=M) (hv:v<M):Dv M n fr to k v↔ReP M mb ee v:=by
  constructor
  · rintro ⟨b',hb',hbv,hc⟩
    exact (h.least hN hMM hb').2 (by omega) v hv hbv
  · rintro ⟨r,hr,hrb,he⟩
    obtain ⟨b',hb',hbu,hbo⟩:=(h.clo r hr hrb).T.flip hN hMM hv he
    refine ⟨b',hb',hbu,?_⟩
    by_cases hvr:v=r
    · subst hvr
      have:cnt (fun u=>decide (b' u=-1)) M=cnt (fun u=>decide (mb u=-1)) M:=cnt_congr fun u hu=>by
        rw [decide_eq_decide]
        by_cases e:u=v
        · rw [e,hbu,hrb]
        · rw [←hb'.lt_iff hu,←hMM.lt_iff hu,hbo u hu e]
          exact ⟨fun hh=>hh.1,fun hh=>⟨hh,e⟩⟩
      omega
    · have h0:=((h.clo r hr hrb).T.st v hv he hvr).1
      have c1:=cnt_less (p:=fun u=>decide (mb u=-1)) (q:=fun u=>decide (mb u=-1∧u≠r)) hr (decide_eq_true hrb) (decide_eq_false fun hh=>hh.2 rfl) (fun u _ hne=>by rw [decide_eq_decide]; exact ⟨fun hh=>⟨hh,hne⟩,fun hh=>hh.1⟩)
      have c2:=cnt_less (p:=fun u=>decide (b' u=-1)) (q:=fun u=>decide (mb u=-1∧u≠r)) hv (decide_eq_true hbu) (decide_eq_false fun hh=>by have:=hh.1; omega) (fun u hu hne=>by
        rw [decide_eq_decide,←hb'.lt_iff hu,hbo u hu hne,hMM.lt_iff hu])
      omega
end
section
variable {M n:Nat} {e:Nat→Edg} {mb:Nat→Int} {ba:Nat→Nat→Nat} {vi:Nat→Nat→Int} {ee:Nat→Nat→Bool} {rh:Nat→Nat→Nat}
theorem MM.tkn (hr:Right (M:Int) n e) (hMM:MM M n (ef e) (et e) M mb) {g:Nat→Int} {k:Nat} (hk:k=(pk (fun v=>decide (0≤mb v∧v<mt (ef e) (et e) mb v)) M).length)
    (hs:∀i j,i<j→j<k→g i≤g j) (hp:((List.range k).map g).Perm ((pk (fun v=>decide (0≤mb v∧v<mt (ef e) (et e) mb v)) M).map mb)):Tkn (M:Int) n e g k fun _=>1:=by
  have hN:=hr.nds
  have hel:∀v,v∈pk (fun v=>decide (0≤mb v∧v<mt (ef e) (et e) mb v)) M→v<M∧v<mt (ef e) (et e) mb v∧∃i:Nat,mb v=i∧En n (ef e) (et e) i v∧mt (ef e) (et e) mb v=ot (ef e) (et e) i v∧mb (mt (ef e) (et e) mb v)=i:=fun v hv=>by
    obtain ⟨h1,h2⟩:=pk_mem.1 hv
    obtain ⟨h3,h4⟩:=of_decide_eq_true h2
    obtain ⟨i,ei,hi,em,_,hbm,_⟩:=hMM.en h1 (by omega) h3
    exact ⟨h1,h4,i,ei,hi,em,hbm⟩
  have hgi:∀i,i<k→∃x:Nat,x<n∧g i=x∧ef e x≠et e x∧mb (ef e x)=x∧mb (et e x)=x:=fun i hi=>by
    have:g i∈(pk (fun v=>decide (0≤mb v∧v<mt (ef e) (et e) mb v)) M).map mb:=hp.mem_iff.1 (List.mem_map.2 ⟨i,List.mem_range.2 hi,rfl⟩)
    obtain ⟨v,hv,ev⟩:=List.mem_map.1 this
    obtain ⟨_,_,x,ex,hx,em,hbm⟩:=hel v hv
    refine ⟨x,hx.1,by omega,hx.2.1,?_⟩
    rw [em] at hbm
    rcases hx.2.2 with hh | hh
    · have:ot (ef e) (et e) x v=et e x:=by unfold ot; omega
      rw [this] at hbm; rw [hh] at ex; exact ⟨ex,hbm⟩
    · have:ot (ef e) (et e) x v=ef e x:=by unfold ot; omega
      rw [this] at hbm; rw [hh] at ex; exact ⟨hbm,ex⟩
  have hnd:((List.range k).map g).Nodup:=by
    rw [hp.nodup_iff]
    refine map_nodup pk_nodup fun x hx y hy e'=>?_
    obtain ⟨a1,a2,i,ei,hi,em,hbm⟩:=hel x hx
    obtain ⟨b1,b2,j,ej,hj,en',hbn⟩:=hel y hy
    have:i=j:=by omega
    subst this
    refine Classical.byContradiction fun hne=>?_
    have h1:y=ot (ef e) (et e) i x:=hi.two hj (fun hh=>hne hh.symm)
    have h2:x=ot (ef e) (et e) i y:=hj.two hi hne
    omega
  have hlt:∀i j,i<j→j<k→g i<g j:=fun i j hij hj=>by
    have h1:=hs i j hij hj
    have h2:g i≠g j:=fun e'=>by
      have:=(List.pairwise_iff_getElem.1 (List.nodup_iff_pairwise_ne.1 hnd)) i j (by simp; omega) (by simp; omega) hij
      simp at this
      exact this e'
    omega
  have hends:∀{x:Nat} {v:Int},x<n→((e x).fr=v∨(e x).to=v)→v=(ef e x:Int)∨v=(et e x:Int):=fun {x v} hx h=>by
    obtain ⟨h1,h2⟩:=hr.ends hx
    omega
  have hnl:∀i,i<k→¬lp (e (g i).toNat):=fun i hi=>by
    obtain ⟨x,hx,ex,hne,_⟩:=hgi i hi
    rw [ex,tN]
    obtain ⟨h1,h2⟩:=hr.ends hx
    unfold lp
    omega
  refine ⟨fun i hi=>?_,hnl,fun v hv0 hv1 _=>?_⟩
  · obtain ⟨x,hx,ex,_⟩:=hgi i hi
    exact ⟨by omega,by omega,fun h0=>hlt (i-1) i (by omega) hi⟩
  · have:=dg_one (e:=e) (m:=g) (v:=v) (x:=mb v.toNat) (k:=k) hnl hlt (fun i hi ht=>by
      obtain ⟨x,hx,ex,_,e1,e2⟩:=hgi i hi
      rw [ex,tN] at ht
      rcases hends hx ht with hv | hv
      · rw [hv,tN,e1]; exact ex
      · rw [hv,tN,e2]; exact ex)
    omega
theorem bl_answer (hr:Right (M:Int) n e) (hMM:MM M n (ef e) (et e) M mb) (h:Fam M n (ef e) (et e) mb ba vi ee rh) {g:Nat→Int} {k:Nat} {SP:Nat→Bool} (hk:k=(pk (fun v=>decide (0≤mb v∧v<mt (ef e) (et e) mb v)) M).length)
    (hs:∀i j,i<j→j<k→g i≤g j) (hp:((List.range k).map g).Perm ((pk (fun v=>decide (0≤mb v∧v<mt (ef e) (et e) mb v)) M).map mb)) (hSP:∀v,v<M→(SP v=true↔AnP M n (ef e) (et e) (ReP M mb ee) v)) :
    BlA M n e g k (lsF (pk SP M)) (pk SP M).length:=by
  classical
  have hN:=hr.nds
  have htk:=hMM.tkn hr hk hs hp
  have hcount:cnt (fun v=>decide (mb v=-1)) M+2*k=M:=by
    have:=hMM.count hN
    rw [hk,pk_len]; exact this
  have hin:∀v:Nat,In (lsF (pk SP M)) (pk SP M).length (v:Int)↔v<M∧SP v=true:=fun v=>by
    constructor
    · rintro ⟨i,hi,ei⟩
      rw [lsF_get hi] at ei
      have:=pk_mem.1 (List.getElem_mem hi)
      have e':(pk SP M)[i]=v:=by omega
      rwa [e'] at this
    · intro hv
      obtain ⟨i,hi,e'⟩:=List.mem_iff_getElem.1 (pk_mem.2 hv)
      exact ⟨i,hi,by rw [lsF_get hi,e']⟩
  refine ⟨⟨htk,pk_ris,?_⟩,fun v=>?_,fun b' hb'=>?_,⟨mb,hMM,hcount⟩⟩
  · have h1:=h.odd hr hMM (W:=fun v=>decide (In (lsF (pk SP M)) (pk SP M).length (v:Int))) fun v hv=>by
      rw [decide_eq_true_iff,hin v,←hSP v hv]; exact ⟨fun hh=>hh.2,fun hh=>⟨hv,hh⟩⟩
    have h2:=barrier_bound (set:=lsF (pk SP M)) (q:=(pk SP M).length) hr htk
    have h3:cnt (fun a=>@decide (AnP M n (ef e) (et e) (ReP M mb ee) a) (Classical.propDecidable _)) M=(pk SP M).length:=by
      rw [pk_len]
      refine cnt_congr fun v hv=>?_
      by_cases hh:SP v=true
      · rw [hh]; exact decide_eq_true ((hSP v hv).1 hh)
      · rw [Bool.eq_false_iff.2 hh]; exact decide_eq_false fun hA=>hh ((hSP v hv).2 hA)
    have h4:cnt (fun v=>@decide (mb v=-1) (Classical.propDecidable _)) M=cnt (fun v=>decide (mb v=-1)) M:=cnt_congr fun x _=>by rw [decide_eq_decide]
    have e5:oddS (M:Int) n e (lsF (pk SP M)) (pk SP M).length=oddN (M:Int) n e (fun v=>@decide (In (lsF (pk SP M)) (pk SP M).length (v:Int)) (Classical.propDecidable _)):=by
      unfold oddS; congr 1
    have e6:oddN (M:Int) n e (fun v=>decide (In (lsF (pk SP M)) (pk SP M).length (v:Int)))=oddS (M:Int) n e (lsF (pk SP M)) (pk SP M).length:=by
      rw [e5]
    have e7:cnt (fun v=>decide (mb v=-1)) M=cnt (fun v=>@decide (mb v=-1) (Classical.propDecidable _)) M:=h4.symm
    omega
  · rw [hin v]
    constructor
    · rintro ⟨hv,hh⟩
      obtain ⟨_,h1,i,hi,h2⟩:=(hSP v hv).1 hh
      exact ⟨hv,fun hd=>h1 ((h.dv hN hMM hcount hv).1 hd),i,hi,(h.dv hN hMM hcount (hi.ot.nd hN)).2 h2⟩
    · rintro ⟨hv,h1,i,hi,h2⟩
      exact ⟨hv,(hSP v hv).2 ⟨hv,fun hd=>h1 ((h.dv hN hMM hcount hv).2 hd),i,hi,(h.dv hN hMM hcount (hi.ot.nd hN)).1 h2⟩⟩
  · have:=(h.least hN hMM hb').1
    omega
end
end Go.Mz
/-
  Weights of nodes and of knots, and the trees of a stage, in plain words. No program in sight.
-/
namespace Go.Mz
open Classical in
noncomputable def zin (σ:KS) (u v b:Nat):Int:=if Kin σ.up u b∧Kin σ.up v b then σ.z b else 0
theorem zin_pos {σ:KS} {u v b:Nat} (h:Kin σ.up u b) (k:Kin σ.up v b):zin σ u v b=σ.z b:=by
  unfold zin; exact if_pos ⟨h,k⟩
theorem zin_neg {σ:KS} {u v b:Nat} (h:¬(Kin σ.up u b∧Kin σ.up v b)):zin σ u v b=0:=by
  unfold zin; exact if_neg h
noncomputable def cov (σ:KS) (u v:Nat):Int:=psum (zin σ u v) σ.m
def Tgt (fr to:Nat→Nat) (tw:Nat→Int) (σ:KS) (e:Nat):Prop:=σ.y (fr e)+σ.y (to e)-cov σ (fr e) (to e)=tw e
structure Gp (n ne:Nat) (fr to:Nat→Nat) (tw:Nat→Int) (R0 W:Int):Prop where
  nd:Nds n ne fr to
  nl:∀e,e<ne→fr e≠to e
  ev:∀e,e<ne→tw e%2=0
  lo:∀e,e<ne→2*R0≤tw e
  hi:∀e,e<ne→tw e≤W
structure Du (n ne:Nat) (fr to:Nat→Nat) (tw:Nat→Int) (R0 D:Int) (σ:KS):Prop where
  d0:0≤D
  z0:∀b,b<σ.m→0≤σ.z b∧σ.z b%2=0∧σ.z b≤2*D
  zn:∀b,b<n→σ.z b=0
  zg:∀b,b<σ.m→σ.up b=-2→σ.z b=0
  yb:∀v,v<n→R0-D≤σ.y v∧σ.y v≤R0+D
  fs:∀e,e<ne→σ.y (fr e)+σ.y (to e)-cov σ (fr e) (to e)≤tw e
  tl:∀b i,σ.Lv n b→i<σ.kn b→Tgt fr to tw σ (σ.le b i)
  tm:∀v e,v<n→σ.mb v=((e:Nat):Int)→Tgt fr to tw σ e
  pa:∀u v,u<n→v<n→σ.surf u=σ.surf v→(σ.y u-σ.y v)%2=0
  fe:∀v,v<n→σ.mb v=-1→σ.y v=R0+D
structure Inv (n ne:Nat) (fr to:Nat→Nat) (tw:Nat→Int) (R0 D:Int) (σ:KS):Prop where
  kp:Kps n ne fr to σ
  ba:Bas n σ
  mm:MM n ne fr to n σ.mb
  du:Du n ne fr to tw R0 D σ
structure Tr (n ne:Nat) (fr to:Nat→Nat) (tw:Nat→Int) (R:Int) (σ:KS) (d:Nat→Nat):Prop where
  lb:∀b,σ.Sf b→σ.lab b=0∨σ.lab b=1∨σ.lab b=2
  fe:∀v,v<n→σ.mb v=-1→σ.lab (σ.surf v)=1∧σ.ve (σ.surf v)=-1
  ou:∀b,σ.Sf b→σ.lab b=1→(σ.ve b=-1∧σ.mb (σ.base b)=-1)∨
    ∃e:Nat,σ.ve b=e∧σ.mb (σ.base b)=e∧σ.vi b=σ.base b∧σ.vo b=ot fr to e (σ.base b)∧σ.lab (σ.surf (σ.vo b))=2∧d (σ.surf (σ.vo b))<d b
  inn:∀b,σ.Sf b→σ.lab b=2→∃e:Nat,σ.ve b=e∧En ne fr to e (σ.vi b)∧Tgt fr to tw σ e∧Kin σ.up (σ.vi b) b∧σ.vo b=ot fr to e (σ.vi b)∧σ.lab (σ.surf (σ.vo b))=1∧d (σ.surf (σ.vo b))<d b
  im:∀b,σ.Sf b→σ.lab b=2→∃e:Nat,σ.mb (σ.base b)=e∧σ.lab (σ.surf (ot fr to e (σ.base b)))=1∧σ.ve (σ.surf (ot fr to e (σ.base b)))=e
  pr:∀v,v<n→σ.lab (σ.surf v)≠0→(σ.y v-R)%2=0
section
variable {n ne:Nat} {fr to:Nat→Nat} {tw:Nat→Int} {R0 D R W:Int} {σ σ':KS} {d:Nat→Nat} {b c u v w x:Nat}
theorem cov_comm:cov σ u v=cov σ v u:=by
  unfold cov
  refine psum_congr fun i _=>?_
  by_cases h:Kin σ.up u i∧Kin σ.up v i
  · rw [zin_pos h.1 h.2,zin_pos h.2 h.1]
  · rw [zin_neg h,zin_neg fun h'=>h ⟨h'.2,h'.1⟩]
theorem Kps.below (h:Kps n ne fr to σ) (hv:v<n) (k:Kin σ.up v b):Kin σ.up b (σ.surf v):=by
  obtain ⟨s1,s2⟩:=h.srf v hv
  rcases k.comp s2 with h' | h'
  · exact h'
  · have:=h'.top (by rw [s1.2]; omega)
    rw [this]; exact .here b
theorem cov_apart (h:Kps n ne fr to σ) (hu:u<n) (hv:v<n) (hne:σ.surf u≠σ.surf v):cov σ u v=0:=by
  unfold cov
  refine psum_zero fun i _=>?_
  refine zin_neg fun hk=>?_
  have h1:=h.below hu hk.1
  have h2:=h.below hv hk.2
  exact hne (h1.uniq h2 (by rw [(h.srf u hu).1.2]; omega) (by rw [(h.srf v hv).1.2]; omega))
theorem Tgt.at' {e:Nat} (h:Tgt fr to tw σ e) (k:En ne fr to e u):σ.y u+σ.y (ot fr to e u)-cov σ u (ot fr to e u)=tw e:=by
  unfold Tgt at h
  rcases k.2.2 with rfl | rfl
  · rw [show ot fr to e (fr e)=to e by unfold ot; omega]; exact h
  · rw [show ot fr to e (to e)=fr e by unfold ot; omega,cov_comm]; omega
theorem Tgt.of {e:Nat} (k:En ne fr to e u) (h:σ.y u+σ.y (ot fr to e u)-cov σ u (ot fr to e u)=tw e):Tgt fr to tw σ e:=by
  unfold Tgt
  rcases k.2.2 with rfl | rfl
  · rw [show ot fr to e (fr e)=to e by unfold ot; omega] at h; exact h
  · rw [show ot fr to e (to e)=fr e by unfold ot; omega,cov_comm] at h; omega
theorem BasI.mate' (h:Kps n ne fr to σ):∀(b:Nat),b<σ.m→σ.up b≠-2→BasI n σ b→∀w,w<n→Kin σ.up w b→w≠σ.base b→∃e:Nat,σ.mb w=e∧En ne fr to e w∧Kin σ.up (ot fr to e w) b∧σ.mb (ot fr to e w)=e∧ot fr to e w≠σ.base b:=by
  intro b
  induction b using Nat.strongRecOn with
  | _ b ih=>
    intro hb hu k w hw hi hne
    by_cases hn:b<n
    · rw [k.nd b hn] at hne
      exact (hne (h.node_in hn hi)).elim
    · have hl:σ.Lv n b:=⟨by omega,hb,hu⟩
      have hwb:w≠b:=by omega
      obtain ⟨j,hj,hwj⟩:=h.which hl hi hwb
      obtain ⟨a,ha⟩:=k.kn b hl (.here b)
      obtain ⟨k1,k2⟩:=h.kid b j hl hj
      have hak:=h.kid b a hl ha.lt
      have hba:Kin σ.up (σ.base b) (σ.kd b a):=by
        rw [ha.eq]
        exact (BasI.within h _ (h.up_lt hak.2).1 (by omega) (k.part (.one hak.2))).1
      have nota:∀i,i<σ.kn b→i≠a→∀x,Kin σ.up x (σ.kd b i)→x≠σ.base b:=fun i hi hne x hx e=>hne (h.kidn hl hi ha.lt hx (e▸hba))
      by_cases hwk:w=σ.base (σ.kd b j)
      · obtain ⟨r,hr,er⟩:=mod_rel ha.lt hj
        have h3:=(h.odd b hl).2
        have ho:=(h.odd b hl).1
        have ea:a=(a+0)%σ.kn b:=by rw [Nat.add_zero,Nat.mod_eq_of_lt ha.lt]
        have off:∀s,s<σ.kn b→s≠0→(a+s)%σ.kn b≠a:=fun s hs hs0 e=>hs0 (mod_inj hs (by omega) (e.trans ea))
        by_cases h0:r=0
        · subst h0
          rw [Nat.add_zero,Nat.mod_eq_of_lt ha.lt] at er
          rw [ha.eq,er] at hne
          exact (hne hwk).elim
        · by_cases hpar:r%2=1
          · obtain ⟨p1,p2,p3,p4⟩:=ha.pr r hpar hr
            have hj1:(j+1)%σ.kn b=(a+(r+1))%σ.kn b:=by rw [←er,Nat.mod_add_mod,Nat.add_assoc]
            rw [er] at p1 p2 p3 p4
            obtain ⟨l1,l2,l3,l4⟩:=h.lnk b j hl hj
            have hr1:r+1<σ.kn b:=by omega
            refine ⟨σ.le b j,?_,?_,?_,?_,?_⟩
            · rw [hwk,p1]; exact p3
            · rw [hwk,p1]; exact l1
            · rw [hwk,p1,←l2]
              exact h.kin hl (Nat.mod_lt _ (by omega)) l4
            · rw [hwk,p1,←l2]; exact p4
            · rw [hwk,p1,←l2]
              exact nota _ (Nat.mod_lt _ (by omega)) (by rw [hj1]; exact off _ hr1 (by omega)) _ l4
          · have hr0:r-1<σ.kn b:=by omega
            obtain ⟨p1,p2,p3,p4⟩:=ha.pr (r-1) (by omega) hr0
            rw [show a+(r-1)+1=a+r by omega,er] at p2
            have hqa:(a+(r-1))%σ.kn b≠a:=off _ hr0 (by omega)
            obtain ⟨q,hq⟩:∃q,q=(a+(r-1))%σ.kn b:=⟨_,rfl⟩
            rw [←hq] at p1 p2 p3 p4 hqa
            have hqk:q<σ.kn b:=by rw [hq]; exact Nat.mod_lt _ (by omega)
            obtain ⟨l1,l2,l3,l4⟩:=h.lnk b q hl hqk
            refine ⟨σ.le b q,?_,?_,?_,?_,?_⟩
            · rw [hwk,p2]; exact p4
            · rw [hwk,p2,l2]; exact l1.ot
            · rw [hwk,p2,l2,l1.oo]
              exact h.kin hl hqk l3
            · rw [hwk,p2,l2,l1.oo]; exact p3
            · rw [hwk,p2,l2,l1.oo]
              exact nota _ hqk hqa _ l3
      · obtain ⟨e,h1,h2,h3,h4,h5⟩:=ih _ k1 (h.up_lt k2).1 (by omega) (k.part (.one k2)) w hw hwj hwk
        refine ⟨e,h1,h2,h.kin hl hj h3,h4,?_⟩
        by_cases hja:j=a
        · rw [ha.eq,←hja]; exact h5
        · exact nota j hj hja _ h3
theorem Inv.bsf (h:Inv n ne fr to tw R0 D σ) (hb:σ.Sf b):Kin σ.up (σ.base b) b∧σ.base b<n∧σ.surf (σ.base b)=b:=by
  obtain ⟨h1,h2⟩:=BasI.within h.kp b hb.1 (by rw [hb.2]; omega) (h.ba.at' b)
  exact ⟨h1,h2,h.kp.srf_eq h2 hb.2 h1⟩
theorem Inv.fbase (h:Inv n ne fr to tw R0 D σ) (hv:v<n) (hf:σ.mb v=-1) (hb:b<σ.m) (hu:σ.up b≠-2) (k:Kin σ.up v b):σ.base b=v:=by
  by_cases e:v=σ.base b
  · exact e.symm
  · obtain ⟨e',h1,_⟩:=BasI.mate' h.kp b hb hu (h.ba.at' b) v hv k e
    omega
theorem Inv.crs (G:Gp n ne fr to tw R0 W) (h:Inv n ne fr to tw R0 D σ) (hb:σ.Sf b) {e:Nat} (he:σ.mb (σ.base b)=e):En ne fr to e (σ.base b)∧ot fr to e (σ.base b)<n∧σ.surf (ot fr to e (σ.base b))≠b∧σ.base (σ.surf (ot fr to e (σ.base b)))=ot fr to e (σ.base b)∧σ.mb (ot fr to e (σ.base b))=e:=by
  obtain ⟨h1,h2,h3⟩:=h.bsf hb
  have hu:σ.up b≠-2:=by rw [hb.2]; omega
  rcases h.mm (σ.base b) h2 (by omega) with e' | ⟨i,e',k1,k2,k3⟩
  · omega
  · have:i=e:=by omega
    subst this
    have hx:ot fr to i (σ.base b)<n:=k1.ot.nd G.nd
    have ho:¬Kin σ.up (ot fr to i (σ.base b)) b:=fun hk=>by
      obtain ⟨e2,g1,g2,g3,g4,g5⟩:=BasI.mate' h.kp b hb.1 hu (h.ba.at' b) _ hx hk k1.ne
      have:e2=i:=by omega
      subst this
      exact g5 k1.oo
    obtain ⟨s1,s2⟩:=h.kp.srf _ hx
    have hne:σ.surf (ot fr to i (σ.base b))≠b:=fun e=>ho (by rw [e] at s2; exact s2)
    refine ⟨k1,hx,hne,?_,k3⟩
    refine (BasI.cross G.nd h.kp (h.ba.at' _) s1.1 (by rw [s1.2]; omega) hx s2 k3 ?_).symm
    rw [k1.oo]
    intro hk
    exact hne (hk.uniq h1 (by rw [s1.2]; omega) (by rw [hb.2]; omega))
theorem Inv.ends (G:Gp n ne fr to tw R0 W) (h:Inv n ne fr to tw R0 D σ) (hv:v<n) {e:Nat} (he:σ.mb v=e) (hne:σ.surf (ot fr to e v)≠σ.surf v):v=σ.base (σ.surf v):=by
  obtain ⟨s1,s2⟩:=h.kp.srf v hv
  rcases h.mm v hv (by omega) with e' | ⟨i,e',k1,k2,k3⟩
  · omega
  · have:i=e:=by omega
    subst this
    refine BasI.cross G.nd h.kp (h.ba.at' _) s1.1 (by rw [s1.2]; omega) hv s2 he fun hk=>hne ?_
    exact h.kp.srf_eq (k1.ot.nd G.nd) s1.2 hk
theorem Tr.free (G:Gp n ne fr to tw R0 W) (h:Inv n ne fr to tw R0 D σ) (T:Tr n ne fr to tw R σ d) (hb:σ.Sf b) (h0:σ.lab b=0):∃e:Nat,σ.mb (σ.base b)=e∧σ.lab (σ.surf (ot fr to e (σ.base b)))=0:=by
  obtain ⟨h1,h2,h3⟩:=h.bsf hb
  rcases h.mm (σ.base b) h2 (by omega) with e' | ⟨e,e',_⟩
  · have:=(T.fe _ h2 e').1
    rw [h3] at this
    omega
  · obtain ⟨c1,c2,c3,c4,c5⟩:=h.crs G hb e'
    obtain ⟨s1,s2⟩:=h.kp.srf _ c2
    refine ⟨e,e',?_⟩
    rcases T.lb _ s1 with l | l | l
    · exact l
    · exfalso
      rcases T.ou _ s1 l with ⟨_,g⟩ | ⟨e1,g1,g2,g3,g4,g5,g6⟩
      · rw [c4,c5] at g; omega
      · rw [c4] at g2 g4
        have:e1=e:=by omega
        subst this
        rw [c1.oo] at g4
        rw [g4,h3] at g5
        omega
    · exfalso
      obtain ⟨e1,g1,g2,g3⟩:=T.im _ s1 l
      rw [c4] at g1 g2
      have:e1=e:=by omega
      subst this
      rw [c1.oo,h3] at g2
      omega
theorem Inv.evn (G:Gp n ne fr to tw R0 W) (h:Inv n ne fr to tw R0 D σ) {e:Nat} (he:En ne fr to e u) (ht:Tgt fr to tw σ e) (hne:σ.surf u≠σ.surf (ot fr to e u)):(σ.y u+σ.y (ot fr to e u))%2=0:=by
  have:=ht.at' he
  rw [cov_apart h.kp (he.nd G.nd) (he.ot.nd G.nd) hne] at this
  have:=G.ev e he.1
  omega
end
/-! ### Marks -/
def KS.mk1 (σ:KS) (b:Nat) (l e:Int) (i o:Nat):KS:={ σ with lab:=upf σ.lab b l,ve:=upf σ.ve b e,vi:=upf σ.vi b i,vo:=upf σ.vo b o }
section
variable {n ne:Nat} {fr to:Nat→Nat} {tw:Nat→Int} {R0 D R W:Int} {σ σ':KS} {d:Nat→Nat} {b c u v w x:Nat}
theorem Inv.mk1 {l e:Int} {i o:Nat} (h:Inv n ne fr to tw R0 D σ):Inv n ne fr to tw R0 D (σ.mk1 b l e i o):=
  ⟨⟨h.kp.nm,h.kp.upc,h.kp.upo,h.kp.nod,h.kp.odd,h.kp.kid,h.kp.inj,h.kp.lnk,h.kp.srf⟩,⟨h.ba.nd,fun c hc=>(h.ba.kn c hc).imp fun a k=>⟨k.lt,k.eq,k.pr⟩⟩,h.mm,
    ⟨h.du.d0,h.du.z0,h.du.zn,h.du.zg,h.du.yb,h.du.fs,h.du.tl,h.du.tm,h.du.pa,h.du.fe⟩⟩
theorem Tr.grow (G:Gp n ne fr to tw R0 W) (h:Inv n ne fr to tw R0 D σ) (T:Tr n ne fr to tw R σ d) {e:Nat} (he:En ne fr to e u) (ht:Tgt fr to tw σ e) (h0:σ.lab (σ.surf u)=0) (h1:σ.lab (σ.surf (ot fr to e u))=1) :
    ∃e':Nat,σ.mb (σ.base (σ.surf u))=e'∧En ne fr to e' (σ.base (σ.surf u))∧σ.lab (σ.surf (ot fr to e' (σ.base (σ.surf u))))=0∧σ.surf (ot fr to e' (σ.base (σ.surf u)))≠σ.surf u∧
      ∃d',Tr n ne fr to tw R ((σ.mk1 (σ.surf u) 2 e u (ot fr to e u)).mk1 (σ.surf (ot fr to e' (σ.base (σ.surf u)))) 1 e' (ot fr to e' (σ.base (σ.surf u))) (σ.base (σ.surf u))) d':=by
  have hun:=he.nd G.nd
  have hvn:=he.ot.nd G.nd
  obtain ⟨b,eb⟩:∃b,b=σ.surf u:=⟨_,rfl⟩
  obtain ⟨v,ev⟩:∃v,v=ot fr to e u:=⟨_,rfl⟩
  rw [←eb] at h0 ⊢
  rw [←ev] at h1 hvn ⊢
  obtain ⟨s1,s2⟩:=h.kp.srf u hun
  rw [←eb] at s1 s2
  obtain ⟨e',m1,m2⟩:=T.free G h s1 h0
  obtain ⟨b1,b2,b3⟩:=h.bsf s1
  obtain ⟨c1,c2,c3,c4,c5⟩:=h.crs G s1 m1
  obtain ⟨w,ew⟩:∃w,w=σ.base b:=⟨_,rfl⟩
  rw [←ew] at b1 b2 b3 m1 m2 c1 c2 c3 c4 c5 ⊢
  refine ⟨e',m1,c1,?_⟩
  obtain ⟨x,ex⟩:∃x,x=ot fr to e' w:=⟨_,rfl⟩
  rw [←ex] at m2 c2 c3 c4 c5 ⊢
  obtain ⟨c,ec⟩:∃c,c=σ.surf x:=⟨_,rfl⟩
  have sc:=h.kp.srf x c2
  rw [←ec] at sc m2 c3 c4 ⊢
  refine ⟨m2,c3,upf (upf d b (d (σ.surf v)+1)) c (d (σ.surf v)+2),?_⟩
  have hvb:σ.surf v≠b:=fun e1=>by rw [e1] at h1; omega
  have hvc:σ.surf v≠c:=fun e1=>by rw [e1] at h1; omega
  have hlb:∀y,y≠b→y≠c→upf (upf σ.lab b 2) c 1 y=σ.lab y:=fun y h1 h2=>by rw [upf_ne h2,upf_ne h1]
  have lc:upf (upf σ.lab b 2) c 1 c=1:=upf_same
  have lb:upf (upf σ.lab b 2) c 1 b=2:=by rw [upf_ne (Ne.symm c3),upf_same]
  have nb:∀y,σ.lab y≠0→y≠b∧y≠c:=fun y hy=>⟨fun e1=>by rw [e1] at hy; exact hy h0,fun e1=>by rw [e1] at hy; exact hy m2⟩
  have keep:∀{α:Type} (f:Nat→α) (p q:α) (y:Nat),y≠b→y≠c→upf (upf f b p) c q y=f y:=fun f p q y h1 h2=>by rw [upf_ne h2,upf_ne h1]
  have atb:∀{α:Type} (f:Nat→α) (p q:α),upf (upf f b p) c q b=p:=fun f p q=>by rw [upf_ne (Ne.symm c3),upf_same]
  have atc:∀{α:Type} (f:Nat→α) (p q:α),upf (upf f b p) c q c=q:=fun f p q=>upf_same
  have nev:∀y,upf (upf σ.lab b 2) c 1 y=0→σ.lab y=0:=fun y hy=>by
    by_cases c1:y=c
    · rw [c1,atc] at hy; omega
    · by_cases c2:y=b
      · rw [c2,atb] at hy; omega
      · rw [keep _ _ _ _ c2 c1] at hy; exact hy
  refine ⟨fun y hy=>?_,fun y hy hf=>?_,fun y hy hl=>?_,fun y hy hl=>?_,fun y hy hl=>?_,fun y hy hl=>?_⟩
  · show upf (upf σ.lab b 2) c 1 y=0∨upf (upf σ.lab b 2) c 1 y=1∨upf (upf σ.lab b 2) c 1 y=2
    by_cases k1:y=c
    · rw [k1,atc]; omega
    · by_cases k2:y=b
      · rw [k2,atb]; omega
      · rw [keep _ _ _ _ k2 k1]; exact T.lb y hy
  · obtain ⟨f1,f2⟩:=T.fe y hy hf
    obtain ⟨k1,k2⟩:=nb (σ.surf y) (by omega)
    exact ⟨(keep _ _ _ _ k1 k2).trans f1,(keep _ _ _ _ k1 k2).trans f2⟩
  · replace hl:upf (upf σ.lab b 2) c 1 y=1:=hl
    by_cases k1:y=c
    · subst k1
      refine .inr ⟨e',upf_same,?_,?_,?_,?_,?_⟩
      · show σ.mb (σ.base y)=e'
        rw [c4]; exact c5
      · show upf _ y x y=σ.base y
        rw [upf_same,c4]
      · show upf _ y w y=ot fr to e' (σ.base y)
        rw [upf_same,c4,ex,c1.oo]
      · show upf (upf σ.lab b 2) y 1 (σ.surf (upf _ y w y))=2
        rw [upf_same,b3]; exact lb
      · show upf (upf d b (d (σ.surf v)+1)) y (d (σ.surf v)+2) (σ.surf (upf _ y w y))<upf (upf d b (d (σ.surf v)+1)) y (d (σ.surf v)+2) y
        rw [upf_same,b3,atb,upf_same]; omega
    · by_cases k2:y=b
      · rw [k2,atb] at hl; omega
      · rw [keep _ _ _ _ k2 k1] at hl
        rcases T.ou y hy hl with ⟨g1,g2⟩ | ⟨e1,g1,g2,g3,g4,g5,g6⟩
        · exact .inl ⟨(keep _ _ _ _ k2 k1).trans g1,g2⟩
        · have hvo:(upf (upf σ.vo b v) c w) y=σ.vo y:=keep _ _ _ _ k2 k1
          obtain ⟨k3,k4⟩:=nb (σ.surf (σ.vo y)) (by omega)
          refine .inr ⟨e1,(keep _ _ _ _ k2 k1).trans g1,g2,(keep _ _ _ _ k2 k1).trans g3,hvo.trans g4,?_,?_⟩
          · show upf (upf σ.lab b 2) c 1 (σ.surf (upf (upf σ.vo b v) c w y))=2
            rw [hvo,keep _ _ _ _ k3 k4]; exact g5
          · show upf (upf d b (d (σ.surf v)+1)) c (d (σ.surf v)+2) (σ.surf (upf (upf σ.vo b v) c w y))<upf (upf d b (d (σ.surf v)+1)) c (d (σ.surf v)+2) y
            rw [hvo,keep _ _ _ _ k3 k4,keep _ _ _ _ k2 k1]; exact g6
  · replace hl:upf (upf σ.lab b 2) c 1 y=2:=hl
    by_cases k1:y=c
    · rw [k1,atc] at hl; omega
    · by_cases k2:y=b
      · subst k2
        have hvo:(upf (upf σ.vo y v) c w) y=v:=atb _ _ _
        have hvi:(upf (upf σ.vi y u) c x) y=u:=atb _ _ _
        refine ⟨e,atb _ _ _,?_,ht,?_,?_,?_,?_⟩
        · show En ne fr to e (upf (upf σ.vi y u) c x y)
          rw [hvi]; exact he
        · show Kin σ.up (upf (upf σ.vi y u) c x y) y
          rw [hvi]; exact s2
        · show upf (upf σ.vo y v) c w y=ot fr to e (upf (upf σ.vi y u) c x y)
          rw [hvo,hvi]; exact ev
        · show upf (upf σ.lab y 2) c 1 (σ.surf (upf (upf σ.vo y v) c w y))=1
          rw [hvo,keep _ _ _ _ hvb hvc]; exact h1
        · show upf (upf d y (d (σ.surf v)+1)) c (d (σ.surf v)+2) (σ.surf (upf (upf σ.vo y v) c w y))<upf (upf d y (d (σ.surf v)+1)) c (d (σ.surf v)+2) y
          rw [hvo,keep _ _ _ _ hvb hvc,atb]; omega
      · rw [keep _ _ _ _ k2 k1] at hl
        obtain ⟨e1,g1,g2,g3,g4,g5,g6,g7⟩:=T.inn y hy hl
        have hvo:(upf (upf σ.vo b v) c w) y=σ.vo y:=keep _ _ _ _ k2 k1
        have hvi:(upf (upf σ.vi b u) c x) y=σ.vi y:=keep _ _ _ _ k2 k1
        obtain ⟨k3,k4⟩:=nb (σ.surf (σ.vo y)) (by omega)
        refine ⟨e1,(keep _ _ _ _ k2 k1).trans g1,?_,g3,?_,?_,?_,?_⟩
        · show En ne fr to e1 (upf (upf σ.vi b u) c x y)
          rw [hvi]; exact g2
        · show Kin σ.up (upf (upf σ.vi b u) c x y) y
          rw [hvi]; exact g4
        · show upf (upf σ.vo b v) c w y=ot fr to e1 (upf (upf σ.vi b u) c x y)
          rw [hvo,hvi]; exact g5
        · show upf (upf σ.lab b 2) c 1 (σ.surf (upf (upf σ.vo b v) c w y))=1
          rw [hvo,keep _ _ _ _ k3 k4]; exact g6
        · show upf (upf d b (d (σ.surf v)+1)) c (d (σ.surf v)+2) (σ.surf (upf (upf σ.vo b v) c w y))<upf (upf d b (d (σ.surf v)+1)) c (d (σ.surf v)+2) y
          rw [hvo,keep _ _ _ _ k3 k4,keep _ _ _ _ k2 k1]; exact g7
  · replace hl:upf (upf σ.lab b 2) c 1 y=2:=hl
    by_cases k1:y=c
    · rw [k1,atc] at hl; omega
    · by_cases k2:y=b
      · subst k2
        refine ⟨e',(by show σ.mb (σ.base y)=_; rw [←ew]; exact m1),?_,?_⟩
        · show upf (upf σ.lab y 2) c 1 (σ.surf (ot fr to e' (σ.base y)))=1
          rw [←ew,←ex,←ec]; exact lc
        · show upf (upf σ.ve y e) c e' (σ.surf (ot fr to e' (σ.base y)))=e'
          rw [←ew,←ex,←ec]; exact upf_same
      · rw [keep _ _ _ _ k2 k1] at hl
        obtain ⟨e1,g1,g2,g3⟩:=T.im y hy hl
        obtain ⟨k3,k4⟩:=nb (σ.surf (ot fr to e1 (σ.base y))) (by omega)
        exact ⟨e1,g1,(keep _ _ _ _ k3 k4).trans g2,(keep _ _ _ _ k3 k4).trans g3⟩
  · replace hl:upf (upf σ.lab b 2) c 1 (σ.surf y)≠0:=hl
    show (σ.y y-R)%2=0
    have hyv:=T.pr v hvn (by omega)
    have p1:(σ.y u+σ.y v)%2=0:=by rw [ev]; exact h.evn G he ht (by rw [←eb,←ev]; exact Ne.symm hvb)
    by_cases k2:σ.surf y=b
    · have:=h.du.pa y u hy hun (k2.trans eb)
      omega
    · by_cases k1:σ.surf y=c
      · have q1:=h.du.pa y x hy c2 (k1.trans ec)
        have q2:=h.du.pa w u b2 hun (b3.trans eb)
        have q3:(σ.y w+σ.y x)%2=0:=by
          rw [ex]
          exact h.evn G c1 (h.du.tm w e' b2 m1) (by rw [b3,←ex,←ec]; exact Ne.symm c3)
        omega
      · rw [keep _ _ _ _ k2 k1] at hl
        exact T.pr y hy hl
end
end Go.Mz
/-
  How far the weights can go, and making them better, in plain words. No program in sight.
-/
namespace Go.Mz
theorem psum_cntx {p:Nat→Bool} {x:Int}:∀{n:Nat},psum (fun v=>if p v=true then x else 0) n=x*(cnt p n:Int)
  | 0=>by simp [psum,cnt]
  | n+1=>by
    simp only [psum,cnt]
    rw [psum_cntx]
    by_cases h:p n=true
    · rw [if_pos h,if_pos h,Int.natCast_add,Int.mul_add]; simp
    · rw [if_neg h,if_neg h]; simp
theorem psum_perm {y:Nat→Int} {s:Nat→Nat} {n:Nat} (h:∀v,v<n→s v<n∧s (s v)=v):psum (fun v=>y (s v)) n=psum y n:=by
  have h1:psum (fun v=>y (s v)) n=psum (fun v=>psum (fun w=>if w=s v then y w else 0) n) n:=psum_congr fun v hv=>by
    have:=psum_single (x:=y (s v)) (h v hv).1
    rw [←this]
    exact psum_congr fun w _=>by
      by_cases e:w=s v
      · rw [if_pos e,if_pos e,e]
      · rw [if_neg e,if_neg e]
  rw [h1,psum_swap]
  refine psum_congr fun w hw=>?_
  have:=psum_single (x:=y w) (h w hw).1
  refine Eq.trans (psum_congr fun v hv=>?_) this
  by_cases e:w=s v
  · rw [if_pos e,if_pos (by rw [e]; exact (h v hv).2.symm)]
  · rw [if_neg e,if_neg fun e'=>e (by rw [e']; exact (h w hw).2.symm)]
theorem psum_const {x:Int}:∀{n:Nat},psum (fun _=>x) n=x*(n:Int)
  | 0=>by simp [psum]
  | n+1=>by simp only [psum]; rw [psum_const,Int.natCast_add,Int.mul_add]; simp
section
variable {n ne:Nat} {fr to:Nat→Nat} {tw:Nat→Int} {R0 D R W:Int} {σ σ':KS} {d:Nat→Nat} {b c u v w x:Nat}
open Classical in
noncomputable def wi (σ:KS) (fr to:Nat→Nat) (g:Nat→Int) (b v:Nat):Bool:=decide (0≤g v∧Kin σ.up v b∧Kin σ.up (mt fr to g v) b)
theorem wi_of {g:Nat→Int} (h0:0≤g v) (h1:Kin σ.up v b) (h2:Kin σ.up (mt fr to g v) b):wi σ fr to g b v=true:=by
  classical
  unfold wi; exact decide_eq_true ⟨h0,h1,h2⟩
open Classical in
noncomputable def csum (σ:KS) (fr to:Nat→Nat) (g:Nat→Int) (n:Nat):Int:=psum (fun v=>if 0≤g v then cov σ v (mt fr to g v) else 0) n
theorem csum_eq {g:Nat→Int}:csum σ fr to g n=psum (fun b=>σ.z b*(cnt (wi σ fr to g b) n:Int)) σ.m:=by
  unfold csum
  have h1:psum (fun v=>if 0≤g v then cov σ v (mt fr to g v) else 0) n=psum (fun v=>psum (fun b=>if wi σ fr to g b v=true then σ.z b else 0) σ.m) n:=psum_congr fun v _=>by
    by_cases h0:0≤g v
    · rw [if_pos h0]
      unfold cov
      refine psum_congr fun b _=>?_
      by_cases hk:Kin σ.up v b∧Kin σ.up (mt fr to g v) b
      · have hw:wi σ fr to g b v=true:=wi_of h0 hk.1 hk.2
        rw [zin_pos hk.1 hk.2,if_pos hw]
      · rw [zin_neg hk,if_neg fun h=>hk ⟨(odt h).2.1,(odt h).2.2⟩]
    · rw [if_neg h0]
      exact (psum_zero fun b _=>if_neg fun h=>h0 (odt h).1).symm
  rw [h1,psum_swap]
  exact psum_congr fun b _=>psum_cntx
theorem Inv.most (G:Gp n ne fr to tw R0 W) (h:Inv n ne fr to tw R0 D σ) {g:Nat→Int} (hg:MM n ne fr to n g) (hb:b<σ.m) (hu:σ.up b≠-2):cnt (wi σ fr to g b) n≤cnt (wi σ fr to σ.mb b) n:=by
  classical
  have hev:cnt (wi σ fr to g b) n%2=0:=by
    refine cnt_pairs (mt fr to g) _ rfl fun v hv hs=>?_
    obtain ⟨h0,h1,h2⟩:=odt hs
    obtain ⟨i,e1,e2,e3,e4,e5,e6⟩:=hg.en hv (by omega) h0
    have h7:=hg.ltN G.nd hv h0
    refine ⟨h7,wi_of (by omega) h2 (by rw [e6]; exact h1),by rw [e3]; exact e2.ne,e6⟩
  have hw:=BasI.within h.kp b hb hu (h.ba.at' b)
  let S:Nat→Bool:=fun v=>decide (Kin σ.up v b∧v≠σ.base b)
  have hS:∀v,v<n→S v=true→0≤σ.mb v∧Kin σ.up (mt fr to σ.mb v) b∧mt fr to σ.mb v≠σ.base b∧mt fr to σ.mb v<n∧mt fr to σ.mb v≠v∧mt fr to σ.mb (mt fr to σ.mb v)=v:=fun v hv hs=>by
    obtain ⟨k1,k2⟩:=odt hs
    obtain ⟨e,m1,m2,m3,m4,m5⟩:=BasI.mate' h.kp b hb hu (h.ba.at' b) v hv k1 k2
    have h0:0≤σ.mb v:=by omega
    obtain ⟨i,e1,e2,e3,e4,e5,e6⟩:=h.mm.en hv (by omega) h0
    have:i=e:=by omega
    subst this
    have h7:=h.mm.ltN G.nd hv h0
    refine ⟨h0,by rw [e3]; exact m3,by rw [e3]; exact m5,h7,by rw [e3]; exact e2.ne,e6⟩
  have hSe:cnt S n%2=0:=cnt_pairs (mt fr to σ.mb) _ rfl fun v hv hs=>by
    obtain ⟨_,a2,a3,a4,a5,a6⟩:=hS v hv hs
    exact ⟨a4,decide_eq_true ⟨a2,a3⟩,a5,a6⟩
  have h1:cnt S n≤cnt (wi σ fr to σ.mb b) n:=cnt_mono fun v hv hs=>by
    obtain ⟨a1,a2,_⟩:=hS v hv hs
    exact wi_of a1 (odt hs).1 a2
  have h2:cnt (fun v=>decide (Kin σ.up v b)) n=cnt S n+1:=cnt_less hw.2 (decide_eq_true hw.1) (by simp [S]) fun i _ hne=>by simp [S,hne]
  have h3:cnt (wi σ fr to g b) n≤cnt (fun v=>decide (Kin σ.up v b)) n:=cnt_mono fun v hv hs=>decide_eq_true (odt hs).2.1
  omega
theorem Inv.csum_le (G:Gp n ne fr to tw R0 W) (h:Inv n ne fr to tw R0 D σ) {g:Nat→Int} (hg:MM n ne fr to n g):csum σ fr to g n≤csum σ fr to σ.mb n:=by
  rw [csum_eq,csum_eq]
  refine psum_le fun b hb=>?_
  obtain ⟨h1,_⟩:=h.du.z0 b hb
  by_cases hu:σ.up b=-2
  · rw [h.du.zg b hb hu]; simp
  · have:=h.most G hg hb hu
    exact Int.mul_le_mul_of_nonneg_left (by omega) h1
theorem Inv.bound (G:Gp n ne fr to tw R0 W) (h:Inv n ne fr to tw R0 D σ) {g:Nat→Int} (hg:MM n ne fr to n g) (hall:∀v,v<n→0≤g v):2*D*(cnt (fun v=>decide (σ.mb v=-1)) n:Int)≤(W-2*R0)*(n:Int):=by
  have p1:psum (fun v=>σ.y v+σ.y (mt fr to g v)-cov σ v (mt fr to g v)) n≤psum (fun v=>tw (g v).toNat) n:=psum_le fun v hv=>by
    obtain ⟨i,e1,e2,e3,_⟩:=hg.en hv (by omega) (hall v hv)
    rw [e3,e1,tN]
    have:=h.du.fs i e2.1
    rcases e2.2.2 with rfl | rfl
    · rw [show ot fr to i (fr i)=to i by unfold ot; omega]; exact this
    · rw [show ot fr to i (to i)=fr i by unfold ot; omega,cov_comm]; omega
  have p2:psum (fun v=>tw (g v).toNat) n≤W*(n:Int):=by
    rw [←psum_const]
    exact psum_le fun v hv=>by
      obtain ⟨i,e1,e2,_⟩:=hg.en hv (by omega) (hall v hv)
      rw [e1,tN]
      exact G.hi i e2.1
  have p3:psum (fun v=>σ.y v+σ.y (mt fr to g v)-cov σ v (mt fr to g v)) n=psum σ.y n+psum σ.y n-csum σ fr to g n:=by
    rw [psum_sub,psum_add,psum_perm (y:=σ.y) (s:=mt fr to g) fun v hv=>⟨hg.ltN G.nd hv (hall v hv),by
      obtain ⟨i,_,_,_,_,_,e6⟩:=hg.en hv (by omega) (hall v hv)
      exact e6⟩]
    have:psum (fun v=>cov σ v (mt fr to g v)) n=csum σ fr to g n:=psum_congr fun v hv=>(if_pos (hall v hv)).symm
    rw [this]
  have hs:∀v,v<n→(if 0≤σ.mb v then mt fr to σ.mb v else v)<n∧(if 0≤σ.mb (if 0≤σ.mb v then mt fr to σ.mb v else v) then mt fr to σ.mb (if 0≤σ.mb v then mt fr to σ.mb v else v) else (if 0≤σ.mb v then mt fr to σ.mb v else v))=v:=fun v hv=>by
    by_cases h0:0≤σ.mb v
    · obtain ⟨i,e1,e2,e3,e4,e5,e6⟩:=h.mm.en hv (by omega) h0
      rw [if_pos h0]
      exact ⟨h.mm.ltN G.nd hv h0,by rw [if_pos (by omega)]; exact e6⟩
    · rw [if_neg h0]
      exact ⟨hv,by rw [if_neg h0]⟩
  have q1:psum (fun v=>2*R0+if decide (σ.mb v=-1)=true then 2*D else 0) n≤psum (fun v=>σ.y v+σ.y (if 0≤σ.mb v then mt fr to σ.mb v else v)-if 0≤σ.mb v then cov σ v (mt fr to σ.mb v) else 0) n:=psum_le fun v hv=>by
    by_cases h0:0≤σ.mb v
    · obtain ⟨i,e1,e2,e3,_⟩:=h.mm.en hv (by omega) h0
      rw [if_pos h0,if_pos h0,if_neg (by simp; omega),e3]
      have:=(h.du.tm v i hv e1).at' e2
      have:=G.lo i e2.1
      omega
    · have hm:=h.mm.neg hv (by omega) (by omega)
      rw [if_neg h0,if_neg h0,if_pos (decide_eq_true hm)]
      have:=h.du.fe v hv hm
      omega
  have q2:psum (fun v=>σ.y v+σ.y (if 0≤σ.mb v then mt fr to σ.mb v else v)-if 0≤σ.mb v then cov σ v (mt fr to σ.mb v) else 0) n=psum σ.y n+psum σ.y n-csum σ fr to σ.mb n:=by
    rw [psum_sub,psum_add,psum_perm (y:=σ.y) (s:=fun v=>if 0≤σ.mb v then mt fr to σ.mb v else v) hs]
    rfl
  have q3:psum (fun v=>2*R0+if decide (σ.mb v=-1)=true then 2*D else 0) n=2*R0*(n:Int)+2*D*(cnt (fun v=>decide (σ.mb v=-1)) n:Int):=by
    rw [psum_add,psum_const,psum_cntx]
  have:=h.csum_le G hg
  have e1:(W-2*R0)*(n:Int)=W*(n:Int)-2*R0*(n:Int):=Int.sub_mul _ _ _
  omega
end
/-! ### Change -/
def sg (l:Int):Int:=if l=1 then 1 else if l=2 then -1 else 0
noncomputable def KS.chg (σ:KS) (n:Nat) (t:Int):KS:=
  { σ with y:=fun v=>if v<n then σ.y v+t*sg (σ.lab (σ.surf v)) else σ.y v,z:=fun b=>if n≤b∧b<σ.m∧σ.up b=-1 then σ.z b+2*t*sg (σ.lab b) else σ.z b }
structure Fit (n ne:Nat) (fr to:Nat→Nat) (tw:Nat→Int) (σ:KS) (t:Int):Prop where
  t0:0≤t
  oo:∀e,e<ne→σ.surf (fr e)≠σ.surf (to e)→σ.lab (σ.surf (fr e))=1→σ.lab (σ.surf (to e))=1→2*t≤tw e-σ.y (fr e)-σ.y (to e)
  of:∀e,e<ne→σ.surf (fr e)≠σ.surf (to e)→σ.lab (σ.surf (fr e))=1→σ.lab (σ.surf (to e))=0→t≤tw e-σ.y (fr e)-σ.y (to e)
  fo:∀e,e<ne→σ.surf (fr e)≠σ.surf (to e)→σ.lab (σ.surf (fr e))=0→σ.lab (σ.surf (to e))=1→t≤tw e-σ.y (fr e)-σ.y (to e)
  zz:∀b,n≤b→b<σ.m→σ.up b=-1→σ.lab b=2→2*t≤σ.z b
section
variable {n ne:Nat} {fr to:Nat→Nat} {tw:Nat→Int} {R0 D R W t:Int} {σ σ':KS} {d:Nat→Nat} {b c u v w x:Nat}
theorem sg_one:sg 1=1:=rfl
theorem sg_two:sg 2=-1:=rfl
theorem sg_zero:sg 0=0:=rfl
theorem Kps.chg (h:Kps n ne fr to σ):Kps n ne fr to (σ.chg n t):=⟨h.nm,h.upc,h.upo,h.nod,h.odd,h.kid,h.inj,h.lnk,h.srf⟩
theorem Kps.comp (h:Kps n ne fr to σ) (hu:u<n) (hv:v<n) (hne:u≠v) (e:σ.surf u=σ.surf v):n≤σ.surf u:=by
  rcases Nat.lt_or_ge (σ.surf u) n with hlt | hge
  · have h1:=h.node_in hlt (h.srf u hu).2
    have h2:=h.node_in (by rw [←e]; exact hlt) (h.srf v hv).2
    omega
  · exact hge
theorem cov_chg_same (h:Kps n ne fr to σ) (hu:u<n) (hv:v<n) (hne:u≠v) (e:σ.surf u=σ.surf v):cov (σ.chg n t) u v=cov σ u v+2*t*sg (σ.lab (σ.surf u)):=by
  have hs:=h.comp hu hv hne e
  obtain ⟨s1,s2⟩:=h.srf u hu
  have t2:=(h.srf v hv).2
  rw [←e] at t2
  unfold cov
  rw [←psum_single (x:=2*t*sg (σ.lab (σ.surf u))) s1.1,←psum_add]
  refine psum_congr fun b hb=>?_
  by_cases hk:Kin σ.up u b∧Kin σ.up v b
  · rw [zin_pos hk.1 hk.2,zin_pos (σ:=σ.chg n t) hk.1 hk.2]
    show (if n≤b∧b<σ.m∧σ.up b=-1 then σ.z b+2*t*sg (σ.lab b) else σ.z b)=_
    by_cases hbs:b=σ.surf u
    · rw [hbs,if_pos ⟨hs,s1.1,s1.2⟩,if_pos rfl]
    · rw [if_neg hbs,if_neg fun hc=>hbs (hk.1.uniq s2 (by rw [hc.2.2]; omega) (by rw [s1.2]; omega))]
      omega
  · rw [zin_neg hk,zin_neg (σ:=σ.chg n t) hk,if_neg fun hbs=>hk (by rw [hbs]; exact ⟨s2,t2⟩)]; rfl
theorem chg_y (hv:v<n):(σ.chg n t).y v=σ.y v+t*sg (σ.lab (σ.surf v)):=if_pos hv
theorem slack_same (h:Kps n ne fr to σ) (hu:u<n) (hv:v<n) (hne:u≠v) (e:σ.surf u=σ.surf v):(σ.chg n t).y u+(σ.chg n t).y v-cov (σ.chg n t) u v=σ.y u+σ.y v-cov σ u v:=by
  rw [cov_chg_same h hu hv hne e,chg_y hu,chg_y hv,←e]
  have:2*t*sg (σ.lab (σ.surf u))=2*(t*sg (σ.lab (σ.surf u))):=Int.mul_assoc _ _ _
  omega
theorem slack_diff (h:Kps n ne fr to σ) (hu:u<n) (hv:v<n) (hne:σ.surf u≠σ.surf v):(σ.chg n t).y u+(σ.chg n t).y v-cov (σ.chg n t) u v=σ.y u+σ.y v+t*sg (σ.lab (σ.surf u))+t*sg (σ.lab (σ.surf v))∧cov σ u v=0:=by
  have h1:cov (σ.chg n t) u v=0:=cov_apart (h.chg (t:=t)) hu hv hne
  rw [h1,chg_y hu,chg_y hv]
  exact ⟨by omega,cov_apart h hu hv hne⟩
theorem tgt_chg (G:Gp n ne fr to tw R0 W) (h:Kps n ne fr to σ) {e:Nat} (he:En ne fr to e u) (hc:σ.surf u=σ.surf (ot fr to e u)∨sg (σ.lab (σ.surf u))+sg (σ.lab (σ.surf (ot fr to e u)))=0) (ht:Tgt fr to tw σ e):Tgt fr to tw (σ.chg n t) e:=by
  have hu:=he.nd G.nd
  have hv:=he.ot.nd G.nd
  have hat:=ht.at' he
  refine Tgt.of he ?_
  by_cases es:σ.surf u=σ.surf (ot fr to e u)
  · rw [slack_same h hu hv he.ne.symm es]; exact hat
  · obtain ⟨k1,k2⟩:=slack_diff (t:=t) h hu hv es
    rcases hc with hc | hc
    · exact (es hc).elim
    · rw [k1]
      have:t*sg (σ.lab (σ.surf u))+t*sg (σ.lab (σ.surf (ot fr to e u)))=0:=by rw [←Int.mul_add,hc,Int.mul_zero]
      omega
theorem Tr.across (G:Gp n ne fr to tw R0 W) (h:Inv n ne fr to tw R0 D σ) (T:Tr n ne fr to tw R σ d) (hv:v<n) {e:Nat} (he:σ.mb v=e) (hne:σ.surf v≠σ.surf (ot fr to e v)):sg (σ.lab (σ.surf v))+sg (σ.lab (σ.surf (ot fr to e v)))=0:=by
  have hb:=h.ends G hv he (Ne.symm hne)
  have s1:=(h.kp.srf v hv).1
  rcases T.lb _ s1 with l | l | l
  · obtain ⟨e',g1,g2⟩:=T.free G h s1 l
    rw [←hb] at g1 g2
    have:e'=e:=by omega
    subst this
    rw [l,g2]; rfl
  · rcases T.ou _ s1 l with ⟨_,g2⟩ | ⟨e',g1,g2,g3,g4,g5,g6⟩
    · rw [←hb] at g2; omega
    · rw [←hb] at g2 g4
      have:e'=e:=by omega
      subst this
      rw [g4] at g5
      rw [l,g5]; rfl
  · obtain ⟨e',g1,g2,g3⟩:=T.im _ s1 l
    rw [←hb] at g1 g2
    have:e'=e:=by omega
    subst this
    rw [l,g2]; rfl
theorem Inv.chg (G:Gp n ne fr to tw R0 W) (h:Inv n ne fr to tw R0 D σ) (T:Tr n ne fr to tw (R0+D) σ d) (F:Fit n ne fr to tw σ t):Inv n ne fr to tw R0 (D+t) (σ.chg n t)∧Tr n ne fr to tw (R0+(D+t)) (σ.chg n t) d:=by
  have ht0:=F.t0
  have hlab:∀v,v<n→σ.lab (σ.surf v)=0∨σ.lab (σ.surf v)=1∨σ.lab (σ.surf v)=2:=fun v hv=>T.lb _ (h.kp.srf v hv).1
  have hsg:∀v,v<n→t*sg (σ.lab (σ.surf v))=0∧σ.lab (σ.surf v)=0∨t*sg (σ.lab (σ.surf v))=t∧σ.lab (σ.surf v)=1∨t*sg (σ.lab (σ.surf v))=-t∧σ.lab (σ.surf v)=2:=fun v hv=>by
    rcases hlab v hv with l | l | l<;>rw [l]
    · exact .inl ⟨by rw [sg_zero]; omega,rfl⟩
    · exact .inr (.inl ⟨by rw [sg_one]; omega,rfl⟩)
    · exact .inr (.inr ⟨by rw [sg_two]; omega,rfl⟩)
  have zc:∀b,(σ.chg n t).z b=σ.z b∨(n≤b∧b<σ.m∧σ.up b=-1∧(σ.lab b=1∧(σ.chg n t).z b=σ.z b+2*t∨σ.lab b=2∧(σ.chg n t).z b=σ.z b-2*t)):=fun b=>by
    show (if n≤b∧b<σ.m∧σ.up b=-1 then σ.z b+2*t*sg (σ.lab b) else σ.z b)=σ.z b∨(n≤b∧b<σ.m∧σ.up b=-1∧(σ.lab b=1∧(if n≤b∧b<σ.m∧σ.up b=-1 then σ.z b+2*t*sg (σ.lab b) else σ.z b)=σ.z b+2*t∨σ.lab b=2∧(if n≤b∧b<σ.m∧σ.up b=-1 then σ.z b+2*t*sg (σ.lab b) else σ.z b)=σ.z b-2*t))
    by_cases hc:n≤b∧b<σ.m∧σ.up b=-1
    · rw [if_pos hc]
      rcases T.lb b ⟨hc.2.1,hc.2.2⟩ with l | l | l
      · left; rw [l,sg_zero]; omega
      · right; refine ⟨hc.1,hc.2.1,hc.2.2,.inl ⟨l,?_⟩⟩; rw [l,sg_one]; omega
      · right; refine ⟨hc.1,hc.2.1,hc.2.2,.inr ⟨l,?_⟩⟩; rw [l,sg_two]; omega
    · rw [if_neg hc]; exact .inl rfl
  refine ⟨⟨h.kp.chg,⟨h.ba.nd,fun c hc=>(h.ba.kn c hc).imp fun a k=>⟨k.lt,k.eq,k.pr⟩⟩,h.mm,?_⟩,?_⟩
  · refine ⟨by have:=h.du.d0; omega,fun b hb=>?_,fun b hb=>?_,fun b hb hu=>?_,fun v hv=>?_,fun e he=>?_,fun b i hb hi=>?_,fun v e hv hm=>?_,fun u v hu hv hs=>?_,fun v hv hm=>?_⟩
    · obtain ⟨z1,z2,z3⟩:=h.du.z0 b hb
      rcases zc b with e | ⟨c1,c2,c3,⟨l,e⟩ | ⟨l,e⟩⟩
      · rw [e]; omega
      · rw [e]; omega
      · rw [e]
        have:=F.zz b c1 c2 c3 l
        omega
    · rcases zc b with e | ⟨c1,_⟩
      · rw [e]; exact h.du.zn b hb
      · omega
    · have hu:σ.up b=-2:=hu
      rcases zc b with e | ⟨c1,c2,c3,_⟩
      · rw [e]; exact h.du.zg b hb hu
      · omega
    · have:=h.du.yb v hv
      rw [chg_y hv]
      rcases hsg v hv with ⟨e,_⟩ | ⟨e,_⟩ | ⟨e,_⟩<;>omega
    · obtain ⟨hf,hto⟩:=G.nd e he
      have hfs:=h.du.fs e he
      by_cases es:σ.surf (fr e)=σ.surf (to e)
      · rw [slack_same h.kp hf hto (G.nl e he) es]; exact hfs
      · obtain ⟨k1,k2⟩:=slack_diff (t:=t) h.kp hf hto es
        rw [k1]
        rw [k2] at hfs
        rcases hsg _ hf with ⟨e1,l1⟩ | ⟨e1,l1⟩ | ⟨e1,l1⟩<;>rcases hsg _ hto with ⟨e2,l2⟩ | ⟨e2,l2⟩ | ⟨e2,l2⟩<;>rw [e1,e2]
        · omega
        · have:=F.fo e he es l1 l2; omega
        · omega
        · have:=F.of e he es l1 l2; omega
        · have:=F.oo e he es l1 l2; omega
        all_goals omega
    · obtain ⟨l1,l2,l3,l4⟩:=h.kp.lnk b i hb hi
      have hb':σ.Lv n b:=hb
      have m1:=h.kp.kin hb' hi l3
      have m2:=h.kp.kin hb' (Nat.mod_lt _ (by have:=(h.kp.odd b hb').2; omega)) l4
      refine tgt_chg (e:=σ.le b i) (u:=σ.li b i) G h.kp l1 (.inl ?_) (h.du.tl b i hb hi)
      have a1:=h.kp.below (l1.nd G.nd) m1
      have a2:=h.kp.below (l1.ot.nd G.nd) (by rw [←l2]; exact m2)
      have s1:=(h.kp.srf _ (l1.nd G.nd)).1
      have s2:=(h.kp.srf _ (l1.ot.nd G.nd)).1
      exact a1.uniq a2 (by rw [s1.2]; omega) (by rw [s2.2]; omega)
    · have hm:σ.mb v=((e:Nat):Int):=hm
      obtain ⟨i,e1,e2,_⟩:=h.mm.en hv (by omega) (by omega)
      have:i=e:=by omega
      subst this
      refine tgt_chg G h.kp e2 ?_ (h.du.tm v i hv hm)
      by_cases es:σ.surf v=σ.surf (ot fr to i v)
      · exact .inl es
      · exact .inr (T.across G h hv hm es)
    · have hs:σ.surf u=σ.surf v:=hs
      have:=h.du.pa u v hu hv hs
      rw [chg_y hu,chg_y hv,hs]
      omega
    · have:=h.du.fe v hv hm
      rw [chg_y hv,(T.fe v hv hm).1,sg_one]
      omega
  · refine ⟨T.lb,T.fe,T.ou,fun y hy hl=>?_,T.im,fun v hv hl=>?_⟩
    · obtain ⟨e1,g1,g2,g3,g4,g5,g6,g7⟩:=T.inn y hy hl
      refine ⟨e1,g1,g2,tgt_chg G h.kp g2 (.inr ?_) g3,g4,g5,g6,g7⟩
      rw [h.kp.srf_eq (g2.nd G.nd) hy.2 g4,←g5,g6]
      rw [show σ.lab y=2 from hl]; rfl
    · have hl:σ.lab (σ.surf v)≠0:=hl
      have:=T.pr v hv hl
      rw [chg_y hv]
      rcases hsg v hv with ⟨e,l⟩ | ⟨e,_⟩ | ⟨e,_⟩
      · exact (hl l).elim
      · rw [e]; omega
      · rw [e]; omega
end
end Go.Mz
/-
  Turning ways back about, in plain words. No program in sight.
-/
namespace Go.Mz
inductive Wy (σ:KS):Nat→Nat→Prop
  | here (b:Nat):Wy σ b b
  | step {b c:Nat} (h:0≤σ.ve b) (k:Wy σ (σ.surf (σ.vo b)) c):Wy σ b c
structure Tch (n ne:Nat) (fr to:Nat→Nat) (σ:KS) (f:Nat→Nat) (g:Nat→Int) (b v e:Nat) (f2:Nat→Nat) (g2:Nat→Int):Prop where
  ba:Bas n (σ.wb f2 g2)
  of:∀c,¬Kin σ.up c b→f2 c=f c
  og:∀w,¬Kin σ.up w b→g2 w=g w
  in':∀w,w<n→Kin σ.up w b→w≠v→∃i:Nat,g2 w=i∧En ne fr to i w∧Kin σ.up (ot fr to i w) b∧ot fr to i w≠v∧g2 (ot fr to i w)=i
  bv:f2 b=v
  vv:g2 v=e
  tg:∀w,w≠v→g2 w=g w∨∃c i,σ.Lv n c∧i<σ.kn c∧g2 w=(σ.le c i:Int)
section
variable {n ne:Nat} {fr to:Nat→Nat} {tw:Nat→Int} {R0 D R W:Int} {σ σ':KS} {d:Nat→Nat} {b c u v w x e:Nat} {f f1 f2 fs:Nat→Nat} {g g1 g2 gs:Nat→Int}
theorem Wy.trans (h:Wy σ b c) (k:Wy σ c x):Wy σ b x:=by
  induction h with
  | here=>exact k
  | step h _ ih=>exact .step h (ih k)
theorem Wy.end' (h:Wy σ b c) (hb:σ.ve b<0):c=b:=by
  cases h with
  | here=>rfl
  | step h _=>omega
theorem Wy.det (h:Wy σ b c) (k:Wy σ b x) (hc:σ.ve c<0) (hx:σ.ve x<0):c=x:=by
  induction h with
  | here=>exact (k.end' hc).symm
  | step h _ ih=>
    cases k with
    | here=>omega
    | step _ k=>exact ih k hc
theorem Rb.tch (h:Kps n ne fr to σ) (B:Bas n (σ.wb f g)) (hb:σ.Sf b) (hv:v<n) (hk:Kin σ.up v b) (r:Rb n (σ.wb f g) f1 g1 b v):Tch n ne fr to σ f g b v e f1 (upf g1 v (e:Int)):=by
  have hu:σ.up b≠-2:=by rw [hb.2]; omega
  have hin:BasI n (σ.wb f1 g1) b:=r.bs
  have hset:BasI n (σ.wb f1 (upf g1 v (e:Int))) b:=BasI.setmb (σ:=σ.wb f1 g1) (h.wb (f:=f1) (g:=g1)) hb.1 hu hin fun w hne _=>by
    have hne:w≠f1 b:=hne
    rw [r.bb] at hne
    exact upf_ne hne
  have nin:∀w,¬Kin σ.up w b→w≠v:=fun w hw e=>hw (e▸hk)
  refine ⟨⟨r.bs.nd,fun c hc=>?_⟩,r.bo,fun w hw=>?_,fun w hw hwb hne=>?_,r.bb,upf_same,fun w hne=>?_⟩
  · by_cases hcb:Kin σ.up c b
    · exact hset.kn c hc hcb
    · have hdis:∀y,Kin σ.up y c→¬Kin σ.up y b:=fun y h1 h2=>by
        rcases h1.comp h2 with k | k
        · exact hcb k
        · exact hcb (by rw [←k.top (by rw [hb.2]; omega)]; exact .here b)
      exact (BasI.frame (σ:=σ.wb f g) (h.wb (f:=f) (g:=g)) (B.at' c) (fun y hy=>r.bo y (hdis y hy)) r.bs.nd fun w hw=>by
        rw [upf_ne (nin w (hdis w hw))]
        exact r.mo w (.inl (hdis w hw))).kn c hc (.here c)
  · rw [upf_ne (nin w hw)]
    exact r.mo w (.inl hw)
  · obtain ⟨i,m1,m2,m3,m4,m5⟩:=BasI.mate' (σ:=σ.wb f1 g1) (h.wb (f:=f1) (g:=g1)) b hb.1 hu hin w hw hwb (by show w≠f1 b; rw [r.bb]; exact hne)
    have m5:ot fr to i w≠f1 b:=m5
    rw [r.bb] at m5
    exact ⟨i,by rw [upf_ne hne]; exact m1,m2,m3,m5,by rw [upf_ne m5]; exact m4⟩
  · rw [upf_ne hne]
    exact r.tg w
structure Tun (n ne:Nat) (fr to:Nat→Nat) (tw:Nat→Int) (σ:KS) (d:Nat→Nat) (X:Nat→Prop) (fs:Nat→Nat) (gs:Nat→Int) (v0 e0 r:Nat) (f:Nat→Nat) (g:Nat→Int) (v e:Nat):Prop where
  n0:v0<n
  vn:v<n
  en:En ne fr to e v
  lb:σ.lab (σ.surf v)=1
  te:Tgt fr to tw σ e
  ba:Bas n (σ.wb f g)
  wy:Wy σ (σ.surf v0) (σ.surf v)
  ug:∀w,w<n→Wy σ (σ.surf v) (σ.surf w)→g w=σ.mb w
  uf:∀c,Wy σ (σ.surf v) c→f c=σ.base c
  ok:∀w,w<n→¬X w→(w≠ot fr to e v∨X v)→g w=-1∨∃i:Nat,g w=i∧En ne fr to i w∧g (ot fr to i w)=i
  xe:X v∨(g (ot fr to e v)=e∧¬Wy σ (σ.surf v) (σ.surf (ot fr to e v)))
  sg:∀w,w<n→¬Wy σ (σ.surf v0) (σ.surf w)→g w=gs w
  sf:∀c,σ.Sf c→¬Wy σ (σ.surf v0) c→f c=fs c
  f1:∀w,w<n→g w=-1→gs w=-1
  f2:∀w,w<n→gs w=-1→w≠r→g w=-1
  rt:∃ρ,Wy σ (σ.surf v) ρ∧σ.Sf ρ∧σ.ve ρ<0∧r=σ.base ρ
  tg:∀w i,w<n→g w=((i:Nat):Int)→Tgt fr to tw σ i
  vv:v=v0∧e=e0∨g v0=e0∧d (σ.surf v)<d (σ.surf v0)
structure Tuz (n ne:Nat) (fr to:Nat→Nat) (tw:Nat→Int) (σ:KS) (X:Nat→Prop) (fs:Nat→Nat) (gs:Nat→Int) (v0 e0 r:Nat) (f:Nat→Nat) (g:Nat→Int):Prop where
  ba:Bas n (σ.wb f g)
  ok:∀w,w<n→¬X w→g w=-1∨∃i:Nat,g w=i∧En ne fr to i w∧g (ot fr to i w)=i
  sg:∀w,w<n→¬Wy σ (σ.surf v0) (σ.surf w)→g w=gs w
  sf:∀c,σ.Sf c→¬Wy σ (σ.surf v0) c→f c=fs c
  f1:∀w,w<n→g w=-1→gs w=-1
  f2:∀w,w<n→gs w=-1→w≠r→g w=-1
  f3:g r≠-1
  tg:∀w i,w<n→g w=((i:Nat):Int)→Tgt fr to tw σ i
  vv:g v0=e0
theorem Wy.rank (h:Inv n ne fr to tw R0 D σ) (G:Gp n ne fr to tw R0 W) (T:Tr n ne fr to tw R σ d) (k:Wy σ b c) (hb:σ.Sf b) (hl:σ.lab b≠0):σ.Sf c∧σ.lab c≠0∧d c≤d b:=by
  induction k with
  | here=>exact ⟨hb,hl,Nat.le_refl _⟩
  | @step b c h0 k ih=>
    have key:σ.Sf (σ.surf (σ.vo b))∧σ.lab (σ.surf (σ.vo b))≠0∧d (σ.surf (σ.vo b))<d b:=by
      rcases T.lb b hb with l | l | l
      · exact (hl l).elim
      · rcases T.ou b hb l with ⟨g1,_⟩ | ⟨e,g1,g2,g3,g4,g5,g6⟩
        · omega
        · obtain ⟨c1,c2,_⟩:=h.crs G hb g2
          rw [←g4] at c2
          exact ⟨(h.kp.srf _ c2).1,by rw [g5]; omega,g6⟩
      · obtain ⟨e,g1,g2,g3,g4,g5,g6,g7⟩:=T.inn b hb l
        have:σ.vo b<n:=by rw [g5]; exact g2.ot.nd G.nd
        exact ⟨(h.kp.srf _ this).1,by rw [g6]; omega,g7⟩
    obtain ⟨k1,k2,k3⟩:=key
    obtain ⟨q1,q2,q3⟩:=ih k1 k2
    exact ⟨q1,q2,by omega⟩
theorem Tun.kin (h:Kps n ne fr to σ) (hw:w<n) (hb:σ.Sf b):Kin σ.up w b↔σ.surf w=b:=
  ⟨fun k=>h.srf_eq hw hb.2 k,fun e=>e▸(h.srf w hw).2⟩
theorem Tun.fin (G:Gp n ne fr to tw R0 W) (h:Inv n ne fr to tw R0 D σ) (T:Tr n ne fr to tw R σ d) {X:Nat→Prop} {v0 e0 r:Nat} (I:Tun n ne fr to tw σ d X fs gs v0 e0 r f g v e) (hve:σ.ve (σ.surf v)<0)
    (t:Tch n ne fr to σ f g (σ.surf v) v e f2 g2):Tuz n ne fr to tw σ X fs gs v0 e0 r f2 g2:=by
  obtain ⟨sb,hvb⟩:=h.kp.srf v I.vn
  obtain ⟨b,eb⟩:∃b,b=σ.surf v:=⟨_,rfl⟩
  rw [←eb] at sb hvb hve t
  have ink:∀{w},w<n→(Kin σ.up w b↔σ.surf w=b):=fun hw=>Tun.kin h.kp hw sb
  have hroot:σ.mb (σ.base b)=-1:=by
    rcases T.ou b sb (by rw [eb]; exact I.lb) with ⟨_,g2⟩ | ⟨e1,g1,_⟩
    · exact g2
    · omega
  obtain ⟨b1,b2,b3⟩:=h.bsf sb
  have hfb:f b=σ.base b:=I.uf b (by rw [eb]; exact .here _)
  have hgb:g (σ.base b)=-1:=by rw [I.ug _ b2 (by rw [b3,eb]; exact .here _)]; exact hroot
  have hr:r=σ.base b:=by
    obtain ⟨ρ,k1,k2,k3,k4⟩:=I.rt
    rw [←eb] at k1
    rw [k1.end' hve] at k4
    exact k4
  have hout:∀w,w<n→¬Kin σ.up w b→∀i:Nat,g w=i→En ne fr to i w→g (ot fr to i w)=i→¬Kin σ.up (ot fr to i w) b:=fun w hw hnb i h1 h2 h3 hk=>by
    have:=BasI.cross (σ:=σ.wb f g) G.nd (h.kp.wb (f:=f) (g:=g)) (I.ba.at' b) sb.1 (by show σ.up b≠-2; rw [sb.2]; omega) (h2.ot.nd G.nd) hk h3 (by rw [h2.oo]; exact hnb)
    have this:ot fr to i w=f b:=this
    rw [this,hfb,hgb] at h3
    omega
  refine ⟨t.ba,fun w hw hX=>?_,fun w hw hn=>?_,fun c hc hn=>?_,fun w hw hm=>?_,fun w hw hm hne=>?_,?_,fun w i hw hm=>?_,?_⟩
  · by_cases hwb:Kin σ.up w b
    · by_cases hwv:w=v
      · subst hwv
        rcases I.xe with hx | ⟨hx,hxw⟩
        · exact (hX hx).elim
        · refine .inr ⟨e,t.vv,I.en,?_⟩
          rw [t.og _ fun hk=>hxw ?_]
          · exact hx
          · rw [(ink (I.en.ot.nd G.nd)).1 hk,eb]; exact .here _
      · obtain ⟨i,m1,m2,m3,m4,m5⟩:=t.in' w hw hwb hwv
        exact .inr ⟨i,m1,m2,m5⟩
    · have hok:g w=-1∨∃i:Nat,g w=i∧En ne fr to i w∧g (ot fr to i w)=i∨w=ot fr to e v∧¬X v:=by
        by_cases hX':X v
        · exact (I.ok w hw hX (.inr hX')).imp id fun ⟨i,k⟩=>⟨i,.inl k⟩
        · by_cases hwx:w=ot fr to e v
          · exact .inr ⟨0,.inr ⟨hwx,hX'⟩⟩
          · exact (I.ok w hw hX (.inl hwx)).imp id fun ⟨i,k⟩=>⟨i,.inl k⟩
      rw [t.og w hwb]
      rcases hok with h1 | ⟨i,⟨h1,h2,h3⟩ | ⟨h1,h2⟩⟩
      · exact .inl h1
      · exact .inr ⟨i,h1,h2,by rw [t.og _ (hout w hw hwb i h1 h2 h3)]; exact h3⟩
      · rcases I.xe with hx | ⟨hx,hxw⟩
        · exact (h2 hx).elim
        · refine .inr ⟨e,by rw [h1]; exact hx,by rw [h1]; exact I.en.ot,?_⟩
          rw [h1,I.en.oo]; exact t.vv
  · rw [t.og w fun hk=>hn ?_]
    · exact I.sg w hw hn
    · rw [(ink hw).1 hk,eb]; exact I.wy
  · rw [t.of c fun hk=>hn ?_]
    · exact I.sf c hc hn
    · rw [hk.top (by rw [hc.2]; omega),eb]; exact I.wy
  · by_cases hwv:w=v
    · rw [hwv,t.vv] at hm; omega
    · rcases t.tg w hwv with h1 | ⟨c,i,_,_,h1⟩
      · exact I.f1 w hw (by rw [←h1]; exact hm)
      · omega
  · have hgw:=I.f2 w hw hm hne
    rw [t.og w fun hk=>hne ?_]
    · exact hgw
    · rw [hr]
      refine Classical.byContradiction fun hno=>?_
      obtain ⟨i,m1,_⟩:=BasI.mate' (σ:=σ.wb f g) (h.kp.wb (f:=f) (g:=g)) b sb.1 (by show σ.up b≠-2; rw [sb.2]; omega) (I.ba.at' b) w hw hk (by show w≠f b; rw [hfb]; exact hno)
      have m1:g w=i:=m1
      omega
  · rw [hr]
    by_cases hwv:σ.base b=v
    · rw [hwv,t.vv]; omega
    · obtain ⟨i,m1,_⟩:=t.in' _ b2 b1 hwv
      rw [m1]; omega
  · by_cases hwv:w=v
    · rw [hwv,t.vv] at hm
      have:i=e:=by omega
      rw [this]; exact I.te
    · rcases t.tg w hwv with h1 | ⟨c,j,h1,h2,h3⟩
      · exact I.tg w i hw (by rw [←h1]; exact hm)
      · have:i=σ.le c j:=by omega
        rw [this]; exact h.du.tl c j h1 h2
  · rcases I.vv with ⟨h1,h2⟩ | ⟨h1,h2⟩
    · rw [←h1,←h2]; exact t.vv
    · rw [t.og v0 fun hk=>?_]
      · exact h1
      · rw [(ink I.n0).1 hk,eb] at h2; omega
theorem Tun.on (G:Gp n ne fr to tw R0 W) (h:Inv n ne fr to tw R0 D σ) (T:Tr n ne fr to tw R σ d) (sb:σ.Sf b) (hl:σ.lab b=1) (hve:0≤σ.ve b) :
    ∃e1 e2:Nat,σ.ve b=e1∧σ.mb (σ.base b)=e1∧En ne fr to e1 (σ.base b)∧σ.vo b=ot fr to e1 (σ.base b)∧σ.vo b<n∧σ.Sf (σ.surf (σ.vo b))∧σ.lab (σ.surf (σ.vo b))=2∧d (σ.surf (σ.vo b))<d b∧
      σ.base (σ.surf (σ.vo b))=σ.vo b∧σ.mb (σ.vo b)=e1∧σ.ve (σ.surf (σ.vo b))=e2∧En ne fr to e2 (σ.vi (σ.surf (σ.vo b)))∧Tgt fr to tw σ e2∧Kin σ.up (σ.vi (σ.surf (σ.vo b))) (σ.surf (σ.vo b))∧
      σ.vo (σ.surf (σ.vo b))=ot fr to e2 (σ.vi (σ.surf (σ.vo b)))∧σ.lab (σ.surf (σ.vo (σ.surf (σ.vo b))))=1∧d (σ.surf (σ.vo (σ.surf (σ.vo b))))<d (σ.surf (σ.vo b)):=by
  rcases T.ou b sb hl with ⟨g1,_⟩ | ⟨e1,g1,g2,g3,g4,g5,g6⟩
  · omega
  · obtain ⟨c1,c2,c3,c4,c5⟩:=h.crs G sb g2
    rw [←g4] at c2 c3 c4 c5
    have st:=(h.kp.srf _ c2).1
    obtain ⟨e2,k1,k2,k3,k4,k5,k6,k7⟩:=T.inn _ st g5
    exact ⟨e1,e2,g1,g2,c1,g4,c2,st,g5,g6,c4,c5,k1,k2,k3,k4,k5,k6,k7⟩
theorem Tun.step (G:Gp n ne fr to tw R0 W) (h:Inv n ne fr to tw R0 D σ) (T:Tr n ne fr to tw R σ d) {X:Nat→Prop} {v0 e0 r:Nat} (hXs:∀w,X w→w=v0) (I:Tun n ne fr to tw σ d X fs gs v0 e0 r f g v e) (hve:0≤σ.ve (σ.surf v)) {e2:Nat} (he2:σ.ve (σ.surf (σ.vo (σ.surf v)))=e2)
    (t:Tch n ne fr to σ f g (σ.surf v) v e f1 g1) (t':Tch n ne fr to σ f1 g1 (σ.surf (σ.vo (σ.surf v))) (σ.vi (σ.surf (σ.vo (σ.surf v)))) e2 f2 g2) :
    Tun n ne fr to tw σ d X fs gs v0 e0 r f2 g2 (σ.vo (σ.surf (σ.vo (σ.surf v)))) e2:=by
  obtain ⟨sb,hvb⟩:=h.kp.srf v I.vn
  obtain ⟨e1,e2',a1,a2,a3,a4,a5,st,a6,a7,a8,a9,k1,k2,k3,k4,k5,k6,k7⟩:=Tun.on G h T sb I.lb hve
  have:e2'=e2:=by omega
  subst this
  obtain ⟨b,eb⟩:∃b,b=σ.surf v:=⟨_,rfl⟩
  rw [←eb] at sb hvb hve t t' a1 a2 a3 a4 a5 st a6 a7 a8 a9 k1 k2 k4 k5 k6 k7 ⊢
  obtain ⟨q,eq⟩:∃q,q=σ.surf (σ.vo b):=⟨_,rfl⟩
  rw [←eq] at t' st a6 a7 a8 k1 k2 k4 k5 k6 k7 ⊢
  obtain ⟨b1,b2,b3⟩:=h.bsf sb
  have ink:∀{w},w<n→(Kin σ.up w b↔σ.surf w=b):=fun hw=>Tun.kin h.kp hw sb
  have inq:∀{w},w<n→(Kin σ.up w q↔σ.surf w=q):=fun hw=>Tun.kin h.kp hw st
  have hqb:q≠b:=fun e=>by rw [e] at a7; omega
  have nbq:∀w,Kin σ.up w b→¬Kin σ.up w q:=fun w h1 h2=>hqb (h2.uniq h1 (by rw [st.2]; omega) (by rw [sb.2]; omega))
  have hvi:σ.vi q<n:=k2.nd G.nd
  have hvo:σ.vo q<n:=by rw [k5]; exact k2.ot.nd G.nd
  have hvq:σ.surf (σ.vi q)=q:=(inq hvi).1 k4
  obtain ⟨b',eb'⟩:∃b',b'=σ.surf (σ.vo q):=⟨_,rfl⟩
  have sb':=(h.kp.srf _ hvo).1
  rw [←eb'] at k6 k7 sb'
  have lbl:σ.lab b'≠0:=by omega
  have hd0:d b≤d (σ.surf v0):=by
    rcases I.vv with ⟨h1,_⟩ | ⟨_,h2⟩
    · rw [←h1,eb]; exact Nat.le_refl _
    · rw [eb]; omega
  have w1:Wy σ b q:=by rw [eq]; exact .step hve (.here _)
  have w2:Wy σ q b':=by rw [eb']; exact .step (by omega) (.here _)
  have far:∀c,Wy σ b' c→¬(c=b∨c=q):=fun c hc=>by
    have:=(hc.rank h G T sb' lbl).2.2
    rintro (e | e)<;>rw [e] at this<;>omega
  have hfb:f b=σ.base b:=I.uf b (by rw [←eb]; exact .here _)
  have hfq:f q=σ.base q:=I.uf q (by rw [←eb]; exact w1)
  have hgb:g (σ.base b)=e1:=by rw [I.ug _ b2 (by rw [b3,←eb]; exact .here _)]; exact a2
  have hgq:g (σ.vo b)=e1:=by rw [I.ug _ a5 (by rw [←eb,←eq]; exact w1)]; exact a9
  have lone:∀w,w<n→¬Kin σ.up w b→¬Kin σ.up w q→g2 w=g w:=fun w hw h1 h2=>by rw [t'.og w h2,t.og w h1]
  have hout:∀w,w<n→¬Kin σ.up w b→¬Kin σ.up w q→∀i:Nat,g w=i→En ne fr to i w→g (ot fr to i w)=i→¬Kin σ.up (ot fr to i w) b∧¬Kin σ.up (ot fr to i w) q:=fun w hw hnb hnq i h1 h2 h3=>by
    refine ⟨fun hk=>?_,fun hk=>?_⟩
    · have:=BasI.cross (σ:=σ.wb f g) G.nd (h.kp.wb (f:=f) (g:=g)) (I.ba.at' b) sb.1 (by show σ.up b≠-2; rw [sb.2]; omega) (h2.ot.nd G.nd) hk h3 (by rw [h2.oo]; exact hnb)
      have this:ot fr to i w=f b:=this
      rw [this,hfb,hgb] at h3
      have:i=e1:=by omega
      subst this
      refine hnq ?_
      have:w=σ.vo b:=by rw [a4,←hfb,←this,h2.oo]
      rw [this,inq a5]; exact eq.symm
    · have:=BasI.cross (σ:=σ.wb f g) G.nd (h.kp.wb (f:=f) (g:=g)) (I.ba.at' q) st.1 (by show σ.up q≠-2; rw [st.2]; omega) (h2.ot.nd G.nd) hk h3 (by rw [h2.oo]; exact hnq)
      have this:ot fr to i w=f q:=this
      rw [this,hfq,a8,hgq] at h3
      have:i=e1:=by omega
      subst this
      refine hnb ?_
      have:w=σ.base b:=by
        have h5:ot fr to i (ot fr to i w)=ot fr to i (σ.vo b):=by rw [this,hfq,a8]
        rw [h2.oo,a4,a3.oo] at h5
        exact h5
      rw [this]; exact b1
  have hvvq:¬Kin σ.up v q:=nbq v hvb
  refine ⟨I.n0,hvo,by rw [k5]; exact k2.ot,by rw [←eb']; exact k6,k3,t'.ba,?_,fun w hw hwy=>?_,fun c hc=>?_,fun w hw hX hx=>?_,?_,fun w hw hn=>?_,fun c hc hn=>?_,fun w hw hm=>?_,fun w hw hm hne=>?_,?_,fun w i hw hm=>?_,?_⟩
  · rw [←eb']
    exact (I.wy.trans (by rw [←eb]; exact w1)).trans w2
  · rw [←eb'] at hwy
    have hf:=far _ hwy
    rw [lone w hw (fun hk=>hf (.inl ((ink hw).1 hk))) fun hk=>hf (.inr ((inq hw).1 hk))]
    exact I.ug w hw (by rw [←eb]; exact (w1.trans w2).trans hwy)
  · rw [←eb'] at hc
    have hf:=far _ hc
    have hs:=(hc.rank h G T sb' lbl).1
    rw [t'.of c fun hk=>hf (.inr (hk.top (by rw [hs.2]; omega))),t.of c fun hk=>hf (.inl (hk.top (by rw [hs.2]; omega)))]
    exact I.uf c (by rw [←eb]; exact (w1.trans w2).trans hc)
  · by_cases hwb:Kin σ.up w b
    · have hwq:=nbq w hwb
      rw [t'.og w hwq]
      by_cases hwv:w=v
      · subst hwv
        rcases I.xe with hx | ⟨hx,hxw⟩
        · exact (hX hx).elim
        · have hxn:=I.en.ot.nd G.nd
          have h1:¬Kin σ.up (ot fr to e w) b:=fun hk=>hxw (by rw [(ink hxn).1 hk,←eb]; exact .here _)
          have h2:¬Kin σ.up (ot fr to e w) q:=fun hk=>hxw (by rw [(inq hxn).1 hk,←eb]; exact w1)
          exact .inr ⟨e,t.vv,I.en,by rw [lone _ hxn h1 h2]; exact hx⟩
      · obtain ⟨i,m1,m2,m3,m4,m5⟩:=t.in' w hw hwb hwv
        exact .inr ⟨i,m1,m2,by rw [t'.og _ (nbq _ m3)]; exact m5⟩
    · by_cases hwq:Kin σ.up w q
      · by_cases hwv:w=σ.vi q
        · exfalso
          rcases hx with hx | hx
          · refine hx ?_
            rw [k5,k2.oo]; exact hwv
          · have h1:=hXs _ hx
            rw [h1] at eb'
            rw [eb'] at k7
            omega
        · obtain ⟨i,m1,m2,m3,m4,m5⟩:=t'.in' w hw hwq hwv
          exact .inr ⟨i,m1,m2,m5⟩
      · have hok:g w=-1∨∃i:Nat,g w=i∧En ne fr to i w∧g (ot fr to i w)=i∨w=ot fr to e v∧¬X v:=by
          by_cases hX':X v
          · exact (I.ok w hw hX (.inr hX')).imp id fun ⟨i,k⟩=>⟨i,.inl k⟩
          · by_cases hwx:w=ot fr to e v
            · exact .inr ⟨0,.inr ⟨hwx,hX'⟩⟩
            · exact (I.ok w hw hX (.inl hwx)).imp id fun ⟨i,k⟩=>⟨i,.inl k⟩
        rw [lone w hw hwb hwq]
        rcases hok with h1 | ⟨i,⟨h1,h2,h3⟩ | ⟨h1,h2⟩⟩
        · exact .inl h1
        · obtain ⟨n1,n2⟩:=hout w hw hwb hwq i h1 h2 h3
          exact .inr ⟨i,h1,h2,by rw [lone _ (h2.ot.nd G.nd) n1 n2]; exact h3⟩
        · rcases I.xe with hx | ⟨hx,hxw⟩
          · exact (h2 hx).elim
          · refine .inr ⟨e,by rw [h1]; exact hx,by rw [h1]; exact I.en.ot,?_⟩
            rw [h1,I.en.oo,t'.og v hvvq]; exact t.vv
  · right
    refine ⟨?_,?_⟩
    · rw [k5,k2.oo]; exact t'.vv
    · rw [←eb',k5,k2.oo,hvq]
      exact fun hw=>far _ hw (.inr rfl)
  · have n1:¬Kin σ.up w b:=fun hk=>hn (by rw [(ink hw).1 hk,eb]; exact I.wy)
    have n2:¬Kin σ.up w q:=fun hk=>hn (by rw [(inq hw).1 hk]; exact I.wy.trans (by rw [←eb]; exact w1))
    rw [lone w hw n1 n2]; exact I.sg w hw hn
  · rw [t'.of c fun hk=>hn ?_,t.of c fun hk=>hn ?_]
    · exact I.sf c hc hn
    · rw [hk.top (by rw [hc.2]; omega),eb]; exact I.wy
    · rw [hk.top (by rw [hc.2]; omega)]; exact I.wy.trans (by rw [←eb]; exact w1)
  · refine I.f1 w hw ?_
    have h1:g1 w=-1:=by
      by_cases hwv:w=σ.vi q
      · rw [hwv,t'.vv] at hm; omega
      · rcases t'.tg w hwv with h1 | ⟨c,i,_,_,h1⟩
        · omega
        · omega
    by_cases hwv:w=v
    · rw [hwv,t.vv] at h1; omega
    · rcases t.tg w hwv with h2 | ⟨c,i,_,_,h2⟩
      · omega
      · omega
  · have hgw:=I.f2 w hw hm hne
    have n1:¬Kin σ.up w b:=fun hk=>by
      by_cases hno:w=σ.base b
      · rw [hno,hgb] at hgw; omega
      · obtain ⟨i,m1,_⟩:=BasI.mate' (σ:=σ.wb f g) (h.kp.wb (f:=f) (g:=g)) b sb.1 (by show σ.up b≠-2; rw [sb.2]; omega) (I.ba.at' b) w hw hk (by show w≠f b; rw [hfb]; exact hno)
        have m1:g w=i:=m1
        omega
    have n2:¬Kin σ.up w q:=fun hk=>by
      by_cases hno:w=σ.vo b
      · rw [hno,hgq] at hgw; omega
      · obtain ⟨i,m1,_⟩:=BasI.mate' (σ:=σ.wb f g) (h.kp.wb (f:=f) (g:=g)) q st.1 (by show σ.up q≠-2; rw [st.2]; omega) (I.ba.at' q) w hw hk (by show w≠f q; rw [hfq,a8]; exact hno)
        have m1:g w=i:=m1
        omega
    rw [lone w hw n1 n2]; exact hgw
  · obtain ⟨ρ,r1,r2,r3,r4⟩:=I.rt
    refine ⟨ρ,?_,r2,r3,r4⟩
    rw [←eb']
    rw [←eb] at r1
    cases r1 with
    | here=>omega
    | step _ r1=>
      rw [←eq] at r1
      cases r1 with
      | here=>omega
      | step _ r1=>rw [←eb'] at r1; exact r1
  · have old:∀w,w<n→∀j:Nat,g1 w=j→Tgt fr to tw σ j:=fun w hw j hj=>by
      by_cases hwv:w=v
      · rw [hwv,t.vv] at hj
        have:j=e:=by omega
        rw [this]; exact I.te
      · rcases t.tg w hwv with h1 | ⟨c,m,h1,h2,h3⟩
        · exact I.tg w j hw (by rw [←h1]; exact hj)
        · have:j=σ.le c m:=by omega
          rw [this]; exact h.du.tl c m h1 h2
    by_cases hwv:w=σ.vi q
    · rw [hwv,t'.vv] at hm
      have:i=e2':=by omega
      rw [this]; exact k3
    · rcases t'.tg w hwv with h1 | ⟨c,m,h1,h2,h3⟩
      · exact old w hw i (by rw [←h1]; exact hm)
      · have:i=σ.le c m:=by omega
        rw [this]; exact h.du.tl c m h1 h2
  · refine .inr ⟨?_,by rw [←eb']; omega⟩
    have nq:¬Kin σ.up v0 q:=fun hk=>by
      have:=(inq I.n0).1 hk
      rw [this] at hd0; omega
    rw [t'.og v0 nq]
    rcases I.vv with ⟨h1,h2⟩ | ⟨h1,h2⟩
    · rw [←h1,←h2]; exact t.vv
    · rw [t.og v0 fun hk=>by rw [(ink I.n0).1 hk,←eb] at h2; omega]
      exact h1
theorem Wy.root (G:Gp n ne fr to tw R0 W) (h:Inv n ne fr to tw R0 D σ) (T:Tr n ne fr to tw R σ d):∀(k b:Nat),d b=k→σ.Sf b→σ.lab b≠0→∃ρ,Wy σ b ρ∧σ.Sf ρ∧σ.ve ρ<0∧σ.lab ρ=1∧σ.mb (σ.base ρ)=-1:=by
  intro k
  induction k using Nat.strongRecOn with
  | _ k ih=>
    intro b hk hb hl
    rcases T.lb b hb with l | l | l
    · exact (hl l).elim
    · rcases T.ou b hb l with ⟨g1,g2⟩ | ⟨e,g1,g2,g3,g4,g5,g6⟩
      · exact ⟨b,.here b,hb,by omega,l,g2⟩
      · obtain ⟨c1,c2,_⟩:=h.crs G hb g2
        rw [←g4] at c2
        obtain ⟨ρ,k1,k2⟩:=ih _ (by omega) (σ.surf (σ.vo b)) rfl (h.kp.srf _ c2).1 (by omega)
        exact ⟨ρ,.step (by omega) k1,k2⟩
    · obtain ⟨e,g1,g2,g3,g4,g5,g6,g7⟩:=T.inn b hb l
      have:σ.vo b<n:=by rw [g5]; exact g2.ot.nd G.nd
      obtain ⟨ρ,k1,k2⟩:=ih _ (by omega) (σ.surf (σ.vo b)) rfl (h.kp.srf _ this).1 (by omega)
      exact ⟨ρ,.step (by omega) k1,k2⟩
theorem Tun.first (G:Gp n ne fr to tw R0 W) (h:Inv n ne fr to tw R0 D σ) (T:Tr n ne fr to tw R σ d) {i ρ:Nat} (hi:En ne fr to i u) (ht:Tgt fr to tw σ i) (hl:σ.lab (σ.surf u)=1) (k:Wy σ (σ.surf u) ρ) (hρ:σ.ve ρ<0) :
    Tun n ne fr to tw σ d (·=u) σ.base σ.mb u i (σ.base ρ) σ.base σ.mb u i:=by
  have hu:=hi.nd G.nd
  have hs:=h.kp.srf u hu
  refine ⟨hu,hu,hi,hl,ht,h.ba,.here _,fun w _ _=>rfl,fun c _=>rfl,fun w hw _ _=>?_,.inl rfl,fun w _ _=>rfl,fun c _ _=>rfl,fun w _ h=>h,fun w _ h _=>h,⟨ρ,k,(k.rank h G T hs.1 (by omega)).1,hρ,rfl⟩,fun w j hw hm=>h.du.tm w j hw hm,.inl ⟨rfl,rfl⟩⟩
  exact (h.mm w hw (by omega)).imp id fun ⟨j,a1,a2,a3,a4⟩=>⟨j,a1,a2,a4⟩
theorem Tun.second (G:Gp n ne fr to tw R0 W) (h:Inv n ne fr to tw R0 D σ) (T:Tr n ne fr to tw R σ d) {i ρ ρ' r:Nat} (hi:En ne fr to i u) (ht:Tgt fr to tw σ i) (hl:σ.lab (σ.surf u)=1) (hl':σ.lab (σ.surf (ot fr to i u))=1)
    (k:Wy σ (σ.surf u) ρ) (hρ:σ.ve ρ<0) (k':Wy σ (σ.surf (ot fr to i u)) ρ') (hρ':σ.ve ρ'<0) (hne:ρ≠ρ') (Z:Tuz n ne fr to tw σ (·=u) σ.base σ.mb u i r f g) :
    Tun n ne fr to tw σ d (fun _=>False) f g (ot fr to i u) i (σ.base ρ') f g (ot fr to i u) i:=by
  have hu:=hi.nd G.nd
  have hv:=hi.ot.nd G.nd
  have hs:=h.kp.srf u hu
  have hs':=h.kp.srf _ hv
  have dis:∀c,Wy σ (σ.surf (ot fr to i u)) c→¬Wy σ (σ.surf u) c:=fun c h1 h2=>by
    have hc:=h1.rank h G T hs'.1 (by omega)
    obtain ⟨q,q1,q2,q3,_⟩:=Wy.root G h T _ c rfl hc.1 hc.2.1
    exact hne (((k.det (h2.trans q1) hρ q3)).trans (k'.det (h1.trans q1) hρ' q3).symm)
  refine ⟨hv,hv,hi.ot,hl',ht,Z.ba,.here _,fun w hw hwy=>Z.sg w hw (dis _ hwy),fun c hc=>Z.sf c (hc.rank h G T hs'.1 (by omega)).1 (dis _ hc),fun w hw _ hx=>?_,.inr ⟨?_,?_⟩,fun w _ _=>rfl,fun c _ _=>rfl,fun w _ h=>h,fun w _ h _=>h,⟨ρ',k',(k'.rank h G T hs'.1 (by omega)).1,hρ',rfl⟩,Z.tg,.inl ⟨rfl,rfl⟩⟩
  · rcases hx with hx | hx
    · rw [hi.oo] at hx
      exact Z.ok w hw hx
    · exact hx.elim
  · rw [hi.oo]; exact Z.vv
  · rw [hi.oo]
    exact fun hw=>dis _ hw (.here _)
theorem Inv.turned (G:Gp n ne fr to tw R0 W) (h:Inv n ne fr to tw R0 D σ) (T:Tr n ne fr to tw R σ d) {i ρ ρ':Nat} (hi:En ne fr to i u) (hl:σ.lab (σ.surf u)=1) (hl':σ.lab (σ.surf (ot fr to i u))=1)
    (k:Wy σ (σ.surf u) ρ) (hρ:σ.ve ρ<0) (k':Wy σ (σ.surf (ot fr to i u)) ρ') (hρ':σ.ve ρ'<0) (hne:ρ≠ρ') (Z:Tuz n ne fr to tw σ (·=u) σ.base σ.mb u i (σ.base ρ) f g) (Z':Tuz n ne fr to tw σ (fun _=>False) f g (ot fr to i u) i (σ.base ρ') f2 g2) :
    Inv n ne fr to tw R0 D (σ.wb f2 g2)∧cnt (fun v=>decide (σ.mb v=-1)) n=cnt (fun v=>decide (g2 v=-1)) n+2:=by
  have hs:=h.kp.srf u (hi.nd G.nd)
  have hs':=h.kp.srf _ (hi.ot.nd G.nd)
  have root:∀{b c},Wy σ b c→σ.ve c<0→σ.Sf b→σ.lab b≠0→σ.Sf c∧σ.mb (σ.base c)=-1:=fun {b c} k hc hb hl=>by
    obtain ⟨q,q1,q2,q3,q4,q5⟩:=Wy.root G h T _ b rfl hb hl
    have:=k.det q1 hc q3
    subst this
    exact ⟨q2,q5⟩
  obtain ⟨s1,f1⟩:=root k hρ hs.1 (by omega)
  obtain ⟨s2,f2'⟩:=root k' hρ' hs'.1 (by omega)
  obtain ⟨a1,a2,a3⟩:=h.bsf s1
  obtain ⟨c1,c2,c3⟩:=h.bsf s2
  have hbne:σ.base ρ≠σ.base ρ':=fun e=>hne (by rw [←a3,←c3,e])
  have fwd:∀w,w<n→g2 w=-1→σ.mb w=-1:=fun w hw hm=>Z.f1 w hw (Z'.f1 w hw hm)
  refine ⟨⟨h.kp.wb,Z'.ba,fun w hw _=>?_,⟨h.du.d0,h.du.z0,h.du.zn,h.du.zg,h.du.yb,h.du.fs,h.du.tl,fun v e hv hm=>Z'.tg v e hv hm,h.du.pa,fun v hv hm=>h.du.fe v hv (fwd v hv hm)⟩⟩,?_⟩
  · rcases Z'.ok w hw (fun h=>h) with h1 | ⟨j,h1,h2,h3⟩
    · exact .inl h1
    · exact .inr ⟨j,h1,h2,by have:=h2.ot.nd G.nd; omega,h3⟩
  · have e1:=cnt_less (p:=fun v=>decide (σ.mb v=-1)) (q:=fun v=>decide (σ.mb v=-1∧v≠σ.base ρ)) a2 (decide_eq_true f1) (by simp) fun j _ hj=>by simp [hj]
    have e2:=cnt_less (p:=fun v=>decide (σ.mb v=-1∧v≠σ.base ρ)) (q:=fun v=>decide (g2 v=-1)) c2 (decide_eq_true ⟨f2',Ne.symm hbne⟩) (decide_eq_false Z'.f3) fun j hj hjn=>by
      rw [decide_eq_decide]
      refine ⟨fun hh=>Z'.f2 j hj (Z.f2 j hj hh.1 hh.2) hjn,fun hh=>⟨fwd j hj hh,fun e=>?_⟩⟩
      exact Z.f3 (by rw [←e]; exact Z'.f1 j hj hh)
    omega
end
end Go.Mz
