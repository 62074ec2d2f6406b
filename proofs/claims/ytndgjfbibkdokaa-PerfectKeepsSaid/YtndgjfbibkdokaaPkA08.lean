/-
  Joined: PmO, PmP, PmQ, PmR, DeP, DeA, DeB, BlK, PfV, LPeA, MnX.
-/
import Derived.Test.YtndgjfbibkdokaaPkA06
import Derived.Test.YtndgjfbibkdokaaPkA07
import Derived.Test.YtndgjfbibkdokaaMzZ
import Derived.Test.YtndgjfbibkdokaaPkA03
import Derived.Test.YtndgjfbibkdokaaPkA01
import Derived.Test.YtndgjfbibkdokaaPkM
import Derived.Test.YtndgjfbibkdokaaGL18
import Derived.Test.YtndgjfbibkdokaaMzW
set_option linter.unusedSimpArgs false
set_option linter.unusedVariables false
/-
  Walks of layer 18: Solve.
-/
namespace Go.Mz
def nlp (e:Nat→Edg):Nat→List Nat
  | 0=>[]
  | i+1=>if (e i).fr=(e i).to then nlp e i else nlp e i++[i]
theorem nlp_mem {e:Nat→Edg} {i:Nat}:∀{k:Nat},i∈nlp e k↔i<k∧(e i).fr≠(e i).to
  | 0=>⟨fun h=>(by cases h),fun h=>by omega⟩
  | k+1=>by
    show i∈(if (e k).fr=(e k).to then nlp e k else nlp e k++[k])↔_
    by_cases h:(e k).fr=(e k).to
    · rw [if_pos h,nlp_mem]
      constructor
      · rintro ⟨h1,h2⟩; exact ⟨by omega,h2⟩
      · rintro ⟨h1,h2⟩
        by_cases ek:i=k
        · subst ek; exact (h2 h).elim
        · exact ⟨by omega,h2⟩
    · rw [if_neg h,List.mem_append,nlp_mem,List.mem_singleton]
      constructor
      · rintro (⟨h1,h2⟩ | h1)
        · exact ⟨by omega,h2⟩
        · rw [h1]; exact ⟨by omega,h⟩
      · rintro ⟨h1,h2⟩
        by_cases ek:i=k
        · exact .inr ek
        · exact .inl ⟨by omega,h2⟩
theorem nlp_nodup {e:Nat→Edg}:∀{k:Nat},(nlp e k).Nodup
  | 0=>List.nodup_nil
  | k+1=>by
    show (if (e k).fr=(e k).to then nlp e k else nlp e k++[k]).Nodup
    by_cases h:(e k).fr=(e k).to
    · rw [if_pos h]; exact nlp_nodup
    · rw [if_neg h,List.nodup_append]
      refine ⟨nlp_nodup,by simp,fun x hx y hy e=>?_⟩
      rw [List.mem_singleton] at hy
      have:=(nlp_mem.1 hx).1
      omega
theorem nlp_len {e:Nat→Edg} {k:Nat}:(nlp e k).length≤k:=by
  have:=cnt_list (q:=fun _=>true) (N:=k) (nlp_nodup (e:=e) (k:=k)) fun x hx=>⟨(nlp_mem.1 hx).1,rfl⟩
  exact Nat.le_trans this (cnt_le _ _)
def wh (e:Nat→Edg) (n j:Nat):Nat:=(nlp e n)[j]?.getD 0
theorem wh_mem {e:Nat→Edg} {n j:Nat} (h:j<(nlp e n).length):wh e n j∈nlp e n:=by
  unfold wh; rw [List.getElem?_eq_getElem h]; exact List.getElem_mem h
theorem wh_inj {e:Nat→Edg} {n i j:Nat} (hi:i<(nlp e n).length) (hj:j<(nlp e n).length) (h:wh e n i=wh e n j):i=j:=by
  unfold wh at h
  rw [List.getElem?_eq_getElem hi,List.getElem?_eq_getElem hj] at h
  have hp:=List.pairwise_iff_getElem.1 (nlp_nodup (e:=e) (k:=n))
  rcases Nat.lt_trichotomy i j with h1 | h1 | h1
  · exact (hp i j hi hj h1 h).elim
  · exact h1
  · exact (hp j i hj hi h1 h.symm).elim
theorem wh_of {e:Nat→Edg} {n i:Nat} (h:i∈nlp e n):∃j,j<(nlp e n).length∧wh e n j=i:=by
  obtain ⟨j,hj,ej⟩:=List.mem_iff_getElem.1 h
  exact ⟨j,hj,by unfold wh; rw [List.getElem?_eq_getElem hj]; exact ej⟩
def frw (e:Nat→Edg) (n j:Nat):Nat:=ef e (wh e n j)
def tow (e:Nat→Edg) (n j:Nat):Nat:=et e (wh e n j)
def tww (e:Nat→Edg) (n j:Nat):Int:=2*(e (wh e n j)).co
section
variable {M n:Nat} {e:Nat→Edg}
theorem nlp_right (hr:Right (M:Int) n e) {j:Nat} (hj:j<(nlp e n).length):wh e n j<n∧frw e n j≠tow e n j∧frw e n j<M∧tow e n j<M∧(e (wh e n j)).fr=(frw e n j:Int)∧(e (wh e n j)).to=(tow e n j:Int)∧-2097152≤tww e n j∧tww e n j≤2097152∧tww e n j%2=0:=by
  obtain ⟨h1,h2⟩:=nlp_mem.1 (wh_mem hj)
  obtain ⟨a1,a2⟩:=hr.ends h1
  obtain ⟨b1,b2⟩:=hr.nds _ h1
  have hx:=hr.ed _ h1
  have hk0:=hx.k0; have hk1:=hx.k1
  refine ⟨h1,fun he=>h2 (by rw [a1,a2]; unfold frw tow at he; omega),b1,b2,a1,a2,?_,?_,?_⟩<;>unfold tww<;>omega
def eT (e:Nat→Edg) (l:List Nat) (j:Nat):Thr:=((e (l[j]?.getD 0)).fr,(e (l[j]?.getD 0)).to,2*(e (l[j]?.getD 0)).co)
theorem eT_app {l:List Nat} {x:Nat}:upf (eT e l) l.length ((e x).fr,(e x).to,2*(e x).co)=eT e (l++[x]):=by
  funext i
  unfold upf eT
  by_cases h:i=l.length
  · subst h; simp
  · rw [if_neg h]
    by_cases h2:i<l.length
    · rw [List.getElem?_append_left h2]
    · rw [List.getElem?_eq_none (by omega),List.getElem?_eq_none (by simp; omega)]
theorem eT_edF (hr:Right (M:Int) n e):∀j,j<(nlp e n).length→eT e (nlp e n) j=edF (frw e n) (tow e n) (tww e n) j:=fun j hj=>by
  obtain ⟨_,_,_,_,h5,h6,_⟩:=nlp_right hr hj
  show ((e (wh e n j)).fr,(e (wh e n j)).to,2*(e (wh e n j)).co)=_
  rw [h5,h6]; rfl
variable {E:VP} {H:Hp}
theorem psol1 {b1 b2 ec:Nat} {ep:OA} {K:OA→Nat→Nat→OA→Nat→Nat→OA→Nat→Nat→OA→Nat→Nat→Int→Int→Hp→Prop} (he:Rdr H ep n e) (hr:Right (M:Int) n e)
    (k:∀H' dp dc wp wc,Step (fun _=>False) H H'→Row H' dp (nlp e n).length dc (edF (frw e n) (tow e n) (tww e n))→Row H' wp (nlp e n).length wc (lsF (nlp e n))→(∀y,fpS dp y→H y=none)→(∀y,fpS wp y→H y=none)→Q3.j2 b1 b2 0 dp (nlp e n).length dc wp (nlp e n).length wc E H' K) :
    Q3.l1 b1 b2 0 none 0 0 none 0 0 ep n ec (n:Int) 0 E H K:=by
  have hn1:=hr.n1
  refine Q3.l1_rule (fun g1 d3 co5 dp dn dc wp wn wc tp tn tc t34 t35 H1=>g1=b1∧d3=b2∧co5=0∧tp=ep∧tn=n∧t34=(n:Int)∧∃i:Nat,t35=i∧i≤n∧dn=(nlp e i).length∧wn=(nlp e i).length∧Step (fun _=>False) H H1∧Row H1 dp (nlp e i).length dc (eT e (nlp e i))∧Row H1 wp (nlp e i).length wc (lsF (nlp e i))∧(∀y,fpS dp y→H y=none)∧(∀y,fpS wp y→H y=none)∧∀y,fpS dp y→¬fpS wp y)
    (fun _ _ _ _ _ _ _ _ _ _ _ _ _ t35 _=>n-t35.toNat) ?_ ⟨rfl,rfl,rfl,rfl,rfl,rfl,0,rfl,Nat.zero_le _,rfl,rfl,.refl,.nil,.nil,fun y hy=>by rw [fpS_none] at hy; exact hy.elim,fun y hy=>by rw [fpS_none] at hy; exact hy.elim,fun y hy=>by rw [fpS_none] at hy; exact hy.elim⟩
  rintro g1 d3 co5 dp dn dc wp wn wc tp tn tc t34 t35 H1 ⟨rfl,rfl,rfl,rfl,rfl,rfl,i,rfl,hi,rfl,rfl,s1,rd,rw',fd,fw,fdw⟩ X1 hX
  have hli:=nlp_len (e:=e) (k:=i)
  refine Q3.b1_eq ?_
  unfold Q3.b1_t
  refine bc (fun hl=>?_) fun hge=>?_
  · have hl:i<tn:=by omega
    have hx:=hr.ed i hl
    have hk0:=hx.k0; have hk1:=hx.k1
    refine (he.keep s1 fun _ _ _ h=>h).edge (by omega) (by omega) ?_
    rw [tN]
    refine nwst rfl rfl fun c2 H2 hc2 e2 s2=>?_
    simp only [get_at e2,gZ,gS,ldI_mk]
    have s12:=s1.trans s2 fun _ h=>h.elim
    refine bcn (fun hne=>?_) fun heq=>?_
    · have en:nlp e (i+1)=nlp e i++[i]:=by
        show (if (e i).fr=(e i).to then nlp e i else nlp e i++[i])=_
        rw [if_neg hne]
      rw [i64w (n:=2*(e i).co) (by omega) (by omega)]
      refine Row.app3 (rd.keep s2 fun _ _ h=>h) _ _ _ (by omega) fun p3 c3 H4 r4 s4 f4=>?_
      have hr4:Row H4 p3 ((nlp e i).length+1) c3 (eT e (nlp e i++[i])):=by rw [←eT_app]; exact r4
      have rw4:=(rw'.keep s2 fun _ _ h=>h).keep s4 fun y hy hh=>fdw y hh hy
      have f4n:∀y,fpS p3 y→H y=none:=fun y hy=>by
        rcases f4 y hy with hh | hh
        · exact fd y hh
        · exact s12.none_at hh
      have f4w:∀y,fpS p3 y→¬fpS wp y:=fun y hy hw=>by
        rcases f4 y hy with hh | hh
        · exact fdw y hh hw
        · exact (rw'.keep s2 fun _ _ h=>h).live hw hh
      refine rw4.appI _ (by omega) fun p5 c5 H6 r6 s6 f6=>?_
      rw [lsF_app] at r6
      refine Q3.j1_eq ?_
      unfold Q3.j1_t
      rw [i64w (by omega) (by omega)]
      have hlen:(nlp e (i+1)).length=(nlp e i).length+1:=by rw [en,List.length_append]; rfl
      refine hX _ _ _ _ _ _ _ _ _ _ _ _ _ _ _ ⟨rfl,rfl,rfl,rfl,rfl,rfl,i+1,by omega,by omega,hlen.symm,hlen.symm,(s12.own s4 fd).own s6 fw,?_,?_,f4n,fun y hy=>?_,fun y hy hw=>?_⟩ (by omega)
      · rw [hlen,en]; exact hr4.keep s6 fun y hy hh=>f4w y hy hh
      · rw [hlen,en]; exact r6
      · rcases f6 y hy with hh | hh
        · exact fw y hh
        · exact (s12.own s4 fd).none_at hh
      · rcases f6 y hw with hh | hh
        · exact f4w y hy hh
        · exact hr4.live hy hh
    · have en:nlp e (i+1)=nlp e i:=by
        show (if (e i).fr=(e i).to then nlp e i else nlp e i++[i])=_
        rw [if_pos heq]
      refine Q3.j1_eq ?_
      unfold Q3.j1_t
      rw [i64w (by omega) (by omega)]
      exact hX _ _ _ _ _ _ _ _ _ _ _ _ _ _ _ ⟨rfl,rfl,rfl,rfl,rfl,rfl,i+1,by omega,by omega,by rw [en],by rw [en],s12,by rw [en]; exact rd.keep s2 fun _ _ h=>h,by rw [en]; exact rw'.keep s2 fun _ _ h=>h,fd,fw,fdw⟩ (by omega)
  · have:i=tn:=by omega
    subst this
    exact k H1 dp dc wp wc s1 (rd.congr (eT_edF hr)) rw' fd fw
end
end Go.Mz
/-
  What Solve of layer 18 answers, in plain words: the matching's edges by their old numbers, sorted.
-/
namespace Go.Mz
section
variable {f:Nat→Int} {M n:Nat} {e:Nat→Edg}
theorem lsum_perm {l r:List Nat} (h:l.Perm r):lsum f l=lsum f r:=by
  induction h with
  | nil=>rfl
  | cons x _ ih=>simp only [lsum,ih]
  | swap x y l=>simp only [lsum]; omega
  | trans _ _ ih1 ih2=>exact ih1.trans ih2
theorem cst_lsum {m:Nat→Int}:∀{k:Nat},cst e m k=lsum (fun i=>(e i).co) ((List.range k).map fun i=>(m i).toNat)
  | 0=>rfl
  | k+1=>by
    rw [List.range_succ,List.map_append,lsum_app,←cst_lsum]
    simp [cst,lsum]
theorem cst_sorted {l:List Nat} {g:Nat→Int} (hp:((List.range l.length).map g).Perm ((List.range l.length).map (lsF l))):cst e g l.length=lsum (fun i=>(e i).co) l:=by
  rw [cst_lsum]
  refine lsum_perm ?_
  rw [map_lsF] at hp
  have:=hp.map Int.toNat
  rw [List.map_map,List.map_map] at this
  have e2:l.map (Int.toNat ∘ fun (v:Nat)=>(v:Int))=l:=by
    conv=>rhs; rw [←List.map_id l]
    exact List.map_congr_left fun a _=>by simp
  rw [e2] at this
  exact this
theorem tkn18 (hr:Right (M:Int) n e) {mb:Nat→Int} (hm:MM M (nlp e n).length (frw e n) (tow e n) M mb) (hall:∀v,v<M→0≤mb v) {g:Nat→Int} {l:List Nat} (hl:l=(mls (frw e n) mb M).map (wh e n)) (hris:Ris g l.length (n:Int)) (hin:∀v:Nat,In g l.length (v:Int)↔v∈l) :
    Tkn (M:Int) n e g l.length fun _=>1:=by
  have hgi:∀i,i<l.length→∃j:Nat,j<(nlp e n).length∧g i=(wh e n j:Int)∧mb (frw e n j)=(j:Int)∧mb (tow e n j)=(j:Int):=fun i hi=>by
    obtain ⟨h0,h1,_⟩:=hris i hi
    have hx:(g i).toNat∈l:=(hin _).1 ⟨i,hi,by omega⟩
    rw [hl] at hx
    obtain ⟨j,hj,ej⟩:=List.mem_map.1 hx
    obtain ⟨v,hv,e1,e2⟩:=mls_mem.1 hj
    obtain ⟨j',a1,a2,_⟩:=hm.en hv (by omega) (hall v hv)
    have:j'=j:=by omega
    subst this
    rcases hm v hv (by omega) with hh | ⟨j2,b1,b2,b3,b4⟩
    · omega
    · have:j2=j':=by omega
      subst this
      have ho:ot (frw e n) (tow e n) j2 v=tow e n j2:=by unfold ot; omega
      rw [ho] at b4
      exact ⟨j2,b2.1,by omega,by rw [e2]; exact b1,b4⟩
  have hnl:∀i,i<l.length→¬lp (e (g i).toNat):=fun i hi=>by
    obtain ⟨j,hj,ej,_⟩:=hgi i hi
    rw [ej,tN]
    exact (nlp_mem.1 (wh_mem hj)).2
  refine ⟨hris,hnl,fun v hv0 hv1 _=>?_⟩
  have:=dg_one (e:=e) (m:=g) (v:=v) (x:=(wh e n (mb v.toNat).toNat:Int)) (k:=l.length) hnl (fun i j hij hj=>hris.lt hij hj) fun i hi ht=>by
    obtain ⟨j,hj,ej,m1,m2⟩:=hgi i hi
    rw [ej,tN] at ht
    obtain ⟨_,_,_,_,h5,h6,_⟩:=nlp_right hr hj
    have:(mb v.toNat).toNat=j:=by
      rcases ht with ht | ht
      · rw [h5] at ht; rw [←ht,tN,m1,tN]
      · rw [h6] at ht; rw [←ht,tN,m2,tN]
    rw [ej,this]
  omega
theorem lsum_two {l:List Nat} {w:Nat→Nat}:lsum (fun j=>2*(e (w j)).co) l=2*lsum (fun i=>(e i).co) (l.map w):=by
  induction l with
  | nil=>rfl
  | cons x l ih=>simp only [List.map_cons,lsum,ih]; omega
theorem chp18 {H0 Hs H':Hp} {R0 D W Q:Int} {t3 yb:Nat} {σ:KS} {mp sp:OA} {mc ks sc:Nat} {bl:Nat→Nat} {S:Nat→Sl} {F:Nat→Nat→Int} (hr:Right (M:Int) n e) (G:Gp M (nlp e n).length (frw e n) (tow e n) (tww e n) R0 W)
    (h:SoR H0 Hs H' M (nlp e n).length (frw e n) (tow e n) (tww e n) R0 Q t3 yb σ D mp mc sp ks sc bl S F) (hb:-4398046511104≤R0-Q∧R0+Q≤4398046511104) (hq:2*Q≤4398046511104) {g:Nat→Int} {l:List Nat} (hl:l=(mls (frw e n) σ.mb M).map (wh e n))
    (hs:∀i j,i<j→j<l.length→g i≤g j) (hp:((List.range l.length).map g).Perm ((List.range l.length).map (lsF l))) :
    ChpP (M:Int) n e g l.length σ.y M (fun j=>σ.z (bl j)) (fun j=>(S j).n) F ks:=by
  have hmem:∀j,j∈mls (frw e n) σ.mb M→j<(nlp e n).length:=fun j hj=>by
    obtain ⟨v,hv,e1,e2⟩:=mls_mem.1 hj
    obtain ⟨j',a1,a2,_⟩:=h.inv.mm.en hv (by omega) (h.all v hv)
    have:j'=j:=by omega
    subst this
    exact a2.1
  have hnd:l.Nodup:=by
    rw [hl,List.Nodup,List.pairwise_map]
    refine List.Pairwise.imp_of_mem (fun {a b} ha hb hab=>?_) (mls_nodup (fr:=frw e n) (mb:=σ.mb) (k:=M))
    exact fun e'=>hab (wh_inj (hmem a ha) (hmem b hb) e')
  have hlt:∀v∈l,v<n:=fun v hv=>by
    rw [hl] at hv
    obtain ⟨j,hj,ej⟩:=List.mem_map.1 hv
    rw [←ej]; exact (nlp_right hr (hmem j hj)).1
  obtain ⟨hris,hin⟩:=sorted_ris hnd hlt hs hp
  have hlen:l.length=(mls (frw e n) σ.mb M).length:=by rw [hl,List.length_map]
  have hhalf:=mls_half G.nd h.inv.mm h.all
  refine ⟨tkn18 hr h.inv.mm h.all hl hris hin,by omega,h.wt G hb hq,fun i hi=>?_,?_⟩
  · by_cases hlp:(e i).fr=(e i).to
    · exact .inl hlp
    · right
      obtain ⟨j,hj,ej⟩:=wh_of (nlp_mem.2 ⟨hi,hlp⟩)
      obtain ⟨_,_,h3,h4,h5,h6,_⟩:=nlp_right hr hj
      rw [ej] at h5 h6
      rw [h5,h6,h.pr h3 h4]
      have:=h.inv.du.fs j hj
      have e2:tww e n j=2*(e i).co:=by unfold tww; rw [ej]
      omega
  · rw [h.cost G,cst_sorted hp,hl]
    exact lsum_two
end
end Go.Mz
/-
  Walks of layer 18: Solve, its end.
-/
namespace Go.Mz
structure SolR (H H':Hp) (M n:Nat) (e:Nat→Edg) (mp:OA) (k mc:Nat) (g:Nat→Int) (yb:Nat) (Y:Nat→Int) (sp:OA) (ks sc:Nat) (z:Nat→Int) (S:Nat→Sl) (F:Nat→Nat→Int):Prop where
  chp:ChpP (M:Int) n e g k Y M z (fun j=>(S j).n) F ks
  rm:Row H' mp k mc g
  ry:Row H' (some ⟨yb,0,none⟩) M M Y
  rs:Row H' sp ks sc (fun j=>((S j,z j):Sl × Int))
  re:∀j,j<ks→Row H' (S j).p (S j).n (S j).c (F j)
  f1:∀y,fpS mp y→H y=none∧y≠yb∧¬fpS sp y∧∀j,j<ks→¬fpS (S j).p y
  f2:H yb=none
  f3:∀y,fpS sp y→H y=none∧y≠yb
  f4:∀j,j<ks→∀y,fpS (S j).p y→H y=none∧y≠yb∧¬fpS sp y
  dj:∀i j,i<j→j<ks→∀y,fpS (S j).p y→¬fpS (S i).p y
section
variable {M n:Nat} {e:Nat→Edg} {E:VP} {H:Hp}
theorem psol3 {b1 b2:Nat} {mp:OA} {k mc:Nat} {co:Int} {yb:Nat} {sp:OA} {ks sc:Nat} {f:Nat→Int} {K:OA→Nat→Nat→OA→Nat→Nat→OA→Nat→Nat→OA→Nat→Nat→Int→Int→Hp→Prop}
    (r:Row H mp k mc f) (hk:k<2 ^ 60) (e2:H b2=some ⟨[.slice (some ⟨yb,0,none⟩) M M,.slice sp ks sc],30⟩) (hb:¬fpS mp b2)
    (kk:∀H' g,Row H' mp k mc g→Step (fun y=>fpS mp y∨y=b2) H H'→(∀i j,i<j→j<k→g i≤g j)→((List.range k).map g).Perm ((List.range k).map f)→K mp k mc (some ⟨yb,0,none⟩) M M sp ks sc none 0 0 co 0 H'):Q3.j3 mp k mc b2 co E H K:=by
  refine Q3.j3_eq ?_
  unfold Q3.j3_t
  refine sortI r (by omega) fun H1 g r1 s1 hs hp=>?_
  have e21:=s1.keep _ _ e2 hb
  simp only [get_at e21,gZ,gS,ldI_mk,ldS_mk]
  refine stk e21 rfl rfl fun H2 e22 s2=>?_
  simp only [get_at e22,gZ,gS,ldI_mk,ldS_mk]
  exact kk H2 g (r1.keep s2 fun y hy hh=>hb (hh▸hy)) ((s1.weak fun _ h=>.inl (.inl h)).trans s2 fun _ h=>.inl (.inr h)) hs hp
theorem psol2 {b1 b2 ec:Nat} {ep mp wp:OA} {mc wc:Nat} {L:List Nat} {K:OA→Nat→Nat→OA→Nat→Nat→OA→Nat→Nat→OA→Nat→Nat→Int→Int→Hp→Prop} (hr:Right (M:Int) n e)
    (r:Row H mp L.length mc (lsF L)) (hL:L.length≤1024) (hj:∀j∈L,j<(nlp e n).length) (e1:H b1=some ⟨[.int .i64 (M:Int),.slice ep n ec],24⟩) (he:Rdr H ep n e) (rw':Rdr H wp (nlp e n).length (lsF (nlp e n))) (d1:¬fpS mp b1) (d2:0<n→∀y,fpS mp y→¬fpS ep y) (d3:∀y,fpS mp y→¬fpS wp y)
    (kk:∀H',Row H' mp L.length mc (lsF (L.map (wh e n)))→Step (fpS mp) H H'→Q3.j3 mp L.length mc b2 (lsum (fun i=>(e i).co) (L.map (wh e n))) E H' K) :
    Q3.l2 b1 mp L.length mc b2 0 wp (nlp e n).length wc mp L.length mc (L.length:Int) 0 E H K:=by
  have hn1:=hr.n1
  have hwl:=nlp_len (e:=e) (k:=n)
  refine Q3.l2_rule (fun g1 ap an ac d3' co vp vn vc tp tn tc t70 t71 H1=>g1=b1∧ap=mp∧an=L.length∧ac=mc∧d3'=b2∧vp=wp∧vn=(nlp e n).length∧tp=mp∧tn=L.length∧t70=(L.length:Int)∧∃i:Nat,t71=i∧i≤L.length∧co=lsum (fun i=>(e i).co) ((L.take i).map (wh e n))∧-1048576*(i:Int)≤co∧co≤1048576*(i:Int)∧Row H1 mp L.length mc (fun j=>if j<i then lsF (L.map (wh e n)) j else lsF L j)∧Step (fpS mp) H H1)
    (fun _ _ _ _ _ _ _ _ _ _ _ _ _ t71 _=>L.length-t71.toNat) ?_ ⟨rfl,rfl,rfl,rfl,rfl,rfl,rfl,rfl,rfl,rfl,0,rfl,Nat.zero_le _,rfl,by omega,by omega,r.congr fun j _=>(if_neg (by omega)).symm,.refl⟩
  rintro g1 ap an ac d3' co vp vn vc tp tn tc t70 t71 H1 ⟨rfl,rfl,rfl,rfl,rfl,rfl,rfl,rfl,rfl,rfl,i,rfl,hi,hco,hc0,hc1,r1,s1⟩ X1 hX
  refine Q3.b2_eq ?_
  unfold Q3.b2_t
  refine bc (fun hl=>?_) fun hge=>?_
  · have hl:i<L.length:=by omega
    have hLi:=hj _ (List.getElem_mem hl)
    obtain ⟨w1,_⟩:=nlp_right hr hLi
    have hx:=hr.ed _ w1
    have hk0:=hx.k0; have hk1:=hx.k1
    refine r1.ixI (by omega) (by omega) ?_
    rw [tN,if_neg (Nat.lt_irrefl i),lsF_ltp hl]
    have rw1:=rw'.keep s1 fun y hy _ hh=>d3 y hh hy
    have hw:lsF (nlp e n) L[i]=(wh e n L[i]:Int):=rfl
    refine rw1.ixI (by omega) (by omega) ?_
    rw [tN,hw]
    refine r1.stI (by omega) (by omega) _ fun H2 r2 s2=>?_
    rw [tN] at r2
    have s12:=s1.trans s2 fun _ h=>.inl h
    have e12:=s12.keep _ _ e1 d1
    simp only [get_at e12,gZ,gS,ldI_mk,ldS_mk]
    refine (rw'.keep s12 fun y hy _ hh=>d3 y hh hy).ixI (by omega) (by omega) ?_
    rw [tN,hw]
    refine (he.keep s12 fun y hy _ hh=>d2 (by omega) y hh hy).edgeC (by omega) (by omega) ?_
    rw [tN,i64w (n:=co+(e (wh e n L[i])).co) (by omega) (by omega),i64w (by omega) (by omega)]
    refine hX _ _ _ _ _ _ _ _ _ _ _ _ _ _ _ ⟨rfl,rfl,rfl,rfl,rfl,rfl,rfl,rfl,rfl,rfl,i+1,by omega,by omega,?_,by omega,by omega,r2.congr fun j hj'=>?_,s12⟩ (by omega)
    · rw [List.take_succ_eq_append_getElem hl,List.map_append,lsum_app,←hco]
      simp [lsum]
    · by_cases ej:j=i
      · subst ej
        rw [upf_same,if_pos (by omega),lsF_ltp (by rw [List.length_map]; exact hl),List.getElem_map]
      · rw [upf_ne ej]
        by_cases e3:j<i
        · rw [if_pos e3,if_pos (by omega)]
        · rw [if_neg e3,if_neg (by omega)]
  · have:i=L.length:=by omega
    subst this
    rw [List.take_length] at hco
    rw [hco]
    exact kk H1 (r1.congr fun j hj'=>if_pos hj') s1
theorem psolj {b1 b2 ec:Nat} {ep dp wp:OA} {dc wc:Nat} {b':Nat→Int} {K:OA→Nat→Nat→OA→Nat→Nat→OA→Nat→Nat→OA→Nat→Nat→Int→Int→Hp→Prop} (hr:Right (M:Int) n e)
    (e1:H b1=some ⟨[.int .i64 (M:Int),.slice ep n ec],24⟩) (e2:H b2=some ⟨[.slice none 0 0,.slice none 0 0],30⟩) (he:Rdr H ep n e) (rd:Row H dp (nlp e n).length dc (edF (frw e n) (tow e n) (tww e n))) (rw':Row H wp (nlp e n).length wc (lsF (nlp e n)))
    (nep:0<n→¬fpS ep b2) (nwp:¬fpS wp b2) (hP:MM M n (ef e) (et e) M b') (hall:∀v,v<M→0≤b' v) (hev:M%2=0)
    (kk:∀H' mp k mc g yb Y sp ks sc z S F,Step (·=b2) H H'→SolR H H' M n e mp k mc g yb Y sp ks sc z S F→K mp k mc (some ⟨yb,0,none⟩) M M sp ks sc none 0 0 (cst e g k) 0 H'):Q3.j2 b1 b2 0 dp (nlp e n).length dc wp (nlp e n).length wc E H K:=by
  have hM1:=hr.N1
  have hn1:=hr.n1
  have hwl:=nlp_len (e:=e) (k:=n)
  have hNd:Nds M (nlp e n).length (frw e n) (tow e n):=fun j hj=>⟨(nlp_right hr hj).2.2.1,(nlp_right hr hj).2.2.2.1⟩
  obtain ⟨g0,hg,hg0⟩:=MM.renum (wh:=wh e n) (k:=(nlp e n).length) hr.nds hP hall (fun j hj=>⟨(nlp_right hr hj).1,(nlp_right hr hj).2.1⟩) (fun i hi hne=>by
    obtain ⟨a1,a2⟩:=hr.ends hi
    exact wh_of (nlp_mem.2 ⟨hi,fun hh=>hne (by omega)⟩)) fun i j hi hj h=>wh_inj hi hj h
  have hg:MM M (nlp e n).length (frw e n) (tow e n) M g0:=hg
  refine Q3.j2_eq ?_
  unfold Q3.j2_t
  simp only [get_at e1,gZ,gS,ldI_mk,ldS_mk]
  refine pnew (W:=2097152) rd.rdr (by omega) (by omega) hNd (fun j hj=>(nlp_right hr hj).2.1) (fun j hj=>(nlp_right hr hj).2.2.2.2.2.2.2.2) (fun j hj=>by have:=(nlp_right hr hj).2.2.2.2.2.2.1; omega) (fun j hj=>(nlp_right hr hj).2.2.2.2.2.2.2.1) (by decide) fun H1 Y X R0 hep h1 G hz hlo hr0=>?_
  have hR0:-1048576≤R0∧R0≤1048576:=by
    rcases Nat.eq_zero_or_pos (nlp e n).length with h0 | h0
    · rw [hz h0]; omega
    · have a1:=hlo (-2097152) (fun j hj=>(nlp_right hr hj).2.2.2.2.2.2.1) h0
      have a2:=G.lo 0 h0
      have a3:=G.hi 0 h0
      omega
  have hB:Bdq M R0 2097152 2147483648:=⟨by omega,by decide,by decide,by
    have h1:(2097152-2*R0)*(M:Int)≤4194304*(M:Int):=Int.mul_le_mul_of_nonneg_right (by omega) (by omega)
    omega⟩
  refine psolve h1 G hg hg0 hB (by decide) hev fun Hs H2 t3 σ D mp mc sp ks sc bl S F hS=>?_
  have e12:=hS.st.keep _ _ e1 fun h=>h
  have e22:=hS.st.keep _ _ e2 fun h=>h
  have lv:∀{y x},H y=some x→H y≠none:=fun h=>by rw [h]; simp
  refine stk e22 rfl rfl fun H3 e3 s3=>?_
  have nb:b1≠b2:=fun e=>by rw [e,e2] at e1; cases e1
  have nmb:¬fpS mp b2:=fun hh=>lv e2 (hS.f1 _ hh).1
  have hmem:∀j,j∈mls (frw e n) σ.mb M→j<(nlp e n).length:=fun j hj=>by
    obtain ⟨v,hv,q1,q2⟩:=mls_mem.1 hj
    obtain ⟨j',a1,a2,_⟩:=hS.inv.mm.en hv (by omega) (hS.all v hv)
    have:j'=j:=by omega
    subst this
    exact a2.1
  have hml:=mls_len (fr:=frw e n) (mb:=σ.mb) M
  have he3:Rdr H3 ep n e:=by
    rcases Nat.eq_zero_or_pos n with h0 | h0
    · exact fun i hi=>by omega
    · exact (he.keep hS.st fun _ _ _ h=>h).keep s3 fun y hy _ hh=>nep h0 (hh▸hy)
  refine psol2 (wc:=wc) hr (hS.rm.keep s3 fun y hy hh=>nmb (hh▸hy)) (by omega) hmem (s3.keep _ _ e12 nb) he3 ((rw'.rdr.keep hS.st fun _ _ _ h=>h).keep s3 fun y hy _ hh=>nwp (hh▸hy)) (fun hh=>lv e1 (hS.f1 _ hh).1) (fun hn0 y hy hh=>he.live hh hn0 (hS.f1 y hy).1) (fun y hy hh=>rw'.live hh (hS.f1 y hy).1) fun H4 r4 s4=>?_
  have e34:=s4.keep _ _ e3 nmb
  have hlm:((mls (frw e n) σ.mb M).map (wh e n)).length=(mls (frw e n) σ.mb M).length:=List.length_map _
  refine psol3 (b1:=b1) r4 (by omega) e34 nmb fun H5 g r5 s5 hs hp=>?_
  rw [←hlm] at hs hp
  have hc:=chp18 hr G hS (by omega) (by decide) rfl hs hp
  have hco:=cst_sorted (e:=e) hp
  rw [hlm] at hc hco
  rw [←hco]
  have s45:Step (fun y=>fpS mp y∨y=b2) H2 H5:=((s3.weak fun _ h=>.inl (.inr h)).trans s4 fun _ h=>.inl (.inl h)).trans s5 fun _ h=>.inl h
  have nyb:Y.yb≠b2:=fun e=>lv e2 (e▸hS.f2)
  refine kk H5 mp _ mc g Y.yb σ.y sp ks sc _ S F ?_ ⟨hc,r5,hS.ry.keep s45 fun y hy hh=>hh.elim (fun hh=>(hS.f1 y hh).2.1 (fp1 hy)) fun hh=>nyb ((fp1 hy).symm.trans hh),hS.set.rs.keep s45 fun y hy hh=>hh.elim (fun hh=>(hS.f1 y hh).2.2.1 hy) fun hh=>lv e2 (hh▸(hS.f3 y hy).1),fun j hj=>(hS.set.each j hj).2.1.keep s45 fun y hy hh=>hh.elim (fun hh=>(hS.f1 y hh).2.2.2 j hj hy) fun hh=>lv e2 (hh▸(hS.f4 j hj y hy).1),hS.f1,hS.f2,hS.f3,fun j hj y hy=>⟨(hS.f4 j hj y hy).1,(hS.f4 j hj y hy).2,(hS.set.fe j hj y hy).2.2⟩,hS.set.dj⟩
  exact (hS.st.weak fun _ h=>h.elim).trans s45 fun y hy=>hy.elim (fun hh=>.inr (hS.f1 y hh).1) fun hh=>.inl hh
end
end Go.Mz
/-
  Walks of layer 18: Solve, whole.
-/
namespace Go.Mz
section
variable {N:Int} {n:Nat} {e:Nat→Edg} {E:VP} {H:Hp}
theorem pSolve {ep:OA} {ec:Nat} {K:OA→Nat→Nat→OA→Nat→Nat→OA→Nat→Nat→OA→Nat→Nat→Int→Int→Hp→Prop} (he:Rdr H ep n e) (hn:n<2 ^ 63)
    (kbad:∀H',Step (fun _=>False) H H'→chk N n e≠0→K none 0 0 none 0 0 none 0 0 none 0 0 0 (chk N n e) H')
    (kno:∀H' sp sn sc cv mn g (M:Nat),Step (fun _=>False) H H'→N=M→Right N n e→BlA M n e g mn cv sn→2*mn<M→Row H' sp sn sc cv→(∀y,fpS sp y→H y=none)→K none 0 0 none 0 0 none 0 0 sp sn sc 0 5 H')
    (kok:∀H' mp k mc g yb Y sp ks sc z S F (M:Nat),Step (fun _=>False) H H'→N=M→Right N n e→SolR H H' M n e mp k mc g yb Y sp ks sc z S F→K mp k mc (some ⟨yb,0,none⟩) M M sp ks sc none 0 0 (cst e g k) 0 H'):Q3.call N ep n ec E H K:=by
  refine Q3.of (Q3.run_eq ?_)
  unfold Q3.run_t
  refine nwk fun b1 H1 hb1 e1 s1=>?_
  refine nwk fun b2 H2 hb2 e2 s2=>?_
  have e12:=s2.keep _ _ e1 fun h=>h
  have s02:Step (fun _=>False) H H2:=s1.trans s2 fun _ h=>h.elim
  have o2:H b2=none:=s1.none_at hb2
  simp only [get_at e12,gZ,gS,ldI_mk,ldS_mk]
  refine sBlo (he.keep s02 fun _ _ _ h=>h) hn fun H3 mp mn mc g sp sn sc cv s3 rm rs fm fs fd hmn hsn hB=>?_
  have e13:=s3.keep _ _ e12 fun h=>h
  have e23:=s3.keep _ _ e2 fun h=>h
  have s03:Step (fun _=>False) H H3:=s02.trans s3 fun _ h=>h.elim
  have w3:∀{H4},Step (·=b2) H3 H4→Step (fun _=>False) H H4:=fun s4=>s03.own s4 fun y hy=>hy▸o2
  have nsb:∀y,fpS sp y→y≠b2:=fun y hy e=>by have:=fs y hy; rw [e,e2] at this; cases this
  refine bcn (fun hne=>?_) fun hz=>?_
  · simp only [get_at e23,gZ,gS,ldI_mk,ldS_mk]
    refine stk e23 rfl rfl fun H4 e4 s4=>?_
    simp only [get_at e4,gZ,gS,ldI_mk,ldS_mk]
    exact kbad H4 (w3 s4) hne
  · rcases hB with ⟨h1,_⟩ | ⟨_,hr,hA⟩
    · exact (h1 hz).elim
    · have hN0:=hr.N0
      have hN1:=hr.N1
      obtain ⟨M,rfl⟩:∃M:Nat,N=M:=⟨N.toNat,by omega⟩
      rw [tN] at hA
      simp only [get_at e13,gZ,gS,ldI_mk,ldS_mk]
      obtain ⟨b',hb',hc'⟩:=hA.ex
      rw [i64w (n:=2*(mn:Int)) (by omega) (by omega)]
      refine bc (fun hlt=>?_) fun hge=>?_
      · simp only [get_at e23,gZ,gS,ldI_mk,ldS_mk]
        refine stk e23 rfl rfl fun H4 e4 s4=>?_
        simp only [get_at e4,gZ,gS,ldI_mk,ldS_mk]
        exact kno H4 sp sn sc cv mn g M (w3 s4) rfl hr hA (by omega) (rs.keep s4 fun y hy hh=>nsb y hy hh) fun y hy=>s02.none_at (fs y hy)
      · have hall:∀v,v<M→0≤b' v:=fun v hv=>by
          rcases hb' v hv (by omega) with h1 | ⟨i,h1,_⟩
          · have:=cnt_pos (p:=fun u=>decide (b' u=-1)) hv (decide_eq_true h1)
            omega
          · omega
        refine psol1 (he.keep s03 fun _ _ _ h=>h) hr fun H4 dp dc wp wc s4 rd rw' fd fw=>?_
        have e14:=s4.keep _ _ e13 fun h=>h
        have e24:=s4.keep _ _ e23 fun h=>h
        have s04:Step (fun _=>False) H H4:=s03.trans s4 fun _ h=>h.elim
        refine psolj hr e14 e24 (he.keep s04 fun _ _ _ h=>h) rd rw' (fun h0 hh=>he.live hh h0 o2) (fun hh=>by have:=fw _ hh; rw [e23] at this; cases this) hb' hall (by omega) fun H5 mp k mc g yb Y sp ks sc z S F s5 hS=>?_
        refine kok H5 mp k mc g yb Y sp ks sc z S F M (s04.own s5 fun y hy=>hy▸o2) rfl hr ⟨hS.chp,hS.rm,hS.ry,hS.rs,hS.re,fun y hy=>⟨s04.none_at (hS.f1 y hy).1,(hS.f1 y hy).2⟩,s04.none_at hS.f2,fun y hy=>⟨s04.none_at (hS.f3 y hy).1,(hS.f3 y hy).2⟩,fun j hj y hy=>⟨s04.none_at (hS.f4 j hj y hy).1,(hS.f4 j hj y hy).2⟩,hS.dj⟩
end
end Go.Mz
/-
  A table of distances: all pairs of nodes, in plain words. No program in sight.
-/
namespace Go.Mz
def prj (i t:Nat):List (Nat × Nat):=(List.range t).map fun s=>(i,i+1+s)
def prs (n:Nat):Nat→List (Nat × Nat)
  | 0=>[]
  | i+1=>prs n i++prj i (n-(i+1))
theorem prj_succ {i t:Nat}:prj i (t+1)=prj i t++[(i,i+1+t)]:=by
  unfold prj
  rw [List.range_succ,List.map_append]
  rfl
theorem prj_mem {i t a b:Nat}:(a,b)∈prj i t↔a=i∧i<b∧b<i+1+t:=by
  unfold prj
  rw [List.mem_map]
  constructor
  · rintro ⟨s,hs,e⟩
    have hs:=List.mem_range.1 hs
    injection e with e1 e2
    omega
  · rintro ⟨e,h1,h2⟩
    exact ⟨b-(i+1),List.mem_range.2 (by omega),by rw [e,show i+1+(b-(i+1))=b by omega]⟩
theorem prs_mem {n a b:Nat}:∀{k:Nat},(a,b)∈prs n k↔a<k∧a<b∧b<n
  | 0=>by simp [prs]
  | k+1=>by
    show (a,b)∈prs n k++prj k (n-(k+1))↔_
    rw [List.mem_append,prs_mem,prj_mem]
    constructor
    · rintro (h | h)<;>omega
    · intro h
      by_cases e:a=k
      · right; omega
      · left; omega
theorem prs_len {n:Nat}:∀{k:Nat},(prs n k).length≤k*n
  | 0=>by simp [prs]
  | k+1=>by
    show (prs n k++prj k (n-(k+1))).length≤_
    rw [List.length_append,Nat.succ_mul]
    have:=prs_len (n:=n) (k:=k)
    have:(prj k (n-(k+1))).length=n-(k+1):=by simp [prj]
    omega
section
variable {L:List (Nat × Nat)} {D:Nat→Nat→Int}
def pF (L:List (Nat × Nat)) (x:Nat):Nat:=(L[x]?.getD (0,0)).1
def pT (L:List (Nat × Nat)) (x:Nat):Nat:=(L[x]?.getD (0,0)).2
def tD (D:Nat→Nat→Int) (L:List (Nat × Nat)) (x:Nat):Int:=2*D (pF L x) (pT L x)
theorem edF_app {a b:Nat}:upf (edF (pF L) (pT L) (tD D L)) L.length ((a:Int),(b:Int),2*D a b)=edF (pF (L++[(a,b)])) (pT (L++[(a,b)])) (tD D (L++[(a,b)])):=by
  funext i
  unfold upf edF tD pF pT
  by_cases h:i=L.length
  · subst h; simp
  · rw [if_neg h]
    by_cases h2:i<L.length
    · rw [List.getElem?_append_left h2]
    · rw [List.getElem?_eq_none (by omega),List.getElem?_eq_none (by simp; omega)]
theorem pr_in {x:Nat} (h:x<L.length):(pF L x,pT L x)∈L:=by
  unfold pF pT
  rw [List.getElem?_eq_getElem h]
  exact List.getElem_mem h
theorem pr_at {a b:Nat} (h:(a,b)∈L):∃x,x<L.length∧pF L x=a∧pT L x=b:=by
  obtain ⟨x,hx,ex⟩:=List.mem_iff_getElem.1 h
  refine ⟨x,hx,?_,?_⟩
  · unfold pF; rw [List.getElem?_eq_getElem hx,Option.getD_some,ex]
  · unfold pT; rw [List.getElem?_eq_getElem hx,Option.getD_some,ex]
end
section
variable {n:Nat}
theorem prs_full (hev:n%2=0):∃g,MM n (prs n n).length (pF (prs n n)) (pT (prs n n)) n g∧∀v,v<n→0≤g v:=by
  classical
  have ex:∀t,∃x,2*t+1<n→x<(prs n n).length∧pF (prs n n) x=2*t∧pT (prs n n) x=2*t+1:=fun t=>by
    by_cases h:2*t+1<n
    · obtain ⟨x,hx⟩:=pr_at (prs_mem.2 (⟨by omega,by omega,h⟩:2*t<n∧2*t<2*t+1∧2*t+1<n))
      exact ⟨x,fun _=>hx⟩
    · exact ⟨0,fun h'=>(h h').elim⟩
  obtain ⟨I,hI⟩:=Classical.axiomOfChoice ex
  refine ⟨fun v=>(I (v / 2):Int),fun v hv _=>?_,fun v hv=>Int.natCast_nonneg _⟩
  obtain ⟨h1,h2,h3⟩:=hI (v / 2) (by omega)
  refine .inr ⟨I (v / 2),rfl,⟨h1,by omega,by omega⟩,by unfold ot; omega,?_⟩
  have:ot (pF (prs n n)) (pT (prs n n)) (I (v / 2)) v / 2=v / 2:=by unfold ot; omega
  show (I (ot (pF (prs n n)) (pT (prs n n)) (I (v / 2)) v / 2):Int)=_
  rw [this]
structure DenP (n:Nat) (D:Nat→Nat→Int) (mate:Nat→Nat) (total:Int) (Y:Nat→Int) (z:Nat→Int) (ln:Nat→Nat) (nd:Nat→Nat→Int) (sn:Nat):Prop where
  mt:∀v,v<n→mate v<n∧mate v≠v∧mate (mate v)=v
  tot:psum (fun v=>D (min v (mate v)) (max v (mate v))) n=2*total
  wt:Wt (n:Int) Y n z ln nd sn
  sum:wsum Y n z ln sn=2*total
  pr:∀i j:Nat,i<j→j<n→prW Y z ln nd sn (i:Int) (j:Int)≤2*D i j
theorem prs_nds:Nds n (prs n n).length (pF (prs n n)) (pT (prs n n))∧∀e,e<(prs n n).length→pF (prs n n) e<pT (prs n n) e:=by
  have h:∀e,e<(prs n n).length→pF (prs n n) e<n∧pF (prs n n) e<pT (prs n n) e∧pT (prs n n) e<n:=fun e he=>prs_mem.1 (pr_in he)
  exact ⟨fun e he=>⟨(h e he).1,(h e he).2.2⟩,fun e he=>(h e he).2.1⟩
theorem den_of {H0 Hs H':Hp} {D:Nat→Nat→Int} {R0 W Q D0:Int} {t3 yb:Nat} {σ:KS} {mp sp:OA} {mc ks sc:Nat} {bl:Nat→Nat} {S:Nat→Sl} {F:Nat→Nat→Int} (G:Gp n (prs n n).length (pF (prs n n)) (pT (prs n n)) (tD D (prs n n)) R0 W)
    (h:SoR H0 Hs H' n (prs n n).length (pF (prs n n)) (pT (prs n n)) (tD D (prs n n)) R0 Q t3 yb σ D0 mp mc sp ks sc bl S F) (hb:-4398046511104≤R0-Q∧R0+Q≤4398046511104) (hq:2*Q≤4398046511104) :
    DenP n D (mt (pF (prs n n)) (pT (prs n n)) σ.mb) (lsum (fun x=>D (pF (prs n n) x) (pT (prs n n) x)) (mls (pF (prs n n)) σ.mb n)) σ.y (fun j=>σ.z (bl j)) (fun j=>(S j).n) F ks:=by
  obtain ⟨nd,lt⟩:=prs_nds (n:=n)
  have tw2:lsum (tD D (prs n n)) (mls (pF (prs n n)) σ.mb n)=2*lsum (fun x=>D (pF (prs n n) x) (pT (prs n n) x)) (mls (pF (prs n n)) σ.mb n):=by
    generalize mls (pF (prs n n)) σ.mb n=l
    induction l with
    | nil=>rfl
    | cons x l ih=>simp only [lsum,ih,tD]; omega
  refine ⟨fun v hv=>?_,?_,h.wt G hb hq,?_,fun i j hij hj=>?_⟩
  · obtain ⟨i,e1,e2,e3,e4,e5,e6⟩:=h.inv.mm.en hv (by omega) (h.all v hv)
    exact ⟨h.inv.mm.ltN nd hv (h.all v hv),by rw [e3]; exact fun hh=>e2.ne hh,e6⟩
  · rw [←mls_twice (f:=fun x=>D (pF (prs n n) x) (pT (prs n n) x)) nd h.inv.mm h.all]
    refine psum_congr fun v hv=>?_
    obtain ⟨i,e1,e2,e3,_⟩:=h.inv.mm.en hv (by omega) (h.all v hv)
    have hl:=lt i e2.1
    have h22:=e2.2.2
    rw [e3,e1,tN]
    have a1:min v (ot (pF (prs n n)) (pT (prs n n)) i v)=pF (prs n n) i:=by unfold ot; omega
    have a2:max v (ot (pF (prs n n)) (pT (prs n n)) i v)=pT (prs n n) i:=by unfold ot; omega
    rw [a1,a2]
  · rw [h.cost G,tw2]
  · obtain ⟨x,hx,ex,ey⟩:=pr_at (prs_mem.2 (⟨by omega,hij,hj⟩:i<n∧i<j∧j<n))
    rw [h.pr (by omega) hj]
    have:=h.inv.du.fs x hx
    rw [ex,ey] at this
    have e2:tD D (prs n n) x=2*D i j:=by unfold tD; rw [ex,ey]
    omega
end
def Sqr (n:Nat) (dl:Nat→Sl):Prop:=n≤1024∧∀i,i<n→(dl i).n=n
def Rng (n:Nat) (D:Nat→Nat→Int):Prop:=∀i j,i<j→j<n→-2147483648≤D i j∧D i j≤2147483648
open Classical in
noncomputable def tblC (n:Nat) (dl:Nat→Sl) (D:Nat→Nat→Int):Int:=if ¬Sqr n dl then 3 else if ¬Rng n D then 31 else if n%2=1 then 170 else 0
section
variable {n:Nat} {dl:Nat→Sl} {D:Nat→Nat→Int}
theorem tbl3 (h:¬Sqr n dl):tblC n dl D=3:=by unfold tblC; rw [if_pos h]
theorem tbl31 (h:Sqr n dl) (h':¬Rng n D):tblC n dl D=31:=by unfold tblC; rw [if_neg fun hh=>hh h,if_pos h']
theorem tbl170 (h:Sqr n dl) (h':Rng n D) (ho:n%2=1):tblC n dl D=170:=by unfold tblC; rw [if_neg fun hh=>hh h,if_neg fun hh=>hh h',if_pos ho]
theorem tbl0 (h:Sqr n dl) (h':Rng n D) (ho:n%2≠1):tblC n dl D=0:=by unfold tblC; rw [if_neg fun hh=>hh h,if_neg fun hh=>hh h',if_neg ho]
end
end Go.Mz
/-
  Walks of layer 18: Dense.
-/
namespace Go.Mz
structure TabR (H:Hp) (dp:OA) (dn:Nat) (dl:Nat→Sl) (row:Nat→Nat→Int):Prop where
  d:Rdr H dp dn dl
  r:∀i,i<dn→Rdr H (dl i).p (dl i).n (row i)∧(dl i).n<2 ^ 63
theorem TabR.keep {H H':Hp} {dp:OA} {dn:Nat} {dl:Nat→Sl} {row:Nat→Nat→Int} (h:TabR H dp dn dl row) (s:Step (fun _=>False) H H'):TabR H' dp dn dl row:=
  ⟨h.d.keep s fun _ _ _ h=>h,fun i hi=>⟨(h.r i hi).1.keep s fun _ _ _ h=>h,(h.r i hi).2⟩⟩
section
variable {dp:OA} {dn dc:Nat} {dl:Nat→Sl} {row:Nat→Nat→Int} {E:VP} {H:Hp}
theorem tdiv2 {x:Int} (h:-9223372036854775808≤x) (h':x≤9223372036854775807):IntKind.wrap .i64 (Int.tdiv (2*x) 2)=x:=by
  rw [Int.mul_tdiv_cancel_left _ (by decide),i64w h h']
theorem pden4 {mb b1:Nat} {mc:Nat} {mp ep:OA} {ne ec:Nat} {fr to:Nat→Nat} {D:Nat→Int} {b:Nat→Int} {n:Nat} {K:OA→Nat→Nat→OA→Nat→Nat→OA→Nat→Nat→Int→Int→Hp→Prop}
    (hn:n≤1024) (hN:Nds n ne fr to) (hm:MM n ne fr to n b) (hall:∀v,v<n→0≤b v) (hD:∀e,e<ne→-2147483648≤D e∧D e≤2147483648)
    (rm:Row H (some ⟨mb,0,none⟩) n n (fun _=>(0:Int))) (he:Rdr H ep ne (edF fr to (fun e=>2*D e))) (hmp:Rdr H mp (mls fr b n).length (lsF (mls fr b n))) (d1:0<ne→¬fpS ep mb) (d2:0<(mls fr b n).length→¬fpS mp mb) (hne:ne<2 ^ 60)
    (kk:∀H',Step (·=mb) H H'→Row H' (some ⟨mb,0,none⟩) n n (fun v=>(mt fr to b v:Int))→Q8.j5 (some ⟨mb,0,none⟩) n n b1 (lsum D (mls fr b n)) E H' K) :
    Q8.l4 (some ⟨mb,0,none⟩) n n b1 0 ep ne ec mp (mls fr b n).length mc ((mls fr b n).length:Int) 0 E H K:=by
  have hlen:=mls_len (fr:=fr) (mb:=b) n
  have hel:∀{x:Nat},x∈mls fr b n→x<ne∧fr x≠to x∧b (fr x)=(x:Int)∧b (to x)=(x:Int):=fun {x} hx=>by
    obtain ⟨v,hv,e1,e2⟩:=mls_mem.1 hx
    obtain ⟨i,a1,a2,a3,_,a5,_⟩:=hm.en hv (by omega) (hall v hv)
    have:i=x:=by omega
    subst this
    have ho:mt fr to b v=to i:=by rw [a3]; unfold ot; omega
    rw [ho] at a5
    exact ⟨a2.1,a2.2.1,by rw [e2]; exact a1,a5⟩
  refine Q8.l4_rule (fun ma mn mcc d3 to4 ed9 en ecc tp tn tc t87 t88 H1=>ma=some ⟨mb,0,none⟩∧mn=n∧mcc=n∧d3=b1∧ed9=ep∧en=ne∧tp=mp∧tn=(mls fr b n).length∧t87=((mls fr b n).length:Int)∧∃(i:Nat) (f:Nat→Int),t88=i∧i≤(mls fr b n).length∧to4=lsum D ((mls fr b n).take i)∧-2147483648*(i:Int)≤to4∧to4≤2147483648*(i:Int)∧Row H1 (some ⟨mb,0,none⟩) n n f∧(∀x∈(mls fr b n).take i,f (fr x)=(to x:Int)∧f (to x)=(fr x:Int))∧Step (·=mb) H H1)
    (fun _ _ _ _ _ _ _ _ _ _ _ _ t88 _=>(mls fr b n).length-t88.toNat) ?_ ⟨rfl,rfl,rfl,rfl,rfl,rfl,rfl,rfl,rfl,0,_,rfl,Nat.zero_le _,rfl,by omega,by omega,rm,fun x hx=>(by simp at hx),.refl⟩
  rintro ma mn mcc d3 to4 ed9 en ecc tp tn tc t87 t88 H1 ⟨rfl,rfl,rfl,rfl,rfl,rfl,rfl,rfl,rfl,i,f,rfl,hi,hto,ht0,ht1,r1,hf,s1⟩ X1 hX
  refine Q8.b4_eq ?_
  unfold Q8.b4_t
  refine bc (fun hl=>?_) fun hge=>?_
  · have hl:i<(mls fr b mcc).length:=by omega
    have hx:=hel (List.getElem_mem hl)
    obtain ⟨x0,x1,x2,x3⟩:=hx
    have hnd:=hN _ x0
    have hDx:=hD _ x0
    refine (hmp.keep s1 fun y hy _ hh=>d2 (by omega) (hh▸hy)).ixI (by omega) (by omega) ?_
    rw [tN,lsF_get hl]
    refine (he.keep s1 fun y hy _ hh=>d1 (by omega) (hh▸hy)).ix3 (by omega) (by omega) fun b2 o2 g1 g2 g3=>?_
    rw [tN] at g1 g2 g3
    rw [g1,g2,g3]
    simp only [ldI_mk]
    refine nwst rfl rfl fun b3 H2 hb3 e3 s2=>?_
    have r2:=r1.keep s2 fun _ _ h=>h
    have ne3:b3≠mb:=fun hh=>r1.live ⟨0,rfl⟩ (hh▸hb3)
    simp only [get_at e3,gZ,gS,ldI_mk]
    refine r2.stI (by show (0:Int)≤((fr (mls fr b mcc)[i]:Nat):Int); omega) (by show ((fr (mls fr b mcc)[i]:Nat):Int)<_; omega) _ fun H3 r3 s3=>?_
    have e33:=s3.keep _ _ e3 fun hh=>ne3 (fp1 hh)
    simp only [get_at e33,gZ,gS,ldI_mk,true_and]
    refine r3.stI (by show (0:Int)≤((to (mls fr b mcc)[i]:Nat):Int); omega) (by show ((to (mls fr b mcc)[i]:Nat):Int)<_; omega) _ fun H4 r4 s4=>?_
    have e34:=s4.keep _ _ e33 fun hh=>ne3 (fp1 hh)
    simp only [get_at e34,gZ,gS,ldI_mk]
    refine ⟨by decide,?_⟩
    show X1 (Q8.f4 _ _ _ _ (IntKind.wrap .i64 (to4+IntKind.wrap .i64 (Int.tdiv (2*D (mls fr b mcc)[i]) 2))) _ _ _ _ _ _ _ _) _
    rw [tdiv2 (by omega) (by omega),i64w (n:=to4+D (mls fr b mcc)[i]) (by omega) (by omega),i64w (by omega) (by omega)]
    have s14:Step (·=mb) H H4:=((s1.trans s2 fun _ h=>h.elim).trans s3 fun y hy=>.inl (fp1 hy)).trans s4 fun y hy=>.inl (fp1 hy)
    refine hX _ _ _ _ _ _ _ _ _ _ _ _ _ _ ⟨rfl,rfl,rfl,rfl,rfl,rfl,rfl,rfl,rfl,i+1,_,by omega,by omega,?_,by omega,by omega,r4,fun x hx=>?_,s14⟩ (by omega)
    · rw [List.take_succ_eq_append_getElem hl,lsum_app,←hto]
      simp [lsum]
    · rw [List.take_succ_eq_append_getElem hl,List.mem_append,List.mem_singleton] at hx
      show upf (upf f ((fr (mls fr b mcc)[i]:Nat):Int).toNat ((to (mls fr b mcc)[i]:Nat):Int)) ((to (mls fr b mcc)[i]:Nat):Int).toNat ((fr (mls fr b mcc)[i]:Nat):Int) (fr x)=_∧upf (upf f ((fr (mls fr b mcc)[i]:Nat):Int).toNat ((to (mls fr b mcc)[i]:Nat):Int)) ((to (mls fr b mcc)[i]:Nat):Int).toNat ((fr (mls fr b mcc)[i]:Nat):Int) (to x)=_
      rw [tN,tN]
      by_cases ex:x=(mls fr b mcc)[i]
      · rw [←ex] at x1 ⊢
        rw [upf_ne x1,upf_same,upf_same]
        exact ⟨rfl,rfl⟩
      · rcases hx with hx | hx
        · obtain ⟨y0,y1,y2,y3⟩:=hel (List.mem_of_mem_take hx)
          have n1:fr x≠fr (mls fr b mcc)[i]:=fun hh=>ex (by rw [hh] at y2; omega)
          have n2:fr x≠to (mls fr b mcc)[i]:=fun hh=>ex (by rw [hh] at y2; omega)
          have n3:to x≠fr (mls fr b mcc)[i]:=fun hh=>ex (by rw [hh] at y3; omega)
          have n4:to x≠to (mls fr b mcc)[i]:=fun hh=>ex (by rw [hh] at y3; omega)
          rw [upf_ne n2,upf_ne n1,upf_ne n4,upf_ne n3]
          exact hf x hx
        · exact (ex hx).elim
  · have:i=(mls fr b mcc).length:=by omega
    subst this
    rw [List.take_length] at hto hf
    rw [hto]
    refine kk H1 s1 (r1.congr fun v hv=>?_)
    obtain ⟨j,e1,e2,e3,_⟩:=hm.en hv (by omega) (hall v hv)
    have hjm:j∈mls fr b mcc:=mls_mem.2 ⟨fr j,(hN j e2.1).1,by
      rcases e2.2.2 with h | h
      · rw [←h,e1,tN]
      · have:=(hm.en hv (by omega) (hall v hv))
        obtain ⟨j',f1,f2,f3,f4,f5,_⟩:=this
        have:j'=j:=by omega
        subst this
        have ho:mt fr to b v=fr j':=by rw [f3]; unfold ot; omega
        rw [←ho,f5,tN],rfl⟩
    obtain ⟨q1,q2⟩:=hf j hjm
    rw [e3]
    rcases e2.2.2 with h | h
    · rw [h,q1]; congr 1; unfold ot; omega
    · rw [h,q2]; congr 1; unfold ot; omega
end
end Go.Mz
/-
  Walks of layer 18: Dense, whole.
-/
namespace Go.Mz
structure DenR (H':Hp) (n:Nat) (D:Nat→Nat→Int) (mate:Nat→Nat) (total:Int) (mp:OA) (yb:Nat) (Y:Nat→Int) (sp:OA) (ks:Nat) (z:Nat→Int) (S:Nat→Sl) (F:Nat→Nat→Int):Prop where
  den:DenP n D mate total Y z (fun j=>(S j).n) F ks
  mr:Rdr H' mp n (fun v=>(mate v:Int))
  du:DualR H' (some ⟨yb,0,none⟩) n sp ks Y z S F
theorem DenR.keep {H' H'':Hp} {n:Nat} {D:Nat→Nat→Int} {mate:Nat→Nat} {total:Int} {mp:OA} {yb:Nat} {Y:Nat→Int} {sp:OA} {ks:Nat} {z:Nat→Int} {S:Nat→Sl} {F:Nat→Nat→Int} (h:DenR H' n D mate total mp yb Y sp ks z S F) (s:Step (fun _=>False) H' H''):DenR H'' n D mate total mp yb Y sp ks z S F:=
  ⟨h.den,h.mr.keep s fun _ _ _ h=>h,h.du.keep s⟩
section
variable {dp:OA} {dn dc:Nat} {dl:Nat→Sl} {row:Nat→Nat→Int} {E:VP} {H:Hp}
theorem pdenj4 {b1:Nat} {ep:OA} {ec:Nat} {K:OA→Nat→Nat→OA→Nat→Nat→OA→Nat→Nat→Int→Int→Hp→Prop} (hs:Sqr dn dl) (hg:Rng dn row)
    (e1:H b1=some ⟨[.slice none 0 0,.slice none 0 0],30⟩) (re:Row H ep (prs dn dn).length ec (edF (pF (prs dn dn)) (pT (prs dn dn)) (tD row (prs dn dn)))) (nep:¬fpS ep b1)
    (kbad:∀H',Step (·=b1) H H'→dn%2=1→K none 0 0 none 0 0 none 0 0 0 170 H')
    (kok:∀H' mp mate total yb Y sp ks sc z S F,Step (·=b1) H H'→dn%2=0→DenR H' dn row mate total mp yb Y sp ks z S F→K mp dn dn (some ⟨yb,0,none⟩) dn dn sp ks sc total 0 H') :
    Q8.j4 b1 0 (dn:Int) ep (prs dn dn).length ec E H K:=by
  have hn:=hs.1
  obtain ⟨nd,lt⟩:=prs_nds (n:=dn)
  have hlen:(prs dn dn).length≤1048576:=Nat.le_trans (prs_len (n:=dn) (k:=dn)) (Nat.mul_le_mul hn hn)
  have hD:∀e,e<(prs dn dn).length→-2147483648≤row (pF (prs dn dn) e) (pT (prs dn dn) e)∧row (pF (prs dn dn) e) (pT (prs dn dn) e)≤2147483648:=fun e he=>hg _ _ (lt e he) (nd e he).2
  have hodd:Int.tmod (dn:Int) 2=((dn%2:Nat):Int):=rfl
  refine Q8.j4_eq ?_
  unfold Q8.j4_t
  refine ⟨by decide,?_⟩
  rw [hodd]
  refine bc (fun ho=>?_) fun he=>?_
  · simp only [get_at e1,gZ,gS,ldI_mk,ldS_mk]
    refine stk e1 rfl rfl fun H2 e2 s2=>?_
    simp only [get_at e2,gZ,gS,ldI_mk,ldS_mk]
    exact kbad H2 s2 (by omega)
  · have hev:dn%2=0:=by omega
    obtain ⟨g0,hg0,hg1⟩:=prs_full hev
    refine pnew (W:=4294967296) re.rdr hn (by omega) nd (fun e he=>Nat.ne_of_lt (lt e he)) (fun e he=>by show (2*row _ _)%2=0; omega) (fun e he=>by have:=hD e he; show _≤2*row _ _; omega) (fun e he=>by have:=hD e he; show 2*row _ _≤_; omega) (by decide) fun H1 Y X R0 hep h1 G hz hlo hr0=>?_
    have hR0:-2147483648≤R0∧R0≤2147483648:=by
      rcases Nat.eq_zero_or_pos (prs dn dn).length with h0 | h0
      · rw [hz h0]; omega
      · have a1:=hlo (-4294967296) (fun j hj=>by have:=hD j hj; show _≤2*row _ _; omega) h0
        have a2:=G.lo 0 h0
        have a3:=G.hi 0 h0
        omega
    have hB:Bdq dn R0 4294967296 2199023255552:=⟨by omega,by decide,by decide,by
      have h1:(4294967296-2*R0)*(dn:Int)≤8589934592*(dn:Int):=Int.mul_le_mul_of_nonneg_right (by omega) (by omega)
      omega⟩
    refine psolve h1 G hg0 hg1 hB (by decide) hev fun Hs H2 t3 σ D mp mc sp ks sc bl S F hS=>?_
    have e12:=hS.st.keep _ _ e1 fun h=>h
    have lv:∀{y x},H y=some x→H y≠none:=fun h=>by rw [h]; simp
    refine stk e12 rfl rfl fun H3 e3 s3=>?_
    refine Row.mkI (by omega) (by omega) fun mb H4 hmb rm s4=>?_
    rw [tN] at rm ⊢
    have e34:=s4.keep _ _ e3 fun h=>h
    have s24:Step (·=b1) H2 H4:=s3.trans s4 fun _ h=>h.elim
    have s04:Step (·=b1) H H4:=(hS.st.weak fun _ h=>h.elim).trans s24 fun y hy=>.inl hy
    have nmb:b1≠mb:=fun e=>by rw [←e,e3] at hmb; cases hmb
    have nmp:¬fpS mp b1:=fun hh=>lv e1 (hS.f1 _ hh).1
    have re4:Rdr H4 ep (prs dn dn).length (edF (pF (prs dn dn)) (pT (prs dn dn)) (fun e=>2*row (pF (prs dn dn) e) (pT (prs dn dn) e))):=re.rdr.keep s04 fun y hy _ hh=>nep (hh▸hy)
    have rm4:=hS.rm.keep s24 fun y hy hh=>nmp (hh▸hy)
    refine pden4 (D:=fun e=>row (pF (prs dn dn) e) (pT (prs dn dn) e)) hn nd hS.inv.mm hS.all hD rm re4 rm4.rdr (fun _ hh=>(((re.keep hS.st fun _ _ h=>h).keep s3 fun y hy hh=>nep (hh▸hy)).live hh) hmb) (fun _ hh=>((hS.rm.keep s3 fun y hy hh=>nmp (hh▸hy)).live hh) hmb) (by omega) fun H5 s5 r5=>?_
    have e35:=s5.keep _ _ e34 nmb
    refine Q8.j5_eq ?_
    unfold Q8.j5_t
    simp only [get_at e35,gZ,gS,ldI_mk,ldS_mk]
    refine stk e35 rfl rfl fun H6 e6 s6=>?_
    simp only [get_at e6,gZ,gS,ldI_mk,ldS_mk]
    have hH3:∀y,H y=none→y=b1→False:=fun y hy e=>lv e1 (e▸hy)
    have s26:Step (fun y=>y=b1∨y=mb) H2 H6:=((s24.weak fun _ h=>.inl (.inl h)).trans s5 fun y hy=>.inl (.inr hy)).trans s6 fun y hy=>.inl (.inl hy)
    have mb2:H2 mb=none:=s3.none_at hmb
    have keepR:∀{α:Type} [El α] {p:OA} {k c:Nat} {f:Nat→α},Row H2 p k c f→(∀y,fpS p y→H y=none)→Row H6 p k c f:=fun r hf=>r.keep s26 fun y hy hh=>hh.elim (fun e=>hH3 y (hf y hy) e) fun e=>r.live hy (e▸mb2)
    refine kok H6 (some ⟨mb,0,none⟩) (mt (pF (prs dn dn)) (pT (prs dn dn)) σ.mb) _ Y.yb σ.y sp ks sc _ S F ?_ hev ⟨den_of G hS (by omega) (by decide),(r5.keep s6 fun y hy hh=>nmb ((fp1 hy).symm.trans hh).symm).rdr,⟨(keepR hS.ry fun y hy=>(fp1 hy)▸hS.f2).rdr,(keepR hS.set.rs fun y hy=>(hS.f3 y hy).1).rdr,fun j hj=>⟨(keepR (hS.set.each j hj).2.1 fun y hy=>(hS.f4 j hj y hy).1).rdr,?_⟩⟩⟩
    · exact (s04.trans s5 fun y hy=>.inr (hS.st.none_at (hy▸mb2))).trans s6 fun y hy=>.inl hy
    · have:=(hS.wt G (by omega) (by decide)).sets j hj
      have:=this.2.2.len
      omega
theorem pden2 {b1:Nat} {K:OA→Nat→Nat→OA→Nat→Nat→OA→Nat→Nat→Int→Int→Hp→Prop} (hd:TabR H dp dn dl row) (hs:Sqr dn dl)
    (e1:H b1=some ⟨[.slice none 0 0,.slice none 0 0],30⟩) (nb1:H b1≠none)
    (dnb:0<dn→¬fpS dp b1) (rnb:∀i,i<dn→0<dn→¬fpS (dl i).p b1)
    (kbad:∀H' c,Step (·=b1) H H'→¬Rng dn row∧c=31∨Rng dn row∧dn%2=1∧c=170→K none 0 0 none 0 0 none 0 0 0 c H')
    (kok:∀H' mp mate total yb Y sp ks sc z S F,Step (·=b1) H H'→Rng dn row→dn%2=0→DenR H' dn row mate total mp yb Y sp ks z S F→K mp dn dn (some ⟨yb,0,none⟩) dn dn sp ks sc total 0 H') :
    Q8.l2 b1 0 (dn:Int) none 0 0 dp dn dc (dn:Int) 0 E H K:=by
  have hn:=hs.1
  have lv:∀{H':Hp} {y x},H' y=some x→H' y≠none:=fun h=>by rw [h]; simp
  have stop:∀{H'} {X1 X2},Step (fun _=>False) H H'→¬Rng dn row→Q8.j2 b1 X1 X2 E H' K:=fun {H'} {X1 X2} s h=>by
    have e2:=s.keep _ _ e1 fun h=>h
    refine Q8.j2_eq ?_
    unfold Q8.j2_t
    simp only [get_at e2,gZ,gS,ldI_mk,ldS_mk]
    refine stk e2 rfl rfl fun H3 e3 s3=>?_
    simp only [get_at e3,gZ,gS,ldI_mk,ldS_mk]
    exact kbad H3 31 ((s.weak fun _ h=>h.elim).trans s3 fun _ h=>.inl h) (.inl ⟨h,rfl⟩)
  refine Q8.l2_rule (fun d3 to4 n6 p9 n9 c9 tp tn tc t35 t36 H1=>d3=b1∧to4=0∧n6=(dn:Int)∧tp=dp∧tn=dn∧t35=(dn:Int)∧∃i:Nat,t36=i∧i≤dn∧n9=(prs dn i).length∧Step (fun _=>False) H H1∧Row H1 p9 (prs dn i).length c9 (edF (pF (prs dn i)) (pT (prs dn i)) (tD row (prs dn i)))∧(∀y,fpS p9 y→H y=none)∧∀a b,a<i→a<b→b<dn→-2147483648≤row a b∧row a b≤2147483648)
    (fun _ _ _ _ _ _ _ _ _ _ t36 _=>dn-t36.toNat) ?_ ⟨rfl,rfl,rfl,rfl,rfl,rfl,0,rfl,Nat.zero_le _,rfl,.refl,.nil,fun y hy=>by rw [fpS_none] at hy; exact hy.elim,fun a b h=>by omega⟩
  rintro d3 to4 n6 p9 n9 c9 tp tn tc t35 t36 H1 ⟨rfl,rfl,rfl,rfl,ht,rfl,i,rfl,hi,rfl,s1,r1,f1,hr1⟩ X1 hX
  subst ht
  refine Q8.b2_eq ?_
  unfold Q8.b2_t
  refine bc (fun hl=>?_) fun hge=>?_
  · have hl:i<tn:=by omega
    refine (hd.keep s1).d.ixS (by omega) (by omega) ?_
    rw [tN,i64w (by omega) (by omega)]
    have hrow:=hd.r i hl
    have hrn:(dl i).n=tn:=hs.2 i hl
    rw [hrn] at hrow ⊢
    refine Q8.l3_rule (fun d3' to4 n6 p9 n9 c9 i10 p11 n11 c11 j12 tp' tn' tc' t35 t36 H2=>d3'=d3∧to4=0∧n6=(tn:Int)∧i10=(i:Int)∧p11=(dl i).p∧n11=tn∧tp'=tp∧tn'=tn∧t35=(tn:Int)∧t36=(i:Int)∧∃t:Nat,j12=((i+1+t:Nat):Int)∧i+1+t≤tn∧n9=(prs tn i++prj i t).length∧Step (fun _=>False) H H2∧Row H2 p9 (prs tn i++prj i t).length c9 (edF (pF (prs tn i++prj i t)) (pT (prs tn i++prj i t)) (tD row (prs tn i++prj i t)))∧(∀y,fpS p9 y→H y=none)∧∀b,i<b→b<i+1+t→-2147483648≤row i b∧row i b≤2147483648)
      (fun _ _ _ _ _ _ _ _ _ _ j12 _ _ _ _ _ _=>tn-j12.toNat) ?_ ⟨rfl,rfl,rfl,rfl,rfl,rfl,rfl,rfl,rfl,rfl,0,rfl,by omega,by simp [prj],s1,by simpa [prj] using r1,f1,fun b h1 h2=>by omega⟩
    clear r1 f1
    rintro d3' to4 n6 p9 n9 c9 i10 p11 n11 c11 j12 tp' tn' tc' t35 t36 H2 ⟨rfl,rfl,rfl,rfl,rfl,hn11,rfl,htn',rfl,rfl,t,rfl,ht,rfl,s2,r2,f2,hr2⟩ X2 hX2
    subst hn11
    subst htn'
    have hlen:(prs tn' i++prj i t).length≤1048575:=by
      have h1:=prs_len (n:=tn') (k:=i)
      have h2:i*tn'≤1023*1024:=Nat.mul_le_mul (by omega) hn
      have h3:(prj i t).length=t:=by simp [prj]
      rw [List.length_append]
      omega
    refine Q8.b3_eq ?_
    unfold Q8.b3_t
    have rr:∀{H'},Step (fun _=>False) H H'→Rdr H' (dl i).p tn' (row i):=fun s=>hrow.1.keep s fun _ _ _ h=>h
    refine bc (fun hl2=>?_) fun hge2=>?_
    · have hl2:i+1+t<tn':=by omega
      refine (rr s2).ixI (by omega) (by omega) ?_
      rw [tN]
      refine bc (fun hlow=>stop s2 fun hh=>by have:=hh i (i+1+t) (by omega) hl2; omega) fun hlow=>?_
      refine (rr s2).ixI (by omega) (by omega) ?_
      rw [tN]
      refine bc (fun hhi=>stop s2 fun hh=>by have:=hh i (i+1+t) (by omega) hl2; omega) fun hhi=>?_
      refine (rr s2).ixI (by omega) (by omega) ?_
      rw [tN,i64w (n:=2*row i (i+1+t)) (by omega) (by omega)]
      refine Row.app3 r2 _ _ _ (by omega) fun p3 c3 H4 r4 s4 f4=>?_
      have hr4:Row H4 p3 ((prs tn' i++prj i t).length+1) c3 (edF (pF (prs tn' i++prj i (t+1))) (pT (prs tn' i++prj i (t+1))) (tD row (prs tn' i++prj i (t+1)))):=by
        rw [prj_succ,←List.append_assoc,←edF_app]; exact r4
      have hlen':(prs tn' i++prj i (t+1)).length=(prs tn' i++prj i t).length+1:=by rw [prj_succ,←List.append_assoc]; exact List.length_append
      rw [i64w (by omega) (by omega)]
      refine hX2 _ _ _ _ _ _ _ _ _ _ _ _ _ _ _ _ _ ⟨rfl,rfl,rfl,rfl,rfl,rfl,rfl,rfl,rfl,rfl,t+1,by omega,by omega,hlen'.symm,s2.own s4 f2,by rw [hlen']; exact hr4,fun y hy=>?_,fun b h1 h2=>?_⟩ (by omega)
      · rcases f4 y hy with hh | hh
        · exact f2 y hh
        · exact s2.none_at hh
      · by_cases eb:b=i+1+t
        · subst eb; omega
        · exact hr2 b h1 (by omega)
    · have ht':t=tn'-(i+1):=by omega
      subst ht'
      refine Q8.j3_eq ?_
      unfold Q8.j3_t
      rw [i64w (by omega) (by omega)]
      refine hX _ _ _ _ _ _ _ _ _ _ _ _ ⟨rfl,rfl,rfl,rfl,rfl,rfl,i+1,by omega,by omega,rfl,s2,r2,f2,fun a b h1 h2 h3=>?_⟩ (by omega)
      by_cases ea:a=i
      · subst ea; exact hr2 b h2 (by omega)
      · exact hr1 a b (by omega) h2 h3
  · have:i=tn:=by omega
    subst this
    have hg:Rng i row:=fun a b h1 h2=>hr1 a b (by omega) h1 h2
    refine pdenj4 hs hg (s1.keep _ _ e1 fun h=>h) r1 (fun hh=>nb1 (f1 _ hh)) (fun H' s h=>kbad H' 170 (s1.weak (fun _ h=>h.elim) |>.trans s fun _ h=>.inl h) (.inr ⟨hg,h,rfl⟩)) fun H' mp mate total yb Y sp ks sc z S F s h hR=>kok H' mp mate total yb Y sp ks sc z S F (s1.weak (fun _ h=>h.elim) |>.trans s fun _ h=>.inl h) hg h hR
theorem pDense {K:OA→Nat→Nat→OA→Nat→Nat→OA→Nat→Nat→Int→Int→Hp→Prop} (hd:TabR H dp dn dl row) (hdn:dn<2 ^ 63)
    (kbad:∀H',Step (fun _=>False) H H'→tblC dn dl row≠0→K none 0 0 none 0 0 none 0 0 0 (tblC dn dl row) H')
    (kok:∀H' mp mate total yb Y sp ks sc z S F,Step (fun _=>False) H H'→tblC dn dl row=0→DenR H' dn row mate total mp yb Y sp ks z S F→K mp dn dn (some ⟨yb,0,none⟩) dn dn sp ks sc total 0 H') :
    Q8.call dp dn dc E H K:=by
  refine Q8.of (Q8.run_eq ?_)
  unfold Q8.run_t
  refine nwk fun b1 H1 hb1 e1 s1=>?_
  have w1:∀{H'},Step (·=b1) H1 H'→Step (fun _=>False) H H':=fun s=>s1.own s fun y hy=>hy▸hb1
  have bad3:¬Sqr dn dl→K none 0 0 none 0 0 none 0 0 0 3 (Hp.upd H1 b1 ⟨[.slice none 0 0,.slice none 0 0],30⟩)→True:=fun _ _=>trivial
  have three:∀(H':Hp),Step (fun _=>False) H1 H'→¬Sqr dn dl→ldS (H'.get b1 0) fun x_2p x_2n x_2c=>ldS (H'.get b1 1) fun x_3p x_3n x_3c=>stC H' b1 0 [.slice x_2p x_2n x_2c,.slice x_3p x_3n x_3c] fun H_1=>ldS (H_1.get b1 0) fun x_4p x_4n x_4c=>ldS (H_1.get b1 1) fun x_5p x_5n x_5c=>K none 0 0 x_4p x_4n x_4c x_5p x_5n x_5c 0 3 H_1:=fun H' s h=>by
    have e2:=s.keep _ _ e1 fun h=>h
    simp only [get_at e2,gZ,gS,ldI_mk,ldS_mk]
    refine stk e2 rfl rfl fun H3 e3 s3=>?_
    simp only [get_at e3,gZ,gS,ldI_mk,ldS_mk]
    have e4:tblC dn dl row=3:=tbl3 h
    have:=kbad H3 (w1 ((s.weak fun _ h=>h.elim).trans s3 fun _ h=>.inl h)) (by rw [e4]; decide)
    rwa [e4] at this
  clear bad3
  refine bc (fun hgt=>three H1 .refl fun hh=>by have:=hh.1; omega) fun hle=>?_
  refine Q8.l1_rule (fun dip din dic d3 to4 n6 tp tn tc t23 t24 H2=>dip=dp∧din=dn∧d3=b1∧to4=0∧n6=(dn:Int)∧tp=dp∧tn=dn∧t23=(dn:Int)∧H2=H1∧∃i:Nat,t24=i∧i≤dn∧∀a,a<i→(dl a).n=dn)
    (fun _ _ _ _ _ _ _ _ _ _ t24 _=>dn-t24.toNat) ?_ ⟨rfl,rfl,rfl,rfl,rfl,rfl,rfl,rfl,rfl,0,rfl,Nat.zero_le _,fun a h=>by omega⟩
  rintro dip din dic d3 to4 n6 tp tn tc t23 t24 H2 ⟨rfl,hdin,rfl,rfl,rfl,rfl,htn,rfl,rfl,i,rfl,hi,hall⟩ X1 hX
  subst hdin
  subst htn
  refine Q8.b1_eq ?_
  unfold Q8.b1_t
  have hd1:=hd.keep s1
  refine bc (fun hl=>?_) fun hge=>?_
  · have hl:i<tn:=by omega
    refine hd1.d.ixS (by omega) (by omega) ?_
    rw [tN]
    have hrn:=(hd.r i hl).2
    refine bcn (fun hne=>three _ .refl fun hh=>by have:=hh.2 i hl; omega) fun heq=>?_
    rw [i64w (by omega) (by omega)]
    refine hX _ _ _ _ _ _ _ _ _ _ _ _ ⟨rfl,rfl,rfl,rfl,rfl,rfl,rfl,rfl,rfl,i+1,by omega,by omega,fun a ha=>?_⟩ (by omega)
    by_cases ea:a=i
    · subst ea; omega
    · exact hall a (by omega)
  · have:i=tn:=by omega
    subst this
    have hs:Sqr i dl:=⟨by omega,hall⟩
    refine Q8.j1_eq ?_
    unfold Q8.j1_t
    refine pden2 hd1 hs e1 (by rw [e1]; simp) (fun h0 hh=>hd.d.live hh h0 hb1) (fun a ha h0 hh=>(hd.r a ha).1.live hh (by rw [hall a ha]; exact h0) hb1) (fun H' c s h=>?_) fun H' mp mate total yb Y sp ks sc z S F s hg h hR=>?_
    · rcases h with ⟨h1,rfl⟩ | ⟨h1,h2,rfl⟩
      · have e4:=tbl31 hs h1
        have:=kbad H' (w1 s) (by rw [e4]; decide)
        rwa [e4] at this
      · have e4:=tbl170 hs h1 h2
        have:=kbad H' (w1 s) (by rw [e4]; decide)
        rwa [e4] at this
    · exact kok H' mp mate total yb Y sp ks sc z S F (w1 s) (tbl0 hs hg (by omega)) hR
end
end Go.Mz
/-
  Matchings in any graph, in plain words: lists of edges and matchings; edges that bear other numbers; rising lists with the same elements. No program in sight.
-/
namespace Go.Mz
theorem dg_two {e:Nat→Edg} {m:Nat→Int} {v:Int} {i j k:Nat} (hij:i<j) (hj:j<k) (hi':(e (m i).toNat).fr=v∨(e (m i).toNat).to=v) (hj':(e (m j).toNat).fr=v∨(e (m j).toNat).to=v):2≤dg e m k v:=by
  have one:∀t,((e (m t).toNat).fr=v∨(e (m t).toNat).to=v)→dg e m t v+1≤dg e m (t+1) v:=fun t ht=>by
    show dg e m t v+1≤dg e m t v+(if _ then 1 else 0)+(if _ then 1 else 0)
    rcases ht with ht | ht
    · rw [if_pos ht]; omega
    · rw [if_pos ht]; omega
  have h1:=one i hi'
  have h2:=one j hj'
  have h3:=dg_mono (e:=e) (m:=m) (v:=v) (j:=i+1) (k:=j) (by omega)
  have h4:=dg_mono (e:=e) (m:=m) (v:=v) (j:=j+1) (k:=k) (by omega)
  omega
section
variable {M n:Nat} {e:Nat→Edg}
theorem psum_cnt {p:Nat→Bool}:∀{N:Nat},psum (fun v=>if p v=true then 1 else 0) N=(cnt p N:Int)
  | 0=>rfl
  | N+1=>by
    show psum _ N+(if p N=true then (1:Int) else 0)=((cnt p N+(if p N=true then 1 else 0):Nat):Int)
    rw [psum_cnt]
    by_cases h:p N=true
    · rw [if_pos h,if_pos h]; omega
    · rw [if_neg h,if_neg h]; omega
theorem Tkn.mm5 (hr:Right (M:Int) n e) {m:Nat→Int} {k:Nat} (h:Tkn (M:Int) n e m k fun _=>1):∃b',MM M n (ef e) (et e) M b'∧cnt (fun v=>decide (b' v=-1)) M+2*k=M∧(∀v,v<M→(b' v=-1↔dg e m k (v:Int)=0))∧(∀v,v<M→∀j,j<k→((e (m j).toNat).fr=(v:Int)∨(e (m j).toNat).to=(v:Int))→b' v=m j)∧∀v,v<M→b' v=-1∨∃j,j<k∧b' v=m j:=by
  classical
  let At:Nat→Nat→Prop:=fun v j=>j<k∧((e (m j).toNat).fr=(v:Int)∨(e (m j).toNat).to=(v:Int))
  have hch:∀v,∃x:Int,(∃j,At v j∧x=m j)∨((¬∃j,At v j)∧x=-1):=fun v=>by
    by_cases hv:∃j,At v j
    · obtain ⟨j,hj⟩:=hv
      exact ⟨m j,.inl ⟨j,hj,rfl⟩⟩
    · exact ⟨-1,.inr ⟨hv,rfl⟩⟩
  obtain ⟨b',hb⟩:=Classical.axiomOfChoice hch
  have hle:∀v,v<M→dg e m k (v:Int)≤1:=fun v hv=>by
    have:=h.mst (v:Int) (by omega) (by omega)
    omega
  have uniq:∀v,v<M→∀i j,At v i→At v j→i=j:=fun v hv i j hi hj=>by
    rcases Nat.lt_trichotomy i j with hh | hh | hh
    · have:=dg_two hh hj.1 hi.2 hj.2; have:=hle v hv; omega
    · exact hh
    · have:=dg_two hh hi.1 hj.2 hi.2; have:=hle v hv; omega
  have zero:∀v,v<M→(b' v=-1↔dg e m k (v:Int)=0):=fun v hv=>by
    constructor
    · intro e1
      rcases hb v with ⟨j,hj,e2⟩ | ⟨hno,_⟩
      · have:=(h.ris j hj.1).1; omega
      · exact dg_none fun i hi=>⟨fun hh=>hno ⟨i,hi,.inl hh⟩,fun hh=>hno ⟨i,hi,.inr hh⟩⟩
    · intro e1
      rcases hb v with ⟨j,hj,e2⟩ | ⟨_,e2⟩
      · exfalso
        have h1:dg e m (j+1) (v:Int)≤dg e m k (v:Int):=dg_mono hj.1
        have h2:1≤dg e m (j+1) (v:Int):=by
          show 1≤dg e m j _+(if _ then 1 else 0)+(if _ then 1 else 0)
          rcases hj.2 with hh | hh
          · rw [if_pos hh]; omega
          · rw [if_pos hh]; omega
        omega
      · exact e2
  refine ⟨b',fun v hv _=>?_,?_,zero,fun v hv j hj ht=>?_,fun v hv=>?_⟩
  rotate_left 2
  · rcases hb v with ⟨j',hj',e2⟩ | ⟨hno,_⟩
    · rw [e2,uniq v hv j j' ⟨hj,ht⟩ hj']
    · exact (hno ⟨j,hj,ht⟩).elim
  · rcases hb v with ⟨j',hj',e2⟩ | ⟨_,e2⟩
    · exact .inr ⟨j',hj'.1,e2⟩
    · exact .inl e2
  · rcases hb v with ⟨j,hj,e2⟩ | ⟨_,e2⟩
    · right
      have hjr:=h.ris j hj.1
      obtain ⟨i,hi⟩:∃i:Nat,m j=i:=⟨(m j).toNat,by omega⟩
      have hin:i<n:=by omega
      obtain ⟨f1,f2⟩:=hr.ends hin
      have hnl:=h.nl j hj.1
      rw [hi,tN] at hnl
      have hjv:=hj.2
      rw [hi,tN] at hjv
      have hen:En n (ef e) (et e) i v:=⟨hin,fun hh=>hnl (by unfold lp; omega),by omega⟩
      have hoM:=hen.ot.nd hr.nds
      refine ⟨i,by rw [e2,hi],hen,by omega,?_⟩
      have hat:At (ot (ef e) (et e) i v) j:=⟨hj.1,by
        rw [hi,tN]
        have:=hen.ot.2.2
        omega⟩
      rcases hb (ot (ef e) (et e) i v) with ⟨j',hj',e3⟩ | ⟨hno,_⟩
      · have:=uniq _ hoM j j' hat hj'
        rw [e3,←this,hi]
      · exact (hno ⟨j,hat⟩).elim
    · exact .inl e2
  · have hw:=weight_sum (fun _=>1) hr h.ris
    rw [tN] at hw
    have h1:psum (fun v=>(1:Int)*(dg e m k (v:Int):Int)) M=psum (fun v=>if (!decide (b' v=-1))=true then 1 else 0) M:=psum_congr fun v hv=>by
      have h2:=hle v hv
      have h3:=zero v hv
      by_cases hz:b' v=-1
      · rw [h3.1 hz]; simp [hz]
      · have:dg e m k (v:Int)≠0:=fun hh=>hz (h3.2 hh)
        have:dg e m k (v:Int)=1:=by omega
        rw [this]; simp [hz]
    have h2:psum (fun j=>(1:Int)+1) k=2*(k:Int):=by
      have:∀k:Nat,psum (fun j=>(1:Int)+1) k=2*(k:Int):=fun k=>by
        induction k with
        | zero=>rfl
        | succ k ih=>show psum (fun j=>(1:Int)+1) k+((1:Int)+1)=_; rw [ih]; omega
      exact this k
    rw [h1,psum_cnt,h2] at hw
    have h3:=cnt_full (fun v=>decide (b' v=-1)) M
    omega
theorem Tkn.mm (hr:Right (M:Int) n e) {m:Nat→Int} {k:Nat} (h:Tkn (M:Int) n e m k fun _=>1):∃b',MM M n (ef e) (et e) M b'∧cnt (fun v=>decide (b' v=-1)) M+2*k=M∧∀v,v<M→(b' v=-1↔dg e m k (v:Int)=0):=by
  obtain ⟨b',h1,h2,h3,_⟩:=h.mm5 hr
  exact ⟨b',h1,h2,h3⟩
theorem MM.drop {n:Nat} {fr to:Nat→Nat} {b:Nat→Int} (hN:Nds M n fr to) (h:MM M n fr to M b) (v:Nat):∃b2,MM M n fr to M b2∧(v<M→b2 v=-1)∧(∀u,u<M→b2 u=-1∨b2 u=b u)∧cnt (fun u=>decide (b2 u=-1)) M≤cnt (fun u=>decide (b u=-1)) M+2:=by
  by_cases hv:v<M∧0≤b v
  · obtain ⟨hv,h0⟩:=hv
    obtain ⟨i,ei,hi,em,_,hbm,hmm⟩:=h.en hv (by omega) h0
    have hmM:=h.ltN hN hv h0
    have hne:mt fr to b v≠v:=by rw [em]; exact hi.ne
    refine ⟨upf (upf b v (-1)) (mt fr to b v) (-1),fun u hu _=>?_,fun _=>by rw [upf_ne hne.symm,upf_same],fun u hu=>?_,?_⟩
    · by_cases e1:u=mt fr to b v
      · left; rw [e1,upf_same]
      · rw [upf_ne e1]
        by_cases e2:u=v
        · left; rw [e2,upf_same]
        · rw [upf_ne e2]
          rcases h u hu (by omega) with e3 | ⟨j,e3,hj,hjo,hb⟩
          · exact .inl e3
          · right
            have hmu:mt fr to b u=ot fr to j u:=by unfold mt; rw [e3,tN]
            have h0u:0≤b u:=by omega
            have n1:ot fr to j u≠v:=fun hh=>e1 (by rw [←hh,←hmu]; exact ((h.en hu (by omega) h0u).choose_spec.2.2.2.2.2).symm)
            have n2:ot fr to j u≠mt fr to b v:=fun hh=>e2 (h.inj hu hv h0u h0 (by rw [hmu,hh]))
            exact ⟨j,e3,hj,hjo,by rw [upf_ne n2,upf_ne n1]; exact hb⟩
    · by_cases e1:u=mt fr to b v
      · left; rw [e1,upf_same]
      · rw [upf_ne e1]
        by_cases e2:u=v
        · left; rw [e2,upf_same]
        · right; rw [upf_ne e2]
    · have c1:=cnt_less (p:=fun u=>decide (upf (upf b v (-1)) (mt fr to b v) (-1) u=-1)) (q:=fun u=>decide (upf b v (-1) u=-1)) hmM (decide_eq_true upf_same) (decide_eq_false (by rw [upf_ne hne,hbm]; omega)) (fun u _ hne'=>by rw [upf_ne hne'])
      have c2:=cnt_less (p:=fun u=>decide (upf b v (-1) u=-1)) (q:=fun u=>decide (b u=-1)) hv (decide_eq_true upf_same) (decide_eq_false (by omega)) (fun u _ hne'=>by rw [upf_ne hne'])
      omega
  · refine ⟨b,h,fun hh=>?_,fun u _=>.inr rfl,by omega⟩
    exact h.neg hh (by omega) (Classical.byContradiction fun hn=>hv ⟨hh,by omega⟩)
end
end Go.Mz
/-
  Matchings of all nodes and what they cost, in plain words: the least cost. No program in sight.
-/
namespace Go.Mz
structure Ful (M n:Nat) (e:Nat→Edg) (b:Nat→Int):Prop where
  mm:MM M n (ef e) (et e) M b
  all:∀v,v<M→0≤b v
def tco (e:Nat→Edg) (b:Nat→Int) (M:Nat):Int:=psum (fun v=>(e (b v).toNat).co) M
structure LstP (M n:Nat) (e:Nat→Edg) (c:Int):Prop where
  ex:∃b,Ful M n e b∧tco e b M=2*c
  lo:∀b,Ful M n e b→2*c≤tco e b M
section
variable {M n:Nat} {e:Nat→Edg} {b:Nat→Int} {m:Nat→Int} {k:Nat}
theorem LstP.uniq {c d:Int} (h:LstP M n e c) (h':LstP M n e d):c=d:=by
  obtain ⟨b,hb,eb⟩:=h.ex
  obtain ⟨b',hb',eb'⟩:=h'.ex
  have h1:=h.lo b' hb'
  have h2:=h'.lo b hb
  omega
theorem Tkn.full (hr:Right (M:Int) n e) (h:Tkn (M:Int) n e m k fun _=>1) (hall:2*(k:Int)=M):∃b,Ful M n e b∧tco e b M=2*cst e m k:=by
  obtain ⟨b,h1,h2,h3,h4,h5⟩:=h.mm5 hr
  have hz:cnt (fun v=>decide (b v=-1)) M=0:=by omega
  have ha:∀v,v<M→∃j,j<k∧b v=m j:=fun v hv=>(h5 v hv).resolve_left fun hh=>by
    have:=cnt_pos (p:=fun u=>decide (b u=-1)) hv (decide_eq_true hh)
    omega
  have hall':∀v,v<M→0≤b v:=fun v hv=>by
    obtain ⟨j,hj,ej⟩:=ha v hv
    have:=(h.ris j hj).1
    omega
  refine ⟨b,⟨h1,hall'⟩,?_⟩
  have e1:=mls_twice (f:=fun i=>(e i).co) hr.nds h1 hall'
  unfold tco
  rw [e1,cst_lsum]
  congr 1
  refine lsum_perm ((List.perm_ext_iff_of_nodup mls_nodup ?_).2 fun x=>?_)
  · refine List.nodup_iff_pairwise_ne.2 (List.pairwise_map.2 (List.Pairwise.imp_of_mem (fun {i j} hi hj hij=>?_) (List.pairwise_lt_range (n:=k))))
    have:=h.ris.lt hij (List.mem_range.1 hj)
    have h6:=(h.ris i (List.mem_range.1 hi)).1
    have h7:=(h.ris j (List.mem_range.1 hj)).1
    omega
  · rw [mls_mem,List.mem_map]
    constructor
    · rintro ⟨v,hv,e2,e3⟩
      obtain ⟨j,hj,ej⟩:=ha v hv
      exact ⟨j,List.mem_range.2 hj,by rw [←ej]; exact e2⟩
    · rintro ⟨j,hj,e2⟩
      have hj:=List.mem_range.1 hj
      have hjr:=h.ris j hj
      obtain ⟨f1,f2⟩:=hr.ends (i:=x) (by omega)
      obtain ⟨f3,f4⟩:=hr.nds x (by omega)
      exact ⟨ef e x,f3,by rw [h4 _ f3 j hj (.inl (by rw [e2]; exact f1))]; exact e2,rfl⟩
theorem Ful.tkn (hr:Right (M:Int) n e) (h:Ful M n e b):∃(m:Nat→Int) (k:Nat),Tkn (M:Int) n e m k (fun _=>1)∧2*(k:Int)=M∧tco e b M=2*cst e m k:=by
  classical
  have hel:∀{x:Nat},x∈mls (ef e) b M→x<n∧ef e x≠et e x∧b (ef e x)=(x:Int)∧b (et e x)=(x:Int):=fun {x} hx=>by
    obtain ⟨v,hv,e1,e2⟩:=mls_mem.1 hx
    obtain ⟨i,a1,a2,a3,_,a5,_⟩:=h.mm.en hv (by omega) (h.all v hv)
    have:i=x:=by omega
    subst this
    have ho:mt (ef e) (et e) b v=et e i:=by rw [a3]; unfold ot; omega
    rw [ho] at a5
    exact ⟨a2.1,a2.2.1,by rw [e2]; exact a1,a5⟩
  let P:Nat→Bool:=fun x=>decide (x∈mls (ef e) b M)
  have hpm:∀x,x∈pk P n↔x∈mls (ef e) b M:=fun x=>by
    rw [pk_mem]
    exact ⟨fun hh=>of_decide_eq_true hh.2,fun hh=>⟨(hel hh).1,decide_eq_true hh⟩⟩
  have hperm:(pk P n).Perm (mls (ef e) b M):=(List.perm_ext_iff_of_nodup pk_nodup mls_nodup).2 hpm
  have hris:=pk_ris (P:=P) (n:=n)
  have hgi:∀i,i<(pk P n).length→∃x:Nat,lsF (pk P n) i=(x:Int)∧x∈mls (ef e) b M:=fun i hi=>⟨(pk P n)[i],lsF_get hi,(hpm _).1 (List.getElem_mem hi)⟩
  have hnl:∀i,i<(pk P n).length→¬lp (e (lsF (pk P n) i).toNat):=fun i hi=>by
    obtain ⟨x,ex,hx⟩:=hgi i hi
    rw [ex,tN]
    obtain ⟨a1,a2,_⟩:=hel hx
    obtain ⟨f1,f2⟩:=hr.ends a1
    unfold lp; omega
  refine ⟨lsF (pk P n),(pk P n).length,⟨hris,hnl,fun v hv0 hv1 _=>?_⟩,?_,?_⟩
  · have:=dg_one (e:=e) (m:=lsF (pk P n)) (v:=v) (x:=b v.toNat) (k:=(pk P n).length) hnl (fun i j hij hj=>hris.lt hij hj) fun i hi ht=>by
      obtain ⟨x,ex,hx⟩:=hgi i hi
      rw [ex,tN] at ht
      obtain ⟨a1,a2,a3,a4⟩:=hel hx
      obtain ⟨f1,f2⟩:=hr.ends a1
      rcases ht with ht | ht
      · rw [←ht,f1,tN,a3]; exact ex
      · rw [←ht,f2,tN,a4]; exact ex
    omega
  · have:=mls_half hr.nds h.mm h.all
    have:=hperm.length_eq
    omega
  · unfold tco
    rw [mls_twice (f:=fun i=>(e i).co) hr.nds h.mm h.all,cst_lsum]
    congr 1
    have e1:(List.range (pk P n).length).map (fun i=>(lsF (pk P n) i).toNat)=pk P n:=by
      have:=congrArg (List.map Int.toNat) (map_lsF (l:=pk P n))
      rw [List.map_map,List.map_map] at this
      have e2:(pk P n).map (Int.toNat ∘ fun (v:Nat)=>(v:Int))=pk P n:=by
        conv=>rhs; rw [←List.map_id (pk P n)]
        exact List.map_congr_left fun a _=>by simp
      rw [e2] at this
      exact this
    rw [e1]
    exact (lsum_perm hperm).symm
theorem Ful.dual {Y:Nat→Int} {yn:Nat} {z:Nat→Int} {ln:Nat→Nat} {nd:Nat→Nat→Int} {sn:Nat} (hr:Right (M:Int) n e) (h:Ful M n e b) (hw:Wt (M:Int) Y yn z ln nd sn) (hed:∀i,i<n→lp (e i)∨prW Y z ln nd sn (e i).fr (e i).to≤2*(e i).co):wsum Y yn z ln sn≤tco e b M:=by
  obtain ⟨m,k,h1,h2,h3⟩:=h.tkn hr
  rw [h3]
  exact dual_bound hr h1 h2 hw hed
theorem ChpP.lst {Y:Nat→Int} {yn:Nat} {z:Nat→Int} {ln:Nat→Nat} {nd:Nat→Nat→Int} {sn:Nat} (hr:Right (M:Int) n e) (h:ChpP (M:Int) n e m k Y yn z ln nd sn):LstP M n e (cst e m k):=
  ⟨h.tk.full hr h.all,fun b hb=>by rw [←h.sum]; exact hb.dual hr h.wt h.ed⟩
theorem Ful.en (h:Ful M n e b) {v:Nat} (hv:v<M):∃i:Nat,b v=(i:Int)∧En n (ef e) (et e) i v∧mt (ef e) (et e) b v=ot (ef e) (et e) i v:=by
  obtain ⟨i,e1,e2,e3,_⟩:=h.mm.en hv (by omega) (h.all v hv)
  exact ⟨i,e1,e2,e3⟩
theorem Ful.more {e':Nat→Edg} {by':Int} {v:Nat} (hr:Right (M:Int) n e) (hv:v<M) (he:∀i,i<n→ef e' i=ef e i∧et e' i=et e i∧(e' i).co=(e i).co+if (ef e i=v)≠(et e i=v) then by' else 0) (h:Ful M n e b):Ful M n e' b∧tco e' b M=tco e b M+2*by':=by
  constructor
  · refine ⟨fun u hu hh=>?_,h.all⟩
    rcases h.mm u hu hh with h1 | ⟨i,h1,h2,h3,h4⟩
    · exact .inl h1
    · obtain ⟨g1,g2,_⟩:=he i h2.1
      have eo:ot (ef e') (et e') i u=ot (ef e) (et e) i u:=by unfold ot; rw [g1,g2]
      refine .inr ⟨i,h1,⟨h2.1,?_,?_⟩,by rw [eo]; exact h3,by rw [eo]; exact h4⟩
      · have:=h2.2.1; omega
      · have:=h2.2.2; omega
  · have hmt:∀u,u<M→mt (ef e) (et e) b u<M∧mt (ef e) (et e) b (mt (ef e) (et e) b u)=u:=fun u hu=>⟨h.mm.ltN hr.nds hu (h.all u hu),by
      obtain ⟨i,_,_,_,_,_,e6⟩:=h.mm.en hu (by omega) (h.all u hu)
      exact e6⟩
    have h1:tco e' b M=psum (fun u=>(fun u=>(e (b u).toNat).co) u+(fun u=>if u=v then by' else 0) u+(fun u=>if mt (ef e) (et e) b u=v then by' else 0) u) M:=psum_congr fun u hu=>by
      obtain ⟨i,e1,e2,e3⟩:=h.en hu
      obtain ⟨_,_,g3⟩:=he i e2.1
      show (e' (b u).toNat).co=(e (b u).toNat).co+(if u=v then by' else 0)+(if mt (ef e) (et e) b u=v then by' else 0)
      rw [e1,tN,g3,e3]
      have hne:=e2.2.1
      have ho:ot (ef e) (et e) i u+u=ef e i+et e i∧ot (ef e) (et e) i u≠u:=by have:=e2.2.2; unfold ot; omega
      have h22:=e2.2.2
      by_cases c1:u=v
      · have n2:¬ot (ef e) (et e) i u=v:=by omega
        have n1:(ef e i=v)≠(et e i=v):=fun hh=>by
          have:ef e i=v↔et e i=v:=by rw [hh]
          omega
        rw [if_pos c1,if_neg n2,if_pos n1]; omega
      · by_cases c2:ot (ef e) (et e) i u=v
        · have n1:(ef e i=v)≠(et e i=v):=fun hh=>by
            have:ef e i=v↔et e i=v:=by rw [hh]
            omega
          rw [if_neg c1,if_pos c2,if_pos n1]; omega
        · have n1:¬(ef e i=v)≠(et e i=v):=fun hh=>hh (propext ⟨fun hh=>by omega,fun hh=>by omega⟩)
          rw [if_neg c1,if_neg c2,if_neg n1]; omega
    rw [h1,psum_add,psum_add,psum_perm (y:=fun u=>if u=v then by' else 0) (s:=mt (ef e) (et e) b) hmt,psum_single hv]
    unfold tco
    omega
theorem LstP.more {e':Nat→Edg} {by' c:Int} {v:Nat} (hr:Right (M:Int) n e) (hr':Right (M:Int) n e') (hv:v<M) (he:∀i,i<n→ef e' i=ef e i∧et e' i=et e i∧(e' i).co=(e i).co+if (ef e i=v)≠(et e i=v) then by' else 0) (h:LstP M n e c):LstP M n e' (c+by'):=by
  constructor
  · obtain ⟨b,hb,eb⟩:=h.ex
    obtain ⟨h1,h2⟩:=hb.more hr hv he
    exact ⟨b,h1,by omega⟩
  · intro b hb
    have he':∀i,i<n→ef e i=ef e' i∧et e i=et e' i∧(e i).co=(e' i).co+if (ef e' i=v)≠(et e' i=v) then -by' else 0:=fun i hi=>by
      obtain ⟨g1,g2,g3⟩:=he i hi
      refine ⟨g1.symm,g2.symm,?_⟩
      rw [g3,g1,g2]
      split<;>omega
    obtain ⟨h1,h2⟩:=hb.more hr' hv he'
    have:=h.lo b h1
    omega
theorem BlA.nofull {q:Nat} {set:Nat→Int} (h:BlA M n e m k set q) (hlt:2*k<M):∀b,¬Ful M n e b:=fun b hb=>by
  have h1:=h.mx b hb.mm
  have:cnt (fun u=>decide (b u=-1)) M=0:=cnt_none fun v hv=>decide_eq_false fun hh=>by have:=hb.all v hv; omega
  omega
end
end Go.Mz
/-
  Walks of the statements of layer 18: the trial that each of them makes first.
-/
namespace Go.Mz
def sq18:Nat→Edg
  | 0=>(0,1,0,5)
  | 1=>(1,2,0,1)
  | 2=>(2,3,0,5)
  | _=>(3,0,0,2)
theorem sq18_right:Right ((4:Nat):Int) 4 sq18:=by
  refine ⟨by decide,by decide,by decide,fun i hi=>?_⟩
  have:i=0∨i=1∨i=2∨i=3:=by omega
  rcases this with rfl | rfl | rfl | rfl<;>constructor<;>decide
def sqB:Nat→Int
  | 0=>3
  | 1=>1
  | 2=>1
  | _=>3
theorem sq18_ful:Ful 4 4 sq18 sqB:=by
  refine ⟨fun v hv _=>?_,by decide⟩
  have:v=0∨v=1∨v=2∨v=3:=by omega
  rcases this with rfl | rfl | rfl | rfl
  · exact .inr ⟨3,rfl,⟨by decide,by decide,.inr rfl⟩,by decide,rfl⟩
  · exact .inr ⟨1,rfl,⟨by decide,by decide,.inl rfl⟩,by decide,rfl⟩
  · exact .inr ⟨1,rfl,⟨by decide,by decide,.inr rfl⟩,by decide,rfl⟩
  · exact .inr ⟨3,rfl,⟨by decide,by decide,.inl rfl⟩,by decide,rfl⟩
theorem sq18_most {g:Nat→Int} {k:Nat} (ht:Tkn ((4:Nat):Int) 4 sq18 g k fun _=>1) (hall:2*(k:Int)=((4:Nat):Int)) (hl:LstP 4 4 sq18 (cst sq18 g k)):k=2∧g 0=1∧g 1=3∧cst sq18 g k=3:=by
  have hk:k=2:=by omega
  subst hk
  have h1:=hl.lo _ sq18_ful
  have h2:tco sq18 sqB 4=6:=by decide
  have r0:=ht.ris 0 (by decide)
  have r1:=ht.ris 1 (by decide)
  have r01:g 0<g 1:=r1.2.2 (by decide)
  have no:∀(v:Int) (a b:Nat),0≤v→v<4→g 0=a→g 1=b→((sq18 a).fr=v∨(sq18 a).to=v)→((sq18 b).fr=v∨(sq18 b).to=v)→False:=fun v a b v0 v1 ea eb ha hb=>by
    have h3:=dg_two (e:=sq18) (m:=g) (v:=v) (i:=0) (j:=1) (k:=2) (by decide) (by decide) (by rw [ea]; exact ha) (by rw [eb]; exact hb)
    have h4:=ht.mst v v0 v1 (by omega)
    omega
  have hc:cst sq18 g 2=(sq18 (g 0).toNat).co+(sq18 (g 1).toNat).co:=by show (0:Int)+(sq18 (g 0).toNat).co+(sq18 (g 1).toNat).co=_; rw [Int.zero_add]
  have c0:g 0=0∨g 0=1∨g 0=2:=by omega
  have c1:g 1=1∨g 1=2∨g 1=3:=by omega
  rcases c0 with c0 | c0 | c0<;>rcases c1 with c1 | c1 | c1<;>try omega
  · exact (no 1 0 1 (by decide) (by decide) c0 c1 (.inr rfl) (.inl rfl)).elim
  · rw [c0,c1] at hc
    have:(sq18 (0:Int).toNat).co+(sq18 (2:Int).toNat).co=10:=rfl
    omega
  · exact (no 0 0 3 (by decide) (by decide) c0 c1 (.inl rfl) (.inr rfl)).elim
  · exact (no 2 1 2 (by decide) (by decide) c0 c1 (.inr rfl) (.inl rfl)).elim
  · rw [c0,c1] at hc
    exact ⟨rfl,c0,c1,hc⟩
  · exact (no 3 2 3 (by decide) (by decide) c0 c1 (.inr rfl) (.inl rfl)).elim
theorem one18_right {e:Nat→Edg}:Right (1:Int) 0 e:=⟨by decide,by decide,by decide,fun i hi=>by omega⟩
section
variable {E:VP}
theorem lsquare18 {H:Hp} {K:Int→OA→Nat→Nat→Hp→Prop} (kk:∀H' p,Step (fun _=>False) H H'→Rdr H' p 4 sq18→K ((4:Nat):Int) p 4 4 H'):Q12.call E H K:=by
  refine Q12.of (Q12.run_eq ?_)
  unfold Q12.run_t
  refine nwk fun b1 H1 hb1 e1 s1=>?_
  refine nwk fun b2 H2 hb2 e2 s2=>?_
  have e12:=s2.keep _ _ e1 fun h=>h
  have d12:b1≠b2:=fun h=>by rw [h] at e1; rw [e1] at hb2; cases hb2
  refine stk e12 rfl rfl fun H3 e3 s3=>?_
  have e23:=s3.keep _ _ e2 fun h=>d12 h.symm
  simp only [get_at e3,gZ,gS,ldI_mk,ldS_mk]
  refine kk H3 _ ((s1.and s2).own s3 fun y hy=>hy▸hb1) fun i hi=>⟨b2,0,rfl,fun j hj=>?_⟩
  have hi':i=0∨i=1∨i=2∨i=3:=by omega
  have hj':j=0∨j=1∨j=2∨j=3:=by have:El.w Edg=4:=rfl; omega
  rw [get_at e23]
  rcases hi' with rfl | rfl | rfl | rfl<;>rcases hj' with rfl | rfl | rfl | rfl<;>rfl
theorem lawake18 {H:Hp} {K:Bool→Hp→Prop} (kk:∀H',Step (fun _=>False) H H'→K true H'):Q1.call E H K:=by
  refine Q1.of (Q1.run_eq ?_)
  unfold Q1.run_t
  refine lsquare18 fun H1 p s1 he=>?_
  refine pSolve he (by decide) (fun H2 _ hz=>(hz (chk_zero.2 sq18_right)).elim) (fun H2 sp sn sc cv mn g M _ hM _ hA hlt _ _=>?_) fun H2 mp k mc g yb Y sp ks sc z S F M s2 hM hr hS=>?_
  · have:M=4:=by omega
    subst this
    exact (hA.nofull hlt _ sq18_ful).elim
  have:M=4:=by omega
  subst this
  obtain ⟨rfl,g0,g1,hc⟩:=sq18_most hS.chp.tk hS.chp.all (hS.chp.lst hr)
  have s02:=s1.and s2
  refine nwk fun b1 H3 hb1 e1 s3=>?_
  refine stk e1 rfl rfl fun H4 e14 s4=>?_
  have s24:Step (fun _=>False) H2 H4:=s3.own s4 fun y hy=>hy▸hb1
  have r4:=hS.rm.keep s24 fun _ _ h=>h
  have s04:=s02.and s24
  refine pSolve (N:=1) (n:=0) (e:=fun _=>(0,0,0,0)) (ep:=none) (fun i hi=>by omega) (by decide) (fun H5 _ hz=>(hz (chk_zero.2 one18_right)).elim) (fun H5 sp' sn' sc' cv' mn' g' M' s5 hM' _ hA' hlt' _ _=>?_) fun H5 mp' k' mc' g' yb' Y' sp' ks' sc' z' S' F' M' s5 hM' hr' hS'=>?_
  · have:M'=1:=by omega
    subst this
    have hsn:sn'=0:=Classical.byContradiction fun hne=>by
      have hr0:=hA'.lrg.ris 0 (by omega)
      obtain ⟨x,hx⟩:∃x:Nat,cv' 0=x:=⟨(cv' 0).toNat,by omega⟩
      obtain ⟨_,_,i,hi,_⟩:=(hA'.set x).1 ⟨0,by omega,hx⟩
      exact absurd hi.1 (by omega)
    subst hsn
    have e15:=s5.keep _ _ e14 fun h=>h
    have r5:=r4.keep s5 fun _ _ h=>h
    refine nwk fun b2 H6 hb2 e2 s6=>?_
    refine stk e2 rfl rfl fun H7 e27 s7=>?_
    have s57:Step (fun _=>False) H5 H7:=s6.own s7 fun y hy=>hy▸hb2
    refine nwk fun b3 H8 hb3 e3 s8=>?_
    refine nwk fun b4 H9 hb4 e4 s9=>?_
    refine nwk fun b5 H10 hb5 e5 s10=>?_
    have e3':=(s9.and s10).keep _ _ e3 fun h=>h
    have e4':=s10.keep _ _ e4 fun h=>h
    have s510:=((s57.and s8).and s9).and s10
    have hT:TabR H10 (some ⟨b5,0,none⟩) 2 (fun i=>if i=0 then ⟨some ⟨b3,0,none⟩,2,2⟩ else ⟨some ⟨b4,0,none⟩,2,2⟩) (fun i j=>if i=j then 0 else 4):=by
      refine ⟨fun i hi=>⟨b5,0,rfl,fun j hj=>?_⟩,fun i hi=>⟨fun j hj=>?_,?_⟩⟩
      · have hj':j=0:=by have:El.w Sl=1:=rfl; omega
        have hi':i=0∨i=1:=by omega
        subst hj'
        rw [get_at e5]
        rcases hi' with rfl | rfl<;>rfl
      · have hi':i=0∨i=1:=by omega
        rcases hi' with rfl | rfl
        · refine ⟨b3,0,rfl,fun t ht=>?_⟩
          have ht':t=0:=by have:El.w Int=1:=rfl; omega
          have hj':j=0∨j=1:=by have:j<2:=hj; omega
          subst ht'
          rw [get_at e3']
          rcases hj' with rfl | rfl<;>rfl
        · refine ⟨b4,0,rfl,fun t ht=>?_⟩
          have ht':t=0:=by have:El.w Int=1:=rfl; omega
          have hj':j=0∨j=1:=by have:j<2:=hj; omega
          subst ht'
          rw [get_at e4']
          rcases hj' with rfl | rfl<;>rfl
      · show (if i=0 then (⟨some ⟨b3,0,none⟩,2,2⟩:Sl) else ⟨some ⟨b4,0,none⟩,2,2⟩).n<_
        split<;>exact (by decide:(2:Nat)<2 ^ 63)
    have ht0:tblC 2 (fun i=>if i=0 then (⟨some ⟨b3,0,none⟩,2,2⟩:Sl) else ⟨some ⟨b4,0,none⟩,2,2⟩) (fun i j=>if i=j then 0 else 4)=0:=by
      refine tbl0 ⟨by decide,fun i hi=>?_⟩ (fun i j h1 h2=>?_) (by decide)
      · show (if i=0 then (⟨some ⟨b3,0,none⟩,2,2⟩:Sl) else ⟨some ⟨b4,0,none⟩,2,2⟩).n=2
        split<;>rfl
      · show -2147483648≤(if i=j then (0:Int) else 4)∧(if i=j then (0:Int) else 4)≤_
        rw [if_neg (by omega)]; decide
    refine pDense hT (by decide) (fun H11 _ h=>(h ht0).elim) fun H11 mp2 mate total yb2 Y2 sp2 ks2 sc2 z2 S2 F2 s11 _ hR=>?_
    refine nwk fun b6 H12 hb6 e6 s12=>?_
    refine stk e6 rfl rfl fun H13 e613 s13=>?_
    have s1113:Step (fun _=>False) H11 H13:=s12.own s13 fun y hy=>hy▸hb6
    have s513:=(s510.and s11).and s1113
    have s013:=(s04.and s5).and s513
    have r13:=r5.keep s513 fun _ _ h=>h
    have e113:=s513.keep _ _ e15 fun h=>h
    obtain ⟨m1,m2,m3⟩:=hR.den.mt 0 (by decide)
    have hm1:mate 0=1:=by omega
    have hm0:mate 1=0:=by rw [hm1] at m3; exact m3
    have htot:total=4:=by
      have h1:=hR.den.tot
      have h2:psum (fun v=>(fun i j=>if i=j then (0:Int) else 4) (min v (mate v)) (max v (mate v))) 2=8:=by
        show (0:Int)+(if min 0 (mate 0)=max 0 (mate 0) then (0:Int) else 4)+(if min 1 (mate 1)=max 1 (mate 1) then (0:Int) else 4)=8
        rw [hm1,hm0]; decide
      have h3:=h1.symm.trans h2
      omega
    subst htot
    refine bct (by trivial) ?_
    refine bct (by trivial) ?_
    refine r13.ixI (by decide) (by decide) ?_
    refine bct g0 ?_
    refine r13.ixI (by decide) (by decide) ?_
    refine bct g1 ?_
    refine bct hc ?_
    simp only [get_at e113,gZ,gS,ldI_mk,ldS_mk]
    refine bct (by trivial) ?_
    refine bct (by trivial) ?_
    refine bct (by trivial) ?_
    refine bct (by trivial) ?_
    refine bct (by trivial) ?_
    refine (hR.mr.keep s1113 fun _ _ _ h=>h).ixI (by decide) (by decide) ?_
    refine bct (by show ((mate 0:Nat):Int)=1; rw [hm1]; rfl) ?_
    refine bct (by trivial) ?_
    exact kk H13 s013
  · have h1:=hS'.chp.all
    omega
end
end Go.Mz
/-
  A slice that is handed in, copied whole by an append to a new list of none; where it begins, even if it has no element.
-/
namespace Go.Mz
def SlAt (H:Hp) (p:OA):Prop:=p=none∨∃b o x,p=some ⟨b,o,none⟩∧H b=some x∧o≤x.cells.length
theorem SlAt.keep {H H':Hp} {p:OA} (h:SlAt H p) (s:Step (fun _=>False) H H'):SlAt H' p:=by
  rcases h with h | ⟨b,o,x,h1,h2,h3⟩
  · exact .inl h
  · exact .inr ⟨b,o,x,h1,s.keep _ _ h2 fun h=>h,h3⟩
theorem Rdr.dupY {α:Type} [El α] {H:Hp} {p2:OA} {m b0:Nat} {g:Nat→α} (h2:Rdr H p2 m g) (ha:m=0→SlAt H p2) {t:BT} (e0:H b0=some ⟨[],t⟩) (ht:t.fz=(0,0)) {e:TypeId} {ks:List CK} {bytes:Nat} {K:OA→Nat→Nat→Hp→Prop}
    (hk:ks.length=El.w α) (hm:(m+(m+768) / 4+512)*bytes≤2 ^ 48) (hm2:m<2 ^ 63)
    (k:∀p' c' H',Row H' p' m c' g→Step (fun y=>y=b0) H H'→(∀b,fpS p' b→b=b0∨H b=none)→K p' m c' H') :
    appM e ks bytes (some ⟨b0,0,none⟩) 0 0 p2 m H K:=by
  have hw:=El.pos (α:=α)
  refine Or.inl ?_
  unfold appO
  rw [hk]
  rcases Nat.eq_zero_or_pos m with hm0 | hm0
  · subst hm0
    have fin:(∀v∈([]:List Value),v.oneC=true)∧(if 0+0≤0 then (stC H b0 (0+0*El.w α) [] fun H'=>K (some ⟨b0,0,none⟩) (0+0) 0 H') else ((0+0<2 ^ 63∧Builtin.nextslicecap (0+0) 0*bytes≤2 ^ 48)∧rdN H (some ⟨b0,0,none⟩) (0*El.w α) fun old=>∀c' b,0+0≤c'→c'<2 ^ 63→H b=none→K (some ⟨b,0,none⟩) (0+0) c' (H.upd b ⟨old++[]++zr (c'-(0+0)) ks,e⟩))):=by
      refine ⟨fun v hv=>(by cases hv),?_⟩
      rw [if_pos (by omega)]
      refine ⟨_,e0,⟨by simp,ht⟩,k _ _ _ ⟨Nat.le_refl _,by decide,.inr ⟨b0,0,_,rfl,upd_same,⟨by simp,ht⟩,fun i hi=>by omega⟩⟩ (Step.wr e0 rfl) fun b hb=>.inl (fpS_mk.1 hb)⟩
    simp only [Nat.zero_mul]
    rcases ha rfl with rfl | ⟨b,o,x,rfl,hx,hl⟩
    · refine ⟨rfl,?_⟩
      have:=fin
      simp only [Nat.zero_mul] at this
      exact this
    · refine ⟨x,hx,by omega,?_⟩
      rw [List.take_zero]
      have:=fin
      simp only [Nat.zero_mul] at this
      exact this
  · obtain ⟨b,o,rfl,_⟩:=h2 0 hm0
    have hb:=h2.live (b:=b) ⟨o,rfl⟩ hm0
    cases hx:H b with
    | none=>exact (hb hx).elim
    | some x=>
      have get:∀i,i<m→∀j,j<El.w α→x.cells[o+i*El.w α+j]?=(El.enc (g i))[j]?:=fun i hi j hj=>by
        obtain ⟨b',o',e',hg⟩:=h2 i hi
        cases e'
        have:=hg j hj
        simpa [Hp.get,hx] using this
      have hl:o+m*El.w α≤x.cells.length:=by
        have h1:=get (m-1) (by omega) (El.w α-1) (by omega)
        have hl1:=El.len (g (m-1))
        rw [List.getElem?_eq_getElem (by omega:El.w α-1<(El.enc (g (m-1))).length)] at h1
        obtain ⟨h3,_⟩:=List.getElem?_eq_some_iff.1 h1
        have h4:(m-1)*El.w α+El.w α=m*El.w α:=by rw [←Nat.succ_mul]; congr 1; omega
        omega
      have hsl:((x.cells.drop o).take (m*El.w α)).length=m*El.w α:=by simp; omega
      have hsg:∀i,i<m→∀j,j<El.w α→((x.cells.drop o).take (m*El.w α))[i*El.w α+j]?=(El.enc (g i))[j]?:=fun i hi j hj=>by
        have:(i+1)*El.w α≤m*El.w α:=Nat.mul_le_mul_right _ hi
        rw [Nat.add_mul] at this
        rw [List.getElem?_take_of_lt (by omega),List.getElem?_drop,←Nat.add_assoc]
        exact get i hi j hj
      refine ⟨x,hx,hl,src_one hsl hsg,?_⟩
      rw [if_neg (by omega)]
      have hroom:=room_fine (0+m) 0 (by omega)
      refine ⟨⟨by omega,Nat.le_trans (Nat.mul_le_mul_right _ (by omega)) hm⟩,⟨_,e0,by simp,fun c' b' hc' hc2 hb'=>?_⟩⟩
      rw [Nat.zero_add] at hc' ⊢
      refine k _ _ _ ⟨hc',hc2,.inr ⟨b',0,_,rfl,upd_same,⟨?_,rfl⟩,?_⟩⟩ (Step.new hb') fun y hy=>.inr (by rw [fpS_mk.1 hy]; exact hb')
      · have:m*El.w α≤c'*El.w α:=Nat.mul_le_mul_right _ hc'
        simp only [List.drop_nil,List.take_nil,List.nil_append,List.length_append,hsl,zr_length,hk,Nat.sub_mul]
        omega
      · intro i hi j hj
        have:(i+1)*El.w α≤m*El.w α:=Nat.mul_le_mul_right _ hi
        rw [Nat.add_mul] at this
        simp only [List.drop_nil,List.take_nil,List.nil_append,Nat.zero_add]
        rw [List.getElem?_append_left (by rw [hsl]; omega)]
        exact hsg i hi j hj
theorem Rdr.dupE {α:Type} [El α] {H:Hp} {p2:OA} {m b0:Nat} {g:Nat→α} (h2:Rdr H p2 m g) {t:BT} (e0:H b0=some ⟨[],t⟩) (ht:t.fz=(0,0)) {e:TypeId} {ks:List CK} {bytes:Nat} {K:OA→Nat→Nat→Hp→Prop}
    (hk:ks.length=El.w α) (hm:(m+(m+768) / 4+512)*bytes≤2 ^ 48) (hm2:m<2 ^ 63)
    (k:∀p' c' H',Row H' p' m c' g→Step (fun y=>y=b0) H H'→(∀b,fpS p' b→b=b0∨H b=none)→K p' m c' H') :
    appM e ks bytes (some ⟨b0,0,none⟩) 0 0 p2 m H K:=by
  rcases Nat.eq_zero_or_pos m with h0 | h0
  · subst h0
    exact Or.inr ⟨rfl,(Rdr.dupY (p2:=none) (m:=0) (g:=g) (fun i hi=>by omega) (fun _=>.inl rfl) e0 ht hk hm hm2 k).elim id fun h=>h.2⟩
  · exact h2.dupY (fun h=>by omega) e0 ht hk hm hm2 k
end Go.Mz
