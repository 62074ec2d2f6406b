/-
  Joined: BlT, BlU, BlV, BlW, BlG, BlH, BmA.
-/
import Derived.Test.YtndgjfbibkdokaaPkA00
import Derived.Test.YtndgjfbibkdokaaPkM
import Derived.Test.YtndgjfbibkdokaaGBlo
set_option linter.unusedSimpArgs false
set_option linter.unusedVariables false
/-
  The look from a root, in plain words: nodes at even places, circles that count as one, the edges by which nodes were come to; a circle more keeps all of it. No program in sight.
-/
namespace Go.Mz
structure Tre (N n:Nat) (fr to:Nat→Nat) (b:Nat→Int) (r:Nat) (base:Nat→Nat) (via:Nat→Int) (ev:Nat→Bool) (ρ:Nat→Nat):Prop where
  rN:r<N
  rb:b r=-1
  re:ev r=true
  rr:base r=r
  rk:∀u,u<N→ρ (base u)=ρ u
  bs:∀u,u<N→ev u=true→base u<N∧ev (base u)=true∧base (base u)=base u
  ns:∀u,u<N→ev u=false→base u=u
  st:∀u,u<N→ev u=true→u≠r→0≤b u∧∃k:Nat,via (mt fr to b u)=k∧En n fr to k (mt fr to b u)∧ev (ot fr to k (mt fr to b u))=true∧
    (base u=u→ev (mt fr to b u)=false∧ρ (mt fr to b u)<ρ u∧ρ (ot fr to k (mt fr to b u))<ρ (mt fr to b u))∧
    (base u≠u→ev (mt fr to b u)=true∧base (mt fr to b u)=base u∧base (ot fr to k (mt fr to b u))=base u)
  od:∀o,o<N→ev o=false→0≤via o→0≤b o∧ev (mt fr to b o)=true∧base (mt fr to b o)=mt fr to b o
  vw:∀v,v<N→via v=-1∨∃k:Nat,via v=k∧En n fr to k v
  pa:∀u,u<N→ev u=true→∃l,AP n fr to b via u l∧ND fr to b l
section
variable {N n r:Nat} {fr to:Nat→Nat} {b via:Nat→Int} {base ρ:Nat→Nat} {ev:Nat→Bool}
theorem Tre.baseN (h:Tre N n fr to b r base via ev ρ) {u:Nat} (hu:u<N):base u<N:=by
  cases he:ev u with
  | true=>exact (h.bs u hu he).1
  | false=>rw [h.ns u hu he]; exact hu
theorem Tre.bb (h:Tre N n fr to b r base via ev ρ) {u:Nat} (hu:u<N):base (base u)=base u:=by
  cases he:ev u with
  | true=>exact (h.bs u hu he).2.2
  | false=>rw [h.ns u hu he,h.ns u hu he]
theorem Tre.evb (h:Tre N n fr to b r base via ev ρ) {u:Nat} (hu:u<N):ev (base u)=ev u:=by
  cases he:ev u with
  | true=>exact (h.bs u hu he).2.1
  | false=>rw [h.ns u hu he,he]
theorem Tre.pev (h:Tre N n fr to b r base via ev ρ) (hN:Nds N n fr to) {u:Nat} {l:List Nat} (hA:AP n fr to b via u l) (hu:u<N) (he:ev u=true):∀x∈l,x<N∧ev x=true:=by
  induction hA with
  | root h0=>intro x hx; have:=List.mem_singleton.1 hx; subst this; exact ⟨hu,he⟩
  | step h1 hk he' hl ih=>
    rename_i u k l
    have hne:u≠r:=fun e=>by rw [e,h.rb] at h1; omega
    obtain ⟨_,k',hk',_,hev,_⟩:=h.st u hu he hne
    have:=Int.ofNat.inj (hk.symm.trans hk')
    subst this
    intro x hx
    rcases List.mem_cons.1 hx with rfl | hx
    · exact ⟨hu,he⟩
    · exact ih (he'.ot.nd hN) hev x hx
theorem Tre.pbase (h:Tre N n fr to b r base via ev ρ) (hN:Nds N n fr to) {u:Nat} {l:List Nat} (hA:AP n fr to b via u l) (hu:u<N) (he:ev u=true):base u∈l:=by
  induction hA with
  | root h0=>
    rename_i u
    have:u=r:=Classical.byContradiction fun hne=>by have:=(h.st u hu he hne).1; omega
    rw [this,h.rr]; simp
  | step h1 hk he' hl ih=>
    rename_i u k l
    have hne:u≠r:=fun e=>by rw [e,h.rb] at h1; omega
    obtain ⟨_,k',hk',_,hev,_,h2⟩:=h.st u hu he hne
    have:=Int.ofNat.inj (hk.symm.trans hk')
    subst this
    by_cases hb:base u=u
    · rw [hb]; simp
    · have:=ih (he'.ot.nd hN) hev
      rw [(h2 hb).2.2] at this
      exact List.mem_cons_of_mem _ this
theorem Tre.pmono (h:Tre N n fr to b r base via ev ρ) (hN:Nds N n fr to) {u:Nat} {l:List Nat} (hA:AP n fr to b via u l) (hu:u<N) (he:ev u=true):∀x∈l,base x=base u∨ρ x<ρ u:=by
  induction hA with
  | root h0=>intro x hx; have:=List.mem_singleton.1 hx; subst this; exact .inl rfl
  | step h1 hk he' hl ih=>
    rename_i u k l
    have hne:u≠r:=fun e=>by rw [e,h.rb] at h1; omega
    obtain ⟨_,k',hk',_,hev,hb1,hb2⟩:=h.st u hu he hne
    have:=Int.ofNat.inj (hk.symm.trans hk')
    subst this
    have hxN:=he'.ot.nd hN
    intro x hx
    rcases List.mem_cons.1 hx with rfl | hx
    · exact .inl rfl
    · have hi:=ih hxN hev x hx
      have hx':=(h.pev hN hl hxN hev x hx).1
      have r1:=h.rk x hx'
      have r2:=h.rk _ hxN
      by_cases hb:base u=u
      · obtain ⟨_,h3,h4⟩:=hb1 hb
        rcases hi with e | e
        · right; rw [e] at r1; omega
        · right; omega
      · have hnb:=(hb2 hb).2.2
        have r3:=h.rk u hu
        rcases hi with e | e
        · left; rw [e,hnb]
        · right; rw [hnb] at r2; omega
theorem Tre.ple (h:Tre N n fr to b r base via ev ρ) (hN:Nds N n fr to) {u:Nat} {l:List Nat} (hA:AP n fr to b via u l) (hu:u<N) (he:ev u=true) {x:Nat} (hx:x∈l):ρ x≤ρ u:=by
  rcases h.pmono hN hA hu he x hx with e | e
  · have r1:=h.rk x (h.pev hN hA hu he x hx).1
    have r2:=h.rk u hu
    rw [e] at r1; omega
  · omega
theorem Tre.both (h:Tre N n fr to b r base via ev ρ) {u:Nat} (hu:u<N) (he:ev u=true) (hne:u≠r):(ev (mt fr to b u)=true→base (mt fr to b u)=base u∧base u≠u)∧(ev (mt fr to b u)=false→base u=u):=by
  obtain ⟨_,k,_,_,_,h1,h2⟩:=h.st u hu he hne
  constructor
  · intro hm
    by_cases hb:base u=u
    · rw [(h1 hb).1] at hm; cases hm
    · exact ⟨(h2 hb).2.1,hb⟩
  · intro hm
    refine Classical.byContradiction fun hb=>?_
    rw [(h2 hb).1] at hm; cases hm
/-! ### Two ways back that meet -/
structure SH (N n:Nat) (fr to:Nat→Nat) (b:Nat→Int) (base:Nat→Nat) (via:Nat→Int) (ev:Nat→Bool) (i a c top:Nat) (PA RA PB RB:List Nat):Prop where
  en:En n fr to i a
  ec:c=ot fr to i a
  apa:AP n fr to b via a (PA++RA)
  nda:ND fr to b (PA++RA)
  apb:AP n fr to b via c (PB++RB)
  ndb:ND fr to b (PB++RB)
  na:∀v∈PA,base v≠top
  nb:∀v∈PB,base v≠top
  ra:∃x q,RA=x :: q∧base x=top
  rb:∃x q,RB=x :: q∧base x=top
  cr:∀v∈PA,∀w∈PB,v≠w∧mt fr to b v≠w
  ea:ev a=true
  eb:ev c=true
def Ch (fr to:Nat→Nat) (b V via:Nat→Int):List Nat→Int→Prop
  | [],_=>True
  | x :: p,e=>V x=e∧Ch fr to b V via p (via (mt fr to b x))
def markF (fr to:Nat→Nat) (b:Nat→Int):List Nat→(Nat→Int)→Int→Nat→Int
  | [],v,_=>v
  | x :: p,v,e=>markF fr to b p (upf v x e) (upf v x e (mt fr to b x))
theorem markF_out:∀{p:List Nat} {v:Nat→Int} {e:Int} {x:Nat},x ∉ p→markF fr to b p v e x=v x
  | [],_,_,_,_=>rfl
  | y :: p,v,e,x,h=>by
    show markF fr to b p (upf v y e) _ x=_
    have hxy:x≠y:=fun hh=>h (by simp [hh])
    rw [markF_out fun hh=>h (by simp [hh]),upf_ne hxy]
theorem Ch.congr {V V' via via':Nat→Int}:∀{p:List Nat} {e:Int},Ch fr to b V via p e→(∀x∈p,V' x=V x∧via' (mt fr to b x)=via (mt fr to b x))→Ch fr to b V' via' p e
  | [],_,_,_=>trivial
  | x :: p,e,h,hc=>by
    obtain ⟨h1,h2⟩:=h
    refine ⟨(hc x (by simp)).1.trans h1,?_⟩
    rw [(hc x (by simp)).2]
    exact h2.congr fun y hy=>hc y (by simp [hy])
theorem markF_ch:∀{p:List Nat} {v:Nat→Int} {e:Int},p.Nodup→(∀x∈p,∀y∈p,mt fr to b x≠y)→Ch fr to b (markF fr to b p v e) v p e
  | [],_,_,_,_=>trivial
  | x :: p,v,e,hnd,hm=>by
    have hnd':=List.nodup_cons.1 hnd
    have e1:upf v x e (mt fr to b x)=v (mt fr to b x):=upf_ne (hm x (by simp) x (by simp))
    refine ⟨?_,?_⟩
    · show markF fr to b p (upf v x e) _ x=e
      rw [markF_out hnd'.1,upf_same]
    · show Ch fr to b (markF fr to b p (upf v x e) (upf v x e (mt fr to b x))) v p (v (mt fr to b x))
      rw [e1]
      exact (markF_ch hnd'.2 fun y hy z hz=>hm y (by simp [hy]) z (by simp [hz])).congr fun y hy=>⟨rfl,(upf_ne (hm y (by simp [hy]) x (by simp))).symm⟩
theorem AP.pos {u:Nat} {l l':List Nat} (h:AP n fr to b via u l) (e:l=u :: l') (hne:l'≠[]):0≤b u:=by
  cases h with
  | root h0=>exact (hne (List.cons.inj e).2.symm).elim
  | step h1=>exact h1
theorem AP.nxt {u x:Nat} {q:List Nat} (h:AP n fr to b via u (u :: x :: q)):0≤b u∧∃k:Nat,via (mt fr to b u)=(k:Int)∧En n fr to k (mt fr to b u)∧x=ot fr to k (mt fr to b u)∧AP n fr to b via x (x :: q):=by
  cases h with
  | step h1 hk he hl=>
    obtain ⟨_,e⟩:=hl.head
    have:=(List.cons.inj e).1
    subst this
    exact ⟨h1,_,hk,he,rfl,hl⟩
section
variable {i a c top:Nat} {PA RA PB RB:List Nat}
theorem SH.ac (h:SH N n fr to b base via ev i a c top PA RA PB RB):a=ot fr to i c:=by rw [h.ec,h.en.oo]
theorem SH.aN (hN:Nds N n fr to) (h:SH N n fr to b base via ev i a c top PA RA PB RB):a<N:=h.en.nd hN
theorem SH.cN (hN:Nds N n fr to) (h:SH N n fr to b base via ev i a c top PA RA PB RB):c<N:=by rw [h.ec]; exact h.en.ot.nd hN
theorem SH.fa (hN:Nds N n fr to) (hT:Tre N n fr to b r base via ev ρ) (h:SH N n fr to b base via ev i a c top PA RA PB RB) {v:Nat} (hv:v∈PA):v<N∧ev v=true∧v≠r∧ρ top<ρ v∧base v∈PA:=by
  obtain ⟨x,q,hRA,hx⟩:=h.ra
  have haN:=h.aN hN
  obtain ⟨p1,p2,hp⟩:=List.append_of_mem hv
  have hA:=h.apa
  have hall:=hT.pev hN hA haN h.ea
  obtain ⟨hvN,hve⟩:=hall v (by simp [hv])
  obtain ⟨hxN,hxe⟩:=hall x (by simp [hRA])
  have hsuf:AP n fr to b via v (v :: (p2++RA)):=hA.suf (p:=p1) (by rw [hp]; simp)
  have hxm:x∈v :: (p2++RA):=by simp [hRA]
  have hrho:ρ top<ρ v:=by
    have r1:=hT.rk x hxN
    rcases hT.pmono hN hsuf hvN hve x hxm with e | e
    · rw [hx] at e; exact (h.na v hv e.symm).elim
    · rw [hx] at r1; omega
  refine ⟨hvN,hve,fun e=>?_,hrho,?_⟩
  · have:=hsuf.pos rfl (by rw [hRA]; simp)
    rw [e,hT.rb] at this; omega
  · have hb:=hT.pbase hN hsuf hvN hve
    have hb':base v∈PA++RA:=by
      rw [hp]
      rcases List.mem_cons.1 hb with e | hb
      · rw [e]; simp
      · rcases List.mem_append.1 hb with hb | hb
        · simp [hb]
        · simp [hb]
    rcases List.mem_append.1 hb' with hb' | hb'
    · exact hb'
    · -- beyond the circle where they meet the ranks are less
      have hsx:AP n fr to b via x (x :: q):=hA.suf (p:=PA) (by rw [hRA])
      rw [hRA] at hb'
      have:=hT.ple hN hsx hxN hxe hb'
      have r1:=hT.rk x hxN
      have r2:=hT.rk v hvN
      rw [hx] at r1; omega
theorem SH.far (hN:Nds N n fr to) (hT:Tre N n fr to b r base via ev ρ) (h:SH N n fr to b base via ev i a c top PA RA PB RB) {z:Nat} (hz:z∈RA):z<N∧ev z=true∧ρ z≤ρ top:=by
  obtain ⟨x,q,hRA,hx⟩:=h.ra
  have hall:=hT.pev hN h.apa (h.aN hN) h.ea
  obtain ⟨hxN,hxe⟩:=hall x (by simp [hRA])
  have hsx:AP n fr to b via x (x :: q):=h.apa.suf (p:=PA) (by rw [hRA])
  have:=hT.ple hN hsx hxN hxe (hRA▸hz)
  have r1:=hT.rk x hxN
  rw [hx] at r1
  obtain ⟨h1,h2⟩:=hall z (by simp [hz])
  exact ⟨h1,h2,by omega⟩
theorem SH.topE (hN:Nds N n fr to) (hT:Tre N n fr to b r base via ev ρ) (h:SH N n fr to b base via ev i a c top PA RA PB RB):top<N∧ev top=true∧base top=top:=by
  obtain ⟨x,q,hRA,hx⟩:=h.ra
  obtain ⟨hxN,hxe,_⟩:=h.far hN hT (z:=x) (by simp [hRA])
  have:=hT.bs x hxN hxe
  rw [hx] at this; exact this
theorem SH.symm (hN:Nds N n fr to) (hM:MM N n fr to N b) (hT:Tre N n fr to b r base via ev ρ) (h:SH N n fr to b base via ev i a c top PA RA PB RB):SH N n fr to b base via ev i c a top PB RB PA RA where
  en:=by rw [h.ec]; exact h.en.ot
  ec:=h.ac
  apa:=h.apb
  nda:=h.ndb
  apb:=h.apa
  ndb:=h.nda
  na:=h.nb
  nb:=h.na
  ra:=h.rb
  rb:=h.ra
  cr:=fun w hw v hv=>by
    obtain ⟨h1,h2⟩:=h.cr v hv w hw
    refine ⟨h1.symm,fun e=>h2 ?_⟩
    obtain ⟨hvN,_,hvr,_⟩:=h.fa hN hT hv
    have hwN:=(hT.pev hN h.apb (h.cN hN) h.eb w (by simp [hw])).1
    by_cases hb:0≤b w
    · obtain ⟨_,_,_,_,_,_,e1⟩:=hM.en hwN (by omega) hb
      rw [e] at e1; exact e1
    · exfalso
      obtain ⟨x,q,hRB,hx⟩:=h.rb
      obtain ⟨p1,p2,hp⟩:=List.append_of_mem hw
      have hsuf:AP n fr to b via w (w :: (p2++RB)):=h.apb.suf (p:=p1) (by rw [hp]; simp)
      exact hb (hsuf.pos rfl (by rw [hRB]; simp))
  ea:=h.eb
  eb:=h.ea
theorem SH.ra_rb (hN:Nds N n fr to) (hM:MM N n fr to N b) (hT:Tre N n fr to b r base via ev ρ) (h:SH N n fr to b base via ev i a c top PA RA PB RB) {v z:Nat} (hv:v∈PA) (hz:z∈PB++RB):v≠z∧mt fr to b v≠z:=by
  rcases List.mem_append.1 hz with hz | hz
  · exact h.cr v hv z hz
  · obtain ⟨hvN,hve,hvr,hr,_⟩:=h.fa hN hT hv
    obtain ⟨hzN,hze,hzr⟩:=(h.symm hN hM hT).far hN hT hz
    refine ⟨fun e=>by rw [e] at hr; omega,fun e=>?_⟩
    rw [←e] at hze hzr hzN
    have:=((hT.both hvN hve hvr).1 hze).1
    have r1:=hT.rk _ hzN
    have r2:=hT.rk v hvN
    rw [this] at r1; omega
theorem mark_way {V:Nat→Int} (hN:Nds N n fr to) (hM:MM N n fr to N b):∀{p1 p2:List Nat} {y x k t:Nat} {e:Int} {T R:List Nat},y :: R=p1++x :: p2→(∀z∈y :: R,z<N)→AP n fr to b via y (y :: R)→Ch fr to b V via (p1++[x]) e→e=(k:Int)→En n fr to k y→t=ot fr to k y→AP n fr to b V t T→0≤b x→
    AP n fr to b V (mt fr to b x) (mt fr to b x :: ((p1.map (mt fr to b)).reverse++T))
  | [],p2,y,x,k,t,e,T,R,hR,hlt,hA,hC,he,hk,ht,hT,hb=>by
    have hyx:=(List.cons.inj hR).1
    subst hyx
    obtain ⟨j,ej,hj,em,_,hbm,hmm⟩:=hM.en (hlt y (by simp)) (by have:=hlt y (by simp); omega) hb
    refine .step (by rw [hbm]; omega) ?_ ?_ ?_ (k:=k)
    · rw [hmm]; exact hC.1.trans he
    · rw [hmm]; exact hk
    · rw [hmm,←ht]; exact hT
  | z :: p1,p2,y,x,k,t,e,T,R,hR,hlt,hA,hC,he,hk,ht,hT,hb=>by
    have hyz:=(List.cons.inj hR).1
    have hR':=(List.cons.inj hR).2
    subst hyz
    obtain ⟨y',R',hRe⟩:∃y' R',R=y' :: R':=by cases p1<;>exact ⟨_,_,hR'⟩
    subst hRe
    obtain ⟨hb1,k',hk',hen',hy',hA'⟩:=hA.nxt
    obtain ⟨j,ej,hj,em,_,hbm,hmm⟩:=hM.en (hlt y (by simp)) (by have:=hlt y (by simp); omega) hb1
    have first:AP n fr to b V (mt fr to b y) (mt fr to b y :: T):=by
      refine .step (by rw [hbm]; omega) ?_ ?_ ?_ (k:=k)
      · rw [hmm]; exact hC.1.trans he
      · rw [hmm]; exact hk
      · rw [hmm,←ht]; exact hT
    have:=mark_way hN hM (p1:=p1) (p2:=p2) (y:=y') (x:=x) (k:=k') (t:=mt fr to b y) (e:=via (mt fr to b y)) (T:=mt fr to b y :: T) hR' (fun w hw=>hlt w (List.mem_cons_of_mem _ hw)) hA' hC.2 hk' (hy'▸hen'.ot) (by rw [hy',hen'.oo]) first hb
    simpa using this
end
end
end Go.Mz
/-
  The look from a root, in plain words: a circle more keeps all that is known. No program in sight.
-/
namespace Go.Mz
section
variable {N n r:Nat} {fr to:Nat→Nat} {b via V:Nat→Int} {base ρ:Nat→Nat} {ev:Nat→Bool} {i a c top:Nat} {PA RA PB RB:List Nat}
theorem SH.fp (hN:Nds N n fr to) (hM:MM N n fr to N b) (hT:Tre N n fr to b r base via ev ρ) (h:SH N n fr to b base via ev i a c top PA RA PB RB) {v:Nat} (hv:v∈PA∨v∈PB) :
    v<N∧ev v=true∧v≠r∧ρ top<ρ v∧(base v∈PA∨base v∈PB)∧base v≠top:=by
  rcases hv with hv | hv
  · obtain ⟨h1,h2,h3,h4,h5⟩:=h.fa hN hT hv
    exact ⟨h1,h2,h3,h4,.inl h5,h.na v hv⟩
  · obtain ⟨h1,h2,h3,h4,h5⟩:=(h.symm hN hM hT).fa hN hT hv
    exact ⟨h1,h2,h3,h4,.inr h5,h.nb v hv⟩
theorem ch_en:∀{p R R2:List Nat} {y k t:Nat} {e:Int},AP n fr to b via y (y :: R)→y :: R=p++R2→Ch fr to b V via p e→e=(k:Int)→En n fr to k y→t=ot fr to k y→
    ∀x∈p,∃k':Nat,V x=k'∧En n fr to k' x∧(ot fr to k' x=t∨∃z∈p,ot fr to k' x=mt fr to b z)
  | [],_,_,_,_,_,_,_,_,_,_,_,_,x,hx=>by cases hx
  | z :: p,R,R2,y,k,t,e,hA,hR,hC,he,hk,ht,x,hx=>by
    have hz:=(List.cons.inj hR).1
    have hR':=(List.cons.inj hR).2
    subst hz
    rcases List.mem_cons.1 hx with rfl | hx'
    · exact ⟨k,hC.1.trans he,hk,.inl ht.symm⟩
    · obtain ⟨y',R',hRe⟩:∃y' R',R=y' :: R':=by
        cases p with
        | nil=>cases hx'
        | cons w p=>exact ⟨_,_,hR'⟩
      subst hRe
      obtain ⟨hb1,k1,hk1,hen1,hy1,hA1⟩:=hA.nxt
      obtain ⟨k',h1,h2,h3⟩:=ch_en hA1 hR' hC.2 hk1 (hy1▸hen1.ot) rfl x hx'
      refine ⟨k',h1,h2,.inr ?_⟩
      rcases h3 with h3 | ⟨w,hw,h3⟩
      · exact ⟨y,by simp,by rw [h3,hy1,hen1.oo]⟩
      · exact ⟨w,by simp [hw],h3⟩
theorem SH.chA (hN:Nds N n fr to) (h:SH N n fr to b base via ev i a c top PA RA PB RB) (hc:Ch fr to b V via PA (i:Int)) {x:Nat} (hx:x∈PA):∃k:Nat,V x=k∧En n fr to k x∧(ot fr to k x=c∨∃z∈PA,ot fr to k x=mt fr to b z):=by
  obtain ⟨R,e⟩:=h.apa.head
  have hA:=h.apa
  rw [e] at hA
  exact ch_en hA e.symm hc rfl h.en h.ec x hx
theorem SH.next (h:SH N n fr to b base via ev i a c top PA RA PB RB) {u:Nat} (hu:u∈PA):0≤b u∧∃k:Nat,via (mt fr to b u)=k∧En n fr to k (mt fr to b u)∧(ot fr to k (mt fr to b u)∈PA∨base (ot fr to k (mt fr to b u))=top):=by
  obtain ⟨x,q,hRA,hx⟩:=h.ra
  obtain ⟨p1,p2,hp⟩:=List.append_of_mem hu
  have hsuf:AP n fr to b via u (u :: (p2++RA)):=h.apa.suf (p:=p1) (by rw [hp]; simp)
  cases p2 with
  | nil=>
    rw [hRA] at hsuf
    obtain ⟨h1,k,h2,h3,h4,_⟩:=hsuf.nxt
    exact ⟨h1,k,h2,h3,.inr (by rw [←h4]; exact hx)⟩
  | cons y p2=>
    obtain ⟨h1,k,h2,h3,h4,_⟩:=AP.nxt (q:=p2++RA) hsuf
    exact ⟨h1,k,h2,h3,.inl (by rw [←h4,hp]; simp)⟩
theorem nd_app (hM:MM N n fr to N b) {p q:List Nat} (hp:ND fr to b p) (hq:ND fr to b q) (hlp:∀x∈p,x<N) (hlq:∀x∈q,x<N) (h:∀y∈p,∀z∈q,y≠z∧(0≤b y→mt fr to b y≠z)):ND fr to b (p++q):=by
  refine ⟨List.nodup_append.2 ⟨hp.1,hq.1,fun y hy z hz=>(h y hy z hz).1⟩,fun u hu hb w hw=>?_⟩
  rcases List.mem_append.1 hu with hu | hu<;>rcases List.mem_append.1 hw with hw | hw
  · exact hp.2 u hu hb w hw
  · exact (h u hu w hw).2 hb
  · intro e
    obtain ⟨j,_,_,_,_,hbm,hmm⟩:=hM.en (hlq u hu) (by have:=hlq u hu; omega) hb
    rw [e] at hbm hmm
    exact (h w hw u hu).2 (by rw [hbm]; omega) hmm
  · exact hq.2 u hu hb w hw
theorem nd_sub {p q:List Nat} (h:ND fr to b (p++q)):ND fr to b p∧ND fr to b q:=
  ⟨⟨(List.nodup_append.1 h.1).1,fun u hu hb w hw=>h.2 u (by simp [hu]) hb w (by simp [hw])⟩,⟨(List.nodup_append.1 h.1).2.1,fun u hu hb w hw=>h.2 u (by simp [hu]) hb w (by simp [hw])⟩⟩
theorem nd_map (hM:MM N n fr to N b):∀{p:List Nat},ND fr to b p→(∀x∈p,x<N∧0≤b x)→ND fr to b (p.map (mt fr to b)).reverse:=by
  intro p hp hl
  have inj:∀x∈p,∀y∈p,mt fr to b x=mt fr to b y→x=y:=fun x hx y hy e=>hM.inj (hl x hx).1 (hl y hy).1 (hl x hx).2 (hl y hy).2 e
  have hmap:(p.map (mt fr to b)).Nodup:=by
    clear hM
    have hnd:=hp.1
    clear hp hl
    induction p with
    | nil=>exact List.nodup_nil
    | cons x p ih=>
      rw [List.map_cons,List.nodup_cons]
      have hnd':=List.nodup_cons.1 hnd
      refine ⟨fun hm=>?_,ih (fun x hx y hy=>inj x (by simp [hx]) y (by simp [hy])) hnd'.2⟩
      obtain ⟨y,hy,e⟩:=List.mem_map.1 hm
      exact hnd'.1 (inj y (by simp [hy]) x (by simp) e▸hy)
  refine ⟨List.pairwise_reverse.2 (hmap.imp fun h=>h.symm),fun u hu hb w hw=>?_⟩
  · rw [List.mem_reverse] at hu hw
    obtain ⟨x,hx,rfl⟩:=List.mem_map.1 hu
    obtain ⟨y,hy,rfl⟩:=List.mem_map.1 hw
    obtain ⟨_,_,_,_,_,_,hmm⟩:=hM.en (hl x hx).1 (by have:=(hl x hx).1; omega) (hl x hx).2
    rw [hmm]
    exact fun e=>hp.2 y hy (hl y hy).2 x hx e.symm
theorem SH.wayA (hN:Nds N n fr to) (hM:MM N n fr to N b) (hT:Tre N n fr to b r base via ev ρ) (h:SH N n fr to b base via ev i a c top PA RA PB RB) (hV:∀x,x ∉ PA→x ∉ PB→V x=via x) (hc:Ch fr to b V via PA (i:Int)) {v:Nat} (hv:v∈PA) :
    ∃s,(∀z∈s,∃y∈PA,z=mt fr to b y)∧AP n fr to b V (mt fr to b v) (s++(PB++RB))∧ND fr to b (s++(PB++RB)):=by
  have hall:=hT.pev hN h.apa (h.aN hN) h.ea
  have hallb:=hT.pev hN h.apb (h.cN hN) h.eb
  obtain ⟨p1,p2,hp⟩:=List.append_of_mem hv
  obtain ⟨R,e⟩:=h.apa.head
  have hA:=h.apa
  rw [e] at hA
  have hposA:∀y∈PA,0≤b y:=fun y hy=>(h.next hy).1
  have hcong:AP n fr to b V c (PB++RB):=by
    refine h.apb.congr fun y hy hb=>?_
    have h1:mt fr to b y ∉ PB:=fun hm=>h.ndb.2 y hy hb _ (by simp [hm]) rfl
    have h2:mt fr to b y ∉ PA:=fun hm=>by
      obtain ⟨_,_,_,_,_,hbm,hmm⟩:=hM.en (hallb y hy).1 (by have:=(hallb y hy).1; omega) hb
      exact (h.ra_rb hN hM hT hm hy).2 hmm
    exact hV _ h2 h1
  have hchain:Ch fr to b V via (p1++[v]) (i:Int):=by
    have:∀{p q:List Nat} {e:Int},Ch fr to b V via (p++q) e→Ch fr to b V via p e:=by
      intro p
      induction p with
      | nil=>intro q e _; trivial
      | cons x p ih=>intro q e hh; exact ⟨hh.1,ih hh.2⟩
    have hp':PA=(p1++[v])++p2:=by rw [hp]; simp
    rw [hp'] at hc
    exact this hc
  have hR:a :: R=p1++v :: (p2++RA):=by rw [←e,hp]; simp
  have way:=mark_way hN hM hR (fun z hz=>(hall z (by rw [e]; exact hz)).1) hA hchain rfl h.en h.ec hcong (hposA v hv)
  have hs:∀z∈mt fr to b v :: (p1.map (mt fr to b)).reverse,∃y∈PA,z=mt fr to b y:=fun z hz=>by
    rcases List.mem_cons.1 hz with rfl | hz
    · exact ⟨v,hv,rfl⟩
    · rw [List.mem_reverse] at hz
      obtain ⟨y,hy,rfl⟩:=List.mem_map.1 hz
      exact ⟨y,by rw [hp]; simp [hy],rfl⟩
  refine ⟨mt fr to b v :: (p1.map (mt fr to b)).reverse,hs,by simpa using way,?_⟩
  have e1:mt fr to b v :: (p1.map (mt fr to b)).reverse=((p1++[v]).map (mt fr to b)).reverse:=by simp
  have hsubA:∀x∈p1++[v],x∈PA:=fun x hx=>by
    rw [hp]; rcases List.mem_append.1 hx with hx | hx
    · simp [hx]
    · have:=List.mem_singleton.1 hx; simp [this]
  have ndp:ND fr to b (p1++[v]):=by
    have:=h.nda
    have e2:PA++RA=(p1++[v])++(p2++RA):=by rw [hp]; simp
    rw [e2] at this
    exact (nd_sub this).1
  refine nd_app hM (by rw [e1]; exact nd_map hM ndp fun x hx=>⟨(hall x (by simp [hsubA x hx])).1,hposA x (hsubA x hx)⟩) h.ndb (fun x hx=>?_) (fun x hx=>(hallb x hx).1) fun y hy z hz=>?_
  · obtain ⟨y,hy,rfl⟩:=hs x hx
    exact hM.ltN hN (hall y (by simp [hy])).1 (hposA y hy)
  · obtain ⟨w,hw,rfl⟩:=hs y hy
    obtain ⟨_,_,_,_,_,_,hmm⟩:=hM.en (hall w (by simp [hw])).1 (by have:=(hall w (by simp [hw])).1; omega) (hposA w hw)
    have:=h.ra_rb hN hM hT hw hz
    exact ⟨this.2,fun _=>by rw [hmm]; exact this.1⟩
theorem first_or {Q:Nat→Prop}:∀l:List Nat,(∀x∈l,¬Q x)∨∃p x q,l=p++x :: q∧Q x∧∀y∈p,¬Q y
  | []=>.inl fun x hx=>by cases hx
  | x :: l=>by
    by_cases hx:Q x
    · exact .inr ⟨[],x,l,rfl,hx,fun y hy=>by cases hy⟩
    · rcases first_or l with h | ⟨p,y,q,e,hy,hn⟩
      · left
        intro z hz
        rcases List.mem_cons.1 hz with rfl | hz
        · exact hx
        · exact h z hz
      · right
        refine ⟨x :: p,y,q,by rw [e]; rfl,hy,fun z hz=>?_⟩
        rcases List.mem_cons.1 hz with rfl | hz
        · exact hx
        · exact hn z hz
theorem SH.preA (hN:Nds N n fr to) (hM:MM N n fr to N b) (hT:Tre N n fr to b r base via ev ρ) (h:SH N n fr to b base via ev i a c top PA RA PB RB) {u x:Nat} {p q s:List Nat} (hu:u<N) (heu:ev u=true) (hA:AP n fr to b via u (p++x :: q)) (hx:mt fr to b x∈PA) (hbx:0≤b x)
    (hp:∀y∈p,¬(0≤b y∧(mt fr to b y∈PA∨mt fr to b y∈PB))) (hnd:ND fr to b (p++x :: q)) (hs:∀z∈s,∃y∈PA,z=mt fr to b y) (hns:ND fr to b (s++(PB++RB))):ND fr to b (p++(s++(PB++RB))):=by
  have hall:=hT.pev hN h.apa (h.aN hN) h.ea
  have hallb:=hT.pev hN h.apb (h.cN hN) h.eb
  have hallu:=hT.pev hN hA hu heu
  have hposA:∀y∈PA,0≤b y:=fun y hy=>(h.next hy).1
  obtain ⟨hxN,hxe⟩:=hallu x (by simp)
  obtain ⟨_,_,_,_,_,hbm,hmm⟩:=hM.en hxN (by omega) hbx
  have hxr:x≠r:=fun e=>by rw [e,hT.rb] at hbx; omega
  obtain ⟨hvN,hve,hvr,hvrho,_⟩:=h.fa hN hT hx
  have hxrho:ρ top<ρ x:=by
    have:=((hT.both hxN hxe hxr).1 hve).1
    have r1:=hT.rk _ hvN
    have r2:=hT.rk x hxN
    rw [this] at r1; omega
  refine nd_app hM (nd_sub hnd).1 hns (fun y hy=>(hallu y (by simp [hy])).1) (fun z hz=>?_) fun y hy z hz=>?_
  · rcases List.mem_append.1 hz with hz | hz
    · obtain ⟨w,hw,rfl⟩:=hs z hz
      exact hM.ltN hN (hall w (by simp [hw])).1 (hposA w hw)
    · exact (hallb z hz).1
  · obtain ⟨hyN,hye⟩:=hallu y (by simp [hy])
    obtain ⟨p1,p2,hpe⟩:=List.append_of_mem hy
    have hsy:AP n fr to b via y (y :: (p2++x :: q)):=hA.suf (p:=p1) (by rw [hpe]; simp)
    have hposy:0≤b y:=hsy.pos rfl (by simp)
    have hno:=hp y hy
    have hyrho:ρ top<ρ y:=Nat.lt_of_lt_of_le hxrho (hT.ple hN hsy hyN hye (x:=x) (by simp))
    have inA:∀{w},w∈PA→y≠w:=fun {w} hw e=>by
      subst e
      obtain ⟨q1,q2,hq⟩:=List.append_of_mem hw
      have hsy':AP n fr to b via y (y :: (q2++RA)):=h.apa.suf (p:=q1) (by rw [hq]; simp)
      have hxin:x∈y :: (q2++RA):=by rw [←hsy.det hsy']; simp
      have:x∈PA++RA:=by
        rw [hq]
        rcases List.mem_cons.1 hxin with e | hxin
        · simp [e]
        · rcases List.mem_append.1 hxin with e | e<;>simp [e]
      exact h.nda.2 x this hbx _ (by simp [hx]) rfl
    rcases List.mem_append.1 hz with hz | hz
    · obtain ⟨w,hw,rfl⟩:=hs z hz
      have hwN:=(hall w (by simp [hw])).1
      obtain ⟨_,_,_,_,_,hbw,hmw⟩:=hM.en hwN (by omega) (hposA w hw)
      constructor
      · intro e
        refine hno ⟨hposy,.inl ?_⟩
        rw [e,hmw]; exact hw
      · intro _ e
        exact inA hw (hM.inj hyN hwN hposy (hposA w hw) e)
    · constructor
      · intro e
        subst e
        obtain ⟨q1,q2,hq⟩:=List.append_of_mem hz
        have hsy':AP n fr to b via y (y :: q2):=h.apb.suf hq
        have hxin:x∈y :: q2:=by rw [←hsy.det hsy']; simp
        have hxin':x∈PB++RB:=by rw [hq]; simp at hxin ⊢; rcases hxin with e | e<;>simp [e]
        exact (h.ra_rb hN hM hT hx hxin').2 hmm
      · intro _ e
        rcases List.mem_append.1 hz with hz' | hz'
        · exact hno ⟨hposy,.inr (e▸hz')⟩
        · obtain ⟨hzN,hze,hzr⟩:=(h.symm hN hM hT).far hN hT hz'
          have hyr:y≠r:=fun e=>by rw [e,hT.rb] at hposy; omega
          have:=((hT.both hyN hye hyr).1 (e▸hze)).1
          have r1:=hT.rk z hzN
          have r2:=hT.rk y hyN
          rw [←e,this] at r1
          rw [e] at r1
          omega
theorem SH.ways (hN:Nds N n fr to) (hM:MM N n fr to N b) (hT:Tre N n fr to b r base via ev ρ) (h:SH N n fr to b base via ev i a c top PA RA PB RB) (hV:∀x,x ∉ PA→x ∉ PB→V x=via x) (hca:Ch fr to b V via PA (i:Int)) (hcb:Ch fr to b V via PB (i:Int)) {u:Nat} (hu:u<N)
    (heu:ev u=true∨∃v,(v∈PA∨v∈PB)∧u=mt fr to b v):∃l,AP n fr to b V u l∧ND fr to b l:=by
  have hsym:=h.symm hN hM hT
  rcases heu with heu | ⟨v,hv | hv,rfl⟩
  · obtain ⟨l,hl,hnd⟩:=hT.pa u hu heu
    rcases first_or (Q:=fun x=>0≤b x∧(mt fr to b x∈PA∨mt fr to b x∈PB)) l with hn | ⟨p,x,q,e,⟨hbx,hQ⟩,hp⟩
    · refine ⟨l,hl.congr fun y hy hb=>?_,hnd⟩
      exact hV _ (fun hm=>hn y hy ⟨hb,.inl hm⟩) fun hm=>hn y hy ⟨hb,.inr hm⟩
    · rw [e] at hl hnd
      have hxN:=(hT.pev hN hl hu heu x (by simp)).1
      obtain ⟨_,_,_,_,_,hbm,hmm⟩:=hM.en hxN (by omega) hbx
      have hjoin:∀y∈p,0≤b y→V (mt fr to b y)=via (mt fr to b y):=fun y hy hb=>hV _ (fun hm=>hp y hy ⟨hb,.inl hm⟩) fun hm=>hp y hy ⟨hb,.inr hm⟩
      rcases hQ with hQ | hQ
      · obtain ⟨s,hs,hw,hns⟩:=h.wayA hN hM hT hV hca hQ
        rw [hmm] at hw
        exact ⟨_,hl.join hjoin hw,h.preA hN hM hT hu heu hl hQ hbx hp hnd hs hns⟩
      · obtain ⟨s,hs,hw,hns⟩:=hsym.wayA hN hM hT (fun x h1 h2=>hV x h2 h1) hcb hQ
        rw [hmm] at hw
        exact ⟨_,hl.join hjoin hw,hsym.preA hN hM hT hu heu hl hQ hbx (fun y hy hh=>hp y hy ⟨hh.1,hh.2.symm⟩) hnd hs hns⟩
  · obtain ⟨s,_,hw,hns⟩:=h.wayA hN hM hT hV hca hv
    exact ⟨_,hw,hns⟩
  · obtain ⟨s,_,hw,hns⟩:=hsym.wayA hN hM hT (fun x h1 h2=>hV x h2 h1) hcb hv
    exact ⟨_,hw,hns⟩
end
end Go.Mz
/-
  The look from a root, in plain words: its start, a step further, and a circle more. No program in sight.
-/
namespace Go.Mz
section
variable {N n r:Nat} {fr to:Nat→Nat} {b via V:Nat→Int} {base ρ:Nat→Nat} {ev:Nat→Bool}
theorem Tre.start (hr:r<N) (hb:b r=-1):Tre N n fr to b r (fun v=>v) (fun _=>-1) (fun v=>decide (v=r)) (fun _=>0) where
  rN:=hr
  rb:=hb
  re:=by simp
  rr:=rfl
  rk:=fun _ _=>rfl
  bs:=fun u hu he=>⟨hu,he,rfl⟩
  ns:=fun _ _ _=>rfl
  st:=fun u hu he hne=>(hne (of_decide_eq_true he)).elim
  od:=fun o ho _ h=>by have h:(0:Int)≤-1:=h; omega
  vw:=fun v hv=>.inl rfl
  pa:=fun u hu he=>by
    have:u=r:=of_decide_eq_true he
    subst this
    exact ⟨[u],.root (by rw [hb]; omega),by simp,fun x hx h=>by have:=List.mem_singleton.1 hx; subst this; omega⟩
theorem Tre.fresh (hN:Nds N n fr to) (hM:MM N n fr to N b) (hT:Tre N n fr to b r base via ev ρ) {w:Nat} (hw:w<N) (hew:ev w=false) (hvw:via w<0) (hbw:0≤b w):mt fr to b w<N∧ev (mt fr to b w)=false∧via (mt fr to b w)<0:=by
  obtain ⟨j,ej,hj,em,_,hbm,hmm⟩:=hM.en hw (by omega) hbw
  have hmN:mt fr to b w<N:=hM.ltN hN hw hbw
  have hev:ev (mt fr to b w)=false:=by
    refine Bool.eq_false_iff.2 fun he=>?_
    have hne:mt fr to b w≠r:=fun e=>by have:=hT.rb; rw [←e,hbm] at this; omega
    obtain ⟨_,k,hk,_⟩:=hT.st _ hmN he hne
    rw [hmm] at hk; omega
  refine ⟨hmN,hev,?_⟩
  refine Classical.byContradiction fun hv=>?_
  have:=(hT.od _ hmN hev (by omega)).2.1
  rw [hmm,hew] at this; cases this
theorem Tre.grow (hN:Nds N n fr to) (hM:MM N n fr to N b) (hT:Tre N n fr to b r base via ev ρ) {v w i:Nat} (hv:v<N) (hev:ev v=true) (hi:En n fr to i v) (hwi:w=ot fr to i v) (hew:ev w=false) (hvw:via w<0) (hbw:0≤b w) :
    Tre N n fr to b r base (upf via w (i:Int)) (upf ev (mt fr to b w) true) (upf (upf ρ w (ρ v+1)) (mt fr to b w) (ρ v+2)):=by
  have eiw:En n fr to i w:=by rw [hwi]; exact hi.ot
  have eo:ot fr to i w=v:=by rw [hwi,hi.oo]
  have hwN:w<N:=eiw.nd hN
  obtain ⟨hmN,hem,hvm⟩:=hT.fresh hN hM hwN hew hvw hbw
  obtain ⟨j,ej,hj,em,_,hbm,hmm⟩:=hM.en hwN (by omega) hbw
  have hmw:mt fr to b w≠w:=by rw [em]; exact hj.ne
  have hwv:w≠v:=fun e=>by rw [e,hev] at hew; cases hew
  have hmv:mt fr to b w≠v:=fun e=>by rw [e,hev] at hem; cases hem
  have hmr:mt fr to b w≠r:=fun e=>by rw [e,hT.re] at hem; cases hem
  have e1:∀u,ev u=true→upf ev (mt fr to b w) true u=true:=fun u he=>by
    by_cases hu:u=mt fr to b w
    · rw [hu,upf_same]
    · rw [upf_ne hu]; exact he
  have e0:∀u,upf ev (mt fr to b w) true u=true→u=mt fr to b w∨ev u=true:=fun u he=>by
    by_cases hu:u=mt fr to b w
    · exact .inl hu
    · rw [upf_ne hu] at he; exact .inr he
  have rh:∀u,u≠w→u≠mt fr to b w→upf (upf ρ w (ρ v+1)) (mt fr to b w) (ρ v+2) u=ρ u:=fun u h1 h2=>by rw [upf_ne h2,upf_ne h1]
  have rm:upf (upf ρ w (ρ v+1)) (mt fr to b w) (ρ v+2) (mt fr to b w)=ρ v+2:=upf_same
  have rw':upf (upf ρ w (ρ v+1)) (mt fr to b w) (ρ v+2) w=ρ v+1:=by rw [upf_ne hmw.symm,upf_same]
  have hnw:∀u,ev u=true→u≠w:=fun u he e=>by rw [e,hew] at he; cases he
  have hnm:∀u,ev u=true→u≠mt fr to b w:=fun u he e=>by rw [e,hem] at he; cases he
  have bw:base w=w:=hT.ns w hwN hew
  have bm:base (mt fr to b w)=mt fr to b w:=hT.ns _ hmN hem
  have mate_ne:∀u,u<N→ev u=true→0≤b u→mt fr to b u≠w∧mt fr to b u≠mt fr to b w:=fun u hu he hb=>
    ⟨fun e=>by
      obtain ⟨_,_,_,_,_,_,e2⟩:=hM.en hu (by omega) hb
      rw [e] at e2; exact hnm u he e2.symm,fun e=>hnw u he (hM.inj hu hwN hb hbw e)⟩
  have congrA:∀u l,u<N→ev u=true→AP n fr to b via u l→AP n fr to b (upf via w (i:Int)) u l:=fun u l hu he hA=>
    hA.congr fun y hy hb=>upf_ne (mate_ne y (hT.pev hN hA hu he y hy).1 (hT.pev hN hA hu he y hy).2 hb).1
  refine ⟨hT.rN,hT.rb,e1 r hT.re,hT.rr,fun u hu=>?_,fun u hu he=>?_,fun u hu he=>?_,fun u hu he hne=>?_,fun o ho he hvo=>?_,fun u hu=>?_,fun u hu he=>?_⟩
  · cases heu:ev u with
    | false=>rw [hT.ns u hu heu]
    | true=>
      have hb:=hT.bs u hu heu
      rw [rh _ (hnw _ hb.2.1) (hnm _ hb.2.1),rh _ (hnw _ heu) (hnm _ heu),hT.rk u hu]
  · rcases e0 u he with rfl | heu
    · rw [bm]; exact ⟨hmN,upf_same,bm⟩
    · have hb:=hT.bs u hu heu
      exact ⟨hb.1,e1 _ hb.2.1,hb.2.2⟩
  · refine hT.ns u hu ?_
    by_cases hum:u=mt fr to b w
    · rw [hum]; exact hem
    · rwa [upf_ne hum] at he
  · rcases e0 u he with rfl | heu
    · refine ⟨by rw [hbm]; omega,i,by rw [hmm,upf_same],by rw [hmm]; exact eiw,?_,fun _=>?_,fun h=>(h bm).elim⟩
      · rw [hmm,eo]; exact e1 v hev
      · rw [hmm,eo]
        refine ⟨by rw [upf_ne hmw.symm]; exact hew,by rw [rw',rm]; omega,?_⟩
        rw [rw',rh v hwv.symm hmv.symm]; omega
    · obtain ⟨hb,k,hk,hen,hex,h1,h2⟩:=hT.st u hu heu hne
      have hmn:=mate_ne u hu heu hb
      refine ⟨hb,k,by rw [upf_ne hmn.1]; exact hk,hen,e1 _ hex,fun hbu=>?_,fun hbu=>?_⟩
      · obtain ⟨a1,a2,a3⟩:=h1 hbu
        rw [upf_ne hmn.2,rh _ hmn.1 hmn.2,rh _ (hnw _ heu) (hnm _ heu),rh _ (hnw _ hex) (hnm _ hex)]
        exact ⟨a1,a2,a3⟩
      · obtain ⟨a1,a2,a3⟩:=h2 hbu
        exact ⟨e1 _ a1,a2,a3⟩
  · have hom:o≠mt fr to b w:=fun e=>by rw [e,upf_same] at he; cases he
    rw [upf_ne hom] at he
    by_cases how:o=w
    · subst how
      exact ⟨hbw,upf_same,bm⟩
    · rw [upf_ne how] at hvo
      obtain ⟨a1,a2,a3⟩:=hT.od o ho he hvo
      exact ⟨a1,e1 _ a2,a3⟩
  · by_cases huw:u=w
    · subst huw
      rw [upf_same]; exact .inr ⟨i,rfl,hwi▸hi.ot⟩
    · rw [upf_ne huw]; exact hT.vw u hu
  · rcases e0 u he with rfl | heu
    · obtain ⟨l,hl,hnd⟩:=hT.pa v hv hev
      have hall:=hT.pev hN hl hv hev
      refine ⟨mt fr to b w :: l,.step (by rw [hbm]; omega) (k:=i) (by rw [hmm,upf_same]) (by rw [hmm]; exact eiw) (by rw [hmm,eo]; exact congrA v l hv hev hl),?_⟩
      refine ⟨List.nodup_cons.2 ⟨fun hm=>(by rw [(hall _ hm).2] at hem; cases hem),hnd.1⟩,fun x hx hb y hy=>?_⟩
      rcases List.mem_cons.1 hx with rfl | hx
      · rw [hmm]
        rcases List.mem_cons.1 hy with rfl | hy
        · exact hmw.symm
        · exact (hnw _ (hall y hy).2).symm
      · rcases List.mem_cons.1 hy with rfl | hy
        · exact (mate_ne x (hall x hx).1 (hall x hx).2 hb).2
        · exact hnd.2 x hx hb y hy
    · obtain ⟨l,hl,hnd⟩:=hT.pa u hu heu
      exact ⟨l,congrA u l hu heu hl,hnd⟩
/-! ### A circle more -/
variable {i a c top:Nat} {PA RA PB RB:List Nat} {cin:Nat→Bool}
def Cin (fr to:Nat→Nat) (b:Nat→Int) (base:Nat→Nat) (N:Nat) (PA PB:List Nat) (cin:Nat→Bool):Prop:=
  ∀x,x<N→(cin x=true↔∃v,(v∈PA∨v∈PB)∧(x=base v∨x=base (mt fr to b v)))
theorem Cin.cev (hN:Nds N n fr to) (hM:MM N n fr to N b) (hT:Tre N n fr to b r base via ev ρ) (h:SH N n fr to b base via ev i a c top PA RA PB RB) (hin:Cin fr to b base N PA PB cin) {u:Nat} (hu:u<N) (he:ev u=true) (hc:cin (base u)=true):∃v,(v∈PA∨v∈PB)∧base u=base v:=by
  obtain ⟨v,hv,e | e⟩:=(hin _ (hT.baseN hu)).1 hc
  · exact ⟨v,hv,e⟩
  · obtain ⟨hvN,hve,hvr,_,_,_⟩:=h.fp hN hM hT hv
    have hmN:mt fr to b v<N:=hM.ltN hN hvN (hT.st v hvN hve hvr).1
    cases hm:ev (mt fr to b v) with
    | true=>exact ⟨v,hv,e.trans ((hT.both hvN hve hvr).1 hm).1⟩
    | false=>
      have h1:=hT.evb hu
      rw [e,hT.ns _ hmN hm,hm,he] at h1; cases h1
theorem Cin.cnev (hN:Nds N n fr to) (hM:MM N n fr to N b) (hT:Tre N n fr to b r base via ev ρ) (h:SH N n fr to b base via ev i a c top PA RA PB RB) (hin:Cin fr to b base N PA PB cin) {u:Nat} (hu:u<N) (he:ev u=false) (hc:cin (base u)=true):∃v,(v∈PA∨v∈PB)∧u=mt fr to b v:=by
  rw [hT.ns u hu he] at hc
  obtain ⟨v,hv,e | e⟩:=(hin _ hu).1 hc
  · obtain ⟨hvN,hve,_⟩:=h.fp hN hM hT hv
    have:=hT.evb hvN
    rw [←e,he,hve] at this; cases this
  · obtain ⟨hvN,hve,hvr,_,_,_⟩:=h.fp hN hM hT hv
    have hmN:mt fr to b v<N:=hM.ltN hN hvN (hT.st v hvN hve hvr).1
    cases hm:ev (mt fr to b v) with
    | true=>
      have:=hT.evb hmN
      rw [←e,he,hm] at this; cases this
    | false=>exact ⟨v,hv,e.trans (hT.ns _ hmN hm)⟩
theorem Cin.ctop (hN:Nds N n fr to) (hM:MM N n fr to N b) (hT:Tre N n fr to b r base via ev ρ) (h:SH N n fr to b base via ev i a c top PA RA PB RB) (hin:Cin fr to b base N PA PB cin):cin top=false:=by
  obtain ⟨htN,hte,htb⟩:=h.topE hN hT
  refine Bool.eq_false_iff.2 fun hc=>?_
  obtain ⟨v,hv,e⟩:=hin.cev hN hM hT h htN hte (by rw [htb]; exact hc)
  rw [htb] at e
  exact (h.fp hN hM hT hv).2.2.2.2.2 e.symm
theorem Cin.cone (hN:Nds N n fr to) (hM:MM N n fr to N b) (hT:Tre N n fr to b r base via ev ρ) (h:SH N n fr to b base via ev i a c top PA RA PB RB) (hin:Cin fr to b base N PA PB cin) {v:Nat} (hv:v∈PA∨v∈PB):cin (base v)=true∧cin (base (mt fr to b v))=true∧mt fr to b v<N∧0≤b v:=by
  obtain ⟨hvN,hve,hvr,_,_,_⟩:=h.fp hN hM hT hv
  have hb:=(hT.st v hvN hve hvr).1
  have hmN:mt fr to b v<N:=hM.ltN hN hvN hb
  exact ⟨(hin _ (hT.baseN hvN)).2 ⟨v,hv,.inl rfl⟩,(hin _ (hT.baseN hmN)).2 ⟨v,hv,.inr rfl⟩,hmN,hb⟩
theorem Tre.shrink (hN:Nds N n fr to) (hM:MM N n fr to N b) (hT:Tre N n fr to b r base via ev ρ) (h:SH N n fr to b base via ev i a c top PA RA PB RB) (hin:Cin fr to b base N PA PB cin)
    (hV:∀x,x ∉ PA→x ∉ PB→V x=via x) (hca:Ch fr to b V via PA (i:Int)) (hcb:Ch fr to b V via PB (i:Int)) :
    Tre N n fr to b r (fun u=>if cin (base u)=true then top else base u) V (fun u=>ev u || cin (base u)) (fun u=>if cin (base u)=true then ρ top else ρ u):=by
  have hsym:=h.symm hN hM hT
  obtain ⟨htN,hte,htb⟩:=h.topE hN hT
  have hct:=hin.ctop hN hM hT h
  have ct':¬cin (base top)=true:=by rw [htb,hct]; decide
  have cone:=fun {v:Nat} (hv:v∈PA∨v∈PB)=>hin.cone hN hM hT h hv
  have fp:=fun {v:Nat} (hv:v∈PA∨v∈PB)=>h.fp hN hM hT hv
  have aN:=h.aN hN
  have cN:=h.cN hN
  have endc:cin (base c)=true∨base c=top:=by
    obtain ⟨R,e⟩:=h.apb.head
    cases hPB:PB with
    | nil=>
      obtain ⟨x,q,hRB,hx⟩:=h.rb
      rw [hPB,hRB] at e
      have:=(List.cons.inj e).1
      subst this; exact .inr hx
    | cons y p=>
      rw [hPB] at e
      have:=(List.cons.inj e).1
      subst this
      exact .inl (cone (.inr (by rw [hPB]; simp))).1
  have enda:cin (base a)=true∨base a=top:=by
    obtain ⟨R,e⟩:=h.apa.head
    cases hPA:PA with
    | nil=>
      obtain ⟨x,q,hRA,hx⟩:=h.ra
      rw [hPA,hRA] at e
      have:=(List.cons.inj e).1
      subst this; exact .inr hx
    | cons y p=>
      rw [hPA] at e
      have:=(List.cons.inj e).1
      subst this
      exact .inl (cone (.inl (by rw [hPA]; simp))).1
  have chain:∀x,x∈PA∨x∈PB→∃k:Nat,V x=k∧En n fr to k x∧(ev (ot fr to k x)=true∨cin (base (ot fr to k x))=true)∧(cin (base (ot fr to k x))=true∨base (ot fr to k x)=top):=fun x hx=>by
    rcases hx with hx | hx
    · obtain ⟨k,h1,h2,h3⟩:=h.chA hN hca hx
      refine ⟨k,h1,h2,?_⟩
      rcases h3 with h3 | ⟨z,hz,h3⟩
      · rw [h3]; exact ⟨.inl h.eb,endc⟩
      · rw [h3]; exact ⟨.inr (cone (.inl hz)).2.1,.inl (cone (.inl hz)).2.1⟩
    · obtain ⟨k,h1,h2,h3⟩:=hsym.chA hN hcb hx
      refine ⟨k,h1,h2,?_⟩
      rcases h3 with h3 | ⟨z,hz,h3⟩
      · rw [h3]; exact ⟨.inl h.ea,enda⟩
      · rw [h3]; exact ⟨.inr (cone (.inr hz)).2.1,.inl (cone (.inr hz)).2.1⟩
  have nxt:∀u,u∈PA∨u∈PB→∃k:Nat,via (mt fr to b u)=k∧En n fr to k (mt fr to b u)∧(cin (base (ot fr to k (mt fr to b u)))=true∨base (ot fr to k (mt fr to b u))=top):=fun u hu=>by
    rcases hu with hu | hu
    · obtain ⟨_,k,h1,h2,h3⟩:=h.next hu
      exact ⟨k,h1,h2,h3.imp (fun h3=>(cone (.inl h3)).1) id⟩
    · obtain ⟨_,k,h1,h2,h3⟩:=hsym.next hu
      exact ⟨k,h1,h2,h3.imp (fun h3=>(cone (.inr h3)).1) id⟩
  have inV:∀x,¬(x∈PA∨x∈PB)→V x=via x:=fun x hx=>hV x (fun h=>hx (.inl h)) fun h=>hx (.inr h)
  have cr:¬cin (base r)=true:=fun hc=>by
    obtain ⟨v,hv,e⟩:=hin.cev hN hM hT h hT.rN hT.re hc
    rw [hT.rr] at e
    have hp:=(fp hv).2.2.2.2.1
    rw [←e] at hp
    exact (fp hp).2.2.1 rfl
  have cb:∀u,u<N→cin (base (base u))=cin (base u):=fun u hu=>by rw [hT.bb hu]
  refine ⟨hT.rN,hT.rb,by simp [hT.re],by rw [if_neg cr,hT.rr],fun u hu=>?_,fun u hu he=>?_,fun u hu he=>?_,fun u hu he hne=>?_,fun o ho he hvo=>?_,fun u hu=>?_,fun u hu he=>?_⟩
  · -- rk
    by_cases hc:cin (base u)=true
    · rw [if_pos hc,if_neg ct',if_pos hc]
    · rw [if_neg hc,if_neg hc,cb u hu,if_neg hc,hT.rk u hu]
  · -- bs
    by_cases hc:cin (base u)=true
    · rw [if_pos hc,if_neg ct',htb,hte]
      exact ⟨htN,rfl,rfl⟩
    · rw [if_neg hc,cb u hu,if_neg hc,hT.bb hu,hT.evb hu]
      have:cin (base u)=false:=Bool.eq_false_iff.2 hc
      rw [this] at he ⊢
      exact ⟨hT.baseN hu,he,rfl⟩
  · -- ns
    simp only [Bool.or_eq_false_iff] at he ⊢
    rw [if_neg (by rw [he.2]; decide)]
    exact hT.ns u hu he.1
  · -- st
    simp only [Bool.or_eq_true] at he ⊢
    by_cases hc:cin (base u)=true
    · -- in the new circle
      have hut:u≠top:=fun e=>by rw [e] at hc; exact ct' hc
      have top_of:∀z,(cin (base z)=true∨base z=top)→(if cin (base z)=true then top else base z)=top:=fun z hz=>by
        by_cases hcz:cin (base z)=true
        · rw [if_pos hcz]
        · rw [if_neg hcz]; exact hz.resolve_left hcz
      suffices hs:∃k:Nat,0≤b u∧V (mt fr to b u)=k∧En n fr to k (mt fr to b u)∧(ev (mt fr to b u)=true∨cin (base (mt fr to b u))=true)∧(cin (base (mt fr to b u))=true∨base (mt fr to b u)=top)∧(ev (ot fr to k (mt fr to b u))=true∨cin (base (ot fr to k (mt fr to b u)))=true)∧(cin (base (ot fr to k (mt fr to b u)))=true∨base (ot fr to k (mt fr to b u))=top) by
        obtain ⟨k,hb,hk,hen,h1,h2,h3,h4⟩:=hs
        refine ⟨hb,k,hk,hen,h3,fun hbu=>?_,fun _=>⟨h1,?_,?_⟩⟩
        · rw [if_pos hc] at hbu; exact (hut hbu.symm).elim
        · rw [top_of _ h2,if_pos hc]
        · rw [top_of _ h4,if_pos hc]
      cases heu:ev u with
      | true=>
        obtain ⟨hb,k,hk,hen,hex,h1,h2⟩:=hT.st u hu heu hne
        have hmN:mt fr to b u<N:=hM.ltN hN hu hb
        by_cases hbu:base u=u
        · -- the base of a circle on a side
          obtain ⟨v,hv,e⟩:=hin.cev hN hM hT h hu heu hc
          have hup:=(fp hv).2.2.2.2.1
          rw [←e,hbu] at hup
          obtain ⟨k',hk',hen',hn'⟩:=nxt u hup
          have:=Int.ofNat.inj (hk.symm.trans hk')
          subst this
          have hmn:¬(mt fr to b u∈PA∨mt fr to b u∈PB):=fun hm=>by
            have:=(fp hm).2.1
            rw [(h1 hbu).1] at this; cases this
          exact ⟨k,hb,(inV _ hmn).trans hk,hen,.inr (cone hup).2.1,.inl (cone hup).2.1,.inl hex,hn'⟩
        · obtain ⟨a1,a2,a3⟩:=h2 hbu
          have hcm:cin (base (mt fr to b u))=true:=by rw [a2]; exact hc
          by_cases hm:mt fr to b u∈PA∨mt fr to b u∈PB
          · obtain ⟨k',hk',hen',hn1,hn2⟩:=chain _ hm
            exact ⟨k',hb,hk',hen',.inl a1,.inl hcm,hn1,hn2⟩
          · exact ⟨k,hb,(inV _ hm).trans hk,hen,.inl a1,.inl hcm,.inl hex,.inl (by rw [a3]; exact hc)⟩
      | false=>
        obtain ⟨v,hv,e⟩:=hin.cnev hN hM hT h hu heu hc
        obtain ⟨c1,c2,c3,c4⟩:=cone hv
        obtain ⟨hvN,hve,_⟩:=fp hv
        obtain ⟨_,_,_,_,_,hbm,hmm⟩:=hM.en hvN (by omega) c4
        obtain ⟨k',hk',hen',hn1,hn2⟩:=chain v hv
        have em:mt fr to b u=v:=by rw [e,hmm]
        refine ⟨k',by rw [e,hbm]; omega,?_,?_,?_,?_,?_,?_⟩
        · rw [em]; exact hk'
        · rw [em]; exact hen'
        · rw [em]; exact .inl hve
        · rw [em]; exact .inl c1
        · rw [em]; exact hn1
        · rw [em]; exact hn2
    · have heu:ev u=true:=he.resolve_right hc
      obtain ⟨hb,k,hk,hen,hex,h1,h2⟩:=hT.st u hu heu hne
      have hmN:mt fr to b u<N:=hM.ltN hN hu hb
      obtain ⟨_,_,_,_,_,hbm,hmm⟩:=hM.en hu (by omega) hb
      have hmn:¬(mt fr to b u∈PA∨mt fr to b u∈PB):=fun hm=>by
        by_cases hbu:base u=u
        · have:=(fp hm).2.1
          rw [(h1 hbu).1] at this; cases this
        · have:=(cone hm).1
          rw [(h2 hbu).2.1] at this; exact hc this
      refine ⟨hb,k,(inV _ hmn).trans hk,hen,.inl hex,fun hbu=>?_,fun hbu=>?_⟩
      · rw [if_neg hc] at hbu
        obtain ⟨a1,a2,a3⟩:=h1 hbu
        have hcm:¬cin (base (mt fr to b u))=true:=fun hcm=>by
          obtain ⟨v,hv,e⟩:=hin.cnev hN hM hT h hmN a1 hcm
          obtain ⟨hvN,_⟩:=fp hv
          have:u=v:=hM.inj hu hvN hb (cone hv).2.2.2 e
          rw [this] at hc; exact hc (cone hv).1
        rw [if_neg hcm,if_neg hc]
        refine ⟨by rw [a1]; simpa using hcm,a2,?_⟩
        by_cases hcx:cin (base (ot fr to k (mt fr to b u)))=true
        · rw [if_pos hcx]
          have hxN:ot fr to k (mt fr to b u)<N:=hen.ot.nd hN
          obtain ⟨v,hv,e⟩:=hin.cev hN hM hT h hxN hex hcx
          have r1:=hT.rk _ hxN
          have r2:=hT.rk v (fp hv).1
          have r3:=(fp hv).2.2.2.1
          rw [e] at r1; omega
        · rw [if_neg hcx]; exact a3
      · rw [if_neg hc] at hbu ⊢
        obtain ⟨a1,a2,a3⟩:=h2 hbu
        rw [a2,a3,if_neg hc]
        exact ⟨.inl a1,rfl,rfl⟩
  · -- od
    simp only [Bool.or_eq_false_iff] at he ⊢
    have hon:¬(o∈PA∨o∈PB):=fun hm=>by
      have:=(fp hm).2.1
      rw [he.1] at this; cases this
    rw [inV _ hon] at hvo
    obtain ⟨hb,hme,hmb⟩:=hT.od o ho he.1 hvo
    have hmN:mt fr to b o<N:=hM.ltN hN ho hb
    obtain ⟨_,_,_,_,_,hbm,hmm⟩:=hM.en ho (by omega) hb
    have hcm:¬cin (base (mt fr to b o))=true:=fun hcm=>by
      obtain ⟨v,hv,e⟩:=hin.cev hN hM hT h hmN hme hcm
      have hp:=(fp hv).2.2.2.2.1
      rw [←e,hmb] at hp
      have:=(cone hp).2.1
      rw [hmm,he.2] at this; cases this
    refine ⟨hb,by rw [hme]; rfl,?_⟩
    rw [if_neg hcm,hmb]
  · -- vw
    by_cases hm:u∈PA∨u∈PB
    · obtain ⟨k,h1,h2,_⟩:=chain u hm
      exact .inr ⟨k,h1,h2⟩
    · rw [inV u hm]; exact hT.vw u hu
  · -- pa
    simp only [Bool.or_eq_true] at he
    refine h.ways hN hM hT hV hca hcb hu ?_
    cases heu:ev u with
    | true=>exact .inl rfl
    | false=>
      right
      exact hin.cnev hN hM hT h hu heu (he.resolve_left (by rw [heu]; decide))
theorem SH.joined (hN:Nds N n fr to) (hM:MM N n fr to N b) (hT:Tre N n fr to b r base via ev ρ) (h:SH N n fr to b base via ev i a c top PA RA PB RB) (hin:Cin fr to b base N PA PB cin):(if cin (base a)=true then top else base a)=top∧(if cin (base c)=true then top else base c)=top:=by
  have key:∀{u:Nat} {P R:List Nat},AP n fr to b via u (P++R)→(∀v∈P,cin (base v)=true)→(∃x q,R=x :: q∧base x=top)→(if cin (base u)=true then top else base u)=top:=fun {u P R} hA hc hR=>by
    obtain ⟨l,e⟩:=hA.head
    cases P with
    | nil=>
      obtain ⟨x,q,hRe,hx⟩:=hR
      rw [hRe] at e
      have:=(List.cons.inj e).1
      subst this
      rw [hx]; split<;>rfl
    | cons y p=>
      have:=(List.cons.inj e).1
      subst this
      rw [if_pos (hc y (by simp))]
  exact ⟨key h.apa (fun v hv=>(hin.cone hN hM hT h (.inl hv)).1) h.ra,key h.apb (fun v hv=>(hin.cone hN hM hT h (.inr hv)).1) h.rb⟩
end
end Go.Mz
/-
  The look from a root, in plain words: two ways back that meet make a circle. No program in sight.
-/
namespace Go.Mz
section
variable {N n r:Nat} {fr to:Nat→Nat} {b via V:Nat→Int} {base ρ:Nat→Nat} {ev:Nat→Bool}
theorem Tre.split (hN:Nds N n fr to) (h:Tre N n fr to b r base via ev ρ) {u:Nat} {l:List Nat} (hA:AP n fr to b via u l) (hu:u<N) (he:ev u=true):∃p q,l=p++base u :: q∧∀y∈p,base y=base u:=by
  induction hA with
  | root h0=>
    rename_i u
    have:u=r:=Classical.byContradiction fun hne=>by have:=(h.st u hu he hne).1; omega
    refine ⟨[],[],by rw [this,h.rr]; rfl,fun y hy=>by cases hy⟩
  | step h1 hk he' hl ih=>
    rename_i u k l
    have hne:u≠r:=fun e=>by rw [e,h.rb] at h1; omega
    obtain ⟨_,k',hk',_,hev,_,h2⟩:=h.st u hu he hne
    have:=Int.ofNat.inj (hk.symm.trans hk')
    subst this
    by_cases hb:base u=u
    · exact ⟨[],l,by rw [hb]; rfl,fun y hy=>by cases hy⟩
    · obtain ⟨p,q,e,hp⟩:=ih (he'.ot.nd hN) hev
      rw [(h2 hb).2.2] at e hp
      refine ⟨u :: p,q,by rw [e]; rfl,fun y hy=>?_⟩
      rcases List.mem_cons.1 hy with rfl | hy
      · rfl
      · exact hp y hy
theorem Tre.before (hN:Nds N n fr to) (hT:Tre N n fr to b r base via ev ρ) {u x top v:Nat} {P q:List Nat} (hA:AP n fr to b via u (P++x :: q)) (hu:u<N) (he:ev u=true) (hx:base x=top) (hP:∀y∈P,base y≠top) (hv:v∈P):v<N∧ev v=true∧v≠r∧ρ top<ρ v∧base v∈P:=by
  have hall:=hT.pev hN hA hu he
  obtain ⟨p1,p2,hp⟩:=List.append_of_mem hv
  obtain ⟨hvN,hve⟩:=hall v (by simp [hv])
  obtain ⟨hxN,hxe⟩:=hall x (by simp)
  have hsuf:AP n fr to b via v (v :: (p2++x :: q)):=hA.suf (p:=p1) (by rw [hp]; simp)
  have r1:=hT.rk x hxN
  rw [hx] at r1
  have hrho:ρ top<ρ v:=by
    rcases hT.pmono hN hsuf hvN hve x (by simp) with e | e
    · rw [hx] at e; exact (hP v hv e.symm).elim
    · omega
  refine ⟨hvN,hve,fun e=>?_,hrho,?_⟩
  · have:=hsuf.pos rfl (by simp)
    rw [e,hT.rb] at this; omega
  · have hb:=hT.pbase hN hsuf hvN hve
    have hb':base v∈P∨base v∈x :: q:=by
      rw [hp]
      rcases List.mem_cons.1 hb with e | hb
      · left; rw [e]; simp
      · rcases List.mem_append.1 hb with hb | hb
        · left; simp [hb]
        · exact .inr hb
    rcases hb' with hb' | hb'
    · exact hb'
    · have hsx:AP n fr to b via x (x :: q):=hA.suf (p:=P) rfl
      have:=hT.ple hN hsx hxN hxe hb'
      have r2:=hT.rk v hvN
      omega
structure Meet2 (fr to:Nat→Nat) (base:Nat→Nat) (la lb:List Nat) (top:Nat):Prop where
  tb:base top=top
  ta:top∈la
  far:∃q1 q2,lb=q1++top :: q2∧∀z∈q1,base z=z→z ∉ la
theorem SH.make (hN:Nds N n fr to) (hM:MM N n fr to N b) (hT:Tre N n fr to b r base via ev ρ) {i a c top:Nat} {la lb:List Nat} (hi:En n fr to i a) (hc:c=ot fr to i a) (ea:ev a=true) (ec:ev c=true) (hla:AP n fr to b via a la) (hna:ND fr to b la) (hlb:AP n fr to b via c lb) (hnb:ND fr to b lb) (hm:Meet2 fr to base la lb top) :
    ∃PA RA PB RB,la=PA++RA∧lb=PB++RB∧SH N n fr to b base via ev i a c top PA RA PB RB:=by
  have haN:a<N:=hi.nd hN
  have hcN:c<N:=by rw [hc]; exact hi.ot.nd hN
  obtain ⟨q1,q2,hq,hfar⟩:=hm.far
  rcases first_or (Q:=fun x=>base x=top) la with hno | ⟨PA,x,qa,eA,hx,hPA⟩
  · exact (hno top hm.ta hm.tb).elim
  rcases first_or (Q:=fun x=>base x=top) lb with hno | ⟨PB,y,qb,eB,hy,hPB⟩
  · exact (hno top (by rw [hq]; simp) hm.tb).elim
  rw [eA] at hla hna
  rw [eB] at hlb hnb
  have farB:∀w∈PB,base w=w→w ∉ la:=fun w hw hbw=>by
    have heq:PB++y :: qb=q1++top :: q2:=eB.symm.trans hq
    rcases List.append_eq_append_iff.1 heq with ⟨d,h1,h2⟩ | ⟨d,h1,h2⟩
    · exact hfar w (by rw [h1]; simp [hw]) hbw
    · cases d with
      | nil=>exact hfar w (by simp at h1; rw [←h1]; exact hw) hbw
      | cons z d=>
        have:=(List.cons.inj h2).1
        exact (hPB top (by rw [h1,this]; simp) hm.tb).elim
  refine ⟨PA,x :: qa,PB,y :: qb,eA,eB,hi,hc,hla,hna,hlb,hnb,hPA,hPB,⟨x,qa,rfl,hx⟩,⟨y,qb,rfl,hy⟩,fun v hv w hw=>?_,ea,ec⟩
  obtain ⟨hvN,hve,hvr,hvρ,hvb⟩:=hT.before hN hla haN ea hx hPA hv
  obtain ⟨hwN,hwe,hwr,hwρ,hwb⟩:=hT.before hN hlb hcN ec hy hPB hw
  have inla:base v∈la:=by rw [eA]; simp [hvb]
  constructor
  · intro e
    rw [e] at inla
    exact farB _ hwb (hT.bb hwN) inla
  · intro e
    have:=((hT.both hvN hve hvr).1 (by rw [e]; exact hwe)).1
    rw [e] at this
    rw [←this] at inla
    exact farB _ hwb (hT.bb hwN) inla
end
end Go.Mz
/-
  The look from a root, in plain words: which nodes have been looked at, and what is known when all have been. No program in sight.
-/
namespace Go.Mz
structure Gr (M n:Nat) (fr to:Nat→Nat) (mb:Nat→Int) (r:Nat) (base:Nat→Nat) (via:Nat→Int) (ev:Nat→Bool) (ρ:Nat→Nat) (scn cur:Nat→Bool) (Q:List Nat):Prop where
  T:Tre M n fr to mb r base via ev ρ
  qn:Q.Nodup
  qe:∀q∈Q,q<M∧ev q=true∧scn q=false∧cur q=false
  se:∀u,u<M→ev u=true→scn u=true∨u∈Q∨cur u=true
  sc:∀u,scn u=true→u<M∧ev u=true
  cl:∀u,scn u=true→∀i,En n fr to i u→(ev (ot fr to i u)=true∨0≤via (ot fr to i u))∧(scn (ot fr to i u)=true→base u=base (ot fr to i u)∨mb u=(i:Int))
def Pt (n:Nat) (fr to:Nat→Nat) (mb:Nat→Int) (base:Nat→Nat) (via:Nat→Int) (ev scn:Nat→Bool) (v:Nat) (l:List Nat):Prop:=
  ∀i∈l,(ev (ot fr to i v)=true∨0≤via (ot fr to i v))∧(scn (ot fr to i v)=true→base v=base (ot fr to i v)∨mb v=(i:Int))
structure Clo (M n:Nat) (fr to:Nat→Nat) (mb:Nat→Int) (r:Nat) (base:Nat→Nat) (via:Nat→Int) (ev:Nat→Bool) (ρ:Nat→Nat):Prop where
  T:Tre M n fr to mb r base via ev ρ
  cl:∀u,u<M→ev u=true→∀i,En n fr to i u→(ev (ot fr to i u)=true∨0≤via (ot fr to i u))∧(ev (ot fr to i u)=true→base u=base (ot fr to i u))
section
variable {M n r:Nat} {fr to:Nat→Nat} {mb via via':Nat→Int} {base base' ρ ρ':Nat→Nat} {ev ev' scn cur:Nat→Bool} {Q Q':List Nat}
theorem nodup_below:∀{M:Nat} {l:List Nat},l.Nodup→(∀x∈l,x<M)→l.length≤M:=by
  intro M l hnd hl
  have h1:=cnt_le (fun v=>decide (v∈l)) M
  have:∀{l:List Nat},l.Nodup→(∀x∈l,x<M)→cnt (fun v=>decide (v∈l)) M=l.length:=by
    intro l
    induction l with
    | nil=>intro _ _; exact cnt_none fun i hi=>by simp
    | cons x l ih=>
      intro hnd hl
      have hnd':=List.nodup_cons.1 hnd
      rw [cnt_less (q:=fun v=>decide (v∈l)) (b:=x) (hl x (by simp)) (by simp) (by simpa using hnd'.1) (fun i hi hne=>by simp [hne]),ih hnd'.2 fun y hy=>hl y (by simp [hy])]
      rfl
  rw [this hnd hl] at h1
  exact h1
theorem Gr.len (h:Gr M n fr to mb r base via ev ρ scn cur Q) {nl:List Nat} (hn:nl.Nodup) (hl:∀u∈nl,u<M∧ev u=false):(Q++nl).length≤M:=by
  refine nodup_below (List.nodup_append.2 ⟨h.qn,hn,fun x hx y hy e=>?_⟩) fun x hx=>?_
  · have:=(h.qe x hx).2.1
    rw [e,(hl y hy).2] at this; cases this
  · rcases List.mem_append.1 hx with hx | hx
    · exact (h.qe x hx).1
    · exact (hl x hx).1
theorem Gr.start (hr:r<M) (hb:mb r=-1):Gr M n fr to mb r (fun v=>v) (fun _=>-1) (fun v=>decide (v=r)) (fun _=>0) (fun _=>false) (fun _=>false) [r] where
  T:=Tre.start hr hb
  qn:=by simp
  qe:=fun q hq=>by rw [List.mem_singleton.1 hq]; exact ⟨hr,by simp,rfl,rfl⟩
  se:=fun u hu he=>.inr (.inl (by have:=of_decide_eq_true he; simp [this]))
  sc:=fun u hu=>by cases hu
  cl:=fun u hu=>by cases hu
theorem Gr.pop {v:Nat} (h:Gr M n fr to mb r base via ev ρ scn (fun _=>false) (v :: Q)):Gr M n fr to mb r base via ev ρ scn (fun u=>decide (u=v)) Q where
  T:=h.T
  qn:=(List.nodup_cons.1 h.qn).2
  qe:=fun q hq=>by
    have hv:=(List.nodup_cons.1 h.qn).1
    obtain ⟨h1,h2,h3,_⟩:=h.qe q (by simp [hq])
    exact ⟨h1,h2,h3,decide_eq_false fun e=>hv (e▸hq)⟩
  se:=fun u hu he=>by
    rcases h.se u hu he with h1 | h1 | h1
    · exact .inl h1
    · rcases List.mem_cons.1 h1 with e | h1
      · exact .inr (.inr (decide_eq_true e))
      · exact .inr (.inl h1)
    · cases h1
  sc:=h.sc
  cl:=h.cl
theorem Gr.done (hMM:MM M n fr to M mb) {v:Nat} {l:List Nat} (hv:v<M) (hev:ev v=true) (h:Gr M n fr to mb r base via ev ρ scn (fun u=>decide (u=v)) Q) (hl:∀i,En n fr to i v→i∈l) (hp:Pt n fr to mb base via ev scn v l):Gr M n fr to mb r base via ev ρ (upf scn v true) (fun _=>false) Q where
  T:=h.T
  qn:=h.qn
  qe:=fun q hq=>by
    obtain ⟨h1,h2,h3,h4⟩:=h.qe q hq
    have hne:q≠v:=of_decide_eq_false h4
    exact ⟨h1,h2,by rw [upf_ne hne]; exact h3,rfl⟩
  se:=fun u hu he=>by
    by_cases e:u=v
    · left; rw [e,upf_same]
    · rw [upf_ne e]
      rcases h.se u hu he with h1 | h1 | h1
      · exact .inl h1
      · exact .inr (.inl h1)
      · exact (e (of_decide_eq_true h1)).elim
  sc:=fun u hu=>by
    by_cases e:u=v
    · rw [e]; exact ⟨hv,hev⟩
    · rw [upf_ne e] at hu; exact h.sc u hu
  cl:=fun u hu i hi=>by
    have hne:=hi.ne
    by_cases e:u=v
    · subst e
      obtain ⟨h1,h2⟩:=hp i (hl i hi)
      rw [upf_ne hne]
      exact ⟨h1,h2⟩
    · rw [upf_ne e] at hu
      obtain ⟨h1,h2⟩:=h.cl u hu i hi
      refine ⟨h1,fun hw=>?_⟩
      by_cases ew:ot fr to i u=v
      · have hiv:En n fr to i v:=ew▸hi.ot
        have eo:ot fr to i v=u:=by rw [←ew,hi.oo]
        obtain ⟨_,h4⟩:=hp i (hl i hiv)
        rw [eo] at h4
        rcases h4 hu with h5 | h5
        · left; rw [ew]; exact h5.symm
        · right
          obtain ⟨j,ej,hj,_,_,hbm,_⟩:=hMM.en hv (by omega) (by omega)
          have:j=i:=by omega
          subst this
          have em:mt fr to mb v=u:=by unfold mt; rw [ej,tN]; exact eo
          rw [em] at hbm; exact hbm
      · rw [upf_ne ew] at hw
        exact h2 hw
theorem Gr.end (hN:Nds M n fr to) (hMM:MM M n fr to M mb) (h:Gr M n fr to mb r base via ev ρ scn (fun _=>false) []):Clo M n fr to mb r base via ev ρ:=by
  have all:∀u,u<M→ev u=true→scn u=true:=fun u hu he=>by
    rcases h.se u hu he with h1 | h1 | h1
    · exact h1
    · cases h1
    · cases h1
  refine ⟨h.T,fun u hu he i hi=>?_⟩
  obtain ⟨h1,h2⟩:=h.cl u (all u hu he) i hi
  refine ⟨h1,fun hw=>?_⟩
  have hwM:ot fr to i u<M:=hi.ot.nd hN
  rcases h2 (all _ hwM hw) with h3 | h3
  · exact h3
  · have hne:u≠r:=fun e=>by have:=h.T.rb; rw [←e,h3] at this; omega
    have em:mt fr to mb u=ot fr to i u:=by unfold mt; rw [h3,tN]
    rw [←em] at hw ⊢
    exact ((h.T.both hu he hne).1 hw).1.symm
theorem Pt.mono (hN:Nds M n fr to) {v:Nat} {l:List Nat} (h:Pt n fr to mb base via ev scn v l) (hl:∀i∈l,En n fr to i v) (mg:∀u w,u<M→w<M→base u=base w→base' u=base' w) (mn:∀u,u<M→ev u=true→ev' u=true) (vi:∀u,u<M→0≤via u→0≤via' u):Pt n fr to mb base' via' ev' scn v l:=fun i hi=>by
  have hen:=hl i hi
  have hv:=hen.nd hN
  have hw:=hen.ot.nd hN
  obtain ⟨h1,h2⟩:=h i hi
  exact ⟨h1.imp (mn _ hw) (vi _ hw),fun hs=>(h2 hs).imp (mg _ _ hv hw) id⟩
theorem Gr.mono (hN:Nds M n fr to) (h:Gr M n fr to mb r base via ev ρ scn cur Q) (T':Tre M n fr to mb r base' via' ev' ρ') {nl:List Nat} (mg:∀u w,u<M→w<M→base u=base w→base' u=base' w) (mn:∀u,u<M→ev u=true→ev' u=true) (vi:∀u,u<M→0≤via u→0≤via' u) (hnl:nl.Nodup) (hq:∀u,u∈nl↔u<M∧ev' u=true∧ev u=false) (hcur:∀u,cur u=true→u<M∧ev u=true) :
    Gr M n fr to mb r base' via' ev' ρ' scn cur (Q++nl) where
  T:=T'
  qn:=List.nodup_append.2 ⟨h.qn,hnl,fun x hx y hy e=>by
    have:=(h.qe x hx).2.1
    rw [e,((hq y).1 hy).2.2] at this; cases this⟩
  qe:=fun q hq'=>by
    rcases List.mem_append.1 hq' with h1 | h1
    · obtain ⟨a1,a2,a3,a4⟩:=h.qe q h1
      exact ⟨a1,mn q a1 a2,a3,a4⟩
    · obtain ⟨a1,a2,a3⟩:=(hq q).1 h1
      exact ⟨a1,a2,Bool.eq_false_iff.2 fun hs=>(by rw [(h.sc q hs).2] at a3; cases a3),Bool.eq_false_iff.2 fun hs=>(by rw [(hcur q hs).2] at a3; cases a3)⟩
  se:=fun u hu he=>by
    cases hu0:ev u with
    | true=>
      rcases h.se u hu hu0 with h1 | h1 | h1
      · exact .inl h1
      · exact .inr (.inl (by simp [h1]))
      · exact .inr (.inr h1)
    | false=>exact .inr (.inl (by simp [(hq u).2 ⟨hu,he,hu0⟩]))
  sc:=fun u hs=>⟨(h.sc u hs).1,mn u (h.sc u hs).1 (h.sc u hs).2⟩
  cl:=fun u hs i hi=>by
    have hu:=(h.sc u hs).1
    have hw:=hi.ot.nd hN
    obtain ⟨h1,h2⟩:=h.cl u hs i hi
    exact ⟨h1.imp (mn _ hw) (vi _ hw),fun hs'=>(h2 hs').imp (mg _ _ hu hw) id⟩
end
end Go.Mz
/-
  Matchings in any graph, in plain words: sets of odd size that only lead to few nodes show how many are left out. No program in sight.
-/
namespace Go.Mz
/-! ### Counting -/
theorem cnt_list {q:Nat→Bool} {N:Nat}:∀{l:List Nat},l.Nodup→(∀x∈l,x<N∧q x=true)→l.length≤cnt q N:=by
  intro l
  induction l generalizing q with
  | nil=>intro _ _; exact Nat.zero_le _
  | cons x l ih=>
    intro hnd hl
    have hnd':=List.nodup_cons.1 hnd
    obtain ⟨hx,hq⟩:=hl x (by simp)
    have h1:=cnt_less (p:=q) (q:=fun i=>q i && !decide (i=x)) hx hq (by simp) (fun i _ hne=>by simp [hne])
    have h2:=ih (q:=fun i=>q i && !decide (i=x)) hnd'.2 fun y hy=>by
      obtain ⟨a,b⟩:=hl y (by simp [hy])
      have:y≠x:=fun e=>hnd'.1 (e▸hy)
      exact ⟨a,by simp [b,this]⟩
    simp only [List.length_cons]
    omega
theorem cnt_len {p:Nat→Bool}:∀{N:Nat},((List.range N).filter p).length=cnt p N
  | 0=>rfl
  | N+1=>by
    rw [List.range_succ,List.filter_append,List.length_append,cnt_len]
    simp only [cnt]
    by_cases h:p N=true
    · rw [if_pos h]; simp [h]
    · rw [if_neg h]; simp [h]
theorem cnt_inj {p q:Nat→Bool} {N:Nat} (f:Nat→Nat) (hf:∀i,i<N→p i=true→f i<N∧q (f i)=true) (hi:∀i j,i<N→j<N→p i=true→p j=true→f i=f j→i=j):cnt p N≤cnt q N:=by
  rw [←cnt_len (p:=p)]
  have hmem:∀x,x∈(List.range N).filter p→x<N∧p x=true:=fun x hx=>by rw [List.mem_filter,List.mem_range] at hx; exact hx
  have hnd:((List.range N).filter p).Nodup:=List.nodup_range.sublist List.filter_sublist
  have key:∀{l:List Nat},l.Nodup→(∀x∈l,x<N∧p x=true)→(l.map f).Nodup:=by
    intro l
    induction l with
    | nil=>intro _ _; exact List.nodup_nil
    | cons x l ih=>
      intro hnd hl
      have hnd':=List.nodup_cons.1 hnd
      rw [List.map_cons,List.nodup_cons]
      refine ⟨fun hm=>?_,ih hnd'.2 fun y hy=>hl y (by simp [hy])⟩
      obtain ⟨y,hy,e⟩:=List.mem_map.1 hm
      have h1:=hl x (by simp)
      have h2:=hl y (by simp [hy])
      exact hnd'.1 (hi y x h2.1 h1.1 h2.2 h1.2 e▸hy)
  have:=cnt_list (q:=q) (N:=N) (key hnd hmem) fun x hx=>by
    obtain ⟨y,hy,e⟩:=List.mem_map.1 hx
    rw [←e]
    exact hf y (hmem y hy).1 (hmem y hy).2
  rwa [List.length_map] at this
theorem cnt_some {p:Nat→Bool}:∀{N:Nat},0<cnt p N→∃v,v<N∧p v=true
  | 0,h=>by simp [cnt] at h
  | N+1,h=>by
    by_cases hp:p N=true
    · exact ⟨N,by omega,hp⟩
    · simp only [cnt,if_neg hp] at h
      obtain ⟨v,hv,e⟩:=cnt_some (N:=N) (by omega)
      exact ⟨v,by omega,e⟩
theorem cnt_or {p q:Nat→Bool}:∀{N:Nat},cnt (fun v=>p v || q v) N≤cnt p N+cnt q N
  | 0=>Nat.le_refl _
  | N+1=>by
    have:=cnt_or (p:=p) (q:=q) (N:=N)
    simp only [cnt]
    by_cases h1:p N=true<;>by_cases h2:q N=true<;>simp [h1,h2]<;>omega
theorem cnt_two {p q r:Nat→Bool} {N:Nat} (h:∀v,v<N→r v=(p v || q v)) (hd:∀v,v<N→¬(p v=true∧q v=true)):cnt r N=cnt p N+cnt q N:=by
  induction N with
  | zero=>rfl
  | succ N ih=>
    have h1:=ih (fun v hv=>h v (by omega)) fun v hv=>hd v (by omega)
    have h2:=h N (by omega)
    have h3:=hd N (by omega)
    simp only [cnt,h1,h2]
    by_cases h4:p N=true<;>by_cases h5:q N=true
    · exact (h3 ⟨h4,h5⟩).elim
    · simp [h4,h5]; omega
    · simp [h4,h5]; omega
    · simp [h4,h5]
theorem cnt_pairs {N:Nat} (σ:Nat→Nat):∀(k:Nat) {S:Nat→Bool},cnt S N=k→(∀v,v<N→S v=true→σ v<N∧S (σ v)=true∧σ v≠v∧σ (σ v)=v)→k%2=0:=by
  intro k
  induction k using Nat.strongRecOn with
  | _ k ih=>
  intro S hk h
  by_cases h0:k=0
  · rw [h0]
  · obtain ⟨v,hv,hs⟩:=cnt_some (p:=S) (N:=N) (by omega)
    obtain ⟨a1,a2,a3,a4⟩:=h v hv hs
    have c1:=cnt_less (p:=S) (q:=fun i=>S i && !decide (i=v)) hv hs (by simp) (fun i _ hne=>by simp [hne])
    have c2:=cnt_less (p:=fun i=>S i && !decide (i=v)) (q:=fun i=>S i && !decide (i=v) && !decide (i=σ v)) a1 (by simp [a2,a3]) (by simp) (fun i _ hne=>by simp [hne])
    have:=ih (k-2) (by omega) (S:=fun i=>S i && !decide (i=v) && !decide (i=σ v)) (by omega) fun w hw hsw=>by
      simp only [Bool.and_eq_true,Bool.not_eq_true',decide_eq_false_iff_not] at hsw ⊢
      obtain ⟨⟨b1,b2⟩,b3⟩:=hsw
      obtain ⟨d1,d2,d3,d4⟩:=h w hw b1
      refine ⟨d1,⟨⟨d2,fun e=>b3 ?_⟩,fun e=>b2 ?_⟩,d3,d4⟩
      · rw [←d4,e]
      · rw [←d4,e,a4]
    omega
/-! ### Circles of odd size -/
structure Cls (M n:Nat) (fr to:Nat→Nat) (mb:Nat→Int) (Bs:Nat→Prop) (Cl:Nat→Nat→Prop) (A:Nat→Prop):Prop where
  lt:∀c x,Bs c→Cl c x→x<M
  self:∀c,Bs c→Cl c c
  dis:∀c c' x,Bs c→Bs c'→Cl c x→Cl c' x→c=c'
  mate:∀c x,Bs c→Cl c x→x≠c→0≤mb x∧Cl c (mt fr to mb x)∧mt fr to mb x≠c
  cl:∀c x i,Bs c→Cl c x→En n fr to i x→Cl c (ot fr to i x)∨A (ot fr to i x)
  na:∀c x,Bs c→Cl c x→¬A x
  aM:∀a,A a→a<M
section
variable {M n:Nat} {fr to:Nat→Nat} {mb b':Nat→Int} {Bs A:Nat→Prop} {Cl:Nat→Nat→Prop}
open Classical in
theorem Cls.odd (hMM:MM M n fr to M mb) (h:Cls M n fr to mb Bs Cl A) {c:Nat} (hc:Bs c):cnt (fun x=>decide (Cl c x)) M%2=1:=by
  have hcM:=h.lt c c hc (h.self c hc)
  have c1:=cnt_less (p:=fun x=>decide (Cl c x)) (q:=fun x=>decide (Cl c x∧x≠c)) hcM (decide_eq_true (h.self c hc)) (decide_eq_false fun hh=>hh.2 rfl) (fun i _ hne=>by rw [decide_eq_decide]; exact ⟨fun hh=>⟨hh,hne⟩,fun hh=>hh.1⟩)
  have:=cnt_pairs (N:=M) (mt fr to mb) _ (S:=fun x=>decide (Cl c x∧x≠c)) rfl fun v hv hs=>by
    obtain ⟨h1,h2⟩:=of_decide_eq_true hs
    obtain ⟨h3,h4,h5⟩:=h.mate c v hc h1 h2
    obtain ⟨j,_,hj,em,_,_,hmm⟩:=hMM.en hv (by omega) h3
    exact ⟨h.lt c _ hc h4,decide_eq_true ⟨h4,h5⟩,by rw [em]; exact hj.ne,hmm⟩
  omega
open Classical in
theorem Cls.out (hMM:MM M n fr to M mb) (hb:MM M n fr to M b') (h:Cls M n fr to mb Bs Cl A) {c:Nat} (hc:Bs c):∃x,Cl c x∧(b' x<0∨(0≤b' x∧A (mt fr to b' x))):=by
  refine Classical.byContradiction fun hno=>?_
  have hodd:=h.odd hMM hc
  have:=cnt_pairs (N:=M) (mt fr to b') _ (S:=fun x=>decide (Cl c x)) rfl fun v hv hs=>by
    have h1:=of_decide_eq_true hs
    have h2:0≤b' v:=Classical.byContradiction fun hn=>hno ⟨v,h1,.inl (by omega)⟩
    obtain ⟨j,_,hj,em,_,_,hmm⟩:=hb.en hv (by omega) h2
    have h3:Cl c (mt fr to b' v):=by
      rcases h.cl c v j hc h1 hj with hh | hh
      · rw [em]; exact hh
      · exact (hno ⟨v,h1,.inr ⟨h2,by rw [em]; exact hh⟩⟩).elim
    exact ⟨h.lt c _ hc h3,decide_eq_true h3,by rw [em]; exact hj.ne,hmm⟩
  omega
open Classical in
theorem Cls.hung (hN:Nds M n fr to) (hMM:MM M n fr to M mb) (hb:MM M n fr to M b') (h:Cls M n fr to mb Bs Cl A) :
    cnt (fun c=>decide (Bs c)) M+cnt (fun a=>decide (A a∧b' a<0)) M≤cnt (fun x=>decide ((∃c,Bs c∧Cl c x)∧b' x<0)) M+cnt (fun a=>decide (A a)) M:=by
  have hx:∀c,∃x,Bs c→Cl c x∧(b' x<0∨(0≤b' x∧A (mt fr to b' x))):=fun c=>by
    by_cases hc:Bs c
    · obtain ⟨x,hx⟩:=h.out hMM hb hc
      exact ⟨x,fun _=>hx⟩
    · exact ⟨0,fun hh=>(hc hh).elim⟩
  obtain ⟨f,hf⟩:=Classical.axiomOfChoice hx
  have c1:cnt (fun c=>decide (Bs c)) M≤cnt (fun x=>decide ((∃c,Bs c∧Cl c x)∧b' x<0) || decide ((∃c,Bs c∧Cl c x)∧0≤b' x∧A (mt fr to b' x))) M:=by
    refine cnt_inj f (fun c _ hc=>?_) fun c d _ _ hc hd e=>?_
    · have hc:=of_decide_eq_true hc
      obtain ⟨h1,h2⟩:=hf c hc
      refine ⟨h.lt c _ hc h1,?_⟩
      rw [Bool.or_eq_true]
      exact h2.imp (fun hh=>decide_eq_true ⟨⟨c,hc,h1⟩,hh⟩) fun hh=>decide_eq_true ⟨⟨c,hc,h1⟩,hh⟩
    · have hc:=of_decide_eq_true hc
      have hd:=of_decide_eq_true hd
      exact h.dis c d _ hc hd (hf c hc).1 (e▸(hf d hd).1)
  have c2:=cnt_or (p:=fun x=>decide ((∃c,Bs c∧Cl c x)∧b' x<0)) (q:=fun x=>decide ((∃c,Bs c∧Cl c x)∧0≤b' x∧A (mt fr to b' x))) (N:=M)
  have c3:cnt (fun x=>decide ((∃c,Bs c∧Cl c x)∧0≤b' x∧A (mt fr to b' x))) M≤cnt (fun a=>decide (A a∧0≤b' a)) M:=by
    refine cnt_inj (mt fr to b') (fun x hx hh=>?_) fun x y hx hy h1 h2 e=>?_
    · obtain ⟨_,h1,h2⟩:=of_decide_eq_true hh
      obtain ⟨j,_,hj,em,_,hbm,hmm⟩:=hb.en hx (by omega) h1
      exact ⟨hb.ltN hN hx h1,decide_eq_true ⟨h2,by rw [hbm]; omega⟩⟩
    · exact hb.inj hx hy (of_decide_eq_true h1).2.1 (of_decide_eq_true h2).2.1 e
  have c4:=cnt_two (N:=M) (r:=fun a=>decide (A a)) (p:=fun a=>decide (A a∧b' a<0)) (q:=fun a=>decide (A a∧0≤b' a)) (fun v _=>by
    by_cases ha:A v
    · by_cases hv:b' v<0
      · simp [ha,hv]
      · simp [ha,hv]; omega
    · simp [ha]) fun v _ hh=>by
      have h1:=(of_decide_eq_true hh.1).2
      have h2:=(of_decide_eq_true hh.2).2
      omega
  omega
end
/-! ### One look that found no way -/
section
variable {M n r:Nat} {fr to:Nat→Nat} {mb b' via:Nat→Int} {base ρ:Nat→Nat} {ev:Nat→Bool}
theorem Tre.mate_out (hN:Nds M n fr to) (hMM:MM M n fr to M mb) (hT:Tre M n fr to mb r base via ev ρ) {c x:Nat} (hx:x<M) (hex:ev x=true) (hb:base x=c) (hne:x≠c):0≤mb x∧mt fr to mb x<M∧ev (mt fr to mb x)=true∧base (mt fr to mb x)=c∧mt fr to mb x≠c:=by
  have hxr:x≠r:=fun e=>hne (by rw [←hb,e,hT.rr])
  have hbx:base x≠x:=fun e=>hne (by rw [←hb,e])
  obtain ⟨h0,k,hk,hen,_,_,h2⟩:=hT.st x hx hex hxr
  obtain ⟨a1,a2,_⟩:=h2 hbx
  have hmM:=hMM.ltN hN hx h0
  refine ⟨h0,hmM,a1,by rw [a2,hb],fun e=>?_⟩
  obtain ⟨j,_,_,_,_,hbm,hmm⟩:=hMM.en hx (by omega) h0
  have hcr:mt fr to mb x≠r:=fun e'=>by have:=hT.rb; rw [←e',hbm] at this; omega
  have:=(hT.both hmM a1 hcr).1 (by rw [hmm]; exact hex)
  exact this.2 (by rw [a2,hb,e])
def OdP (M:Nat) (ev:Nat→Bool) (via:Nat→Int) (a:Nat):Prop:=a<M∧ev a=false∧0≤via a
def BsP (M:Nat) (ev:Nat→Bool) (base:Nat→Nat) (c:Nat):Prop:=c<M∧ev c=true∧base c=c
def ClP (M:Nat) (ev:Nat→Bool) (base:Nat→Nat) (c x:Nat):Prop:=x<M∧ev x=true∧base x=c
theorem Clo.cls (hN:Nds M n fr to) (hMM:MM M n fr to M mb) (C:Clo M n fr to mb r base via ev ρ) :
    Cls M n fr to mb (BsP M ev base) (ClP M ev base) (OdP M ev via) where
  lt:=fun c x _ h=>h.1
  self:=fun c h=>h
  dis:=fun c c' x _ _ h h'=>h.2.2.symm.trans h'.2.2
  mate:=fun c x _ h hne=>by
    obtain ⟨h1,h2,h3,h4,h5⟩:=C.T.mate_out hN hMM h.1 h.2.1 h.2.2 hne
    exact ⟨h1,⟨h2,h3,h4⟩,h5⟩
  cl:=fun c x i _ h hi=>by
    have hw:=hi.ot.nd hN
    obtain ⟨h1,h2⟩:=C.cl x h.1 h.2.1 i hi
    rcases Bool.eq_false_or_eq_true (ev (ot fr to i x)) with he | he
    · exact .inl ⟨hw,he,by rw [←h2 he]; exact h.2.2⟩
    · exact .inr ⟨hw,he,h1.resolve_left (by rw [he]; decide)⟩
  na:=fun c x _ h ha=>by have h1:=h.2.1; rw [ha.2.1] at h1; cases h1
  aM:=fun a h=>h.1
open Classical in
theorem Clo.hung (hN:Nds M n fr to) (hMM:MM M n fr to M mb) (hb:MM M n fr to M b') (C:Clo M n fr to mb r base via ev ρ):1+cnt (fun a=>decide (OdP M ev via a∧b' a<0)) M≤cnt (fun x=>decide (ev x=true∧b' x<0)) M:=by
  have h1:=(C.cls hN hMM).hung hN hMM hb
  have h2:cnt (fun x=>decide ((∃c,BsP M ev base c∧ClP M ev base c x)∧b' x<0)) M≤cnt (fun x=>decide (ev x=true∧b' x<0)) M:=cnt_mono fun x hx hh=>by
    obtain ⟨⟨c,_,_,he,_⟩,hb⟩:=of_decide_eq_true hh
    exact decide_eq_true ⟨he,hb⟩
  have h3:1+cnt (fun a=>decide (OdP M ev via a)) M≤cnt (fun c=>decide (BsP M ev base c)) M:=by
    have e1:=cnt_less (p:=fun c=>decide (BsP M ev base c)) (q:=fun c=>decide (BsP M ev base c∧c≠r)) C.T.rN (decide_eq_true ⟨C.T.rN,C.T.re,C.T.rr⟩) (decide_eq_false fun hh=>hh.2 rfl) (fun i _ hne=>by rw [decide_eq_decide]; exact ⟨fun hh=>⟨hh,hne⟩,fun hh=>hh.1⟩)
    have e2:cnt (fun a=>decide (OdP M ev via a)) M≤cnt (fun c=>decide (BsP M ev base c∧c≠r)) M:=by
      refine cnt_inj (mt fr to mb) (fun a ha hh=>?_) fun a d ha hd h1 h2 e=>?_
      · obtain ⟨_,h1,h2⟩:=of_decide_eq_true hh
        obtain ⟨h3,h4,h5⟩:=C.T.od a ha h1 h2
        obtain ⟨j,_,_,_,_,hbm,_⟩:=hMM.en ha (by omega) h3
        refine ⟨hMM.ltN hN ha h3,decide_eq_true ⟨⟨hMM.ltN hN ha h3,h4,h5⟩,fun e=>?_⟩⟩
        have:=C.T.rb
        rw [←e,hbm] at this; omega
      · obtain ⟨_,a1,a2⟩:=of_decide_eq_true h1
        obtain ⟨_,d1,d2⟩:=of_decide_eq_true h2
        exact hMM.inj ha hd (C.T.od a ha a1 a2).1 (C.T.od d hd d1 d2).1 e
    omega
  omega
theorem Tre.flip (hN:Nds M n fr to) (hMM:MM M n fr to M mb) (hT:Tre M n fr to mb r base via ev ρ) {u:Nat} (hu:u<M) (he:ev u=true):∃b',MM M n fr to M b'∧b' u=-1∧∀v,v<M→v≠u→(b' v<0↔mb v<0∧v≠r):=by
  by_cases hur:u=r
  · subst hur
    exact ⟨mb,hMM,hT.rb,fun v hv hne=>⟨fun h=>⟨h,hne⟩,fun h=>h.1⟩⟩
  · obtain ⟨l,hl,hD⟩:=hT.pa u hu he
    have hall:=hT.pev hN hl hu he
    cases hl with
    | root h0=>have:=(hT.st u hu he hur).1; omega
    | step h1 hk hen hl'=>
      rename_i k l'
      obtain ⟨j,ej,hj,em,_,hbm,hmm⟩:=hMM.en hu (by omega) h1
      have hmM:=hMM.ltN hN hu h1
      have hmu:mt fr to mb u≠u:=by rw [em]; exact hj.ne
      have hnd:=List.nodup_cons.1 hD.1
      have hD':ND fr to mb l':=⟨hnd.2,fun x hx hb y hy=>hD.2 x (by simp [hx]) hb y (by simp [hy])⟩
      have hlu:∀x∈l',x≠u:=fun x hx e=>hnd.1 (e▸hx)
      have hmtu:∀x∈l',0≤mb x→mt fr to mb x≠u:=fun x hx hb=>hD.2 x (by simp [hx]) hb u (by simp)
      have hMX:MM M n fr to (mt fr to mb u) (upf mb u (-1)):=fun v hv hne=>by
        by_cases e:v=u
        · left; rw [e,upf_same]
        · rw [upf_ne e]
          rcases hMM v hv (by omega) with e1 | ⟨i,e1,hi,_,e2⟩
          · exact .inl e1
          · have h3:ot fr to i v≠u:=fun hh=>by
              have:mt fr to mb u=v:=by rw [hh] at e2; unfold mt; rw [e2,tN,←hh,hi.oo]
              exact hne this.symm
            refine .inr ⟨i,e1,hi,fun hh=>?_,by rw [upf_ne h3]; exact e2⟩
            have:mt fr to mb v=mt fr to mb u:=by unfold mt; rw [e1,tN]; exact hh
            exact e (hMM.inj hv hu (by omega) h1 this)
      obtain ⟨r1,r2,r3,r4⟩:=turn_ok hN hMM hl' hD' (fun x hx=>(hall x (by simp [hx])).1) (b:=upf mb u (-1)) (w:=mt fr to mb u) (fun x hx=>⟨upf_ne (hlu x hx),fun hb=>upf_ne (hmtu x hx hb)⟩) hMX (fun x hx=>⟨fun e=>hD.2 u (by simp) h1 x (by simp [hx]) e.symm,fun hb e=>hlu x hx (hMM.inj (hall x (by simp [hx])).1 hu hb h1 e)⟩) hk hen rfl
      refine ⟨_,r1,?_,fun v hv hne=>?_⟩
      · rw [r4 u hmu.symm fun x hx=>⟨(hlu x hx).symm,fun hb=>(hmtu x hx hb).symm⟩,upf_same]
      · by_cases hvm:v=mt fr to mb u
        · rw [hvm,r2,hbm]; omega
        · by_cases hvl:∃x∈l',v=x∨(0≤mb x∧v=mt fr to mb x)
          · obtain ⟨x,hx,hh⟩:=hvl
            obtain ⟨hxM,hxe⟩:=hall x (by simp [hx])
            rcases hh with rfl | ⟨hbx,rfl⟩
            · have:=(r3 v hx).1
              constructor
              · intro h; omega
              · rintro ⟨h2,h3⟩
                have:=(hT.st v hxM hxe h3).1; omega
            · have h4:=(r3 x hx).2 hbx
              obtain ⟨_,_,_,_,_,h5,_⟩:=hMM.en hxM (by omega) hbx
              constructor
              · intro h; omega
              · rintro ⟨h2,_⟩; omega
          · rw [r4 v hvm fun x hx=>⟨fun e=>hvl ⟨x,hx,.inl e⟩,fun hb e=>hvl ⟨x,hx,.inr ⟨hb,e⟩⟩⟩,upf_ne hne]
            constructor
            · intro h
              refine ⟨h,fun e=>?_⟩
              have:∀{y:Nat} {l:List Nat},AP n fr to mb via y l→y<M→ev y=true→r∈l:=by
                intro y l hA
                induction hA with
                | root h0=>
                  rename_i y
                  intro hy hey
                  have:y=r:=Classical.byContradiction fun hne=>by have:=(hT.st y hy hey hne).1; omega
                  rw [this]; simp
                | step h1 hk he' hl ih=>
                  rename_i y k' l2
                  intro hy hey
                  have hne:y≠r:=fun e=>by rw [e,hT.rb] at h1; omega
                  obtain ⟨_,k2,hk2,_,hev,_⟩:=hT.st y hy hey hne
                  have:=Int.ofNat.inj (hk.symm.trans hk2)
                  subst this
                  exact List.mem_cons_of_mem _ (ih (he'.ot.nd hN) hev)
              obtain ⟨_,k2,hk2,_,hev,_⟩:=hT.st u hu he hur
              have e3:=Int.ofNat.inj (hk.symm.trans hk2)
              subst e3
              exact hvl ⟨r,this hl' (hen.ot.nd hN) hev,.inl e⟩
            · exact fun h=>h.1
end
end Go.Mz
/-
  Layer 17 in memory: what a look for ways holds; the far end of an edge, the mate of a node, walked.
-/
namespace Go.Mz
def ef (e:Nat→Edg) (i:Nat):Nat:=(e i).fr.toNat
def et (e:Nat→Edg) (i:Nat):Nat:=(e i).to.toNat
theorem Right.nds {M n:Nat} {e:Nat→Edg} (hr:Right (M:Int) n e):Nds M n (ef e) (et e):=fun i hi=>by
  have hx:=hr.ed i hi
  have h0:=hx.f0; have h1:=hx.f1; have h2:=hx.t0; have h3:=hx.t1
  unfold ef et; omega
theorem Right.ends {M n:Nat} {e:Nat→Edg} (hr:Right (M:Int) n e) {i:Nat} (hi:i<n):(e i).fr=(ef e i:Int)∧(e i).to=(et e i:Int):=by
  have hx:=hr.ed i hi
  have h0:=hx.f0; have h2:=hx.t0
  unfold ef et; omega
def incs (fr to:Nat→Nat):Nat→Nat→List Nat
  | 0=>fun _=>[]
  | i+1=>if fr i=to i then incs fr to i else upf (upf (incs fr to i) (fr i) (incs fr to i (fr i)++[i])) (to i) (incs fr to i (to i)++[i])
theorem mem_incs {fr to:Nat→Nat}:∀{i j v:Nat},j∈incs fr to i v↔En i fr to j v
  | 0,j,v=>⟨fun h=>(by cases h),fun h=>by have:=h.1; omega⟩
  | i+1,j,v=>by
    unfold incs
    by_cases hl:fr i=to i
    · rw [if_pos hl,mem_incs]
      constructor
      · rintro ⟨h1,h2,h3⟩; exact ⟨by omega,h2,h3⟩
      · rintro ⟨h1,h2,h3⟩
        by_cases ej:j=i
        · subst ej; exact (h2 hl).elim
        · exact ⟨by omega,h2,h3⟩
    · rw [if_neg hl]
      have key:∀u,j∈incs fr to i u++[i]↔En i fr to j u∨j=i:=fun u=>by simp [mem_incs]
      by_cases e1:v=to i
      · subst e1
        rw [upf_same,key]
        constructor
        · rintro (⟨h1,h2,h3⟩ | rfl)
          · exact ⟨by omega,h2,h3⟩
          · exact ⟨by omega,hl,.inr rfl⟩
        · rintro ⟨h1,h2,h3⟩
          by_cases ej:j=i
          · exact .inr ej
          · exact .inl ⟨by omega,h2,h3⟩
      · rw [upf_ne e1]
        by_cases e2:v=fr i
        · subst e2
          rw [upf_same,key]
          constructor
          · rintro (⟨h1,h2,h3⟩ | rfl)
            · exact ⟨by omega,h2,h3⟩
            · exact ⟨by omega,hl,.inl rfl⟩
          · rintro ⟨h1,h2,h3⟩
            by_cases ej:j=i
            · exact .inr ej
            · exact .inl ⟨by omega,h2,h3⟩
        · rw [upf_ne e2,mem_incs]
          constructor
          · rintro ⟨h1,h2,h3⟩; exact ⟨by omega,h2,h3⟩
          · rintro ⟨h1,h2,h3⟩
            by_cases ej:j=i
            · subst ej; exact (h3.elim e2 e1).elim
            · exact ⟨by omega,h2,h3⟩
theorem incs_len {fr to:Nat→Nat}:∀{i v:Nat},(incs fr to i v).length≤i
  | 0,v=>Nat.le_refl _
  | i+1,v=>by
    unfold incs
    by_cases hl:fr i=to i
    · rw [if_pos hl]; have:=incs_len (fr:=fr) (to:=to) (i:=i) (v:=v); omega
    · rw [if_neg hl]
      by_cases e1:v=to i
      · subst e1; rw [upf_same]; have:=incs_len (fr:=fr) (to:=to) (i:=i) (v:=to i); simp; omega
      · rw [upf_ne e1]
        by_cases e2:v=fr i
        · subst e2; rw [upf_same]; have:=incs_len (fr:=fr) (to:=to) (i:=i) (v:=fr i); simp; omega
        · rw [upf_ne e2]; have:=incs_len (fr:=fr) (to:=to) (i:=i) (v:=v); omega
structure LY where
  sb:Nat
  nb:Nat
  bb:Nat
  xb:Nat
  xv:Nat
  xe:Nat
  ep:OA
  ec:Nat
  sl:Nat→Sl
structure Aw (Y:LY) (M y:Nat):Prop where
  s:y≠Y.sb
  n:y≠Y.nb
  b:y≠Y.bb
  l:∀v,v<M→¬fpS (Y.sl v).p y
structure BsC (H0 H:Hp) (Y:LY) (M n:Nat) (e:Nat→Edg) (nx:Nat→List Nat) (mb:Nat→Int) (v4 v5 v6 v7:Value):Prop where
  st:Step (fun _=>False) H0 H
  he:Rdr H0 Y.ep n e
  cell:H Y.sb=some ⟨[.int .i64 (M:Int),.slice Y.ep n Y.ec,.slice (some ⟨Y.nb,0,none⟩) M M,.slice (some ⟨Y.bb,0,none⟩) M M,v4,v5,v6,v7],103⟩
  out:Rows2 H0 H Y.nb M Y.sl nx
  rb:Row H (some ⟨Y.bb,0,none⟩) M M mb
  fs:H0 Y.sb=none
  fb:H0 Y.bb=none
  d1:Y.sb≠Y.bb
  d2:Y.sb≠Y.nb
  d3:Y.nb≠Y.bb
  d4:∀v,v<M→∀x,fpS (Y.sl v).p x→x≠Y.sb∧x≠Y.bb
structure Ax (Y:LY) (M:Nat) (qp:OA) (y:Nat):Prop where
  w:Aw Y M y
  b:y≠Y.xb
  v:y≠Y.xv
  e:y≠Y.xe
  q:¬fpS qp y
structure BkM (H0 H:Hp) (Y:LY) (M n:Nat) (e:Nat→Edg) (mb:Nat→Int) (base:Nat→Nat) (via:Nat→Int) (ev:Nat→Bool) (qp:OA) (qc:Nat) (Q:List Nat):Prop where
  c:BsC H0 H Y M n e (incs (ef e) (et e) n) mb (.slice (some ⟨Y.xb,0,none⟩) M M) (.slice (some ⟨Y.xv,0,none⟩) M M) (.slice (some ⟨Y.xe,0,none⟩) M M) (.slice qp Q.length qc)
  rba:Row H (some ⟨Y.xb,0,none⟩) M M (fun v=>(base v:Int))
  rvi:Row H (some ⟨Y.xv,0,none⟩) M M via
  rev:Row H (some ⟨Y.xe,0,none⟩) M M ev
  rq:Row H qp Q.length qc (lsF Q)
  ab:Aw Y M Y.xb
  av:Aw Y M Y.xv
  ae:Aw Y M Y.xe
  aq:∀y,fpS qp y→H0 y=none∧Aw Y M y∧y≠Y.xb∧y≠Y.xv∧y≠Y.xe
  fb:H0 Y.xb=none
  fv:H0 Y.xv=none
  fe:H0 Y.xe=none
  dbv:Y.xb≠Y.xv
  dbe:Y.xb≠Y.xe
  dve:Y.xv≠Y.xe
section
variable {E:VP}
variable {H0 H H':Hp} {Y:LY} {M n:Nat} {e:Nat→Edg} {nx:Nat→List Nat} {mb:Nat→Int} {v4 v5 v6 v7:Value} {base:Nat→Nat} {via:Nat→Int} {ev:Nat→Bool} {qp:OA} {qc:Nat} {Q:List Nat}
theorem BsC.keep {F:Nat→Prop} (h:BsC H0 H Y M n e nx mb v4 v5 v6 v7) (s:Step F H H') (hF:∀y,F y→H0 y=none∧Aw Y M y):BsC H0 H' Y M n e nx mb v4 v5 v6 v7:=
  ⟨h.st.own s fun y hy=>(hF y hy).1,h.he,s.keep _ _ h.cell fun hh=>(hF _ hh).2.s rfl,h.out.keep s (fun hh=>(hF _ hh).2.n rfl) fun v hv x hx hh=>(hF _ hh).2.l v hv hx,h.rb.keep s fun y hy hh=>by rw [fpS_mk] at hy; exact (hF _ hh).2.b hy,h.fs,h.fb,h.d1,h.d2,h.d3,h.d4⟩
theorem BsC.keep0 (h:BsC H0 H Y M n e nx mb v4 v5 v6 v7) (s:Step (fun _=>False) H H'):BsC H0 H' Y M n e nx mb v4 v5 v6 v7:=h.keep s fun _ h=>h.elim
theorem BsC.ed (h:BsC H0 H Y M n e nx mb v4 v5 v6 v7):Rdr H Y.ep n e:=h.he.keep h.st fun _ _ _ h=>h
theorem BsC.fresh (h:BsC H0 H Y M n e nx mb v4 v5 v6 v7) {y:Nat} (hy:H y=none):Aw Y M y:=
  ⟨fun hh=>(by rw [hh,h.cell] at hy; cases hy),fun hh=>h.out.row.live ⟨0,rfl⟩ (hh▸hy),fun hh=>h.rb.live ⟨0,rfl⟩ (hh▸hy),fun v hv hh=>(h.out.each v hv).live hh hy⟩
theorem BsC.setC {w4 w5 w6 w7:Value} (h:BsC H0 H Y M n e nx mb v4 v5 v6 v7) (s:Step (·=Y.sb) H H') (c:H' Y.sb=some ⟨[.int .i64 (M:Int),.slice Y.ep n Y.ec,.slice (some ⟨Y.nb,0,none⟩) M M,.slice (some ⟨Y.bb,0,none⟩) M M,w4,w5,w6,w7],103⟩):BsC H0 H' Y M n e nx mb w4 w5 w6 w7:=
  ⟨h.st.own s fun y hy=>hy▸h.fs,h.he,c,h.out.keep s (fun hh=>h.d2 hh.symm) fun v hv x hx hh=>(h.d4 v hv x hx).1 hh,h.rb.keep s fun y hy hh=>by rw [fpS_mk] at hy; exact h.d1 (hh.symm.trans hy),h.fs,h.fb,h.d1,h.d2,h.d3,h.d4⟩
theorem BsC.setB {b':Nat→Int} (h:BsC H0 H Y M n e nx mb v4 v5 v6 v7) (s:Step (fpS (some ⟨Y.bb,0,none⟩)) H H') (r:Row H' (some ⟨Y.bb,0,none⟩) M M b'):BsC H0 H' Y M n e nx b' v4 v5 v6 v7:=by
  have hF:∀y,fpS (some ⟨Y.bb,0,none⟩) y→y=Y.bb:=fun y hy=>by rwa [fpS_mk] at hy
  exact ⟨h.st.own s fun y hy=>hF y hy▸h.fb,h.he,s.keep _ _ h.cell fun hh=>h.d1 (hF _ hh),h.out.keep s (fun hh=>h.d3 (hF _ hh)) fun v hv x hx hh=>(h.d4 v hv x hx).2 (hF _ hh),r,h.fs,h.fb,h.d1,h.d2,h.d3,h.d4⟩
theorem BkM.keep {F:Nat→Prop} (h:BkM H0 H Y M n e mb base via ev qp qc Q) (s:Step F H H') (hF:∀y,F y→H0 y=none∧Ax Y M qp y):BkM H0 H' Y M n e mb base via ev qp qc Q:=
  ⟨h.c.keep s fun y hy=>⟨(hF y hy).1,(hF y hy).2.w⟩,h.rba.keep s fun y hy hh=>by rw [fpS_mk] at hy; exact (hF _ hh).2.b hy,h.rvi.keep s fun y hy hh=>by rw [fpS_mk] at hy; exact (hF _ hh).2.v hy,h.rev.keep s fun y hy hh=>by rw [fpS_mk] at hy; exact (hF _ hh).2.e hy,
    h.rq.keep s fun y hy hh=>(hF _ hh).2.q hy,h.ab,h.av,h.ae,h.aq,h.fb,h.fv,h.fe,h.dbv,h.dbe,h.dve⟩
theorem BkM.keep0 (h:BkM H0 H Y M n e mb base via ev qp qc Q) (s:Step (fun _=>False) H H'):BkM H0 H' Y M n e mb base via ev qp qc Q:=h.keep s fun _ h=>h.elim
theorem BkM.fresh (h:BkM H0 H Y M n e mb base via ev qp qc Q) {y:Nat} (hy:H y=none):Ax Y M qp y:=
  ⟨h.c.fresh hy,fun hh=>h.rba.live ⟨0,rfl⟩ (hh▸hy),fun hh=>h.rvi.live ⟨0,rfl⟩ (hh▸hy),fun hh=>h.rev.live ⟨0,rfl⟩ (hh▸hy),fun hh=>h.rq.live hh hy⟩
theorem BkM.setV {via':Nat→Int} (h:BkM H0 H Y M n e mb base via ev qp qc Q) (s:Step (fpS (some ⟨Y.xv,0,none⟩)) H H') (r:Row H' (some ⟨Y.xv,0,none⟩) M M via'):BkM H0 H' Y M n e mb base via' ev qp qc Q:=by
  have hF:∀y,fpS (some ⟨Y.xv,0,none⟩) y→y=Y.xv:=fun y hy=>by rwa [fpS_mk] at hy
  exact ⟨h.c.keep s fun y hy=>hF y hy▸⟨h.fv,h.av⟩,h.rba.keep s fun y hy hh=>by rw [fpS_mk] at hy; exact h.dbv (hy.symm.trans (hF _ hh)),r,h.rev.keep s fun y hy hh=>by rw [fpS_mk] at hy; exact h.dve ((hF _ hh).symm.trans hy),
    h.rq.keep s fun y hy hh=>(h.aq y hy).2.2.2.1 (hF _ hh),h.ab,h.av,h.ae,h.aq,h.fb,h.fv,h.fe,h.dbv,h.dbe,h.dve⟩
theorem BkM.setBa {base':Nat→Nat} (h:BkM H0 H Y M n e mb base via ev qp qc Q) (s:Step (fpS (some ⟨Y.xb,0,none⟩)) H H') (r:Row H' (some ⟨Y.xb,0,none⟩) M M (fun v=>(base' v:Int))):BkM H0 H' Y M n e mb base' via ev qp qc Q:=by
  have hF:∀y,fpS (some ⟨Y.xb,0,none⟩) y→y=Y.xb:=fun y hy=>by rwa [fpS_mk] at hy
  exact ⟨h.c.keep s fun y hy=>hF y hy▸⟨h.fb,h.ab⟩,r,h.rvi.keep s fun y hy hh=>by rw [fpS_mk] at hy; exact h.dbv ((hF _ hh).symm.trans hy),h.rev.keep s fun y hy hh=>by rw [fpS_mk] at hy; exact h.dbe ((hF _ hh).symm.trans hy),
    h.rq.keep s fun y hy hh=>(h.aq y hy).2.2.1 (hF _ hh),h.ab,h.av,h.ae,h.aq,h.fb,h.fv,h.fe,h.dbv,h.dbe,h.dve⟩
theorem BkM.setE {ev':Nat→Bool} (h:BkM H0 H Y M n e mb base via ev qp qc Q) (s:Step (fpS (some ⟨Y.xe,0,none⟩)) H H') (r:Row H' (some ⟨Y.xe,0,none⟩) M M ev'):BkM H0 H' Y M n e mb base via ev' qp qc Q:=by
  have hF:∀y,fpS (some ⟨Y.xe,0,none⟩) y→y=Y.xe:=fun y hy=>by rwa [fpS_mk] at hy
  exact ⟨h.c.keep s fun y hy=>hF y hy▸⟨h.fe,h.ae⟩,h.rba.keep s fun y hy hh=>by rw [fpS_mk] at hy; exact h.dbe (hy.symm.trans (hF _ hh)),h.rvi.keep s fun y hy hh=>by rw [fpS_mk] at hy; exact h.dve (hy.symm.trans (hF _ hh)),r,
    h.rq.keep s fun y hy hh=>(h.aq y hy).2.2.2.2 (hF _ hh),h.ab,h.av,h.ae,h.aq,h.fb,h.fv,h.fe,h.dbv,h.dbe,h.dve⟩
theorem BkM.setM {b':Nat→Int} (h:BkM H0 H Y M n e mb base via ev qp qc Q) (s:Step (fpS (some ⟨Y.bb,0,none⟩)) H H') (r:Row H' (some ⟨Y.bb,0,none⟩) M M b'):BkM H0 H' Y M n e b' base via ev qp qc Q:=by
  have hF:∀y,fpS (some ⟨Y.bb,0,none⟩) y→y=Y.bb:=fun y hy=>by rwa [fpS_mk] at hy
  exact ⟨h.c.setB s r,h.rba.keep s fun y hy hh=>by rw [fpS_mk] at hy; exact h.ab.b (hy.symm.trans (hF _ hh)),h.rvi.keep s fun y hy hh=>by rw [fpS_mk] at hy; exact h.av.b (hy.symm.trans (hF _ hh)),h.rev.keep s fun y hy hh=>by rw [fpS_mk] at hy; exact h.ae.b (hy.symm.trans (hF _ hh)),
    h.rq.keep s fun y hy hh=>(h.aq y hy).2.1.b (hF _ hh),h.ab,h.av,h.ae,h.aq,h.fb,h.fv,h.fe,h.dbv,h.dbe,h.dve⟩
theorem BkM.setQ {H1:Hp} {qp':OA} {qc':Nat} {Q':List Nat} (h:BkM H0 H Y M n e mb base via ev qp qc Q) (s:Step (fpS qp) H H1) (r:Row H1 qp' Q'.length qc' (lsF Q')) (f:∀y,fpS qp' y→fpS qp y∨H y=none) (s':Step (·=Y.sb) H1 H')
    (c:H' Y.sb=some ⟨[.int .i64 (M:Int),.slice Y.ep n Y.ec,.slice (some ⟨Y.nb,0,none⟩) M M,.slice (some ⟨Y.bb,0,none⟩) M M,.slice (some ⟨Y.xb,0,none⟩) M M,.slice (some ⟨Y.xv,0,none⟩) M M,.slice (some ⟨Y.xe,0,none⟩) M M,.slice qp' Q'.length qc'],103⟩) :
    BkM H0 H' Y M n e mb base via ev qp' qc' Q':=by
  have aq':∀y,fpS qp' y→H0 y=none∧Aw Y M y∧y≠Y.xb∧y≠Y.xv∧y≠Y.xe:=fun y hy=>(f y hy).elim (h.aq y) fun hn=>by
    have:=h.fresh hn
    exact ⟨h.c.st.mono _ hn,this.w,this.b,this.v,this.e⟩
  have c1:=h.c.keep s fun y hy=>⟨(h.aq y hy).1,(h.aq y hy).2.1⟩
  refine ⟨c1.setC s' c,?_,?_,?_,r.keep s' fun y hy hh=>(aq' y hy).2.1.s hh,h.ab,h.av,h.ae,aq',h.fb,h.fv,h.fe,h.dbv,h.dbe,h.dve⟩
  · exact (h.rba.keep s fun y hy hh=>by rw [fpS_mk] at hy; exact (h.aq y hh).2.2.1 hy).keep s' fun y hy hh=>by rw [fpS_mk] at hy; exact h.ab.s (hy.symm.trans hh)
  · exact (h.rvi.keep s fun y hy hh=>by rw [fpS_mk] at hy; exact (h.aq y hh).2.2.2.1 hy).keep s' fun y hy hh=>by rw [fpS_mk] at hy; exact h.av.s (hy.symm.trans hh)
  · exact (h.rev.keep s fun y hy hh=>by rw [fpS_mk] at hy; exact (h.aq y hh).2.2.2.2 hy).keep s' fun y hy hh=>by rw [fpS_mk] at hy; exact h.ae.s (hy.symm.trans hh)
theorem blother {i v:Nat} {K:Int→Hp→Prop} (h:BsC H0 H Y M n e nx mb v4 v5 v6 v7) (hr:Right (M:Int) n e) (hv:En n (ef e) (et e) i v) (k:K (ot (ef e) (et e) i v:Int) H):Q31.call (some ⟨Y.sb,0,none⟩) i v E H K:=by
  have hi:=hv.1
  obtain ⟨e1,e2⟩:=hr.ends hi
  have hN:=hr.N1
  obtain ⟨h1,h2⟩:=hr.nds i hi
  refine Q31.of (Q31.run_eq ?_)
  unfold Q31.run_t
  simp only [nn_mk,get_at h.cell,gZ,gS,ldS_mk,Nat.zero_add]
  refine h.ed.edgeF (by omega) (by omega) ?_
  refine h.ed.edgeT (by omega) (by omega) ?_
  have hv':=hv.2.2
  rw [tN,i64w (n:=(e i).fr+(e i).to) (by omega) (by omega),i64w (by omega) (by omega)]
  have:(e i).fr+(e i).to-(v:Int)=(ot (ef e) (et e) i v:Int):=by unfold ot; omega
  rw [this]; exact k
theorem blmate {i v:Nat} {K:Int→Hp→Prop} (h:BsC H0 H Y M n e nx mb v4 v5 v6 v7) (hr:Right (M:Int) n e) (hv:En n (ef e) (et e) i v) (hb:mb v=(i:Int)) (k:K (mt (ef e) (et e) mb v:Int) H):Q29.call (some ⟨Y.sb,0,none⟩) v E H K:=by
  have hvM:=hv.nd hr.nds
  refine Q29.of (Q29.run_eq ?_)
  unfold Q29.run_t
  simp only [nn_mk,get_at h.cell,gZ,gS,ldS_mk,Nat.zero_add]
  refine h.rb.ixI (by omega) (by omega) ?_
  rw [tN,hb]
  refine blother h hr hv ?_
  have:mt (ef e) (et e) mb v=ot (ef e) (et e) i v:=by unfold mt; rw [hb,tN]
  rw [←this]; exact k
end
end Go.Mz
