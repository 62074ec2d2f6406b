/-
  Joined: PfS, PfU, PfO, PfP, PmA, PmB.
-/
import Derived.Test.YtndgjfbibkdokaaPkA03
import Derived.Test.YtndgjfbibkdokaaPkM
import Derived.Test.YtndgjfbibkdokaaGPer
import Derived.Test.YtndgjfbibkdokaaPkA02
import Derived.Test.YtndgjfbibkdokaaGSl2
set_option linter.unusedSimpArgs false
set_option linter.unusedVariables false
/-
  An odd circle is one knot, in plain words. No program in sight.
-/
namespace Go.Mz
structure Wl (σ:KS) (p:Nat→Nat) (la b:Nat):Prop where
  st:p 0=b
  nx:∀t,t<la→0≤σ.ve (p t)∧p (t+1)=σ.surf (σ.vo (p t))
def shK (p q:Nat→Nat) (la t:Nat):Nat:=if t≤la then p (la-t) else q (t-la-1)
def shE (σ:KS) (p q:Nat→Nat) (la i t:Nat):Nat:=if t<la then (σ.ve (p (la-1-t))).toNat else if t=la then i else (σ.ve (q (t-la-1))).toNat
def shI (σ:KS) (p q:Nat→Nat) (la u t:Nat):Nat:=if t<la then σ.vo (p (la-1-t)) else if t=la then u else σ.vi (q (t-la-1))
def shO (σ:KS) (p q:Nat→Nat) (la v t:Nat):Nat:=if t<la then σ.vi (p (la-1-t)) else if t=la then v else σ.vo (q (t-la-1))
def InC (p q:Nat→Nat) (la lb x:Nat):Prop:=∃t,t<la+lb+1∧shK p q la t=x
open Classical in
noncomputable def KS.shr (σ:KS) (p q:Nat→Nat) (la lb i u v:Nat):KS where
  m:=σ.m+1
  kn:=upf σ.kn σ.m (la+lb+1)
  kd:=upf σ.kd σ.m (shK p q la)
  le:=upf σ.le σ.m (shE σ p q la i)
  li:=upf σ.li σ.m (shI σ p q la u)
  lo:=upf σ.lo σ.m (shO σ p q la v)
  base:=upf σ.base σ.m (σ.base (p la))
  z:=upf σ.z σ.m 0
  lab:=upf σ.lab σ.m 1
  ve:=upf σ.ve σ.m (σ.ve (p la))
  vi:=upf σ.vi σ.m (σ.vi (p la))
  vo:=upf σ.vo σ.m (σ.vo (p la))
  up:=fun x=>if x=σ.m then -1 else if InC p q la lb x then (σ.m:Int) else σ.up x
  y:=σ.y
  mb:=σ.mb
  surf:=fun v=>if InC p q la lb (σ.surf v) then σ.m else σ.surf v
section
variable {n ne:Nat} {fr to:Nat→Nat} {tw:Nat→Int} {R0 D R W:Int} {σ σ':KS} {d:Nat→Nat} {b c u v w x e i la lb:Nat} {p q:Nat→Nat}
theorem Tr.via (G:Gp n ne fr to tw R0 W) (h:Inv n ne fr to tw R0 D σ) (T:Tr n ne fr to tw R σ d) (hb:σ.Sf b) (hl:σ.lab b≠0) (hve:0≤σ.ve b) :
    ∃e:Nat,σ.ve b=e∧En ne fr to e (σ.vi b)∧Tgt fr to tw σ e∧Kin σ.up (σ.vi b) b∧σ.vo b=ot fr to e (σ.vi b)∧σ.vo b<n∧d (σ.surf (σ.vo b))<d b∧
      (σ.lab b=1→σ.vi b=σ.base b∧σ.mb (σ.base b)=e∧σ.base (σ.surf (σ.vo b))=σ.vo b∧σ.mb (σ.vo b)=e∧σ.lab (σ.surf (σ.vo b))=2)∧(σ.lab b=2→σ.lab (σ.surf (σ.vo b))=1):=by
  rcases T.lb b hb with l | l | l
  · exact (hl l).elim
  · rcases T.ou b hb l with ⟨g1,_⟩ | ⟨e,g1,g2,g3,g4,g5,g6⟩
    · omega
    · obtain ⟨c1,c2,c3,c4,c5⟩:=h.crs G hb g2
      obtain ⟨b1,b2,b3⟩:=h.bsf hb
      rw [←g4] at c2 c3 c4 c5
      exact ⟨e,g1,by rw [g3]; exact c1,h.du.tm _ e b2 g2,by rw [g3]; exact b1,by rw [g3]; exact g4,c2,g6,fun _=>⟨g3,g2,c4,c5,g5⟩,fun l'=>by omega⟩
  · obtain ⟨e,g1,g2,g3,g4,g5,g6,g7⟩:=T.inn b hb l
    exact ⟨e,g1,g2,g3,g4,g5,by rw [g5]; exact g2.ot.nd G.nd,g7,fun l'=>by omega,fun _=>g6⟩
theorem Wl.at' (G:Gp n ne fr to tw R0 W) (h:Inv n ne fr to tw R0 D σ) (T:Tr n ne fr to tw R σ d) (k:Wl σ p la b) (hb:σ.Sf b) (hl:σ.lab b=1):∀t,t≤la→σ.Sf (p t)∧(t%2=0→σ.lab (p t)=1)∧(t%2=1→σ.lab (p t)=2):=by
  intro t
  induction t with
  | zero=>intro _; rw [k.st]; exact ⟨hb,fun _=>hl,fun h=>by omega⟩
  | succ t ih=>
    intro ht
    obtain ⟨s1,s2,s3⟩:=ih (by omega)
    obtain ⟨n1,n2⟩:=k.nx t (by omega)
    have hl':σ.lab (p t)≠0:=by
      rcases Nat.mod_two_eq_zero_or_one t with e | e
      · rw [s2 e]; omega
      · rw [s3 e]; omega
    obtain ⟨e,g1,g2,g3,g4,g5,g6,g7,g8,g9⟩:=T.via G h s1 hl' n1
    rw [n2]
    refine ⟨(h.kp.srf _ g6).1,fun e1=>g9 (s3 (by omega)),fun e1=>(g8 (s2 (by omega))).2.2.2.2⟩
theorem Wl.lab (G:Gp n ne fr to tw R0 W) (h:Inv n ne fr to tw R0 D σ) (T:Tr n ne fr to tw R σ d) (k:Wl σ p la b) (hb:σ.Sf b) (hl:σ.lab b=1) {t:Nat} (ht:t≤la):σ.lab (p t)≠0:=by
  obtain ⟨s1,s2,s3⟩:=k.at' G h T hb hl t ht
  rcases Nat.mod_two_eq_zero_or_one t with e | e
  · rw [s2 e]; omega
  · rw [s3 e]; omega
theorem Wl.lt (G:Gp n ne fr to tw R0 W) (h:Inv n ne fr to tw R0 D σ) (T:Tr n ne fr to tw R σ d) (k:Wl σ p la b) (hb:σ.Sf b) (hl:σ.lab b=1) {s:Nat}:∀{t:Nat},s<t→t≤la→d (p t)<d (p s):=by
  intro t
  induction t with
  | zero=>intro hs _; omega
  | succ t ih=>
    intro hs ht
    obtain ⟨n1,n2⟩:=k.nx t (by omega)
    obtain ⟨e,g1,g2,g3,g4,g5,g6,g7,_⟩:=T.via G h (k.at' G h T hb hl t (by omega)).1 (k.lab G h T hb hl (by omega)) n1
    rw [←n2] at g7
    by_cases e:s=t
    · rw [e]; exact g7
    · have:=ih (by omega) (by omega); omega
theorem Wl.inj (G:Gp n ne fr to tw R0 W) (h:Inv n ne fr to tw R0 D σ) (T:Tr n ne fr to tw R σ d) (k:Wl σ p la b) (hb:σ.Sf b) (hl:σ.lab b=1) {s t:Nat} (hs:s≤la) (ht:t≤la) (e:p s=p t):s=t:=by
  rcases Nat.lt_trichotomy s t with h1 | h1 | h1
  · have:=k.lt G h T hb hl h1 ht; rw [e] at this; omega
  · exact h1
  · have:=k.lt G h T hb hl h1 hs; rw [e] at this; omega
theorem Tr.one (G:Gp n ne fr to tw R0 W) (h:Inv n ne fr to tw R0 D σ) (T:Tr n ne fr to tw R σ d) (hb:σ.Sf b) (hc:σ.Sf c) (lb:σ.lab b=1) (lc:σ.lab c=1) (vb:0≤σ.ve b) (vc:0≤σ.ve c) (e:σ.surf (σ.vo b)=σ.surf (σ.vo c)):b=c:=by
  obtain ⟨e1,a1,a2,a3,a4,a5,a6,a7,a8,_⟩:=T.via G h hb (by omega) vb
  obtain ⟨e2,c1,c2,c3,c4,c5,c6,c7,c8,_⟩:=T.via G h hc (by omega) vc
  obtain ⟨p1,p2,p3,p4,p5⟩:=a8 lb
  obtain ⟨q1,q2,q3,q4,q5⟩:=c8 lc
  rw [e,q3] at p3
  rw [←p3,q4] at p4
  have:e1=e2:=by omega
  subst this
  have h1:σ.vi b=ot fr to e1 (σ.vo b):=by rw [a5,a2.oo]
  have h2:σ.vi c=ot fr to e1 (σ.vo c):=by rw [c5,c2.oo]
  have h3:σ.base b=σ.base c:=by rw [←p1,←q1,h1,h2,p3]
  rw [←(h.bsf hb).2.2,←(h.bsf hc).2.2,h3]
structure Cyc (n ne:Nat) (fr to:Nat→Nat) (tw:Nat→Int) (σ:KS) (p q:Nat→Nat) (la lb i u:Nat):Prop where
  en:En ne fr to i u
  ti:Tgt fr to tw σ i
  ne':σ.surf u≠σ.surf (ot fr to i u)
  lu:σ.lab (σ.surf u)=1
  lv:σ.lab (σ.surf (ot fr to i u))=1
  wp:Wl σ p la (σ.surf u)
  wq:Wl σ q lb (σ.surf (ot fr to i u))
  top:p la=q lb
  cut:la=0∨lb=0∨p (la-1)≠q (lb-1)
structure Cyf (n ne:Nat) (fr to:Nat→Nat) (tw:Nat→Int) (σ:KS) (d:Nat→Nat) (p q:Nat→Nat) (la lb i u:Nat):Prop where
  en:En ne fr to i u
  ti:Tgt fr to tw σ i
  p0:p 0=σ.surf u
  q0:q 0=σ.surf (ot fr to i u)
  top:p la=q lb
  la2:la%2=0
  lb2:lb%2=0
  pos:2≤la+lb
  ps:∀t,t≤la→σ.Sf (p t)∧(t%2=0→σ.lab (p t)=1)∧(t%2=1→σ.lab (p t)=2)
  qs:∀t,t≤lb→σ.Sf (q t)∧(t%2=0→σ.lab (q t)=1)∧(t%2=1→σ.lab (q t)=2)
  pn:∀t,t<la→0≤σ.ve (p t)∧p (t+1)=σ.surf (σ.vo (p t))
  qn:∀t,t<lb→0≤σ.ve (q t)∧q (t+1)=σ.surf (σ.vo (q t))
  pd:∀t,t≤la→d (p la)≤d (p t)
  qd:∀t,t≤lb→d (p la)≤d (q t)
  pi:∀s t,s≤la→t≤la→p s=p t→s=t
  qi:∀s t,s≤lb→t≤lb→q s=q t→s=t
  pq:∀s t,s≤la→t<lb→p s≠q t
theorem Cyc.all (G:Gp n ne fr to tw R0 W) (h:Inv n ne fr to tw R0 D σ) (T:Tr n ne fr to tw R σ d) (C:Cyc n ne fr to tw σ p q la lb i u):Cyf n ne fr to tw σ d p q la lb i u:=by
  have hu:=C.en.nd G.nd
  have hv:=C.en.ot.nd G.nd
  have su:=(h.kp.srf _ hu).1
  have sv:=(h.kp.srf _ hv).1
  have ps:=C.wp.at' G h T su C.lu
  have qs:=C.wq.at' G h T sv C.lv
  have pi:∀s t,s≤la→t≤la→p s=p t→s=t:=fun s t hs ht e=>C.wp.inj G h T su C.lu hs ht e
  have qi:∀s t,s≤lb→t≤lb→q s=q t→s=t:=fun s t hs ht e=>C.wq.inj G h T sv C.lv hs ht e
  have par:la%2=lb%2:=by
    obtain ⟨_,a1,a2⟩:=ps la (Nat.le_refl _)
    obtain ⟨_,b1,b2⟩:=qs lb (Nat.le_refl _)
    rw [C.top] at a1 a2
    rcases Nat.mod_two_eq_zero_or_one la with e | e<;>rcases Nat.mod_two_eq_zero_or_one lb with e' | e'
    · omega
    · have:=a1 e; have:=b2 e'; omega
    · have:=a2 e; have:=b1 e'; omega
    · omega
  have la2:la%2=0:=by
    rcases Nat.mod_two_eq_zero_or_one la with e | e
    · exact e
    · exfalso
      have hla:0<la:=by omega
      have hlb:0<lb:=by omega
      rcases C.cut with c | c | c
      · omega
      · omega
      · refine c ?_
        obtain ⟨a1,a2,_⟩:=ps (la-1) (by omega)
        obtain ⟨b1,b2,_⟩:=qs (lb-1) (by omega)
        obtain ⟨n1,n2⟩:=C.wp.nx (la-1) (by omega)
        obtain ⟨m1,m2⟩:=C.wq.nx (lb-1) (by omega)
        rw [Nat.sub_add_cancel hla] at n2
        rw [Nat.sub_add_cancel hlb] at m2
        exact T.one G h a1 b1 (a2 (by omega)) (b2 (by omega)) n1 m1 (by rw [←n2,←m2,C.top])
  have pos:2≤la+lb:=by
    rcases Nat.lt_or_ge (la+lb) 2 with hlt | hge
    · exfalso
      have h1:la=0:=by omega
      have h2:lb=0:=by omega
      subst h1 h2
      have:=C.top
      rw [C.wp.st,C.wq.st] at this
      exact C.ne' this
    · exact hge
  refine ⟨C.en,C.ti,C.wp.st,C.wq.st,C.top,la2,by omega,pos,ps,qs,C.wp.nx,C.wq.nx,fun t ht=>?_,fun t ht=>?_,pi,qi,fun s t hs ht e=>?_⟩
  · by_cases e:t=la
    · rw [e]; exact Nat.le_refl _
    · exact Nat.le_of_lt (C.wp.lt G h T su C.lu (by omega) (Nat.le_refl _))
  · rw [C.top]
    by_cases e:t=lb
    · rw [e]; exact Nat.le_refl _
    · exact Nat.le_of_lt (C.wq.lt G h T sv C.lv (by omega) (Nat.le_refl _))
  · -- they would run on together
    have run:∀k,s+k≤la→t+k≤lb→p (s+k)=q (t+k):=by
      intro k
      induction k with
      | zero=>intro _ _; exact e
      | succ k ih=>
        intro h1 h2
        have:=ih (by omega) (by omega)
        rw [show s+(k+1)=s+k+1 by omega,show t+(k+1)=t+k+1 by omega,(C.wp.nx _ (by omega)).2,(C.wq.nx _ (by omega)).2,this]
    rcases Nat.lt_or_ge (la-s) (lb-t) with h1 | h1
    · have h2:=run (la-s) (by omega) (by omega)
      rw [show s+(la-s)=la by omega,C.top] at h2
      have:=qi _ _ (Nat.le_refl _) (by omega) h2
      omega
    · have h2:=run (lb-t) (by omega) (by omega)
      rw [show t+(lb-t)=lb by omega,←C.top] at h2
      have h3:=pi _ _ (by omega) (Nat.le_refl _) h2
      have h4:=run (lb-t-1) (by omega) (by omega)
      rcases C.cut with c | c | c
      · omega
      · omega
      · refine c ?_
        rw [show la-1=s+(lb-t-1) by omega,show lb-1=t+(lb-t-1) by omega]
        exact h4
section
variable (F:Cyf n ne fr to tw σ d p q la lb i u)
include F
theorem Cyf.k1 {t:Nat} (ht:t≤la):shK p q la t=p (la-t):=have _:=F; if_pos ht
theorem Cyf.k2 {t:Nat} (ht:la<t):shK p q la t=q (t-la-1):=have _:=F; if_neg (by omega)
theorem Cyf.kid {t:Nat} (ht:t<la+lb+1):σ.Sf (shK p q la t)∧σ.lab (shK p q la t)≠0∧d (p la)≤d (shK p q la t):=by
  by_cases h:t≤la
  · rw [F.k1 h]
    obtain ⟨s1,s2,s3⟩:=F.ps (la-t) (by omega)
    refine ⟨s1,?_,F.pd _ (by omega)⟩
    rcases Nat.mod_two_eq_zero_or_one (la-t) with e | e
    · rw [s2 e]; omega
    · rw [s3 e]; omega
  · rw [F.k2 (by omega)]
    obtain ⟨s1,s2,s3⟩:=F.qs (t-la-1) (by omega)
    refine ⟨s1,?_,F.qd _ (by omega)⟩
    rcases Nat.mod_two_eq_zero_or_one (t-la-1) with e | e
    · rw [s2 e]; omega
    · rw [s3 e]; omega
theorem Cyf.kinj {s t:Nat} (hs:s<la+lb+1) (ht:t<la+lb+1) (e:shK p q la s=shK p q la t):s=t:=by
  by_cases h1:s≤la<;>by_cases h2:t≤la
  · rw [F.k1 h1,F.k1 h2] at e
    have:=F.pi _ _ (by omega) (by omega) e
    omega
  · rw [F.k1 h1,F.k2 (by omega)] at e
    exact (F.pq _ _ (by omega) (by omega) e).elim
  · rw [F.k2 (by omega),F.k1 h2] at e
    exact (F.pq _ _ (by omega) (by omega) e.symm).elim
  · rw [F.k2 (by omega),F.k2 (by omega)] at e
    have:=F.qi _ _ (by omega) (by omega) e
    omega
theorem Cyf.inp {s:Nat} (hs:s≤la):InC p q la lb (p s):=⟨la-s,by omega,by rw [F.k1 (by omega)]; congr 1; omega⟩
theorem Cyf.inq {s:Nat} (hs:s≤lb):InC p q la lb (q s):=by
  by_cases e:s=lb
  · rw [e,←F.top]; exact F.inp (Nat.le_refl _)
  · exact ⟨s+la+1,by omega,by rw [F.k2 (by omega)]; congr 1; omega⟩
theorem Cyf.of {x:Nat} (h:InC p q la lb x):(∃s,s≤la∧x=p s)∨∃s,s<lb∧x=q s:=by
  obtain ⟨t,ht,e⟩:=h
  by_cases h:t≤la
  · rw [F.k1 h] at e; exact .inl ⟨la-t,by omega,e.symm⟩
  · rw [F.k2 (by omega)] at e; exact .inr ⟨t-la-1,by omega,e.symm⟩
theorem Cyf.sf {x:Nat} (h:InC p q la lb x):σ.Sf x∧σ.lab x≠0∧d (p la)≤d x:=by
  obtain ⟨t,ht,e⟩:=h
  rw [←e]; exact F.kid ht
theorem Cyf.next {x:Nat} (h:InC p q la lb x) (hne:x≠p la):0≤σ.ve x∧InC p q la lb (σ.surf (σ.vo x)):=by
  rcases F.of h with ⟨s,hs,e⟩ | ⟨s,hs,e⟩
  · have:s<la:=by
      rcases Nat.lt_or_ge s la with h1 | h1
      · exact h1
      · exact (hne (by rw [e,show s=la by omega])).elim
    obtain ⟨n1,n2⟩:=F.pn s this
    rw [e,←n2]
    exact ⟨n1,F.inp (by omega)⟩
  · obtain ⟨n1,n2⟩:=F.qn s hs
    rw [e,←n2]
    exact ⟨n1,F.inq (by omega)⟩
theorem Cyf.prev {x:Nat} (h:InC p q la lb x) (hl:σ.lab x=2):∃c,InC p q la lb c∧σ.lab c=1∧0≤σ.ve c∧σ.surf (σ.vo c)=x:=by
  rcases F.of h with ⟨s,hs,e⟩ | ⟨s,hs,e⟩
  · obtain ⟨s1,s2,s3⟩:=F.ps s hs
    have ho:s%2=1:=by
      rcases Nat.mod_two_eq_zero_or_one s with h0 | h0
      · have:=s2 h0; rw [←e] at this; omega
      · exact h0
    obtain ⟨n1,n2⟩:=F.pn (s-1) (by omega)
    rw [show s-1+1=s by omega] at n2
    exact ⟨p (s-1),F.inp (by omega),(F.ps (s-1) (by omega)).2.1 (by omega),n1,by rw [←n2,e]⟩
  · obtain ⟨s1,s2,s3⟩:=F.qs s (by omega)
    have ho:s%2=1:=by
      rcases Nat.mod_two_eq_zero_or_one s with h0 | h0
      · have:=s2 h0; rw [←e] at this; omega
      · exact h0
    obtain ⟨n1,n2⟩:=F.qn (s-1) (by omega)
    rw [show s-1+1=s by omega] at n2
    exact ⟨q (s-1),F.inq (by omega),(F.qs (s-1) (by omega)).2.1 (by omega),n1,by rw [←n2,e]⟩
end
end
end Go.Mz
/-
  An odd circle is one knot: what holds then. No program in sight.
-/
namespace Go.Mz
section
variable {n ne:Nat} {fr to:Nat→Nat} {tw:Nat→Int} {R0 D R W:Int} {σ σ':KS} {d:Nat→Nat} {b c u v w x e i la lb:Nat} {p q:Nat→Nat}
theorem shr_up_m:(σ.shr p q la lb i u v).up σ.m=-1:=if_pos rfl
theorem shr_up_in (hx:x≠σ.m) (h:InC p q la lb x):(σ.shr p q la lb i u v).up x=(σ.m:Int):=(if_neg hx).trans (if_pos h)
theorem shr_up_out (hx:x≠σ.m) (h:¬InC p q la lb x):(σ.shr p q la lb i u v).up x=σ.up x:=(if_neg hx).trans (if_neg h)
theorem shr_sf_in (h:InC p q la lb (σ.surf w)):(σ.shr p q la lb i u v).surf w=σ.m:=if_pos h
theorem shr_sf_out (h:¬InC p q la lb (σ.surf w)):(σ.shr p q la lb i u v).surf w=σ.surf w:=if_neg h
section
variable (h:Kps n ne fr to σ) (F:Cyf n ne fr to tw σ d p q la lb i u)
include h F
theorem Cyf.lt {x:Nat} (k:InC p q la lb x):x<σ.m:=have _:=h; (F.sf k).1.1
theorem Cyf.upn {x:Nat} (k:InC p q la lb x):σ.up x=-1:=have _:=h; (F.sf k).1.2
theorem Cyf.up_eq {x c:Nat} (e:σ.up x=(c:Int)):(σ.shr p q la lb i u v).up x=(c:Int):=by
  have h1:=(h.up_lt e).1
  rw [shr_up_out (by omega) fun k=>by have:=F.upn h k; omega]
  exact e
theorem Cyf.kin_of {x c:Nat} (k:Kin σ.up x c):Kin (σ.shr p q la lb i u v).up x c:=by
  induction k with
  | here=>exact .here _
  | step e _ ih=>exact .step (F.up_eq h e) ih
theorem Cyf.m_top:∀{c:Nat},Kin (σ.shr p q la lb i u v).up σ.m c→c=σ.m:=have _:=h; have _:=F; fun k=>(k.top (by rw [shr_up_m]; omega)).symm
theorem Cyf.kin_to {x c:Nat} (k:Kin (σ.shr p q la lb i u v).up x c):c=σ.m∧(x=σ.m∨∃y,InC p q la lb y∧Kin σ.up x y)∨(x≠σ.m∧Kin σ.up x c):=by
  induction k with
  | here c=>
    by_cases hc:c=σ.m
    · exact .inl ⟨hc,.inl hc⟩
    · exact .inr ⟨hc,.here _⟩
  | @step x y c e k ih=>
    have hxm:x≠σ.m:=fun hx=>by rw [hx,shr_up_m] at e; omega
    by_cases hin:InC p q la lb x
    · rw [shr_up_in hxm hin] at e
      have:y=σ.m:=by omega
      subst this
      exact .inl ⟨F.m_top h k,.inr ⟨x,hin,.here _⟩⟩
    · rw [shr_up_out hxm hin] at e
      rcases ih with ⟨h1,h2 | ⟨z,h2,h3⟩⟩ | ⟨h1,h2⟩
      · have:=(h.up_lt e).2.1.2.1
        omega
      · exact .inl ⟨h1,.inr ⟨z,h2,.step e h3⟩⟩
      · exact .inr ⟨hxm,.step e h2⟩
theorem Cyf.kin_lt {x c:Nat} (hc:c≠σ.m):Kin (σ.shr p q la lb i u v).up x c↔Kin σ.up x c:=
  ⟨fun k=>by
    rcases F.kin_to h k with ⟨h1,_⟩ | ⟨_,h2⟩
    · exact (hc h1).elim
    · exact h2,F.kin_of h⟩
theorem Cyf.kin_m {w:Nat} (hw:w<n):Kin (σ.shr p q la lb i u v).up w σ.m↔InC p q la lb (σ.surf w):=by
  have hwm:w≠σ.m:=by have:=h.nm; omega
  refine ⟨fun k=>?_,fun k=>?_⟩
  · rcases F.kin_to h k with ⟨_,h1 | ⟨y,h1,h2⟩⟩ | ⟨_,h2⟩
    · exact (hwm h1).elim
    · rw [h.srf_eq hw (F.upn h h1) h2]; exact h1
    · exfalso
      have:=h.live h2 hwm
      have:=this.2.1
      omega
  · exact (F.kin_of h (h.srf w hw).2).trans (.one (shr_up_in (by have:=F.lt h k; omega) k))
theorem Cyf.lv {b:Nat} (hb:(σ.shr p q la lb i u v).Lv n b):b=σ.m∨σ.Lv n b:=by
  by_cases e:b=σ.m
  · exact .inl e
  · obtain ⟨h1,h2,h3⟩:=hb
    have h2:b<σ.m+1:=h2
    refine .inr ⟨h1,by omega,fun h4=>h3 ?_⟩
    rw [shr_up_out e fun k=>by have:=F.upn h k; omega]
    exact h4
theorem Cyf.cov:cov (σ.shr p q la lb i u v) x w=cov σ x w:=by
  unfold Mz.cov
  show psum (zin (σ.shr p q la lb i u v) x w) σ.m+zin (σ.shr p q la lb i u v) x w σ.m=psum (zin σ x w) σ.m
  have h0:zin (σ.shr p q la lb i u v) x w σ.m=0:=by
    by_cases hk:Kin (σ.shr p q la lb i u v).up x σ.m∧Kin (σ.shr p q la lb i u v).up w σ.m
    · rw [zin_pos hk.1 hk.2]; exact upf_same
    · exact zin_neg hk
  rw [h0,Int.add_zero]
  refine psum_congr fun b hb=>?_
  by_cases hk:Kin σ.up x b∧Kin σ.up w b
  · rw [zin_pos hk.1 hk.2,zin_pos (F.kin_of h hk.1) (F.kin_of h hk.2)]
    exact upf_ne (by omega)
  · rw [zin_neg hk,zin_neg fun hk'=>hk ⟨(F.kin_lt h (by omega)).1 hk'.1,(F.kin_lt h (by omega)).1 hk'.2⟩]
theorem Cyf.tgt {j:Nat} (ht:Tgt fr to tw σ j):Tgt fr to tw (σ.shr p q la lb i u v) j:=by
  unfold Tgt at ht ⊢
  rw [F.cov h]; exact ht
end
theorem Cyf.lnk (G:Gp n ne fr to tw R0 W) (h:Inv n ne fr to tw R0 D σ) (T:Tr n ne fr to tw R σ d) (F:Cyf n ne fr to tw σ d p q la lb i u) {t:Nat} (ht:t<la+lb+1) :
    En ne fr to (shE σ p q la i t) (shI σ p q la u t)∧shO σ p q la (ot fr to i u) t=ot fr to (shE σ p q la i t) (shI σ p q la u t)∧Kin σ.up (shI σ p q la u t) (shK p q la t)∧Kin σ.up (shO σ p q la (ot fr to i u) t) (shK p q la ((t+1)%(la+lb+1)))∧Tgt fr to tw σ (shE σ p q la i t)∧
    (t%2=1→σ.base (shK p q la t)=shI σ p q la u t∧σ.base (shK p q la (t+1))=shO σ p q la (ot fr to i u) t∧σ.mb (shI σ p q la u t)=(shE σ p q la i t:Int)∧σ.mb (shO σ p q la (ot fr to i u) t)=(shE σ p q la i t:Int)):=by
  have hu:=F.en.nd G.nd
  have hv:=F.en.ot.nd G.nd
  have h2:=F.la2
  have h2':=F.lb2
  unfold shE shI shO
  rcases Nat.lt_trichotomy t la with hlt | heq | hgt
  · simp only [if_pos hlt]
    obtain ⟨s,es⟩:∃s,s=la-1-t:=⟨_,rfl⟩
    rw [←es]
    obtain ⟨n1,n2⟩:=F.pn s (by omega)
    obtain ⟨s1,s2,s3⟩:=F.ps s (by omega)
    have hl:σ.lab (p s)≠0:=by
      rcases Nat.mod_two_eq_zero_or_one s with e | e
      · rw [s2 e]; omega
      · rw [s3 e]; omega
    obtain ⟨e,g1,g2,g3,g4,g5,g6,g7,g8,_⟩:=T.via G h s1 hl n1
    have ee:(σ.ve (p s)).toNat=e:=by rw [g1,tN]
    rw [ee,F.k1 (show t≤la by omega),show la-t=s+1 by omega,Nat.mod_eq_of_lt (show t+1<la+lb+1 by omega),F.k1 (show t+1≤la by omega),show la-(t+1)=s by omega,n2]
    refine ⟨by rw [g5]; exact g2.ot,by rw [g5,g2.oo],(h.kp.srf _ g6).2,g4,g3,fun ho=>?_⟩
    obtain ⟨a1,a2,a3,a4,a5⟩:=g8 (s2 (by omega))
    exact ⟨a3,a1.symm,a4,by rw [a1]; exact a2⟩
  · subst heq
    simp only [Nat.lt_irrefl,↓reduceIte]
    refine ⟨F.en,trivial,?_,?_,F.ti,fun ho=>by omega⟩
    · rw [F.k1 (Nat.le_refl _),Nat.sub_self,F.p0]; exact (h.kp.srf _ hu).2
    · have:shK p q t ((t+1)%(t+lb+1))=σ.surf (ot fr to i u):=by
        by_cases hb0:lb=0
        · subst hb0
          rw [show t+0+1=t+1 by omega,Nat.mod_self,F.k1 (Nat.zero_le _),Nat.sub_zero,F.top,F.q0]
        · rw [Nat.mod_eq_of_lt (by omega),F.k2 (by omega),show t+1-t-1=0 by omega,F.q0]
      rw [this]; exact (h.kp.srf _ hv).2
  · simp only [if_neg (show ¬t<la by omega),if_neg (show ¬t=la by omega)]
    obtain ⟨s,es⟩:∃s,s=t-la-1:=⟨_,rfl⟩
    rw [←es]
    obtain ⟨n1,n2⟩:=F.qn s (by omega)
    obtain ⟨s1,s2,s3⟩:=F.qs s (by omega)
    have hl:σ.lab (q s)≠0:=by
      rcases Nat.mod_two_eq_zero_or_one s with e | e
      · rw [s2 e]; omega
      · rw [s3 e]; omega
    obtain ⟨e,g1,g2,g3,g4,g5,g6,g7,g8,_⟩:=T.via G h s1 hl n1
    have ee:(σ.ve (q s)).toNat=e:=by rw [g1,tN]
    have hn:shK p q la ((t+1)%(la+lb+1))=q (s+1):=by
      by_cases hb0:t+1=la+lb+1
      · rw [hb0,Nat.mod_self,F.k1 (Nat.zero_le _),Nat.sub_zero,F.top]; congr 1; omega
      · rw [Nat.mod_eq_of_lt (by omega),F.k2 (by omega)]; congr 1; omega
    rw [ee,hn,F.k2 (show la<t by omega),←es,n2]
    refine ⟨g2,g5,g4,(h.kp.srf _ g6).2,g3,fun ho=>?_⟩
    obtain ⟨a1,a2,a3,a4,a5⟩:=g8 (s2 (by omega))
    have:shK p q la (t+1)=q (s+1):=by
      rw [F.k2 (show la<t+1 by omega)]; congr 1; omega
    rw [this,n2]
    exact ⟨a1.symm,a3,by rw [a1]; exact a2,a4⟩
theorem Inv.shr (G:Gp n ne fr to tw R0 W) (h:Inv n ne fr to tw R0 D σ) (T:Tr n ne fr to tw R σ d) (F:Cyf n ne fr to tw σ d p q la lb i u):Inv n ne fr to tw R0 D (σ.shr p q la lb i u (ot fr to i u)):=by
  have hk:=h.kp
  have hnm:=hk.nm
  have K3:=F.pos
  have la2:=F.la2
  have lb2:=F.lb2
  have knm:(σ.shr p q la lb i u (ot fr to i u)).kn σ.m=la+lb+1:=upf_same
  have kdm:(σ.shr p q la lb i u (ot fr to i u)).kd σ.m=shK p q la:=upf_same
  have lem:(σ.shr p q la lb i u (ot fr to i u)).le σ.m=shE σ p q la i:=upf_same
  have lim:(σ.shr p q la lb i u (ot fr to i u)).li σ.m=shI σ p q la u:=upf_same
  have lom:(σ.shr p q la lb i u (ot fr to i u)).lo σ.m=shO σ p q la (ot fr to i u):=upf_same
  have bam:(σ.shr p q la lb i u (ot fr to i u)).base σ.m=σ.base (p la):=upf_same
  have kno:∀b,b≠σ.m→(σ.shr p q la lb i u (ot fr to i u)).kn b=σ.kn b:=fun b hb=>upf_ne hb
  have kdo:∀b,b≠σ.m→(σ.shr p q la lb i u (ot fr to i u)).kd b=σ.kd b:=fun b hb=>upf_ne hb
  have leo:∀b,b≠σ.m→(σ.shr p q la lb i u (ot fr to i u)).le b=σ.le b:=fun b hb=>upf_ne hb
  have lio:∀b,b≠σ.m→(σ.shr p q la lb i u (ot fr to i u)).li b=σ.li b:=fun b hb=>upf_ne hb
  have loo:∀b,b≠σ.m→(σ.shr p q la lb i u (ot fr to i u)).lo b=σ.lo b:=fun b hb=>upf_ne hb
  have bao:∀b,b≠σ.m→(σ.shr p q la lb i u (ot fr to i u)).base b=σ.base b:=fun b hb=>upf_ne hb
  have lvm:∀{b},σ.Lv n b→b≠σ.m:=fun hb=>by have:=hb.2.1; omega
  refine ⟨⟨by show n≤σ.m+1; omega,fun c hc=>?_,fun c hc=>?_,fun w hw=>?_,fun b hb=>?_,fun b t hb ht=>?_,fun b s t hb hs ht he=>?_,fun b t hb ht=>?_,fun w hw=>?_⟩,⟨fun w hw=>?_,fun b hb=>?_⟩,h.mm,?_⟩
  · have hc:c<σ.m+1:=hc
    by_cases hcm:c=σ.m
    · rw [hcm,shr_up_m]; exact .inr (.inl rfl)
    · by_cases hin:InC p q la lb c
      · obtain ⟨t,ht,e⟩:=hin
        rw [shr_up_in hcm ⟨t,ht,e⟩]
        refine .inr (.inr ⟨σ.m,t,rfl,by omega,⟨hnm,by show σ.m<σ.m+1; omega,by rw [shr_up_m]; omega⟩,by rw [knm]; exact ht,by rw [kdm]; exact e⟩)
      · rw [shr_up_out hcm hin]
        rcases hk.upc c (by omega) with e | e | ⟨b,t,e1,e2,e3,e4,e5⟩
        · exact .inl e
        · exact .inr (.inl e)
        · have hbm:=lvm e3
          refine .inr (.inr ⟨b,t,e1,e2,⟨e3.1,by have:=e3.2.1; show b<σ.m+1; omega,?_⟩,by rw [kno b hbm]; exact e4,by rw [kdo b hbm]; exact e5⟩)
          by_cases hb:InC p q la lb b
          · rw [shr_up_in hbm hb]; omega
          · rw [shr_up_out hbm hb]; exact e3.2.2
  · have hc:σ.m+1≤c:=hc
    rw [shr_up_out (by omega) fun k=>by have:=F.lt hk k; omega]
    exact hk.upo c (by omega)
  · by_cases hin:InC p q la lb w
    · rw [shr_up_in (by omega) hin]; omega
    · rw [shr_up_out (by omega) hin]; exact hk.nod w hw
  · rcases F.lv hk hb with e | e
    · rw [e,knm]; omega
    · rw [kno b (lvm e)]; exact hk.odd b e
  · rcases F.lv hk hb with e | e
    · rw [e] at ht ⊢
      rw [knm] at ht
      rw [kdm]
      have hin:InC p q la lb (shK p q la t):=⟨t,ht,rfl⟩
      have:=F.lt hk hin
      exact ⟨this,shr_up_in (by omega) hin⟩
    · rw [kno b (lvm e)] at ht
      rw [kdo b (lvm e)]
      obtain ⟨k1,k2⟩:=hk.kid b t e ht
      exact ⟨k1,F.up_eq hk k2⟩
  · rcases F.lv hk hb with e | e
    · rw [e,knm] at hs ht
      rw [e,kdm] at he
      exact F.kinj hs ht he
    · rw [kno b (lvm e)] at hs ht
      rw [kdo b (lvm e)] at he
      exact hk.inj b s t e hs ht he
  · rcases F.lv hk hb with e | e
    · rw [e,knm] at ht
      rw [e,knm,kdm,lem,lim,lom]
      obtain ⟨l1,l2,l3,l4,_⟩:=F.lnk G h T ht
      exact ⟨l1,l2,F.kin_of hk l3,F.kin_of hk l4⟩
    · rw [kno b (lvm e)] at ht
      rw [kno b (lvm e),kdo b (lvm e),leo b (lvm e),lio b (lvm e),loo b (lvm e)]
      obtain ⟨l1,l2,l3,l4⟩:=hk.lnk b t e ht
      exact ⟨l1,l2,F.kin_of hk l3,F.kin_of hk l4⟩
  · obtain ⟨s1,s2⟩:=hk.srf w hw
    by_cases hin:InC p q la lb (σ.surf w)
    · rw [shr_sf_in hin]
      exact ⟨⟨by show σ.m<σ.m+1; omega,shr_up_m⟩,(F.kin_m hk hw).2 hin⟩
    · rw [shr_sf_out hin]
      refine ⟨⟨by have:=s1.1; show σ.surf w<σ.m+1; omega,?_⟩,F.kin_of hk s2⟩
      rw [shr_up_out (by have:=s1.1; omega) hin]; exact s1.2
  · rw [bao w (by omega)]; exact h.ba.nd w hw
  · rcases F.lv hk hb with e | e
    · subst e
      refine ⟨0,by rw [knm]; omega,?_,fun t ho ht=>?_⟩
      · rw [bam,kdm]
        have h0:shK p q la 0=p la:=by rw [F.k1 (Nat.zero_le _),Nat.sub_zero]
        rw [h0]
        exact (bao _ (by have:=F.lt hk (F.inp (Nat.le_refl _)); omega)).symm
      · rw [knm] at ht
        rw [knm,Nat.zero_add,Nat.mod_eq_of_lt ht,Nat.mod_eq_of_lt (by omega),kdm,lem,lim,lom]
        obtain ⟨_,_,_,_,_,l6⟩:=F.lnk G h T ht
        obtain ⟨a1,a2,a3,a4⟩:=l6 ho
        have hin:∀t,t<la+lb+1→shK p q la t≠σ.m:=fun t ht=>by have:=F.lt hk ⟨t,ht,rfl⟩; omega
        rw [bao _ (hin t ht),bao _ (hin (t+1) (by omega))]
        exact ⟨a1,a2,a3,a4⟩
    · obtain ⟨a,ha⟩:=h.ba.kn b e
      have hbm:=lvm e
      have h3:=(hk.odd b e).2
      have hkm:∀t,t<σ.kn b→σ.kd b t≠σ.m:=fun t ht=>by have:=(hk.kid b t e ht).1; have:=e.2.1; omega
      refine ⟨a,by rw [kno b hbm]; exact ha.lt,?_,fun t ho ht=>?_⟩
      · rw [bao b hbm,kdo b hbm,bao _ (hkm a ha.lt)]; exact ha.eq
      · rw [kno b hbm] at ht
        rw [kno b hbm,kdo b hbm,leo b hbm,lio b hbm,loo b hbm,bao _ (hkm _ (Nat.mod_lt _ (by omega))),bao _ (hkm _ (Nat.mod_lt _ (by omega)))]
        exact ha.pr t ho ht
  · refine ⟨h.du.d0,fun b hb=>?_,fun b hb=>?_,fun b hb hu=>?_,h.du.yb,fun e he=>?_,fun b t hb ht=>?_,fun w j hw hm=>F.tgt hk (h.du.tm w j hw hm),fun a w ha hw hs=>?_,h.du.fe⟩
    · by_cases e:b=σ.m
      · rw [e,show (σ.shr p q la lb i u (ot fr to i u)).z σ.m=0 from upf_same]
        have:=h.du.d0; omega
      · rw [show (σ.shr p q la lb i u (ot fr to i u)).z b=σ.z b from upf_ne e]
        have hb:b<σ.m+1:=hb
        exact h.du.z0 b (by omega)
    · rw [show (σ.shr p q la lb i u (ot fr to i u)).z b=σ.z b from upf_ne (by omega)]
      exact h.du.zn b hb
    · have hb:b<σ.m+1:=hb
      by_cases e:b=σ.m
      · rw [e,shr_up_m] at hu; omega
      · rw [show (σ.shr p q la lb i u (ot fr to i u)).z b=σ.z b from upf_ne e]
        refine h.du.zg b (by omega) ?_
        by_cases hin:InC p q la lb b
        · rw [shr_up_in e hin] at hu; omega
        · rw [shr_up_out e hin] at hu; exact hu
    · rw [F.cov hk]; exact h.du.fs e he
    · rcases F.lv hk hb with e | e
      · rw [e,knm] at ht
        rw [e,lem]
        exact F.tgt hk (F.lnk G h T ht).2.2.2.2.1
      · rw [kno b (lvm e)] at ht
        rw [leo b (lvm e)]
        exact F.tgt hk (h.du.tl b t e ht)
    · have lt:∀{w},w<n→σ.surf w≠σ.m:=fun hw=>by have:=(hk.srf _ hw).1.1; omega
      by_cases h1:InC p q la lb (σ.surf a)<;>by_cases h2:InC p q la lb (σ.surf w)
      · have p1:=T.pr a ha (F.sf h1).2.1
        have p2:=T.pr w hw (F.sf h2).2.1
        show (σ.y a-σ.y w)%2=0
        omega
      · rw [shr_sf_in h1,shr_sf_out h2] at hs
        exact (lt hw hs.symm).elim
      · rw [shr_sf_out h1,shr_sf_in h2] at hs
        exact (lt ha hs).elim
      · rw [shr_sf_out h1,shr_sf_out h2] at hs
        exact h.du.pa a w ha hw hs
theorem Tr.shr (G:Gp n ne fr to tw R0 W) (h:Inv n ne fr to tw R0 D σ) (T:Tr n ne fr to tw R σ d) (F:Cyf n ne fr to tw σ d p q la lb i u):Tr n ne fr to tw R (σ.shr p q la lb i u (ot fr to i u)) (upf d σ.m (d (p la))):=by
  have hk:=h.kp
  have hin0:InC p q la lb (p la):=F.inp (Nat.le_refl _)
  have ltop:σ.lab (p la)=1:=(F.ps la (Nat.le_refl _)).2.1 F.la2
  have stop:σ.Sf (p la):=(F.sf hin0).1
  have sfm:∀{w},w<n→σ.surf w≠σ.m:=fun hw=>by have:=(hk.srf _ hw).1.1; omega
  have labm:(σ.shr p q la lb i u (ot fr to i u)).lab σ.m=1:=upf_same
  have vem:(σ.shr p q la lb i u (ot fr to i u)).ve σ.m=σ.ve (p la):=upf_same
  have vim:(σ.shr p q la lb i u (ot fr to i u)).vi σ.m=σ.vi (p la):=upf_same
  have vom:(σ.shr p q la lb i u (ot fr to i u)).vo σ.m=σ.vo (p la):=upf_same
  have bam:(σ.shr p q la lb i u (ot fr to i u)).base σ.m=σ.base (p la):=upf_same
  have labo:∀b,b≠σ.m→(σ.shr p q la lb i u (ot fr to i u)).lab b=σ.lab b:=fun b hb=>upf_ne hb
  have veo:∀b,b≠σ.m→(σ.shr p q la lb i u (ot fr to i u)).ve b=σ.ve b:=fun b hb=>upf_ne hb
  have vio:∀b,b≠σ.m→(σ.shr p q la lb i u (ot fr to i u)).vi b=σ.vi b:=fun b hb=>upf_ne hb
  have voo:∀b,b≠σ.m→(σ.shr p q la lb i u (ot fr to i u)).vo b=σ.vo b:=fun b hb=>upf_ne hb
  have bao:∀b,b≠σ.m→(σ.shr p q la lb i u (ot fr to i u)).base b=σ.base b:=fun b hb=>upf_ne hb
  have dm:upf d σ.m (d (p la)) σ.m=d (p la):=upf_same
  have do':∀b,b≠σ.m→upf d σ.m (d (p la)) b=d b:=fun b hb=>upf_ne hb
  have sf:∀{b},(σ.shr p q la lb i u (ot fr to i u)).Sf b→b≠σ.m→σ.Sf b∧¬InC p q la lb b:=fun {b} hb hne=>by
    obtain ⟨h1,h2⟩:=hb
    have h1:b<σ.m+1:=h1
    by_cases hin:InC p q la lb b
    · rw [shr_up_in hne hin] at h2; omega
    · rw [shr_up_out hne hin] at h2
      exact ⟨⟨by omega,h2⟩,hin⟩
  have topd:∀{s},InC p q la lb s→d (p la)≤d s:=fun hs=>(F.sf hs).2.2
  refine ⟨fun b hb=>?_,fun w hw hm=>?_,fun b hb hl=>?_,fun b hb hl=>?_,fun b hb hl=>?_,fun w hw hl=>?_⟩
  · by_cases e:b=σ.m
    · rw [e,labm]; omega
    · rw [labo b e]; exact T.lb b (sf hb e).1
  · obtain ⟨f1,f2⟩:=T.fe w hw hm
    by_cases hin:InC p q la lb (σ.surf w)
    · rw [shr_sf_in hin,labm,vem]
      refine ⟨rfl,?_⟩
      by_cases e:σ.surf w=p la
      · rw [←e]; exact f2
      · have:=(F.next hin e).1; omega
    · rw [shr_sf_out hin,labo _ (sfm hw),veo _ (sfm hw)]
      exact ⟨f1,f2⟩
  · by_cases e:b=σ.m
    · rw [e]
      rw [vem,bam,vim,vom]
      rcases T.ou (p la) stop ltop with ⟨g1,g2⟩ | ⟨j,g1,g2,g3,g4,g5,g6⟩
      · exact .inl ⟨g1,g2⟩
      · obtain ⟨_,c2,_⟩:=h.crs G stop g2
        rw [←g4] at c2
        have hno:¬InC p q la lb (σ.surf (σ.vo (p la))):=fun k=>by have:=topd k; omega
        refine .inr ⟨j,g1,g2,g3,g4,?_,?_⟩
        · rw [shr_sf_out hno,labo _ (sfm c2)]; exact g5
        · rw [shr_sf_out hno,dm,do' _ (sfm c2)]; exact g6
    · obtain ⟨s1,s2⟩:=sf hb e
      rw [labo b e] at hl
      rw [veo b e,bao b e,vio b e,voo b e]
      rcases T.ou b s1 hl with ⟨g1,g2⟩ | ⟨j,g1,g2,g3,g4,g5,g6⟩
      · exact .inl ⟨g1,g2⟩
      · obtain ⟨_,c2,_⟩:=h.crs G s1 g2
        rw [←g4] at c2
        have hno:¬InC p q la lb (σ.surf (σ.vo b)):=fun k=>by
          obtain ⟨c,k1,k2,k3,k4⟩:=F.prev k g5
          have:=T.one G h s1 (F.sf k1).1 hl k2 (by omega) k3 k4.symm
          exact s2 (this▸k1)
        refine .inr ⟨j,g1,g2,g3,g4,?_,?_⟩
        · rw [shr_sf_out hno,labo _ (sfm c2)]; exact g5
        · rw [shr_sf_out hno,do' _ e,do' _ (sfm c2)]; exact g6
  · by_cases e:b=σ.m
    · rw [e,labm] at hl; omega
    · obtain ⟨s1,s2⟩:=sf hb e
      rw [labo b e] at hl
      rw [veo b e,vio b e,voo b e]
      obtain ⟨j,g1,g2,g3,g4,g5,g6,g7⟩:=T.inn b s1 hl
      have c2:σ.vo b<n:=by rw [g5]; exact g2.ot.nd G.nd
      refine ⟨j,g1,g2,F.tgt hk g3,F.kin_of hk g4,g5,?_,?_⟩
      · by_cases hin:InC p q la lb (σ.surf (σ.vo b))
        · rw [shr_sf_in hin]; exact labm
        · rw [shr_sf_out hin,labo _ (sfm c2)]; exact g6
      · rw [do' b e]
        by_cases hin:InC p q la lb (σ.surf (σ.vo b))
        · rw [shr_sf_in hin,dm]
          have:=topd hin; omega
        · rw [shr_sf_out hin,do' _ (sfm c2)]; exact g7
  · by_cases e:b=σ.m
    · rw [e,labm] at hl; omega
    · obtain ⟨s1,s2⟩:=sf hb e
      rw [labo b e] at hl
      rw [bao b e]
      obtain ⟨j,g1,g2,g3⟩:=T.im b s1 hl
      obtain ⟨c1,c2,c3,c4,c5⟩:=h.crs G s1 g1
      refine ⟨j,g1,?_⟩
      by_cases hin:InC p q la lb (σ.surf (ot fr to j (σ.base b)))
      · rw [shr_sf_in hin,labm,vem]
        refine ⟨rfl,?_⟩
        by_cases et:σ.surf (ot fr to j (σ.base b))=p la
        · rw [←et]; exact g3
        · exfalso
          have hs:=(F.sf hin).1
          have k:=(F.next hin et).2
          rcases T.ou _ hs g2 with ⟨_,a2⟩ | ⟨j',a1,a2,a3,a4,a5,a6⟩
          · rw [c4] at a2; omega
          · rw [c4] at a4
            have:j'=j:=by omega
            subst this
            rw [c1.oo] at a4
            rw [a4,(h.bsf s1).2.2] at k
            exact s2 k
      · rw [shr_sf_out hin,labo _ (sfm c2),veo _ (sfm c2)]
        exact ⟨g2,g3⟩
  · by_cases hin:InC p q la lb (σ.surf w)
    · exact T.pr w hw (F.sf hin).2.1
    · rw [shr_sf_out hin,labo _ (sfm hw)] at hl
      exact T.pr w hw hl
end
end Go.Mz
/-
  An inner knot that weighs nothing is taken apart, in plain words. No program in sight.
-/
namespace Go.Mz
structure OpW (n ne:Nat) (fr to:Nat→Nat) (tw:Nat→Int) (σ:KS) (b:Nat) (ix:Nat→Nat) (len:Nat) (pe pi po:Nat→Nat):Prop where
  lt:∀t,t≤len→ix t<σ.kn b
  inj:∀s t,s≤len→t≤len→ix s=ix t→s=t
  st:Kin σ.up (σ.vi b) (σ.kd b (ix 0))
  fi:Kin σ.up (σ.base b) (σ.kd b (ix len))∧σ.base (σ.kd b (ix len))=σ.base b
  ev:len%2=0
  lk:∀t,t<len→En ne fr to (pe t) (pi t)∧po t=ot fr to (pe t) (pi t)∧Kin σ.up (pi t) (σ.kd b (ix (t+1)))∧Kin σ.up (po t) (σ.kd b (ix t))∧Tgt fr to tw σ (pe t)
  mt:∀t,t<len→t%2=0→σ.base (σ.kd b (ix (t+1)))=pi t∧σ.base (σ.kd b (ix t))=po t∧σ.mb (pi t)=(pe t:Int)∧σ.mb (po t)=(pe t:Int)
def KS.opn (σ:KS) (lab ve:Nat→Int) (vi vo:Nat→Nat) (up:Nat→Int) (surf:Nat→Nat):KS:={ σ with lab:=lab,ve:=ve,vi:=vi,vo:=vo,up:=up,surf:=surf }
structure Opd (n:Nat) (σ:KS) (b:Nat) (ix:Nat→Nat) (len:Nat) (pe pi po:Nat→Nat) (lab ve:Nat→Int) (vi vo:Nat→Nat) (up:Nat→Int) (surf:Nat→Nat):Prop where
  up:∀x,up x=if x=b then -2 else if σ.up x=(b:Int) then -1 else σ.up x
  s1:∀v,v<n→σ.surf v≠b→surf v=σ.surf v
  s2:∀v i,v<n→i<σ.kn b→Kin σ.up v (σ.kd b i)→surf v=σ.kd b i
  lo:∀x,σ.up x≠(b:Int)→lab x=σ.lab x∧ve x=σ.ve x∧vi x=σ.vi x∧vo x=σ.vo x
  l0:∀i,i<σ.kn b→(∀t,t≤len→ix t≠i)→lab (σ.kd b i)=0∧ve (σ.kd b i)=-1
  l1:∀t,t≤len→lab (σ.kd b (ix t))=if t%2=0 then 2 else 1
  v0:ve (σ.kd b (ix 0))=σ.ve b∧vi (σ.kd b (ix 0))=σ.vi b∧vo (σ.kd b (ix 0))=σ.vo b
  v1:∀t,t<len→ve (σ.kd b (ix (t+1)))=(pe t:Int)∧vi (σ.kd b (ix (t+1)))=pi t∧vo (σ.kd b (ix (t+1)))=po t
section
variable {n ne:Nat} {fr to:Nat→Nat} {tw:Nat→Int} {R0 D R W:Int} {σ σ':KS} {d:Nat→Nat} {b c u v w x e len:Nat} {ix pe pi po:Nat→Nat} {lab ve:Nat→Int} {vi vo:Nat→Nat} {up:Nat→Int} {surf:Nat→Nat}
section
variable (h:Kps n ne fr to σ) (hb:n≤b) (sb:σ.Sf b) (O:Opd n σ b ix len pe pi po lab ve vi vo up surf)
include h hb sb O
theorem Opd.kin_to {x c:Nat} (k:Kin up x c):Kin σ.up x c:=by
  have _:=h; have _:=hb; have _:=sb
  induction k with
  | here=>exact .here _
  | @step x y c e k ih=>
    rw [O.up] at e
    by_cases h1:x=b
    · rw [if_pos h1] at e; omega
    · rw [if_neg h1] at e
      by_cases h2:σ.up x=(b:Int)
      · rw [if_pos h2] at e; omega
      · rw [if_neg h2] at e; exact .step e ih
theorem Opd.kin_of {x c:Nat} (k:Kin σ.up x c) (hc:c≠b):Kin up x c:=by
  have _:=h; have _:=hb
  induction k with
  | here=>exact .here _
  | @step x y c e k ih=>
    refine .step ?_ (ih hc)
    have h1:x≠b:=fun e'=>by rw [e',sb.2] at e; omega
    have h2:y≠b:=fun e'=>hc (by rw [e'] at k; exact (k.top (by rw [sb.2]; omega)).symm)
    rw [O.up,if_neg h1,if_neg (by rw [e]; omega)]
    exact e
theorem Opd.lv {c:Nat} (k:(σ.opn lab ve vi vo up surf).Lv n c):σ.Lv n c∧c≠b:=by
  have _:=h; have _:=hb; have _:=sb
  obtain ⟨h1,h2,h3⟩:=k
  have h3:up c≠-2:=h3
  rw [O.up] at h3
  by_cases e:c=b
  · rw [if_pos e] at h3; exact (h3 rfl).elim
  · rw [if_neg e] at h3
    refine ⟨⟨h1,h2,fun h4=>?_⟩,e⟩
    by_cases e2:σ.up c=(b:Int)
    · omega
    · rw [if_neg e2] at h3; exact h3 h4
theorem Opd.lvb:σ.Lv n b:=have _:=h; have _:=O; ⟨hb,sb.1,by rw [sb.2]; omega⟩
theorem Opd.sf {c:Nat} (k:(σ.opn lab ve vi vo up surf).Sf c):c≠b∧(σ.Sf c∧σ.up c≠(b:Int)∨∃i,i<σ.kn b∧σ.kd b i=c∧σ.up c=(b:Int)):=by
  have _:=hb; have _:=sb
  obtain ⟨h1,h2⟩:=k
  have h2:up c=-1:=h2
  rw [O.up] at h2
  by_cases e:c=b
  · rw [if_pos e] at h2; omega
  · rw [if_neg e] at h2
    refine ⟨e,?_⟩
    by_cases e2:σ.up c=(b:Int)
    · obtain ⟨_,_,i,hi,ek⟩:=h.up_lt e2
      exact .inr ⟨i,hi,ek,e2⟩
    · rw [if_neg e2] at h2
      exact .inl ⟨⟨h1,h2⟩,e2⟩
theorem Opd.cov (hz:σ.z b=0):cov (σ.opn lab ve vi vo up surf) x w=cov σ x w:=by
  unfold Mz.cov
  show psum (zin (σ.opn lab ve vi vo up surf) x w) σ.m=psum (zin σ x w) σ.m
  refine psum_congr fun c hc=>?_
  by_cases hk:Kin σ.up x c∧Kin σ.up w c
  · rw [zin_pos hk.1 hk.2]
    by_cases e:c=b
    · rw [e,hz]
      by_cases hk':Kin up x b∧Kin up w b
      · rw [zin_pos (σ:=σ.opn lab ve vi vo up surf) hk'.1 hk'.2]; exact hz
      · exact zin_neg hk'
    · exact zin_pos (σ:=σ.opn lab ve vi vo up surf) (O.kin_of h hb sb hk.1 e) (O.kin_of h hb sb hk.2 e)
  · rw [zin_neg hk]
    exact zin_neg fun hk'=>hk ⟨O.kin_to h hb sb hk'.1,O.kin_to h hb sb hk'.2⟩
theorem Opd.tgt (hz:σ.z b=0) {j:Nat} (ht:Tgt fr to tw σ j):Tgt fr to tw (σ.opn lab ve vi vo up surf) j:=by
  unfold Tgt at ht ⊢
  rw [O.cov h hb sb hz]; exact ht
theorem Opd.sf_out (hs:σ.up c=-1) (hc:c≠b):up c=-1:=by have _:=h; have _:=hb; have _:=sb; rw [O.up,if_neg hc,if_neg (by omega)]; exact hs
end
theorem Inv.opn (G:Gp n ne fr to tw R0 W) (I:Inv n ne fr to tw R0 D σ) (hb:n≤b) (sb:σ.Sf b) (hz:σ.z b=0) (O:Opd n σ b ix len pe pi po lab ve vi vo up surf):Inv n ne fr to tw R0 D (σ.opn lab ve vi vo up surf):=by
  have h:=I.kp
  have lvb:=O.lvb h hb sb
  have upk:∀i,i<σ.kn b→σ.kd b i≠b∧up (σ.kd b i)=-1∧σ.kd b i<σ.m:=fun i hi=>by
    obtain ⟨k1,k2⟩:=h.kid b i lvb hi
    have hne:σ.kd b i≠b:=by omega
    exact ⟨hne,by rw [O.up,if_neg hne,if_pos k2],(h.up_lt k2).1⟩
  refine ⟨⟨h.nm,fun c hc=>?_,fun c hc=>?_,fun w hw=>?_,fun c hc=>?_,fun c i hc hi=>?_,fun c i j hc hi hj he=>?_,fun c i hc hi=>?_,fun w hw=>?_⟩,⟨I.ba.nd,fun c hc=>?_⟩,I.mm,?_⟩
  · show up c=-2∨up c=-1∨_
    rw [O.up]
    by_cases e:c=b
    · rw [if_pos e]; exact .inl rfl
    · rw [if_neg e]
      by_cases e2:σ.up c=(b:Int)
      · rw [if_pos e2]; exact .inr (.inl rfl)
      · rw [if_neg e2]
        rcases h.upc c hc with e' | e' | ⟨b',t,e1,e2',e3,e4,e5⟩
        · exact .inl e'
        · exact .inr (.inl e')
        · have e1':up c=(b':Int):=by rw [O.up,if_neg e,if_neg e2]; exact e1
          refine .inr (.inr ⟨b',t,e1',e2',⟨e3.1,e3.2.1,?_⟩,e4,e5⟩)
          show up b'≠-2
          have hb':b'≠b:=fun e'=>e2 (by rw [e1,e'])
          rw [O.up,if_neg hb']
          by_cases e6:σ.up b'=(b:Int)
          · rw [if_pos e6]; omega
          · rw [if_neg e6]; exact e3.2.2
  · show up c<0
    have:=h.upo c hc
    rw [O.up]
    split
    · omega
    · split<;>omega
  · show up w≠-2
    rw [O.up,if_neg (by omega)]
    split
    · omega
    · exact h.nod w hw
  · exact h.odd c (O.lv h hb sb hc).1
  · obtain ⟨l1,l2⟩:=O.lv h hb sb hc
    obtain ⟨k1,k2⟩:=h.kid c i l1 hi
    refine ⟨k1,?_⟩
    show up (σ.kd c i)=c
    have hne:σ.kd c i≠b:=fun e=>by rw [e,sb.2] at k2; omega
    rw [O.up,if_neg hne,if_neg (by rw [k2]; omega)]
    exact k2
  · exact h.inj c i j (O.lv h hb sb hc).1 hi hj he
  · obtain ⟨l1,l2⟩:=O.lv h hb sb hc
    obtain ⟨m1,m2,m3,m4⟩:=h.lnk c i l1 hi
    have key:∀j,j<σ.kn c→σ.kd c j≠b:=fun j hj e=>by
      have:=(h.kid c j l1 hj).2
      rw [e,sb.2] at this; omega
    exact ⟨m1,m2,O.kin_of h hb sb m3 (key _ hi),O.kin_of h hb sb m4 (key _ (Nat.mod_lt _ (by have:=(h.odd c l1).2; omega)))⟩
  · obtain ⟨s1,s2⟩:=h.srf w hw
    by_cases e:σ.surf w=b
    · rw [e] at s2
      obtain ⟨i,hi,hk⟩:=h.which lvb s2 (by omega)
      obtain ⟨k1,k2,k3⟩:=upk i hi
      have hs:surf w=σ.kd b i:=O.s2 w i hw hi hk
      show (surf w<σ.m∧up (surf w)=-1)∧Kin up w (surf w)
      rw [hs]
      exact ⟨⟨k3,k2⟩,O.kin_of h hb sb hk k1⟩
    · have hs:surf w=σ.surf w:=O.s1 w hw e
      show (surf w<σ.m∧up (surf w)=-1)∧Kin up w (surf w)
      rw [hs]
      exact ⟨⟨s1.1,O.sf_out h hb sb s1.2 e⟩,O.kin_of h hb sb s2 e⟩
  · obtain ⟨a,ha⟩:=I.ba.kn c (O.lv h hb sb hc).1
    exact ⟨a,ha.lt,ha.eq,ha.pr⟩
  · refine ⟨I.du.d0,I.du.z0,I.du.zn,fun c hc hu=>?_,I.du.yb,fun j hj=>?_,fun c i hc hi=>O.tgt h hb sb hz (I.du.tl c i (O.lv h hb sb hc).1 hi),fun w j hw hm=>O.tgt h hb sb hz (I.du.tm w j hw hm),fun a w ha hw hs=>?_,I.du.fe⟩
    · have hu:up c=-2:=hu
      rw [O.up] at hu
      by_cases e:c=b
      · rw [e]; exact hz
      · rw [if_neg e] at hu
        by_cases e2:σ.up c=(b:Int)
        · rw [if_pos e2] at hu; omega
        · rw [if_neg e2] at hu; exact I.du.zg c hc hu
    · rw [O.cov h hb sb hz]; exact I.du.fs j hj
    · have hs:surf a=surf w:=hs
      have kid:∀{a},a<n→σ.surf a=b→∃i,i<σ.kn b∧surf a=σ.kd b i:=fun {a} ha e=>by
        have s2:=(h.srf a ha).2
        rw [e] at s2
        obtain ⟨i,hi,hk⟩:=h.which lvb s2 (by omega)
        exact ⟨i,hi,O.s2 a i ha hi hk⟩
      have apart:∀{a w},a<n→w<n→σ.surf a=b→σ.surf w≠b→surf a≠surf w:=fun {a w} ha hw h1 h2 e=>by
        obtain ⟨i,hi,e1⟩:=kid ha h1
        rw [e1,O.s1 w hw h2] at e
        have k2:=(h.kid b i lvb hi).2
        rw [e,(h.srf w hw).1.2] at k2
        omega
      refine I.du.pa a w ha hw ?_
      by_cases h1:σ.surf a=b<;>by_cases h2:σ.surf w=b
      · rw [h1,h2]
      · exact (apart ha hw h1 h2 hs).elim
      · exact (apart hw ha h2 h1 hs.symm).elim
      · rw [←O.s1 a ha h1,←O.s1 w hw h2]; exact hs
theorem Tr.opn (G:Gp n ne fr to tw R0 W) (I:Inv n ne fr to tw R0 D σ) (T:Tr n ne fr to tw R σ d) (hb:n≤b) (sb:σ.Sf b) (hz:σ.z b=0) (hl:σ.lab b=2) (P:OpW n ne fr to tw σ b ix len pe pi po) (O:Opd n σ b ix len pe pi po lab ve vi vo up surf):∃d',Tr n ne fr to tw R (σ.opn lab ve vi vo up surf) d':=by
  classical
  have h:=I.kp
  have lvb:=O.lvb h hb sb
  obtain ⟨ei,i1,i2,i3,i4,i5,i6,i7⟩:=T.inn b sb hl
  have hvo:σ.vo b<n:=by rw [i5]; exact i2.ot.nd G.nd
  have kinj:∀s t,s≤len→t≤len→σ.kd b (ix s)=σ.kd b (ix t)→s=t:=fun s t hs ht e=>P.inj s t hs ht (h.inj b _ _ lvb (P.lt s hs) (P.lt t ht) e)
  let pos:Nat→Nat:=fun c=>gm fun t=>t≤len∧σ.kd b (ix t)=c
  have hpos:∀t,t≤len→pos (σ.kd b (ix t))=t:=fun t ht=>by
    obtain ⟨⟨p1,p2⟩,_⟩:=gm_of (p:=fun s=>s≤len∧σ.kd b (ix s)=σ.kd b (ix t)) ⟨ht,rfl⟩
    exact kinj _ _ p1 ht p2
  let d':Nat→Nat:=fun c=>if σ.up c=(b:Int) then d (σ.surf (σ.vo b))*(len+2)+pos c+1 else d c*(len+2)
  have dkid:∀t,t≤len→d' (σ.kd b (ix t))=d (σ.surf (σ.vo b))*(len+2)+t+1:=fun t ht=>by
    show (if σ.up (σ.kd b (ix t))=(b:Int) then d (σ.surf (σ.vo b))*(len+2)+pos (σ.kd b (ix t))+1 else d (σ.kd b (ix t))*(len+2))=_
    rw [if_pos (h.kid b _ lvb (P.lt t ht)).2,hpos t ht]
  have dout:∀c,σ.up c=-1→d' c=d c*(len+2):=fun c hc=>by
    show (if σ.up c=(b:Int) then d (σ.surf (σ.vo b))*(len+2)+pos c+1 else d c*(len+2))=_
    rw [if_neg (by rw [hc]; omega)]
  have dmul:∀x y,x<y→x*(len+2)<y*(len+2):=fun x y hxy=>Nat.mul_lt_mul_of_pos_right hxy (by omega)
  have dmul2:∀x y,x+1<y→x*(len+2)+len+1<y*(len+2):=fun x y hxy=>by
    have h1:(x+1)*(len+2)≤y*(len+2):=Nat.mul_le_mul_right _ (by omega)
    have h2:(x+1)*(len+2)=x*(len+2)+(len+2):=by rw [Nat.add_mul,Nat.one_mul]
    omega
  have snb:∀{w},w<n→σ.lab (σ.surf w)≠2→σ.surf w≠b:=fun hw hl' e=>hl' (by rw [e]; exact hl)
  have sup:∀{w},w<n→σ.up (σ.surf w)=-1:=fun hw=>(h.srf _ hw).1.2
  have skid:∀{w t},w<n→t≤len→Kin σ.up w (σ.kd b (ix t))→surf w=σ.kd b (ix t):=fun hw ht hk=>O.s2 _ _ hw (P.lt _ ht) hk
  have lab1:∀t,t≤len→t%2=1→lab (σ.kd b (ix t))=1:=fun t ht ho=>by rw [O.l1 t ht,if_neg (by omega)]
  have lab2:∀t,t≤len→t%2=0→lab (σ.kd b (ix t))=2:=fun t ht ho=>by rw [O.l1 t ht,if_pos ho]
  have path:∀i,i<σ.kn b→(∃t,t≤len∧ix t=i)∨lab (σ.kd b i)=0:=fun i hi=>by
    by_cases hp:∃t,t≤len∧ix t=i
    · exact .inl hp
    · exact .inr (O.l0 i hi fun t ht e=>hp ⟨t,ht,e⟩).1
  refine ⟨d',fun c hc=>?_,fun w hw hm=>?_,fun c hc hlc=>?_,fun c hc hlc=>?_,fun c hc hlc=>?_,fun w hw hlw=>?_⟩
  · show lab c=0∨lab c=1∨lab c=2
    rcases O.sf h hb sb hc with ⟨c1,⟨c2,c3⟩ | ⟨i,hi,ek,c2⟩⟩
    · rw [(O.lo c c3).1]; exact T.lb c c2
    · rw [←ek]
      rcases path i hi with ⟨t,ht,e⟩ | e
      · rw [←e,O.l1 t ht]
        split<;>omega
      · exact .inl e
  · obtain ⟨f1,f2⟩:=T.fe w hw hm
    have hne:=snb hw (by omega)
    have hl2:=O.lo (σ.surf w) (by rw [sup hw]; omega)
    show lab (surf w)=1∧ve (surf w)=-1
    rw [O.s1 w hw hne,hl2.1,hl2.2.1]
    exact ⟨f1,f2⟩
  · have hlc:lab c=1:=hlc
    rcases O.sf h hb sb hc with ⟨c1,⟨c2,c3⟩ | ⟨i,hi,ek,c2⟩⟩
    · obtain ⟨q1,q2,q3,q4⟩:=O.lo c c3
      rw [q1] at hlc
      show (ve c=-1∧σ.mb (σ.base c)=-1)∨∃e:Nat,ve c=e∧σ.mb (σ.base c)=e∧vi c=σ.base c∧vo c=ot fr to e (σ.base c)∧lab (surf (vo c))=2∧d' (surf (vo c))<d' c
      rw [q2,q3,q4]
      rcases T.ou c c2 hlc with ⟨g1,g2⟩ | ⟨e,g1,g2,g3,g4,g5,g6⟩
      · exact .inl ⟨g1,g2⟩
      · obtain ⟨k1,k2,k3,k4,k5⟩:=I.crs G c2 g2
        rw [←g4] at k2 k4 k5
        refine .inr ⟨e,g1,g2,g3,g4,?_⟩
        rw [dout c c2.2]
        by_cases es:σ.surf (σ.vo c)=b
        · rw [es] at k4 g6
          have hk:Kin σ.up (σ.vo c) (σ.kd b (ix len)):=by rw [←k4]; exact P.fi.1
          rw [skid k2 (Nat.le_refl _) hk,dkid _ (Nat.le_refl _)]
          exact ⟨lab2 _ (Nat.le_refl _) P.ev,dmul2 _ _ (by omega)⟩
        · rw [O.s1 _ k2 es,(O.lo _ (by rw [sup k2]; omega)).1,dout _ (sup k2)]
          exact ⟨g5,dmul _ _ g6⟩
    · rcases path i hi with ⟨t,ht,e⟩ | e
      · rw [←e] at ek
        subst ek
        have ho:t%2=1:=by
          rcases Nat.mod_two_eq_zero_or_one t with e0 | e0
          · rw [lab2 t ht e0] at hlc; omega
          · exact e0
        obtain ⟨s,es⟩:∃s,t=s+1:=⟨t-1,by omega⟩
        subst es
        obtain ⟨v1,v2,v3⟩:=O.v1 s (by omega)
        obtain ⟨m1,m2,m3,m4⟩:=P.mt s (by omega) (by omega)
        obtain ⟨l1,l2,l3,l4,l5⟩:=P.lk s (by omega)
        right
        show ∃e:Nat,ve (σ.kd b (ix (s+1)))=e∧σ.mb (σ.base (σ.kd b (ix (s+1))))=e∧vi (σ.kd b (ix (s+1)))=σ.base (σ.kd b (ix (s+1)))∧vo (σ.kd b (ix (s+1)))=ot fr to e (σ.base (σ.kd b (ix (s+1))))∧lab (surf (vo (σ.kd b (ix (s+1)))))=2∧d' (surf (vo (σ.kd b (ix (s+1)))))<d' (σ.kd b (ix (s+1)))
        rw [v1,v2,v3,m1]
        refine ⟨pe s,rfl,m3,rfl,l2,?_⟩
        rw [skid (by rw [l2]; exact l1.ot.nd G.nd) (show s≤len by omega) l4,dkid _ (by omega),dkid _ (by omega)]
        exact ⟨lab2 s (by omega) (by omega),by omega⟩
      · rw [ek] at e; omega
  · have hlc:lab c=2:=hlc
    rcases O.sf h hb sb hc with ⟨c1,⟨c2,c3⟩ | ⟨i,hi,ek,c2⟩⟩
    · obtain ⟨q1,q2,q3,q4⟩:=O.lo c c3
      rw [q1] at hlc
      obtain ⟨e,g1,g2,g3,g4,g5,g6,g7⟩:=T.inn c c2 hlc
      have k2:σ.vo c<n:=by rw [g5]; exact g2.ot.nd G.nd
      show ∃e:Nat,ve c=e∧En ne fr to e (vi c)∧Tgt fr to tw _ e∧Kin up (vi c) c∧vo c=ot fr to e (vi c)∧lab (surf (vo c))=1∧d' (surf (vo c))<d' c
      rw [q2,q3,q4,O.s1 _ k2 (snb k2 (by omega)),(O.lo _ (by rw [sup k2]; omega)).1,dout _ (sup k2),dout c c2.2]
      exact ⟨e,g1,g2,O.tgt h hb sb hz g3,O.kin_of h hb sb g4 c1,g5,g6,dmul _ _ g7⟩
    · rcases path i hi with ⟨t,ht,e⟩ | e
      · rw [←e] at ek
        subst ek
        have ho:t%2=0:=by
          rcases Nat.mod_two_eq_zero_or_one t with e0 | e0
          · exact e0
          · rw [lab1 t ht e0] at hlc; omega
        show ∃e:Nat,ve (σ.kd b (ix t))=e∧En ne fr to e (vi (σ.kd b (ix t)))∧Tgt fr to tw _ e∧Kin up (vi (σ.kd b (ix t))) (σ.kd b (ix t))∧vo (σ.kd b (ix t))=ot fr to e (vi (σ.kd b (ix t)))∧lab (surf (vo (σ.kd b (ix t))))=1∧d' (surf (vo (σ.kd b (ix t))))<d' (σ.kd b (ix t))
        rw [dkid t ht]
        by_cases ht0:t=0
        · subst ht0
          obtain ⟨v1,v2,v3⟩:=O.v0
          rw [v1,v2,v3,O.s1 _ hvo (snb hvo (by omega)),(O.lo _ (by rw [sup hvo]; omega)).1,dout _ (sup hvo)]
          exact ⟨ei,i1,i2,O.tgt h hb sb hz i3,O.kin_of h hb sb P.st c1,i5,i6,by omega⟩
        · obtain ⟨s,es⟩:∃s,t=s+1:=⟨t-1,by omega⟩
          subst es
          obtain ⟨v1,v2,v3⟩:=O.v1 s (by omega)
          obtain ⟨l1,l2,l3,l4,l5⟩:=P.lk s (by omega)
          rw [v1,v2,v3,skid (by rw [l2]; exact l1.ot.nd G.nd) (show s≤len by omega) l4,dkid s (by omega)]
          exact ⟨pe s,rfl,l1,O.tgt h hb sb hz l5,O.kin_of h hb sb l3 c1,l2,lab1 s (by omega) (by omega),by omega⟩
      · rw [ek] at e; omega
  · have hlc:lab c=2:=hlc
    show ∃e:Nat,σ.mb (σ.base c)=e∧lab (surf (ot fr to e (σ.base c)))=1∧ve (surf (ot fr to e (σ.base c)))=e
    have keep:∀{c},σ.Sf c→σ.lab c=2→∃e:Nat,σ.mb (σ.base c)=e∧lab (surf (ot fr to e (σ.base c)))=1∧ve (surf (ot fr to e (σ.base c)))=e:=fun {c} sc lc=>by
      obtain ⟨e,g1,g2,g3⟩:=T.im c sc lc
      obtain ⟨k1,k2,_⟩:=I.crs G sc g1
      have hl2:=O.lo (σ.surf (ot fr to e (σ.base c))) (by rw [sup k2]; omega)
      refine ⟨e,g1,?_⟩
      rw [O.s1 _ k2 (snb k2 (by omega)),hl2.1,hl2.2.1]
      exact ⟨g2,g3⟩
    rcases O.sf h hb sb hc with ⟨c1,⟨c2,c3⟩ | ⟨i,hi,ek,c2⟩⟩
    · rw [(O.lo c c3).1] at hlc
      exact keep c2 hlc
    · rcases path i hi with ⟨t,ht,e⟩ | e
      · rw [←e] at ek
        subst ek
        have ho:t%2=0:=by
          rcases Nat.mod_two_eq_zero_or_one t with e0 | e0
          · exact e0
          · rw [lab1 t ht e0] at hlc; omega
        by_cases htl:t=len
        · rw [htl,P.fi.2]
          exact keep sb hl
        · obtain ⟨m1,m2,m3,m4⟩:=P.mt t (by omega) ho
          obtain ⟨l1,l2,l3,l4,l5⟩:=P.lk t (by omega)
          obtain ⟨v1,_⟩:=O.v1 t (by omega)
          refine ⟨pe t,by rw [m2]; exact m4,?_⟩
          have hx:ot fr to (pe t) (σ.base (σ.kd b (ix t)))=pi t:=by rw [m2,l2,l1.oo]
          rw [hx,skid (l1.nd G.nd) (show t+1≤len by omega) l3]
          exact ⟨lab1 _ (by omega) (by omega),v1⟩
      · rw [ek] at e; omega
  · by_cases e:σ.surf w=b
    · exact T.pr w hw (by rw [e,hl]; omega)
    · have hlw:lab (surf w)≠0:=hlw
      rw [O.s1 w hw e,(O.lo _ (by rw [sup hw]; omega)).1] at hlw
      exact T.pr w hw hlw
end
end Go.Mz
/-
  The way through a knot that is taken apart; the begin of a stage; what goes up and what goes down. No program in sight.
-/
namespace Go.Mz
theorem mod_two {x k:Nat} (h0:0<k) (h:x<2*k):x%k=x∧x<k∨x%k=x-k∧k≤x:=by
  rcases Nat.lt_or_ge x k with h1 | h1
  · exact .inl ⟨Nat.mod_eq_of_lt h1,h1⟩
  · refine .inr ⟨?_,h1⟩
    rw [Nat.mod_eq_sub_mod h1,Nat.mod_eq_of_lt (by omega)]
section
variable {n ne:Nat} {fr to:Nat→Nat} {tw:Nat→Int} {R0 D R W t:Int} {σ σ':KS} {d:Nat→Nat} {b c u v w x e len j o:Nat} {ix pe pi po:Nat→Nat} {lab ve:Nat→Int} {vi vo:Nat→Nat} {up:Nat→Int} {surf:Nat→Nat}
theorem Inv.pathOn (G:Gp n ne fr to tw R0 W) (I:Inv n ne fr to tw R0 D σ) (hb:n≤b) (sb:σ.Sf b) (hj:j<σ.kn b) (ho:o<σ.kn b) (kj:Kin σ.up (σ.vi b) (σ.kd b j)) (ko:Kin σ.up (σ.base b) (σ.kd b o)) (hev:(o+σ.kn b-j)%σ.kn b%2=0) :
    OpW n ne fr to tw σ b (fun t=>(j+t)%σ.kn b) ((o+σ.kn b-j)%σ.kn b) (fun t=>σ.le b ((j+t)%σ.kn b)) (fun t=>σ.lo b ((j+t)%σ.kn b)) (fun t=>σ.li b ((j+t)%σ.kn b)):=by
  have h:=I.kp
  have lvb:σ.Lv n b:=⟨hb,sb.1,by rw [sb.2]; omega⟩
  obtain ⟨hodd,h3⟩:=h.odd b lvb
  obtain ⟨a,ha⟩:=I.ba.kn b lvb
  have hao:a=o:=by
    refine h.kidn lvb ha.lt ho (x:=σ.base b) ?_ ko
    rw [ha.eq]
    have hk:=h.kid b a lvb ha.lt
    exact (BasI.within h _ (h.up_lt hk.2).1 (by omega) ((I.ba.at' _))).1
  subst hao
  obtain ⟨k,ek⟩:∃k,k=σ.kn b:=⟨_,rfl⟩
  rw [←ek] at hj ho hev hodd h3 ⊢
  obtain ⟨len,el⟩:∃len,len=(a+k-j)%k:=⟨_,rfl⟩
  rw [←el] at hev ⊢
  have hlen:=mod_two (x:=a+k-j) (show 0<k by omega) (by omega)
  rw [←el] at hlen
  have hix:∀t,t≤len→(j+t)%k=j+t∧j+t<k∨(j+t)%k=j+t-k∧k≤j+t:=fun t ht=>mod_two (by omega) (by omega)
  have hlast:(j+len)%k=a:=by
    have:=hix len (Nat.le_refl _)
    omega
  have hnext:∀t,t<len→((j+t)%k+1)%k=(j+(t+1))%k:=fun t ht=>by
    rw [Nat.mod_add_mod,Nat.add_assoc]
  have hrel:∀t,t<len→(a+(k-len+t))%k=(j+t)%k∧(a+(k-len+t)+1)%k=(j+(t+1))%k:=fun t ht=>by
    have e1:=mod_two (x:=a+(k-len+t)) (show 0<k by omega) (by omega)
    have e2:=hix t (by omega)
    have e3:(a+(k-len+t))%k=(j+t)%k:=by omega
    refine ⟨e3,?_⟩
    rw [←Nat.mod_add_mod,e3,hnext t ht]
  refine ⟨fun t ht=>by rw [←ek]; exact Nat.mod_lt _ (by omega),fun s t hs ht e'=>?_,?_,?_,hev,fun t ht=>?_,fun t ht hp=>?_⟩
  · have e':(j+s)%k=(j+t)%k:=e'
    exact mod_inj (a:=j) (by omega) (by omega) e'
  · show Kin σ.up (σ.vi b) (σ.kd b ((j+0)%k))
    rw [Nat.add_zero,Nat.mod_eq_of_lt hj]; exact kj
  · show Kin σ.up (σ.base b) (σ.kd b ((j+len)%k))∧σ.base (σ.kd b ((j+len)%k))=σ.base b
    rw [hlast]; exact ⟨ko,ha.eq.symm⟩
  · have hlt:(j+t)%k<σ.kn b:=by rw [←ek]; exact Nat.mod_lt _ (by omega)
    obtain ⟨l1,l2,l3,l4⟩:=h.lnk b _ lvb hlt
    rw [←ek,hnext t ht] at l4
    show En ne fr to (σ.le b ((j+t)%k)) (σ.lo b ((j+t)%k))∧σ.li b ((j+t)%k)=ot fr to (σ.le b ((j+t)%k)) (σ.lo b ((j+t)%k))∧Kin σ.up (σ.lo b ((j+t)%k)) (σ.kd b ((j+(t+1))%k))∧Kin σ.up (σ.li b ((j+t)%k)) (σ.kd b ((j+t)%k))∧Tgt fr to tw σ (σ.le b ((j+t)%k))
    exact ⟨by rw [l2]; exact l1.ot,by rw [l2,l1.oo],l4,l3,I.du.tl b _ lvb hlt⟩
  · obtain ⟨r1,r2⟩:=hrel t ht
    obtain ⟨p1,p2,p3,p4⟩:=ha.pr (k-len+t) (by omega) (by rw [←ek]; omega)
    rw [←ek,r1] at p1 p2 p3 p4
    rw [r2] at p2
    show σ.base (σ.kd b ((j+(t+1))%k))=σ.lo b ((j+t)%k)∧σ.base (σ.kd b ((j+t)%k))=σ.li b ((j+t)%k)∧σ.mb (σ.lo b ((j+t)%k))=_∧σ.mb (σ.li b ((j+t)%k))=_
    exact ⟨p2,p1,p4,p3⟩
theorem Inv.pathOff (G:Gp n ne fr to tw R0 W) (I:Inv n ne fr to tw R0 D σ) (hb:n≤b) (sb:σ.Sf b) (hj:j<σ.kn b) (ho:o<σ.kn b) (kj:Kin σ.up (σ.vi b) (σ.kd b j)) (ko:Kin σ.up (σ.base b) (σ.kd b o)) (hev:(o+σ.kn b-j)%σ.kn b%2=1) :
    OpW n ne fr to tw σ b (fun t=>(j+σ.kn b-t)%σ.kn b) ((j+σ.kn b-o)%σ.kn b) (fun t=>σ.le b ((j+σ.kn b-(t+1))%σ.kn b)) (fun t=>σ.li b ((j+σ.kn b-(t+1))%σ.kn b)) (fun t=>σ.lo b ((j+σ.kn b-(t+1))%σ.kn b)):=by
  have h:=I.kp
  have lvb:σ.Lv n b:=⟨hb,sb.1,by rw [sb.2]; omega⟩
  obtain ⟨hodd,h3⟩:=h.odd b lvb
  obtain ⟨a,ha⟩:=I.ba.kn b lvb
  have hao:a=o:=by
    refine h.kidn lvb ha.lt ho (x:=σ.base b) ?_ ko
    rw [ha.eq]
    have hk:=h.kid b a lvb ha.lt
    exact (BasI.within h _ (h.up_lt hk.2).1 (by omega) ((I.ba.at' _))).1
  subst hao
  obtain ⟨k,ek⟩:∃k,k=σ.kn b:=⟨_,rfl⟩
  rw [←ek] at hj ho hev hodd h3 ⊢
  have hon:=mod_two (x:=a+k-j) (show 0<k by omega) (by omega)
  obtain ⟨len,el⟩:∃len,len=(j+k-a)%k:=⟨_,rfl⟩
  rw [←el]
  have hlen:=mod_two (x:=j+k-a) (show 0<k by omega) (by omega)
  rw [←el] at hlen
  have hev2:len%2=0:=by omega
  have hix:∀t,t≤len→(j+k-t)%k=j+k-t∧j+k-t<k∨(j+k-t)%k=j+k-t-k∧k≤j+k-t:=fun t ht=>mod_two (by omega) (by omega)
  have hlast:(j+k-len)%k=a:=by
    have:=hix len (Nat.le_refl _)
    omega
  have hnext:∀t,t<len→((j+k-(t+1))%k+1)%k=(j+k-t)%k:=fun t ht=>by
    rw [Nat.mod_add_mod]; congr 1; omega
  have hrel:∀t,t<len→(a+(len-t-1))%k=(j+k-(t+1))%k∧(a+(len-t-1)+1)%k=(j+k-t)%k:=fun t ht=>by
    have e1:=mod_two (x:=a+(len-t-1)) (show 0<k by omega) (by omega)
    have e2:=hix (t+1) (by omega)
    have e3:(a+(len-t-1))%k=(j+k-(t+1))%k:=by omega
    refine ⟨e3,?_⟩
    rw [←Nat.mod_add_mod,e3,hnext t ht]
  refine ⟨fun t ht=>by rw [←ek]; exact Nat.mod_lt _ (by omega),fun s t hs ht e'=>?_,?_,?_,hev2,fun t ht=>?_,fun t ht hp=>?_⟩
  · have e':(j+k-s)%k=(j+k-t)%k:=e'
    have:=hix s hs
    have:=hix t ht
    omega
  · show Kin σ.up (σ.vi b) (σ.kd b ((j+k-0)%k))
    rw [Nat.sub_zero,Nat.add_mod_right,Nat.mod_eq_of_lt hj]; exact kj
  · show Kin σ.up (σ.base b) (σ.kd b ((j+k-len)%k))∧σ.base (σ.kd b ((j+k-len)%k))=σ.base b
    rw [hlast]; exact ⟨ko,ha.eq.symm⟩
  · obtain ⟨q,eq⟩:∃q,q=(j+k-(t+1))%k:=⟨_,rfl⟩
    have hlt:q<σ.kn b:=by rw [←ek,eq]; exact Nat.mod_lt _ (by omega)
    obtain ⟨l1,l2,l3,l4⟩:=h.lnk b q lvb hlt
    rw [←ek,show (q+1)%k=(j+k-t)%k by rw [eq]; exact hnext t ht] at l4
    show En ne fr to (σ.le b ((j+k-(t+1))%k)) (σ.li b ((j+k-(t+1))%k))∧σ.lo b ((j+k-(t+1))%k)=ot fr to (σ.le b ((j+k-(t+1))%k)) (σ.li b ((j+k-(t+1))%k))∧Kin σ.up (σ.li b ((j+k-(t+1))%k)) (σ.kd b ((j+k-(t+1))%k))∧Kin σ.up (σ.lo b ((j+k-(t+1))%k)) (σ.kd b ((j+k-t)%k))∧Tgt fr to tw σ (σ.le b ((j+k-(t+1))%k))
    rw [←eq]
    exact ⟨l1,l2,l3,l4,I.du.tl b _ lvb hlt⟩
  · obtain ⟨r1,r2⟩:=hrel t ht
    obtain ⟨p1,p2,p3,p4⟩:=ha.pr (len-t-1) (by omega) (by rw [←ek]; omega)
    rw [←ek,r1] at p1 p2 p3 p4
    rw [r2] at p2
    show σ.base (σ.kd b ((j+k-(t+1))%k))=σ.li b ((j+k-(t+1))%k)∧σ.base (σ.kd b ((j+k-t)%k))=σ.lo b ((j+k-(t+1))%k)∧σ.mb (σ.li b ((j+k-(t+1))%k))=_∧σ.mb (σ.lo b ((j+k-(t+1))%k))=_
    exact ⟨p1,p2,p3,p4⟩
/-! ### A stage begins -/
def KS.lbl (σ:KS) (lab ve:Nat→Int) (vi vo:Nat→Nat):KS:={ σ with lab:=lab,ve:=ve,vi:=vi,vo:=vo }
theorem Inv.lbl (h:Inv n ne fr to tw R0 D σ):Inv n ne fr to tw R0 D (σ.lbl lab ve vi vo):=
  ⟨⟨h.kp.nm,h.kp.upc,h.kp.upo,h.kp.nod,h.kp.odd,h.kp.kid,h.kp.inj,h.kp.lnk,h.kp.srf⟩,⟨h.ba.nd,fun c hc=>(h.ba.kn c hc).imp fun a k=>⟨k.lt,k.eq,k.pr⟩⟩,h.mm,
    ⟨h.du.d0,h.du.z0,h.du.zn,h.du.zg,h.du.yb,h.du.fs,h.du.tl,h.du.tm,h.du.pa,h.du.fe⟩⟩
theorem Tr.begin' (G:Gp n ne fr to tw R0 W) (I:Inv n ne fr to tw R0 D σ) (h1:∀v,v<n→σ.mb v=-1→lab (σ.surf v)=1∧ve (σ.surf v)=-1) (h0:∀b,σ.Sf b→(∀v,v<n→σ.mb v=-1→σ.surf v≠b)→lab b=0) :
    Tr n ne fr to tw (R0+D) (σ.lbl lab ve vi vo) (fun _=>0):=by
  have key:∀b,σ.Sf b→lab b=0∨∃v,v<n∧σ.mb v=-1∧σ.surf v=b:=fun b hb=>by
    by_cases hx:∃v,v<n∧σ.mb v=-1∧σ.surf v=b
    · exact .inr hx
    · exact .inl (h0 b hb fun v hv hm e=>hx ⟨v,hv,hm,e⟩)
  refine ⟨fun b hb=>?_,h1,fun b hb hl=>?_,fun b hb hl=>?_,fun b hb hl=>?_,fun w hw hl=>?_⟩
  · rcases key b hb with e | ⟨v,hv,hm,e⟩
    · exact .inl e
    · exact .inr (.inl (by rw [←e]; exact (h1 v hv hm).1))
  · have hl:lab b=1:=hl
    rcases key b hb with e | ⟨v,hv,hm,e⟩
    · omega
    · left
      obtain ⟨s1,s2⟩:=I.kp.srf v hv
      have:=I.fbase hv hm s1.1 (by rw [s1.2]; omega) s2
      show ve b=-1∧σ.mb (σ.base b)=-1
      rw [←e,this]
      exact ⟨(h1 v hv hm).2,hm⟩
  · have hl:lab b=2:=hl
    rcases key b hb with e | ⟨v,hv,hm,e⟩
    · omega
    · rw [←e,(h1 v hv hm).1] at hl; omega
  · have hl:lab b=2:=hl
    rcases key b hb with e | ⟨v,hv,hm,e⟩
    · omega
    · rw [←e,(h1 v hv hm).1] at hl; omega
  · have hl:lab (σ.surf w)≠0:=hl
    rcases key _ (I.kp.srf w hw).1 with e | ⟨v,hv,hm,e⟩
    · exact (hl e).elim
    · have p1:=I.du.pa w v hw hv e.symm
      have p2:=I.du.fe v hv hm
      show (σ.y w-(R0+D))%2=0
      omega
/-! ### What can be done -/
def ActE (fr to:Nat→Nat) (tw:Nat→Int) (σ:KS) (e:Nat):Prop:=
  σ.surf (fr e)≠σ.surf (to e)∧tw e-σ.y (fr e)-σ.y (to e)=0∧(σ.lab (σ.surf (fr e))=0∧σ.lab (σ.surf (to e))=1∨σ.lab (σ.surf (fr e))=1∧σ.lab (σ.surf (to e))=0∨σ.lab (σ.surf (fr e))=1∧σ.lab (σ.surf (to e))=1)
def ActB (n:Nat) (σ:KS) (b:Nat):Prop:=n≤b∧b<σ.m∧σ.up b=-1∧σ.lab b=2∧σ.z b=0
def Act (n ne:Nat) (fr to:Nat→Nat) (tw:Nat→Int) (σ:KS):Prop:=(∃e,e<ne∧ActE fr to tw σ e)∨∃b,ActB n σ b
def Atn (n ne:Nat) (fr to:Nat→Nat) (tw:Nat→Int) (σ:KS) (t:Int):Prop:=
  (∃e,e<ne∧σ.surf (fr e)≠σ.surf (to e)∧σ.lab (σ.surf (fr e))=1∧σ.lab (σ.surf (to e))=1∧2*t=tw e-σ.y (fr e)-σ.y (to e))∨
  (∃e,e<ne∧σ.surf (fr e)≠σ.surf (to e)∧(σ.lab (σ.surf (fr e))=1∧σ.lab (σ.surf (to e))=0∨σ.lab (σ.surf (fr e))=0∧σ.lab (σ.surf (to e))=1)∧t=tw e-σ.y (fr e)-σ.y (to e))∨
  ∃b,n≤b∧b<σ.m∧σ.up b=-1∧σ.lab b=2∧2*t=σ.z b
theorem Atn.act (G:Gp n ne fr to tw R0 W) (h:Atn n ne fr to tw σ t):Act n ne fr to tw (σ.chg n t):=by
  rcases h with ⟨e,he,h1,h2,h3,h4⟩ | ⟨e,he,h1,h2,h3⟩ | ⟨b,h1,h2,h3,h4,h5⟩
  · obtain ⟨hf,ht⟩:=G.nd e he
    refine .inl ⟨e,he,h1,?_,.inr (.inr ⟨h2,h3⟩)⟩
    rw [chg_y hf,chg_y ht,h2,h3,sg_one]; omega
  · obtain ⟨hf,ht⟩:=G.nd e he
    refine .inl ⟨e,he,h1,?_,?_⟩
    · rw [chg_y hf,chg_y ht]
      rcases h2 with ⟨a,b⟩ | ⟨a,b⟩<;>rw [a,b,sg_one,sg_zero]<;>omega
    · rcases h2 with ⟨a,b⟩ | ⟨a,b⟩
      · exact .inr (.inl ⟨a,b⟩)
      · exact .inl ⟨a,b⟩
  · refine .inr ⟨b,h1,h2,h3,h4,?_⟩
    show (if n≤b∧b<σ.m∧σ.up b=-1 then σ.z b+2*t*sg (σ.lab b) else σ.z b)=0
    rw [if_pos ⟨h1,h2,h3⟩,h4,sg_two]; omega
theorem Tr.even (G:Gp n ne fr to tw R0 W) (I:Inv n ne fr to tw R0 D σ) (T:Tr n ne fr to tw R σ d) (he:e<ne) (hs:σ.surf (fr e)≠σ.surf (to e)):0≤tw e-σ.y (fr e)-σ.y (to e)∧(σ.lab (σ.surf (fr e))≠0→σ.lab (σ.surf (to e))≠0→(tw e-σ.y (fr e)-σ.y (to e))%2=0):=by
  obtain ⟨hf,ht⟩:=G.nd e he
  have h1:=I.du.fs e he
  rw [cov_apart I.kp hf ht hs] at h1
  refine ⟨by omega,fun h2 h3=>?_⟩
  have:=T.pr _ hf h2
  have:=T.pr _ ht h3
  have:=G.ev e he
  omega
/-! ### What goes up and down -/
def outs (σ:KS) (n:Nat):Nat:=cnt (fun v=>decide (σ.lab (σ.surf v)=1)) n
def lives (σ:KS):Nat:=cnt (fun b=>decide (σ.up b≠-2)) σ.m
theorem outs_le:outs σ n≤n:=cnt_le _ _
theorem lives_le:lives σ≤σ.m:=cnt_le _ _
theorem cnt_more {p q:Nat→Bool} {N x:Nat} (hx:x<N) (h0:p x=false) (h1:q x=true) (h:∀v,v<N→p v=true→q v=true):cnt p N+1≤cnt q N:=by
  have e1:=cnt_less (p:=q) (q:=fun v=>q v && !decide (v=x)) hx h1 (by simp) fun i _ hne=>by simp [hne]
  have e2:cnt p N≤cnt (fun v=>q v && !decide (v=x)) N:=cnt_mono fun v hv hp=>by
    have:v≠x:=fun e=>by rw [e,h0] at hp; cases hp
    simp [h v hv hp,this]
  omega
theorem outs_grow {w:Nat} (I:Inv n ne fr to tw R0 D σ) {e':Int} {i i' o o':Nat} {e:Int} (hb:σ.lab b=0) (hc:σ.lab c=0) (hw:w<n) (hwc:σ.surf w=c):outs σ n+1≤outs ((σ.mk1 b 2 e i o).mk1 c 1 e' i' o') n:=by
  refine cnt_more hw (decide_eq_false (by rw [hwc,hc]; omega)) (decide_eq_true ?_) fun v hv hp=>decide_eq_true ?_
  · show upf (upf σ.lab b 2) c 1 (σ.surf w)=1
    rw [hwc,upf_same]
  · show upf (upf σ.lab b 2) c 1 (σ.surf v)=1
    have hp:σ.lab (σ.surf v)=1:=of_decide_eq_true hp
    rw [upf_ne fun e=>by rw [e] at hp; omega,upf_ne fun e=>by rw [e] at hp; omega]
    exact hp
theorem outs_shr {p q:Nat→Nat} {la lb i:Nat} (G:Gp n ne fr to tw R0 W) (I:Inv n ne fr to tw R0 D σ) (T:Tr n ne fr to tw R σ d) (F:Cyf n ne fr to tw σ d p q la lb i u):outs σ n+1≤outs (σ.shr p q la lb i u v) n:=by
  have labm:(σ.shr p q la lb i u v).lab σ.m=1:=upf_same
  obtain ⟨x,hx,lx⟩:∃x,InC p q la lb x∧σ.lab x=2:=by
    have:=F.pos; have:=F.la2; have:=F.lb2
    by_cases h:0<la
    · exact ⟨p 1,F.inp (by omega),(F.ps 1 (by omega)).2.2 (by omega)⟩
    · exact ⟨q 1,F.inq (by omega),(F.qs 1 (by omega)).2.2 (by omega)⟩
  have sx:=(F.sf hx).1
  obtain ⟨b1,b2,b3⟩:=I.bsf sx
  refine cnt_more b2 (decide_eq_false (by rw [b3,lx]; omega)) (decide_eq_true ?_) fun w hw hp=>decide_eq_true ?_
  · rw [shr_sf_in (by rw [b3]; exact hx)]; exact labm
  · have hp:σ.lab (σ.surf w)=1:=of_decide_eq_true hp
    by_cases hin:InC p q la lb (σ.surf w)
    · rw [shr_sf_in hin]; exact labm
    · rw [shr_sf_out hin,show (σ.shr p q la lb i u v).lab (σ.surf w)=σ.lab (σ.surf w) from upf_ne (by have:=(I.kp.srf w hw).1.1; omega)]
      exact hp
theorem outs_opn (I:Inv n ne fr to tw R0 D σ) (hb:n≤b) (sb:σ.Sf b) (hl:σ.lab b=2) (O:Opd n σ b ix len pe pi po lab ve vi vo up surf):outs σ n≤outs (σ.opn lab ve vi vo up surf) n∧lives (σ.opn lab ve vi vo up surf)+1=lives σ:=by
  refine ⟨cnt_mono fun w hw hp=>decide_eq_true ?_,?_⟩
  · have hp:σ.lab (σ.surf w)=1:=of_decide_eq_true hp
    show lab (surf w)=1
    rw [O.s1 w hw fun e=>by rw [e] at hp; omega,(O.lo _ (by rw [(I.kp.srf w hw).1.2]; omega)).1]
    exact hp
  · refine (cnt_less (p:=fun c=>decide (σ.up c≠-2)) (q:=fun c=>decide (up c≠-2)) sb.1 (decide_eq_true (by rw [sb.2]; omega)) (decide_eq_false (by rw [O.up,if_pos rfl]; omega)) fun c hc hne=>?_).symm
    rw [decide_eq_decide,O.up,if_neg hne]
    by_cases e:σ.up c=(b:Int)
    · rw [if_pos e]; omega
    · rw [if_neg e]
end
end Go.Mz
/-
  Layer 18 in memory: what a search holds. It proves nothing of the program by itself.
-/
namespace Go.Mz
/-! ### Elements by their place -/
def PtK (p:OA) (w i:Nat) (b o:Nat):Prop:=∃o0,p=some ⟨b,o0,none⟩∧o=o0+i*w
section
variable {α:Type} [El α] {H H':Hp} {p:OA} {n c i b o:Nat} {f:Nat→α}
theorem PtK.fp {w:Nat} (h:PtK p w i b o):fpS p b:=by
  obtain ⟨o0,e,_⟩:=h
  exact ⟨o0,e⟩
theorem Row.ixP (h:Row H p n c f) {i:Int} (h0:0≤i) (h1:i<(n:Int)) {G:Nat→Nat→Prop} (k:∀b o,PtK p (El.w α) i.toNat b o→G b o):Mz.ix p n i (El.w α) G:=by
  obtain ⟨b,o,rfl,hg⟩:=h.at (i:=i.toNat) (by omega)
  exact ⟨⟨h0,h1⟩,k b _ ⟨o,rfl,rfl⟩⟩
theorem PtK.get (q:PtK p (El.w α) i b o) (h:Row H p n c f) (hi:i<n):∀j,j<El.w α→H.get b (o+j)=(El.enc (f i))[j]?:=by
  obtain ⟨o0,rfl,rfl⟩:=q
  obtain ⟨b',o',e,hg⟩:=h.at hi
  cases e
  exact hg
theorem PtK.st (q:PtK p (El.w α) i b o) (h:Row H p n c f) (hi:i<n) (x:α) {k:Nat} {vs:List Value} (hk:k+vs.length≤El.w α) (hx:El.enc x=putL (El.enc (f i)) k vs) {K:Hp→Prop}
    (kk:∀H',Row H' p n c (upf f i x)→Step (fpS p) H H'→K H'):stC H b (o+k) vs K:=by
  obtain ⟨o0,rfl,rfl⟩:=q
  rcases h.cells with h' | ⟨b',o',y,e,hy,⟨hl,hz⟩,ha⟩
  · cases h'.1
  · cases e
    have hnc:=h.le
    have hiw:(i+1)*El.w α≤n*El.w α:=Nat.mul_le_mul_right _ hi
    have hcw:n*El.w α≤c*El.w α:=Nat.mul_le_mul_right _ hnc
    rw [Nat.add_mul] at hiw
    refine ⟨y,hy,⟨by omega,hz⟩,kk _ ⟨h.le,h.cap,.inr ⟨b,o0,_,rfl,upd_same,⟨by rw [putL_length]; exact hl,hz⟩,?_⟩⟩ (Step.wr hy ⟨_,rfl⟩)⟩
    intro t ht j hj
    have hw:=El.pos (α:=α)
    rw [putL_get _ _ _ _ (by omega)]
    by_cases e:t=i
    · subst e
      rw [upf_same,hx,putL_get _ _ _ _ (by rw [El.len]; exact hk)]
      by_cases hj':k≤j∧j<k+vs.length
      · rw [if_pos (by omega),if_pos hj']
        congr 1; omega
      · rw [if_neg (by omega),if_neg hj']
        exact ha t ht j hj
    · rw [if_neg,upf_ne e]
      · exact ha t ht j hj
      · rintro ⟨h1,h2⟩
        rcases Nat.lt_or_gt_of_ne e with e | e
        · have:(t+1)*El.w α≤i*El.w α:=Nat.mul_le_mul_right _ e
          rw [Nat.add_mul] at this
          omega
        · have:(i+1)*El.w α≤t*El.w α:=Nat.mul_le_mul_right _ e
          rw [Nat.add_mul] at this
          omega
end
abbrev Thr:=Int × Int × Int
theorem Rdr.ix3 {H:Hp} {p:OA} {n:Nat} {f:Nat→Thr} (h:Rdr H p n f) {i:Int} (h0:0≤i) (h1:i<(n:Int)) {G:Nat→Nat→Prop}
    (k:∀b o,H.get b o=some (.int .i64 (f i.toNat).1)→H.get b (o+1)=some (.int .i64 (f i.toNat).2.1)→H.get b (o+2)=some (.int .i64 (f i.toNat).2.2)→G b o):Mz.ix p n i 3 G:=
  h.ix (α:=Thr) h0 h1 fun b o _ hg=>k b o (hg 0 (by decide)) (hg 1 (by decide)) (hg 2 (by decide))
structure Kn where
  ks:Sl
  ls:Sl
  ba:Int
  z:Int
  la:Int
  ve:Int
  vi:Int
  vo:Int
  up:Int
instance:El Kn:=⟨9,by decide,fun x=>[.slice x.ks.p x.ks.n x.ks.c,.slice x.ls.p x.ls.n x.ls.c,.int .i64 x.ba,.int .i64 x.z,.int .i64 x.la,.int .i64 x.ve,.int .i64 x.vi,.int .i64 x.vo,.int .i64 x.up],fun _=>rfl,by simp [Value.oneC]⟩
theorem PtK.cells {H:Hp} {p:OA} {n c i b o:Nat} {f:Nat→Kn} (q:PtK p 9 i b o) (h:Row H p n c f) (hi:i<n) :
    H.get b o=some (.slice (f i).ks.p (f i).ks.n (f i).ks.c)∧H.get b (o+1)=some (.slice (f i).ls.p (f i).ls.n (f i).ls.c)∧H.get b (o+2)=some (.int .i64 (f i).ba)∧H.get b (o+3)=some (.int .i64 (f i).z)∧H.get b (o+4)=some (.int .i64 (f i).la)∧
    H.get b (o+5)=some (.int .i64 (f i).ve)∧H.get b (o+6)=some (.int .i64 (f i).vi)∧H.get b (o+7)=some (.int .i64 (f i).vo)∧H.get b (o+8)=some (.int .i64 (f i).up):=by
  have g:=PtK.get (α:=Kn) q h hi
  exact ⟨g 0 (by decide),g 1 (by decide),g 2 (by decide),g 3 (by decide),g 4 (by decide),g 5 (by decide),g 6 (by decide),g 7 (by decide),g 8 (by decide)⟩
structure PY where
  sb:Nat
  yb:Nat
  bb:Nat
  fb:Nat
  ep:OA
  ec:Nat
structure KX where
  kp:OA
  kc:Nat
  ks:Nat→Sl
  ls:Nat→Sl
def edF (fr to:Nat→Nat) (tw:Nat→Int) (i:Nat):Thr:=((fr i:Int),(to i:Int),tw i)
def lkF (σ:KS) (b i:Nat):Thr:=((σ.le b i:Int),(σ.li b i:Int),(σ.lo b i:Int))
def knF (X:KX) (σ:KS) (b:Nat):Kn:=⟨X.ks b,X.ls b,σ.base b,σ.z b,σ.lab b,σ.ve b,σ.vi b,σ.vo b,σ.up b⟩
structure AwP (Y:PY) (X:KX) (q:Nat):Prop where
  s:q≠Y.sb
  y:q≠Y.yb
  b:q≠Y.bb
  f:q≠Y.fb
  k:¬fpS X.kp q
structure PsM (H0 H:Hp) (Y:PY) (X:KX) (n ne:Nat) (fr to:Nat→Nat) (tw:Nat→Int) (σ:KS):Prop where
  st:Step (fun _=>False) H0 H
  he:Rdr H0 Y.ep ne (edF fr to tw)
  cell:H Y.sb=some ⟨[.int .i64 (n:Int),.slice Y.ep ne Y.ec,.slice (some ⟨Y.yb,0,none⟩) n n,.slice (some ⟨Y.bb,0,none⟩) n n,.slice X.kp σ.m X.kc,.slice (some ⟨Y.fb,0,none⟩) n n],112⟩
  ry:Row H (some ⟨Y.yb,0,none⟩) n n σ.y
  rb:Row H (some ⟨Y.bb,0,none⟩) n n σ.mb
  rf:Row H (some ⟨Y.fb,0,none⟩) n n (fun v=>(σ.surf v:Int))
  rk:Row H X.kp σ.m X.kc (knF X σ)
  kd:∀b,n≤b→b<σ.m→(X.ks b).n=σ.kn b∧Rdr H (X.ks b).p (σ.kn b) (fun i=>(σ.kd b i:Int))∧(X.ls b).n=σ.kn b∧Rdr H (X.ls b).p (σ.kn b) (lkF σ b)
  ka:∀b,n≤b→b<σ.m→(∀y,fpS (X.ks b).p y→AwP Y X y)∧∀y,fpS (X.ls b).p y→AwP Y X y
  kl:∀b i,n≤b→b<σ.m→i<σ.kn b→σ.kd b i<b
  km:∀b,n≤b→b<σ.m→0<σ.kn b∧σ.kn b≤2*n
  f1:H0 Y.sb=none
  f2:H0 Y.yb=none
  f3:H0 Y.bb=none
  f4:H0 Y.fb=none
  fk:∀y,fpS X.kp y→H0 y=none∧y≠Y.sb∧y≠Y.yb∧y≠Y.bb∧y≠Y.fb
  d1:Y.sb≠Y.yb
  d2:Y.sb≠Y.bb
  d3:Y.sb≠Y.fb
  d4:Y.yb≠Y.bb
  d5:Y.yb≠Y.fb
  d6:Y.bb≠Y.fb
  nN:n≤1024
  nE:ne<2 ^ 63
section
variable {E:VP}
variable {H0 H H':Hp} {Y:PY} {X:KX} {n ne:Nat} {fr to:Nat→Nat} {tw:Nat→Int} {σ σ':KS}
theorem fp1 {b y:Nat} (h:fpS (some ⟨b,0,none⟩) y):y=b:=by rwa [fpS_mk] at h
theorem PsM.ed (h:PsM H0 H Y X n ne fr to tw σ):Rdr H Y.ep ne (edF fr to tw):=h.he.keep h.st fun _ _ _ h=>h
theorem PsM.keep {F:Nat→Prop} (h:PsM H0 H Y X n ne fr to tw σ) (s:Step F H H') (hF:∀y,F y→H0 y=none∧AwP Y X y∧∀b,n≤b→b<σ.m→¬fpS (X.ks b).p y∧¬fpS (X.ls b).p y):PsM H0 H' Y X n ne fr to tw σ:=
  ⟨h.st.own s fun y hy=>(hF y hy).1,h.he,s.keep _ _ h.cell fun hh=>(hF _ hh).2.1.s rfl,h.ry.keep s fun y hy hh=>(hF _ hh).2.1.y (fp1 hy),h.rb.keep s fun y hy hh=>(hF _ hh).2.1.b (fp1 hy),h.rf.keep s fun y hy hh=>(hF _ hh).2.1.f (fp1 hy),h.rk.keep s fun y hy hh=>(hF _ hh).2.1.k hy,
    fun b h1 h2=>⟨(h.kd b h1 h2).1,(h.kd b h1 h2).2.1.keep s fun y hy _ hh=>((hF _ hh).2.2 b h1 h2).1 hy,(h.kd b h1 h2).2.2.1,(h.kd b h1 h2).2.2.2.keep s fun y hy _ hh=>((hF _ hh).2.2 b h1 h2).2 hy⟩,
    h.ka,h.kl,h.km,h.f1,h.f2,h.f3,h.f4,h.fk,h.d1,h.d2,h.d3,h.d4,h.d5,h.d6,h.nN,h.nE⟩
theorem PsM.keep0 (h:PsM H0 H Y X n ne fr to tw σ) (s:Step (fun _=>False) H H'):PsM H0 H' Y X n ne fr to tw σ:=h.keep s fun _ h=>h.elim
theorem PsM.kids (h:PsM H0 H Y X n ne fr to tw σ) {F:Nat→Prop} (s:Step F H H') (hF:∀y,F y→¬AwP Y X y):∀b,n≤b→b<σ.m→(X.ks b).n=σ.kn b∧Rdr H' (X.ks b).p (σ.kn b) (fun i=>(σ.kd b i:Int))∧(X.ls b).n=σ.kn b∧Rdr H' (X.ls b).p (σ.kn b) (lkF σ b):=
  fun b h1 h2=>⟨(h.kd b h1 h2).1,(h.kd b h1 h2).2.1.keep s fun y hy _ hh=>hF _ hh ((h.ka b h1 h2).1 y hy),(h.kd b h1 h2).2.2.1,(h.kd b h1 h2).2.2.2.keep s fun y hy _ hh=>hF _ hh ((h.ka b h1 h2).2 y hy)⟩
theorem PsM.setY {y':Nat→Int} (h:PsM H0 H Y X n ne fr to tw σ) (s:Step (fpS (some ⟨Y.yb,0,none⟩)) H H') (r:Row H' (some ⟨Y.yb,0,none⟩) n n y'):PsM H0 H' Y X n ne fr to tw { σ with y:=y' }:=
  ⟨h.st.own s fun y hy=>fp1 hy▸h.f2,h.he,s.keep _ _ h.cell fun hh=>h.d1 (fp1 hh),r,h.rb.keep s fun y hy hh=>h.d4 ((fp1 hh).symm.trans (fp1 hy)),h.rf.keep s fun y hy hh=>h.d5 ((fp1 hh).symm.trans (fp1 hy)),h.rk.keep s fun y hy hh=>(h.fk y hy).2.2.1 (fp1 hh),
    h.kids s fun y hy hh=>hh.y (fp1 hy),h.ka,h.kl,h.km,h.f1,h.f2,h.f3,h.f4,h.fk,h.d1,h.d2,h.d3,h.d4,h.d5,h.d6,h.nN,h.nE⟩
theorem PsM.setB {g:Nat→Int} (h:PsM H0 H Y X n ne fr to tw σ) (s:Step (fpS (some ⟨Y.bb,0,none⟩)) H H') (r:Row H' (some ⟨Y.bb,0,none⟩) n n g):PsM H0 H' Y X n ne fr to tw { σ with mb:=g }:=
  ⟨h.st.own s fun y hy=>fp1 hy▸h.f3,h.he,s.keep _ _ h.cell fun hh=>h.d2 (fp1 hh),h.ry.keep s fun y hy hh=>h.d4 ((fp1 hy).symm.trans (fp1 hh)),r,h.rf.keep s fun y hy hh=>h.d6 ((fp1 hh).symm.trans (fp1 hy)),h.rk.keep s fun y hy hh=>(h.fk y hy).2.2.2.1 (fp1 hh),
    h.kids s fun y hy hh=>hh.b (fp1 hy),h.ka,h.kl,h.km,h.f1,h.f2,h.f3,h.f4,h.fk,h.d1,h.d2,h.d3,h.d4,h.d5,h.d6,h.nN,h.nE⟩
theorem PsM.setF {g:Nat→Nat} (h:PsM H0 H Y X n ne fr to tw σ) (s:Step (fpS (some ⟨Y.fb,0,none⟩)) H H') (r:Row H' (some ⟨Y.fb,0,none⟩) n n (fun v=>(g v:Int))):PsM H0 H' Y X n ne fr to tw { σ with surf:=g }:=
  ⟨h.st.own s fun y hy=>fp1 hy▸h.f4,h.he,s.keep _ _ h.cell fun hh=>h.d3 (fp1 hh),h.ry.keep s fun y hy hh=>h.d5 ((fp1 hy).symm.trans (fp1 hh)),h.rb.keep s fun y hy hh=>h.d6 ((fp1 hy).symm.trans (fp1 hh)),r,h.rk.keep s fun y hy hh=>(h.fk y hy).2.2.2.2 (fp1 hh),
    h.kids s fun y hy hh=>hh.f (fp1 hy),h.ka,h.kl,h.km,h.f1,h.f2,h.f3,h.f4,h.fk,h.d1,h.d2,h.d3,h.d4,h.d5,h.d6,h.nN,h.nE⟩
def KS.nums (σ:KS) (base:Nat→Nat) (z lab ve:Nat→Int) (vi vo:Nat→Nat) (up:Nat→Int):KS:={ σ with base:=base,z:=z,lab:=lab,ve:=ve,vi:=vi,vo:=vo,up:=up }
theorem PsM.setK {base:Nat→Nat} {z lab ve:Nat→Int} {vi vo:Nat→Nat} {up:Nat→Int} (h:PsM H0 H Y X n ne fr to tw σ) (s:Step (fpS X.kp) H H') (r:Row H' X.kp σ.m X.kc (knF X (σ.nums base z lab ve vi vo up))):PsM H0 H' Y X n ne fr to tw (σ.nums base z lab ve vi vo up):=
  ⟨h.st.own s fun y hy=>(h.fk y hy).1,h.he,s.keep _ _ h.cell fun hh=>(h.fk _ hh).2.1 rfl,h.ry.keep s fun y hy hh=>(h.fk _ hh).2.2.1 (fp1 hy),h.rb.keep s fun y hy hh=>(h.fk _ hh).2.2.2.1 (fp1 hy),h.rf.keep s fun y hy hh=>(h.fk _ hh).2.2.2.2 (fp1 hy),r,
    h.kids s fun y hy hh=>hh.k hy,h.ka,h.kl,h.km,h.f1,h.f2,h.f3,h.f4,h.fk,h.d1,h.d2,h.d3,h.d4,h.d5,h.d6,h.nN,h.nE⟩
theorem PsM.fresh (h:PsM H0 H Y X n ne fr to tw σ) {y:Nat} (hy:H y=none):AwP Y X y:=
  ⟨fun hh=>(by rw [hh,h.cell] at hy; cases hy),fun hh=>h.ry.live ⟨0,rfl⟩ (hh▸hy),fun hh=>h.rb.live ⟨0,rfl⟩ (hh▸hy),fun hh=>h.rf.live ⟨0,rfl⟩ (hh▸hy),fun hh=>h.rk.live hh hy⟩
theorem PsM.eq (h:PsM H0 H Y X n ne fr to tw σ) (e:σ=σ'):PsM H0 H Y X n ne fr to tw σ':=e▸h
theorem PsM.pt (h:PsM H0 H Y X n ne fr to tw σ) {i:Int} (h0:0≤i) (h1:i<(σ.m:Int)) {G:Nat→Nat→Prop} (k:∀b o,PtK X.kp 9 i.toNat b o→G b o):Mz.ix X.kp σ.m i 9 G:=h.rk.ixP (α:=Kn) h0 h1 k
theorem PsM.stF {b b2 o2 k:Nat} {vs:List Value} {base:Nat→Nat} {z lab ve:Nat→Int} {vi vo:Nat→Nat} {up:Nat→Int} {K:Hp→Prop} (h:PsM H0 H Y X n ne fr to tw σ) (q:PtK X.kp 9 b b2 o2) (hb:b<σ.m) (hk:k+vs.length≤9)
    (hx:El.enc (knF X (σ.nums base z lab ve vi vo up) b)=putL (El.enc (knF X σ b)) k vs) (ho:∀j,j≠b→knF X (σ.nums base z lab ve vi vo up) j=knF X σ j)
    (kk:∀H',PsM H0 H' Y X n ne fr to tw (σ.nums base z lab ve vi vo up)→Step (fpS X.kp) H H'→K H'):stC H b2 (o2+k) vs K:=by
  refine PtK.st (α:=Kn) q h.rk hb _ hk hx fun H2 r2 s2=>kk H2 (h.setK s2 (r2.congr fun j _=>?_)) s2
  by_cases e:j=b
  · rw [e,upf_same]
  · rw [upf_ne e,ho j e]
theorem PsM.get (h:PsM H0 H Y X n ne fr to tw σ) {b b2 o2:Nat} (q:PtK X.kp 9 b b2 o2) (hb:b<σ.m) :
    H.get b2 o2=some (.slice (X.ks b).p (X.ks b).n (X.ks b).c)∧H.get b2 (o2+1)=some (.slice (X.ls b).p (X.ls b).n (X.ls b).c)∧H.get b2 (o2+2)=some (.int .i64 (σ.base b))∧H.get b2 (o2+3)=some (.int .i64 (σ.z b))∧H.get b2 (o2+4)=some (.int .i64 (σ.lab b))∧
    H.get b2 (o2+5)=some (.int .i64 (σ.ve b))∧H.get b2 (o2+6)=some (.int .i64 (σ.vi b))∧H.get b2 (o2+7)=some (.int .i64 (σ.vo b))∧H.get b2 (o2+8)=some (.int .i64 (σ.up b)):=q.cells h.rk hb
def Stp (Y:PY) (X:KX) (H H':Hp):Prop:=Step (fun y=>¬AwP Y X y) H H'
theorem Stp.trans {H'':Hp} (h:Stp Y X H H') (k:Stp Y X H' H''):Stp Y X H H'':=Step.trans h k fun _ hb=>.inl hb
theorem Stp.o (s:Step (fun _=>False) H H'):Stp Y X H H':=s.weak fun _ h=>h.elim
theorem Stp.k (s:Step (fpS X.kp) H H'):Stp Y X H H':=s.weak fun _ h=>.inl fun a=>a.k h
theorem Stp.y (s:Step (fpS (some ⟨Y.yb,0,none⟩)) H H'):Stp Y X H H':=s.weak fun _ h=>.inl fun a=>a.y (fp1 h)
theorem Stp.b (s:Step (fpS (some ⟨Y.bb,0,none⟩)) H H'):Stp Y X H H':=s.weak fun _ h=>.inl fun a=>a.b (fp1 h)
theorem Stp.f (s:Step (fpS (some ⟨Y.fb,0,none⟩)) H H'):Stp Y X H H':=s.weak fun _ h=>.inl fun a=>a.f (fp1 h)
theorem Stp.refl:Stp Y X H H:=Step.refl
theorem Stp.at' {b:Nat} {x:Blk} (s:Stp Y X H H') (e:H b=some x) (a:AwP Y X b):H' b=some x:=Step.keep s _ _ e fun h=>h a
theorem tmodn {x k:Nat}:Int.tmod (x:Int) (k:Int)=((x%k:Nat):Int):=rfl
/-! ### Small walks -/
theorem pslack {u v:Nat} {t:Int} {K:Int→Hp→Prop} (h:PsM H0 H Y X n ne fr to tw σ) (hu:u<n) (hv:v<n) (hb:-2 ^ 61≤t-σ.y u∧t-σ.y u≤2 ^ 61) (hb':-2 ^ 61≤t-σ.y u-σ.y v∧t-σ.y u-σ.y v≤2 ^ 61)
    (k:∀H',Step (fun _=>False) H H'→K (t-σ.y u-σ.y v) H'):Q49.call (some ⟨Y.sb,0,none⟩) (u:Int) (v:Int) t E H K:=by
  refine Q49.of (Q49.run_eq ?_)
  unfold Q49.run_t
  refine nwk fun b1 H1 hb1 e1 s1=>?_
  have h1:=h.keep0 s1
  simp only [nn_mk,get_at e1,get_at h1.cell,gZ,gS,ldI_mk,ldS_mk,Nat.zero_add]
  refine h1.ry.ixI (by omega) (by omega) ?_
  refine h1.ry.ixI (by omega) (by omega) ?_
  simp only [tN]
  rw [i64w (n:=t-σ.y u) (by omega) (by omega),i64w (by omega) (by omega)]
  exact k H1 s1
theorem pmark {b:Nat} {l e:Int} {i o:Nat} {K:Hp→Prop} (h:PsM H0 H Y X n ne fr to tw σ) (hb:b<σ.m) (k:∀H',PsM H0 H' Y X n ne fr to tw (σ.mk1 b l e i o)→Stp Y X H H'→K H'):Q44.call (some ⟨Y.sb,0,none⟩) (b:Int) l e (i:Int) (o:Int) E H K:=by
  refine Q44.of (Q44.run_eq ?_)
  unfold Q44.run_t
  refine nwk fun b1 H1 hb1 e1 s1=>?_
  have h1:=h.keep0 s1
  have a1:=h.fresh hb1
  simp only [nn_mk,get_at e1,get_at h1.cell,gZ,gS,ldI_mk,ldS_mk,Nat.zero_add]
  refine h1.pt (by omega) (by omega) fun b2 o2 q2=>?_
  rw [tN] at q2
  refine h1.stF (base:=σ.base) (z:=σ.z) (lab:=upf σ.lab b l) (ve:=σ.ve) (vi:=σ.vi) (vo:=σ.vo) (up:=σ.up) q2 hb (show 4+1≤9 by decide) ?_ (fun j hj=>?_) fun H2 h2 s2=>?_
  · simp only [knF,KS.nums,upf_same]; rfl
  · simp only [knF,KS.nums,upf_ne hj]
  have e12:=s2.keep _ _ e1 a1.k
  simp only [get_at e12,gZ,gS,ldI_mk,ldS_mk,Nat.zero_add]
  refine ⟨trivial,?_⟩
  refine h2.pt (by omega) (show (b:Int)<(σ.m:Int) by omega) fun b3 o3 q3=>?_
  rw [tN] at q3
  refine h2.stF (base:=σ.base) (z:=σ.z) (lab:=upf σ.lab b l) (ve:=upf σ.ve b e) (vi:=upf σ.vi b i) (vo:=upf σ.vo b o) (up:=σ.up) q3 hb (show 5+3≤9 by decide) ?_ (fun j hj=>?_) fun H3 h3 s3=>k H3 h3 (((Stp.o s1).trans (Stp.k s2)).trans (Stp.k s3))
  · simp only [knF,KS.nums,upf_same]; rfl
  · simp only [knF,KS.nums,upf_ne hj]
theorem pmate {b e:Nat} {K:Int→Int→Int→Hp→Prop} (h:PsM H0 H Y X n ne fr to tw σ) (hN:Nds n ne fr to) (hb:b<σ.m) (hbn:σ.base b<n) (he:σ.mb (σ.base b)=e) (hen:En ne fr to e (σ.base b))
    (k:∀H',Step (fun _=>False) H H'→K (e:Int) (ot fr to e (σ.base b):Int) (σ.base b:Int) H'):Q55.call (some ⟨Y.sb,0,none⟩) (b:Int) E H K:=by
  refine Q55.of (Q55.run_eq ?_)
  unfold Q55.run_t
  refine nwk fun b1 H1 hb1 e1 s1=>?_
  have h1:=h.keep0 s1
  simp only [nn_mk,get_at h1.cell,gZ,gS,ldI_mk,ldS_mk,Nat.zero_add]
  refine h1.pt (by omega) (by omega) fun b2 o2 q2=>?_
  rw [tN] at q2
  simp only [(h1.get q2 hb).2.2.1,ldI_mk]
  refine h1.rb.ixI (by omega) (by omega) ?_
  rw [tN,he]
  have hnE:=h.nE
  have hlt:=hen.1
  refine h1.ed.ix3 (by omega) (by omega) fun b3 o3 g1 g2 g3=>?_
  simp only [tN,edF] at g1 g2
  simp only [g1,ldI_mk]
  refine h1.ed.ix3 (by omega) (by omega) fun b4 o4 g1' g2' g3'=>?_
  simp only [tN,edF] at g2'
  simp only [g2',ldI_mk]
  have hf:=hN e hlt
  have hn:=h.nN
  have eo:IntKind.wrap .i64 (IntKind.wrap .i64 ((fr e:Int)+(to e:Int))-(σ.base b:Int))=(ot fr to e (σ.base b):Int):=by
    have h3:=hen.2.2
    unfold ot
    rw [i64w (n:=(fr e:Int)+(to e:Int)) (by omega) (by omega),i64w (by omega) (by omega)]
    omega
  rw [eo]
  refine stk e1 rfl rfl fun H2 e2 s2=>?_
  simp only [get_at e2,gZ,gS,ldI_mk]
  exact k H2 (s1.own s2 fun y hy=>hy▸hb1)
end
end Go.Mz
/-
  Walks of layer 18: the nodes of a knot, an outermost one, the kid that holds a node.
-/
namespace Go.Mz
/-! ### The nodes of a knot, as a list -/
def ndl (n:Nat) (kn:Nat→Nat) (kd:Nat→Nat→Nat):Nat→Nat→List Nat
  | 0,_=>[]
  | f+1,b=>if b<n then [b] else (List.range (kn b)).flatMap fun i=>ndl n kn kd f (kd b i)
def nd (n:Nat) (σ:KS) (b:Nat):List Nat:=ndl n σ.kn σ.kd (b+1) b
theorem fl_succ {f:Nat→List Nat} {k:Nat}:(List.range (k+1)).flatMap f=(List.range k).flatMap f++f k:=by
  rw [List.range_succ,List.flatMap_append]; simp
theorem fl_len {f:Nat→List Nat} {i:Nat}:∀{k:Nat},i≤k→((List.range i).flatMap f).length≤((List.range k).flatMap f).length
  | 0,h=>by rw [show i=0 by omega]; exact Nat.le_refl _
  | k+1,h=>by
    by_cases e:i=k+1
    · rw [e]; exact Nat.le_refl _
    · have:=fl_len (f:=f) (i:=i) (k:=k) (by omega)
      rw [fl_succ,List.length_append]; omega
theorem fl_one {f:Nat→List Nat} {i k:Nat} (h:i<k):(f i).length≤((List.range k).flatMap f).length:=by
  have:=fl_len (f:=f) (i:=i+1) (k:=k) h
  rw [fl_succ,List.length_append] at this; omega
theorem fl_mem {f:Nat→List Nat} {k v:Nat}:v∈(List.range k).flatMap f↔∃i,i<k∧v∈f i:=by
  rw [List.mem_flatMap]
  simp only [List.mem_range]
theorem lsF_ltp {l:List Nat} {j:Nat} (h:j<l.length):lsF l j=(l[j]:Int):=by unfold lsF; rw [List.getElem?_eq_getElem h]; rfl
section
variable {n ne:Nat} {fr to:Nat→Nat} {tw:Nat→Int} {R0 D R W:Int} {σ σ':KS} {b c u v w x m:Nat} {kn:Nat→Nat} {kd:Nat→Nat→Nat}
theorem ndl_fuel (hk:∀c i,n≤c→c<m→i<kn c→kd c i<c):∀(b f:Nat),b<m→b<f→ndl n kn kd f b=ndl n kn kd (b+1) b:=by
  intro b
  induction b using Nat.strongRecOn with
  | _ b ih=>
    intro f hb hf
    obtain ⟨f',rfl⟩:∃f',f=f'+1:=⟨f-1,by omega⟩
    unfold ndl
    by_cases hn:b<n
    · rw [if_pos hn,if_pos hn]
    · rw [if_neg hn,if_neg hn]
      have:∀k,k≤kn b→(List.range k).flatMap (fun i=>ndl n kn kd f' (kd b i))=(List.range k).flatMap (fun i=>ndl n kn kd b (kd b i)):=by
        intro k
        induction k with
        | zero=>intro _; rfl
        | succ k ihk=>
          intro hk'
          rw [fl_succ,fl_succ,ihk (by omega)]
          have hlt:=hk b k (by omega) hb (by omega)
          rw [ih _ hlt f' (by omega) (by omega),ih _ hlt b (by omega) hlt]
      exact this _ (Nat.le_refl _)
theorem nd_node (hb:b<n):nd n σ b=[b]:=by unfold nd ndl; exact if_pos hb
theorem nd_comp (hk:∀c i,n≤c→c<σ.m→i<σ.kn c→σ.kd c i<c) (hn:n≤b) (hb:b<σ.m):nd n σ b=(List.range (σ.kn b)).flatMap fun i=>nd n σ (σ.kd b i):=by
  unfold nd
  conv=>lhs; unfold ndl
  rw [if_neg (by omega)]
  have:∀k,k≤σ.kn b→(List.range k).flatMap (fun i=>ndl n σ.kn σ.kd b (σ.kd b i))=(List.range k).flatMap (fun i=>ndl n σ.kn σ.kd (σ.kd b i+1) (σ.kd b i)):=by
    intro k
    induction k with
    | zero=>intro _; rfl
    | succ k ihk=>
      intro hk'
      rw [fl_succ,fl_succ,ihk (by omega)]
      have hlt:=hk b k hn hb (by omega)
      rw [ndl_fuel hk _ b (by omega) hlt]
  exact this _ (Nat.le_refl _)
theorem nd_mem (h:Kps n ne fr to σ) (hk:∀c i,n≤c→c<σ.m→i<σ.kn c→σ.kd c i<c):∀(b:Nat),b<σ.m→σ.up b≠-2→∀v,v∈nd n σ b↔v<n∧Kin σ.up v b:=by
  intro b
  induction b using Nat.strongRecOn with
  | _ b ih=>
    intro hb hu v
    by_cases hn:b<n
    · rw [nd_node hn]
      simp only [List.mem_singleton]
      constructor
      · rintro rfl; exact ⟨hn,.here _⟩
      · rintro ⟨_,hk⟩; exact h.node_in hn hk
    · have lv:σ.Lv n b:=⟨by omega,hb,hu⟩
      rw [nd_comp hk (by omega) hb,fl_mem]
      constructor
      · rintro ⟨i,hi,hv⟩
        obtain ⟨k1,k2⟩:=h.kid b i lv hi
        obtain ⟨h1,h2⟩:=(ih _ k1 (h.up_lt k2).1 (by omega) v).1 hv
        exact ⟨h1,h2.trans (.one k2)⟩
      · rintro ⟨h1,h2⟩
        obtain ⟨i,hi,h3⟩:=h.which lv h2 (by omega)
        obtain ⟨k1,k2⟩:=h.kid b i lv hi
        exact ⟨i,hi,(ih _ k1 (h.up_lt k2).1 (by omega) v).2 ⟨h1,h3⟩⟩
theorem nd_nodup (h:Kps n ne fr to σ) (hk:∀c i,n≤c→c<σ.m→i<σ.kn c→σ.kd c i<c):∀(b:Nat),b<σ.m→σ.up b≠-2→(nd n σ b).Nodup:=by
  intro b
  induction b using Nat.strongRecOn with
  | _ b ih=>
    intro hb hu
    by_cases hn:b<n
    · rw [nd_node hn]; simp
    · have lv:σ.Lv n b:=⟨by omega,hb,hu⟩
      rw [nd_comp hk (by omega) hb]
      have:∀k,k≤σ.kn b→((List.range k).flatMap fun i=>nd n σ (σ.kd b i)).Nodup:=by
        intro k
        induction k with
        | zero=>intro _; exact List.nodup_nil
        | succ k ihk=>
          intro hk'
          rw [fl_succ,List.nodup_append]
          obtain ⟨k1,k2⟩:=h.kid b k lv (by omega)
          refine ⟨ihk (by omega),ih _ k1 (h.up_lt k2).1 (by omega),fun x hx y hy e=>?_⟩
          subst e
          obtain ⟨i,hi,hxi⟩:=fl_mem.1 hx
          obtain ⟨j1,j2⟩:=h.kid b i lv (by omega)
          have m1:=(nd_mem h hk _ (h.up_lt j2).1 (by omega) x).1 hxi
          have m2:=(nd_mem h hk _ (h.up_lt k2).1 (by omega) x).1 hy
          have:=h.kidn lv (by omega) (by omega) m1.2 m2.2
          omega
      exact this _ (Nat.le_refl _)
theorem nd_len (h:Kps n ne fr to σ) (hk:∀c i,n≤c→c<σ.m→i<σ.kn c→σ.kd c i<c) (hb:b<σ.m) (hu:σ.up b≠-2):(nd n σ b).length≤n:=by
  have:=cnt_list (q:=fun _=>true) (N:=n) (nd_nodup h hk b hb hu) fun x hx=>⟨((nd_mem h hk b hb hu x).1 hx).1,rfl⟩
  exact Nat.le_trans this (cnt_le _ _)
end
section
variable {E:VP}
variable {H0 H H':Hp} {Y:PY} {X:KX} {n ne:Nat} {fr to:Nat→Nat} {tw:Nat→Int} {σ σ':KS}
theorem row_lsp {H:Hp} {b v:Nat} {t:BT} (e:H b=some ⟨[.int .i64 (v:Int)],t⟩) (ht:t.fz=(0,0)):Row H (some ⟨b,0,none⟩) 1 1 (lsF [v]):=
  ⟨Nat.le_refl _,by decide,.inr ⟨b,0,_,rfl,e,⟨by show 0+1*1≤1; decide,ht⟩,fun i hi j hj=>by
    have:i=0:=by omega
    have hj:j<1:=hj
    have:j=0:=by omega
    subst_vars
    rfl⟩⟩
theorem pnodes:∀(b:Nat) {H:Hp} {K:OA→Nat→Nat→Hp→Prop},PsM H0 H Y X n ne fr to tw σ→b<σ.m→(nd n σ b).length≤1024→
    (∀H' p c,Step (fun _=>False) H H'→Row H' p (nd n σ b).length c (lsF (nd n σ b))→(∀y,fpS p y→H y=none)→K p (nd n σ b).length c H')→Q37.call (some ⟨Y.sb,0,none⟩) (b:Int) E H K:=by
  intro b
  induction b using Nat.strongRecOn with
  | _ b ih=>
    intro H K h hb hlen k
    refine Q37.of (Q37.run_eq ?_)
    unfold Q37.run_t
    simp only [nn_mk,get_at h.cell,gZ,gS,ldI_mk,ldS_mk,Nat.zero_add]
    refine bc (fun hlt=>?_) fun hge=>?_
    · have hn:b<n:=by omega
      rw [nd_node hn] at k
      refine nwk fun b2 H1 hb2 e2 s1=>k H1 _ _ s1 (row_lsp e2 rfl) fun y hy=>fp1 hy▸hb2
    · have hn:n≤b:=by omega
      refine h.pt (by omega) (by omega) fun b4 o4 q4=>?_
      rw [tN] at q4
      obtain ⟨kn1,kr,_⟩:=h.kd b hn hb
      simp only [(h.get q4 hb).1,ldS_mk]
      have hcomp:=nd_comp (σ:=σ) h.kl hn hb
      generalize hL:nd n σ b=L at k hlen hcomp
      refine Q37.l1_rule (fun s0 op on oc tp tn tc t24 t25 H1=>s0=some ⟨Y.sb,0,none⟩∧tp=(X.ks b).p∧tn=σ.kn b∧t24=(σ.kn b:Int)∧∃i:Nat,t25=i∧i≤σ.kn b∧Step (fun _=>False) H H1∧on=((List.range i).flatMap fun i=>nd n σ (σ.kd b i)).length∧
        Row H1 op on oc (lsF ((List.range i).flatMap fun i=>nd n σ (σ.kd b i)))∧∀y,fpS op y→H y=none)
        (fun _ _ _ _ _ _ _ _ t25 _=>σ.kn b-t25.toNat) ?_ ⟨rfl,rfl,kn1,by rw [kn1],0,rfl,Nat.zero_le _,.refl,rfl,.nil,fun y hy=>by rw [fpS_none] at hy; exact hy.elim⟩
      rintro s0 op on oc tp tn tc t24 t25 H1 ⟨rfl,rfl,rfl,rfl,i,rfl,hi,s1,rfl,r1,f1⟩ X1 hX
      have h1:=h.keep0 s1
      have kr1:=kr.keep s1 fun _ _ _ h=>h
      refine Q37.b1_eq ?_
      unfold Q37.b1_t
      refine bc (fun hlt=>?_) fun hge2=>?_
      · have hlt:i<σ.kn b:=by omega
        refine kr1.ixI (by omega) (by omega) ?_
        rw [tN]
        have hkl:=h.kl b i hn hb hlt
        have hone:=fl_one (f:=fun i=>nd n σ (σ.kd b i)) hlt
        rw [←hcomp] at hone
        have hone:(nd n σ (σ.kd b i)).length≤L.length:=hone
        refine ih _ hkl h1 (by omega) (by omega) fun H2 p2 c2 s2 r2 f2=>?_
        have hsum:=fl_len (f:=fun i=>nd n σ (σ.kd b i)) (i:=i+1) (k:=σ.kn b) hlt
        rw [←hcomp,fl_succ,List.length_append] at hsum
        refine Row.appR (r1.keep s2 fun _ _ h=>h) r2 rfl (by omega) (by decide) fun p3 c3 H3 r3 s3 f3=>?_
        rw [lsF_apps] at r3
        have e1:((List.range (i+1)).flatMap fun i=>nd n σ (σ.kd b i))=((List.range i).flatMap fun i=>nd n σ (σ.kd b i))++nd n σ (σ.kd b i):=fl_succ
        have hi63:IntKind.wrap .i64 ((i:Int)+1)=((i+1:Nat):Int):=by
          have:=h.km b hn hb
          have:=h.nN
          rw [i64w (by omega) (by omega)]; omega
        rw [hi63]
        refine hX _ _ _ _ _ _ _ _ _ _ ⟨rfl,rfl,rfl,rfl,i+1,rfl,hlt,(s1.trans s2 fun _ h=>h.elim).own s3 f1,by rw [e1,List.length_append],by rw [e1]; exact r3,fun y hy=>?_⟩ (by omega)
        rcases f3 y hy with hh | hh
        · exact f1 y hh
        · exact (s1.trans s2 fun _ h=>h.elim).none_at hh
      · have:i=σ.kn b:=by omega
        subst this
        rw [←hcomp] at r1 ⊢
        exact k H1 _ _ s1 r1 f1
theorem psurface {b:Nat} {K:Hp→Prop} (h:PsM H0 H Y X n ne fr to tw σ) (hb:b<σ.m) (hlen:(nd n σ b).length≤1024) (hlt:∀v∈nd n σ b,v<n)
    (k:∀H',PsM H0 H' Y X n ne fr to tw { σ with up:=upf σ.up b (-1),surf:=fun v=>if v∈nd n σ b then b else σ.surf v }→Stp Y X H H'→K H'):Q56.call (some ⟨Y.sb,0,none⟩) (b:Int) E H K:=by
  refine Q56.of (Q56.run_eq ?_)
  unfold Q56.run_t
  simp only [nn_mk,get_at h.cell,gZ,gS,ldI_mk,ldS_mk,Nat.zero_add]
  refine h.pt (by omega) (by omega) fun b2 o2 q2=>?_
  rw [tN] at q2
  refine h.stF (base:=σ.base) (z:=σ.z) (lab:=σ.lab) (ve:=σ.ve) (vi:=σ.vi) (vo:=σ.vo) (up:=upf σ.up b (-1)) q2 hb (show 8+1≤9 by decide) ?_ (fun j hj=>?_) fun H1 h1 s1=>?_
  · simp only [knF,KS.nums,upf_same]; rfl
  · simp only [knF,KS.nums,upf_ne hj]
  have hnd:nd n (σ.nums σ.base σ.z σ.lab σ.ve σ.vi σ.vo (upf σ.up b (-1))) b=nd n σ b:=rfl
  refine pnodes b h1 hb (by rw [hnd]; exact hlen) fun H2 p c s2 r2 f2=>?_
  rw [hnd] at r2 ⊢
  have h2:=h1.keep0 s2
  generalize nd n σ b=L at *
  refine Q56.l1_rule (fun s0 b' tp tn tc t16 t17 H3=>s0=some ⟨Y.sb,0,none⟩∧b'=(b:Int)∧tp=p∧tn=L.length∧t16=(L.length:Int)∧∃i:Nat,t17=i∧i≤L.length∧Row H3 p L.length c (lsF L)∧(∀y,fpS p y→H1 y=none)∧
      PsM H0 H3 Y X n ne fr to tw { σ with up:=upf σ.up b (-1),surf:=fun v=>if v∈L.take i then b else σ.surf v }∧Stp Y X H H3)
    (fun _ _ _ _ _ _ t17 _=>L.length-t17.toNat) ?_ ⟨rfl,rfl,rfl,rfl,rfl,0,rfl,Nat.zero_le _,r2,f2,h2.eq (by simp [KS.nums]),(Stp.k s1).trans (Stp.o s2)⟩
  rintro s0 b' tp tn tc t16 t17 H3 ⟨rfl,rfl,rfl,rfl,rfl,i,rfl,hi,r3,f3,h3,t3⟩ X1 hX
  refine Q56.b1_eq ?_
  unfold Q56.b1_t
  refine bc (fun hl=>?_) fun hge=>?_
  · have hl:i<L.length:=by omega
    refine r3.ixI (by omega) (by omega) ?_
    rw [tN,lsF_ltp hl]
    have hm:=hlt _ (List.getElem_mem hl)
    simp only [nn_mk,get_at h3.cell,gZ,gS,ldI_mk,ldS_mk,Nat.zero_add]
    refine h3.rf.stI (by omega) (by omega) _ fun H4 r4 s4=>?_
    rw [tN] at r4
    have aw:∀y,fpS tp y→AwP Y X y:=fun y hy=>h1.fresh (f3 y hy)
    rw [i64w (by omega) (by omega)]
    refine hX _ _ _ _ _ _ _ _ ⟨rfl,rfl,rfl,rfl,rfl,i+1,by omega,hl,r3.keep s4 fun y hy hh=>(aw y hy).f (fp1 hh),f3,?_,t3.trans (Stp.f s4)⟩ (by omega)
    refine (h3.setF (g:=fun v=>if v∈L.take (i+1) then b else σ.surf v) s4 (r4.congr fun v hv=>?_)).eq rfl
    have hmem:∀v,v∈L.take (i+1)↔v∈L.take i∨v=L[i]:=fun v=>by rw [List.take_succ_eq_append_getElem hl]; simp only [List.mem_append,List.mem_singleton]
    show upf (fun v=>((if v∈L.take i then b else σ.surf v:Nat):Int)) L[i] (b:Int) v=((if v∈L.take (i+1) then b else σ.surf v:Nat):Int)
    by_cases e:v=L[i]
    · rw [if_pos ((hmem v).2 (.inr e)),e,upf_same]
    · rw [upf_ne e]
      by_cases hm:v∈L.take i
      · rw [if_pos hm,if_pos ((hmem v).2 (.inl hm))]
      · rw [if_neg hm,if_neg fun hh=>((hmem v).1 hh).elim hm e]
  · have:i=L.length:=by omega
    subst this
    rw [List.take_length] at h3
    exact k H3 h3 t3
theorem sIndex {p:OA} {k c:Nat} {f:Nat→Int} {j:Nat} {x:Int} {K:Int→Hp→Prop} (h:Rdr H p k f) (hk:k<2 ^ 62) (hj:j<k) (hx:f j=x) (hf:∀i,i<j→f i≠x)
    (kk:K (j:Int) H):Q59.call p k c x E H K:=by
  refine Q59.of (Q59.run_eq ?_)
  unfold Q59.run_t
  refine Q59.l1_rule (fun sp sn sc v t7 t8 H1=>sp=p∧sn=k∧v=x∧t7=(k:Int)∧H1=H∧∃i:Nat,t8=i∧i≤j) (fun _ _ _ _ _ t8 _=>k-t8.toNat) ?_ ⟨rfl,rfl,rfl,rfl,rfl,0,rfl,Nat.zero_le _⟩
  rintro sp sn sc v t7 t8 H1 ⟨rfl,rfl,rfl,rfl,rfl,i,rfl,hi⟩ X1 hX
  refine Q59.b1_eq ?_
  unfold Q59.b1_t
  refine bc (fun hl=>?_) fun hge=>by omega
  refine h.ixI (by omega) (by omega) ?_
  rw [tN]
  refine bc (fun he=>?_) fun hne=>?_
  · have:i=j:=by
      rcases Nat.lt_or_ge i j with h1 | h1
      · exact (hf i h1 he.symm).elim
      · omega
    subst this
    exact kk
  · have hij:i≠j:=fun e=>hne (by rw [e,hx])
    rw [i64w (by omega) (by omega)]
    exact hX _ _ _ _ _ _ _ ⟨rfl,rfl,rfl,rfl,rfl,i+1,by omega,by omega⟩ (by omega)
theorem pkid {b v:Nat} {K:Int→Hp→Prop} (h:PsM H0 H Y X n ne fr to tw σ) (hK:Kps n ne fr to σ) (hb:σ.Lv n b) (hv:Kin σ.up v b) (hne:v≠b)
    (k:∀i:Nat,i<σ.kn b→Kin σ.up v (σ.kd b i)→K (i:Int) H):Q58.call (some ⟨Y.sb,0,none⟩) (b:Int) (v:Int) E H K:=by
  refine Q58.of (Q58.run_eq ?_)
  unfold Q58.run_t
  refine Q58.l1_rule (fun s0 b' c' H1=>s0=some ⟨Y.sb,0,none⟩∧b'=(b:Int)∧H1=H∧∃c:Nat,c'=c∧Kin σ.up v c∧Kin σ.up c b∧c≠b) (fun _ _ c' _=>b-c'.toNat) ?_ ⟨rfl,rfl,rfl,v,rfl,.here _,hv,hne⟩
  rintro s0 b' c' H1 ⟨rfl,rfl,rfl,c,rfl,hvc,hcb,hcn⟩ X1 hX
  have hle:=hcb.le hK.upg
  have hbm:=hb.2.1
  refine Q58.b1_eq ?_
  unfold Q58.b1_t
  simp only [nn_mk,get_at h.cell,gZ,gS,ldI_mk,ldS_mk,Nat.zero_add]
  refine h.pt (by omega) (by omega) fun b2 o2 q2=>?_
  rw [tN] at q2
  simp only [(h.get q2 (show c<σ.m by omega)).2.2.2.2.2.2.2.2,ldI_mk]
  refine bcn (fun hno=>?_) fun he=>?_
  · refine h.pt (by omega) (by omega) fun b4 o4 q4=>?_
    rw [tN] at q4
    simp only [(h.get q4 (show c<σ.m by omega)).2.2.2.2.2.2.2.2,ldI_mk]
    obtain ⟨y,e1,e2⟩:∃y:Nat,σ.up c=(y:Int)∧Kin σ.up y b:=by
      cases hcb with
      | here=>exact (hcn rfl).elim
      | step e k=>exact ⟨_,e,k⟩
    have hyb:y≠b:=fun e=>hno (by rw [e1,e])
    rw [e1]
    have:=hK.upg _ _ e1
    exact hX _ _ _ _ ⟨rfl,rfl,rfl,y,rfl,hvc.trans (.one e1),e2,hyb⟩ (by omega)
  · obtain ⟨_,_,i,hi,ei⟩:=hK.up_lt he
    refine Q58.j1_eq ?_
    unfold Q58.j1_t
    simp only [nn_mk,get_at h.cell,gZ,gS,ldI_mk,ldS_mk,Nat.zero_add]
    refine h.pt (by omega) (by omega) fun b4 o4 q4=>?_
    rw [tN] at q4
    simp only [(h.get q4 hbm).1,ldS_mk]
    obtain ⟨kn1,kr,_⟩:=h.kd b hb.1 hbm
    have:=h.km b hb.1 hbm
    have:=h.nN
    rw [kn1]
    refine sIndex (j:=i) kr (by omega) hi (by rw [ei]) (fun j hj e=>?_) (k i hi (by rw [ei]; exact hvc))
    have e:(σ.kd b j:Int)=(c:Int):=e
    have:=hK.inj b j i hb (by omega) hi (by rw [ei]; omega)
    omega
end
end Go.Mz
