/-
  Joined: BlP, PfA, PfB, VLook, VouA, VouB, VouC, VouD.
-/
import Derived.Test.YtndgjfbibkdokaaPkM
import Derived.Test.YtndgjfbibkdokaaMzU
import Derived.Test.YtndgjfbibkdokaaTab
import Derived.Tactics
import Derived.Tactics2
import Derived.Defers
import Derived.Recover
import Derived.Laws.Pointers
import Derived.Test.YtndgjfbibkdokaaGGra
import Derived.Test.YtndgjfbibkdokaaGVoa
import Derived.Test.YtndgjfbibkdokaaGVob
set_option linter.unusedSimpArgs false
set_option linter.unusedVariables false
/-
  Matchings in any graph, in plain words: which edge matches each node; ways back to a root, and what turning one about does. No program in sight.
-/
namespace Go.Mz
def ot (fr to:Nat→Nat) (i v:Nat):Nat:=fr i+to i-v
def En (n:Nat) (fr to:Nat→Nat) (i v:Nat):Prop:=i<n∧fr i≠to i∧(v=fr i∨v=to i)
variable {N n:Nat} {fr to:Nat→Nat}
theorem En.lt {i v:Nat} (h:En n fr to i v):i<n:=h.1
theorem En.ot {i v:Nat} (h:En n fr to i v):En n fr to i (Mz.ot fr to i v):=by
  obtain ⟨h1,h2,h3⟩:=h
  refine ⟨h1,h2,?_⟩
  unfold Mz.ot; omega
theorem En.oo {i v:Nat} (h:En n fr to i v):Mz.ot fr to i (Mz.ot fr to i v)=v:=by
  obtain ⟨h1,h2,h3⟩:=h
  unfold Mz.ot; omega
theorem En.ne {i v:Nat} (h:En n fr to i v):Mz.ot fr to i v≠v:=by
  obtain ⟨h1,h2,h3⟩:=h
  unfold Mz.ot; omega
theorem En.two {i v w:Nat} (h:En n fr to i v) (k:En n fr to i w) (hne:w≠v):w=Mz.ot fr to i v:=by
  obtain ⟨h1,h2,h3⟩:=h
  obtain ⟨k1,k2,k3⟩:=k
  unfold Mz.ot; omega
def Nds (N n:Nat) (fr to:Nat→Nat):Prop:=∀i,i<n→fr i<N∧to i<N
theorem En.nd (hN:Nds N n fr to) {i v:Nat} (h:En n fr to i v):v<N:=by
  have:=hN i h.1
  rcases h.2.2 with e | e<;>omega
def mt (fr to:Nat→Nat) (b:Nat→Int) (v:Nat):Nat:=ot fr to (b v).toNat v
def MM (N n:Nat) (fr to:Nat→Nat) (x:Nat) (b:Nat→Int):Prop:=
  ∀v,v<N→v≠x→b v=-1∨∃i:Nat,b v=i∧En n fr to i v∧ot fr to i v≠x∧b (ot fr to i v)=i
section
variable {b:Nat→Int} {x:Nat}
theorem MM.none:MM N n fr to x (fun _=>-1):=fun v _ _=>.inl rfl
theorem MM.en (h:MM N n fr to x b) {v:Nat} (hv:v<N) (hx:v≠x) (h0:0≤b v):∃i:Nat,b v=i∧En n fr to i v∧mt fr to b v=ot fr to i v∧mt fr to b v≠x∧b (mt fr to b v)=i∧mt fr to b (mt fr to b v)=v:=by
  rcases h v hv hx with e | ⟨i,e,he,hne,hb⟩
  · omega
  · have em:mt fr to b v=ot fr to i v:=by unfold mt; rw [e,tN]
    refine ⟨i,e,he,em,by rw [em]; exact hne,by rw [em]; exact hb,?_⟩
    rw [em]
    unfold mt; rw [hb,tN,he.oo]
theorem MM.neg (h:MM N n fr to x b) {v:Nat} (hv:v<N) (hx:v≠x) (h0:b v<0):b v=-1:=by
  rcases h v hv hx with e | ⟨i,e,_⟩
  · exact e
  · omega
theorem MM.ltN (h:MM N n fr to N b) (hN:Nds N n fr to) {v:Nat} (hv:v<N) (h0:0≤b v):mt fr to b v<N:=by
  obtain ⟨i,_,he,em,_⟩:=h.en hv (by omega) h0
  rw [em]; exact he.ot.nd hN
theorem MM.inj (h:MM N n fr to N b) {v w:Nat} (hv:v<N) (hw:w<N) (h0:0≤b v) (h1:0≤b w) (e:mt fr to b v=mt fr to b w):v=w:=by
  obtain ⟨i,_,_,_,_,_,e1⟩:=h.en hv (by omega) h0
  obtain ⟨j,_,_,_,_,_,e2⟩:=h.en hw (by omega) h1
  rw [←e1,←e2,e]
theorem MM.step (h:MM N n fr to x b) (hN:Nds N n fr to) {i u:Nat} (hi:En n fr to i x) (hu:u=ot fr to i x) :
    MM N n fr to (if b u<0 then N else mt fr to b u) (upf (upf b x (i:Int)) u (i:Int)):=by
  have hiu:En n fr to i u:=hu▸hi.ot
  have hxu:u≠x:=hu▸hi.ne
  have huN:=hiu.nd hN
  have eux:ot fr to i u=x:=by rw [hu,hi.oo]
  have at':∀v,upf (upf b x (i:Int)) u (i:Int) v=if v=u∨v=x then (i:Int) else b v:=fun v=>by
    by_cases e:v=u
    · subst e; simp [upf_same]
    · rw [upf_ne e]
      by_cases e':v=x
      · subst e'; simp [upf_same]
      · rw [upf_ne e']; simp [e,e']
  have hmx:∀z,z=(if b u<0 then N else mt fr to b u)→z≠u∧z≠x∨N≤z:=fun z hz=>by
    by_cases h0:b u<0
    · rw [if_pos h0] at hz; right; omega
    · rw [if_neg h0] at hz
      obtain ⟨j,_,he,em,hne,_⟩:=h.en huN hxu (by omega)
      left; rw [hz]; exact ⟨by rw [em]; exact he.ne,hne⟩
  intro v hv hvx
  rw [at']
  by_cases c:v=u∨v=x
  · rw [if_pos c]
    right
    refine ⟨i,rfl,?_,?_,?_⟩
    · rcases c with c | c<;>rw [c]<;>assumption
    · intro hz
      have:=hmx _ hz
      rcases c with c | c
      · rw [c,eux] at this; have:=hi.nd hN; omega
      · rw [c,←hu] at this; omega
    · rw [at',if_pos]
      rcases c with c | c
      · rw [c,eux]; exact .inr rfl
      · rw [c,←hu]; exact .inl rfl
  · rw [if_neg c]
    rcases h v hv (fun e=>c (.inr e)) with e | ⟨j,e,he,hne,hb⟩
    · exact .inl e
    · have hpu:ot fr to j v≠u:=fun hp=>by
        rw [hp] at hb
        have:mt fr to b u=v:=by unfold mt; rw [hb,tN,←hp,he.oo]
        rw [if_neg (by omega),this] at hvx
        exact hvx rfl
      refine .inr ⟨j,e,he,fun hz=>?_,?_⟩
      · by_cases h0:b u<0
        · rw [if_pos h0] at hz; have:=he.ot.nd hN; omega
        · rw [if_neg h0] at hz
          obtain ⟨k,ek,hek,em,_,hbk,hmm⟩:=h.en huN hxu (by omega)
          rw [←hz,hb] at hbk
          have:j=k:=by omega
          subst this
          have:v=u:=by rw [←hmm,←hz]; unfold mt; rw [hb,tN,he.oo]
          exact c (.inl this)
      · rw [at',if_neg]
        · exact hb
        · rintro (hp | hp)
          · exact hpu hp
          · exact hne hp
end
/-! ### Ways back -/
inductive AP (n:Nat) (fr to:Nat→Nat) (b via:Nat→Int):Nat→List Nat→Prop
  | root {u:Nat} (h:b u<0):AP n fr to b via u [u]
  | step {u:Nat} {k:Nat} {l:List Nat} (h:0≤b u) (hk:via (mt fr to b u)=(k:Int)) (he:En n fr to k (mt fr to b u)) (hl:AP n fr to b via (ot fr to k (mt fr to b u)) l):AP n fr to b via u (u :: l)
def ND (fr to:Nat→Nat) (b:Nat→Int) (l:List Nat):Prop:=l.Nodup∧∀u∈l,0≤b u→∀w∈l,mt fr to b u≠w
section
variable {b via via':Nat→Int}
theorem AP.head {u:Nat} {l:List Nat} (h:AP n fr to b via u l):∃l',l=u :: l':=by cases h<;>exact ⟨_,rfl⟩
theorem AP.det {u:Nat} {l l':List Nat} (h:AP n fr to b via u l) (h':AP n fr to b via u l'):l=l':=by
  induction h generalizing l' with
  | root h0=>cases h' with
    | root=>rfl
    | step h1=>omega
  | step h1 hk he hl ih=>cases h' with
    | root h0=>omega
    | step h1' hk' he' hl'=>
      have:=hk.symm.trans hk'
      have:_=_:=Int.ofNat.inj this
      subst this
      rw [ih hl']
theorem AP.suf {u:Nat} {l:List Nat} (h:AP n fr to b via u l) {p q:List Nat} {x:Nat} (e:l=p++x :: q):AP n fr to b via x (x :: q):=by
  induction h generalizing p with
  | root h0=>
    cases p with
    | nil=>cases e; exact .root h0
    | cons y p=>cases p<;>cases e
  | step h1 hk he hl ih=>
    cases p with
    | nil=>
      have e1:=(List.cons.inj e).1
      have e2:=(List.cons.inj e).2
      subst e1; subst e2
      exact .step h1 hk he hl
    | cons y p=>exact ih (List.cons.inj e).2
theorem AP.mem {u x:Nat} {l:List Nat} (h:AP n fr to b via u l) (hx:x∈l):∃p q,l=p++x :: q∧AP n fr to b via x (x :: q):=by
  obtain ⟨p,q,e⟩:=List.append_of_mem hx
  exact ⟨p,q,e,h.suf e⟩
theorem AP.join {u x:Nat} {p q l':List Nat} (h:AP n fr to b via u (p++x :: q)) (hv:∀y∈p,0≤b y→via' (mt fr to b y)=via (mt fr to b y)) (h':AP n fr to b via' x l'):AP n fr to b via' u (p++l'):=by
  induction p generalizing u with
  | nil=>
    obtain ⟨_,e⟩:=h.head
    have:=(List.cons.inj e).1
    subst this; exact h'
  | cons y p ih=>
    generalize hl:y :: p++x :: q=l at h
    cases h with
    | root h0=>
      have:=(List.cons.inj hl).2
      simp at this
    | step h1 hk he hl'=>
      have e1:=(List.cons.inj hl).1
      have e2:=(List.cons.inj hl).2
      subst e1; subst e2
      exact .step h1 ((hv y (by simp) h1).trans hk) he (ih hl' fun z hz=>hv z (by simp [hz]))
theorem AP.congr {u:Nat} {l:List Nat} (h:AP n fr to b via u l) (hv:∀y∈l,0≤b y→via' (mt fr to b y)=via (mt fr to b y)):AP n fr to b via' u l:=by
  induction h with
  | root h0=>exact .root h0
  | step h1 hk he hl ih=>exact .step h1 ((hv _ (by simp) h1).trans hk) he (ih fun z hz=>hv z (by simp [hz]))
def turnF (fr to:Nat→Nat) (via:Nat→Int):List Nat→(Nat→Int)→Nat→Nat→Int
  | [],b,_=>b
  | u :: l,b,w=>if b u<0 then upf (upf b w (via w)) u (via w) else turnF fr to via l (upf (upf b w (via w)) u (via w)) (mt fr to b u)
theorem mt_congr {b b':Nat→Int} {v:Nat} (h:b v=b' v):mt fr to b v=mt fr to b' v:=by unfold mt; rw [h]
theorem turn_ok (hN:Nds N n fr to) {b0:Nat→Int} (h0:MM N n fr to N b0):∀{l:List Nat} {u w i:Nat} {b:Nat→Int},AP n fr to b0 via u l→ND fr to b0 l→(∀x∈l,x<N)→(∀x∈l,b x=b0 x∧(0≤b0 x→b (mt fr to b0 x)=b0 (mt fr to b0 x)))→
    MM N n fr to w b→(∀x∈l,x≠w∧(0≤b0 x→mt fr to b0 x≠w))→via w=(i:Int)→En n fr to i w→u=ot fr to i w→
    MM N n fr to N (turnF fr to via l b w)∧turnF fr to via l b w w=(i:Int)∧(∀x∈l,0≤turnF fr to via l b w x∧(0≤b0 x→0≤turnF fr to via l b w (mt fr to b0 x)))∧∀v,v≠w→(∀x∈l,v≠x∧(0≤b0 x→v≠mt fr to b0 x))→turnF fr to via l b w v=b v:=by
  intro l
  induction l with
  | nil=>intro u w i b h; cases h
  | cons y l ih=>
    intro u w i b hA hD hlt hag hM haw hvw hiw hu
    have hy:u=y:=by obtain ⟨_,e⟩:=hA.head; exact (List.cons.inj e).1.symm
    subst hy
    have huw:=(haw u (by simp)).1
    have hbu:=(hag u (by simp)).1
    have hst:=hM.step hN hiw hu
    have eu1:upf (upf b w (i:Int)) u (i:Int) w=(i:Int):=by rw [upf_ne huw.symm,upf_same]
    cases hA with
    | root hneg=>
      have hb0:b u<0:=by rw [hbu]; exact hneg
      rw [if_pos hb0] at hst
      have e:turnF fr to via [u] b w=upf (upf b w (i:Int)) u (i:Int):=by unfold turnF; rw [if_pos hb0,hvw]
      rw [e]
      refine ⟨hst,eu1,fun x hx=>?_,fun v hvw' hv=>?_⟩
      · have:x=u:=by simpa using hx
        rw [this]
        exact ⟨by rw [upf_same]; omega,fun h=>by omega⟩
      · rw [upf_ne (hv u (by simp)).1,upf_ne hvw']
    | step hpos hk he hl=>
      rename_i k
      have hb0:¬b u<0:=by rw [hbu]; omega
      rw [if_neg hb0] at hst
      have em:mt fr to b u=mt fr to b0 u:=mt_congr hbu
      rw [em] at hst
      have e:turnF fr to via (u :: l) b w=turnF fr to via l (upf (upf b w (i:Int)) u (i:Int)) (mt fr to b0 u):=by
        conv=>lhs; unfold turnF
        rw [if_neg hb0,hvw,em]
      rw [e]
      have hul:u ∉ l:=(List.nodup_cons.1 hD.1).1
      have huN:=hlt u (by simp)
      have hmu:mt fr to b0 u≠u:=by obtain ⟨j,_,hj,ej,_⟩:=h0.en huN (by omega) hpos; rw [ej]; exact hj.ne
      have hmw:mt fr to b0 u≠w:=(haw u (by simp)).2 hpos
      have hD':ND fr to b0 l:=⟨(List.nodup_cons.1 hD.1).2,fun x hx h z hz=>hD.2 x (by simp [hx]) h z (by simp [hz])⟩
      have hmt_ne:∀x∈l,0≤b0 x→mt fr to b0 x≠u:=fun x hx h=>hD.2 x (by simp [hx]) h u (by simp)
      have hmt_inj:∀x∈l,0≤b0 x→mt fr to b0 x≠mt fr to b0 u:=fun x hx h hh=>hul (h0.inj (hlt x (by simp [hx])) huN h hpos hh▸hx)
      have hxm:∀x∈l,x≠mt fr to b0 u:=fun x hx hh=>hD.2 u (by simp) hpos x (by simp [hx]) hh.symm
      obtain ⟨r1,r2,r3,r4⟩:=ih hl hD' (fun x hx=>hlt x (by simp [hx])) (fun x hx=>by
        have hx':=hag x (by simp [hx])
        have hxw:=haw x (by simp [hx])
        refine ⟨?_,fun h=>?_⟩
        · have hxu:x≠u:=fun hh=>hul (hh▸hx)
          rw [upf_ne hxu,upf_ne hxw.1]; exact hx'.1
        · rw [upf_ne (hmt_ne x hx h),upf_ne (hxw.2 h)]; exact hx'.2 h) hst (fun x hx=>⟨hxm x hx,hmt_inj x hx⟩) hk he rfl
      refine ⟨r1,?_,fun x hx=>?_,fun v hvw' hv=>?_⟩
      · rw [r4 w hmw.symm (fun x hx=>⟨(haw x (by simp [hx])).1.symm,fun h=>((haw x (by simp [hx])).2 h).symm⟩),eu1]
      · rcases List.mem_cons.1 hx with rfl | hx
        · refine ⟨?_,fun _=>by rw [r2]; omega⟩
          rw [r4 x hmu.symm (fun z hz=>⟨fun hh=>hul (hh▸hz),fun h=>(hmt_ne z hz h).symm⟩),upf_same]; omega
        · exact r3 x hx
      · have hvu:=hv u (by simp)
        rw [r4 v (hvu.2 hpos) (fun z hz=>hv z (by simp [hz])),upf_ne hvu.1,upf_ne hvw']
end
end Go.Mz
/-
  Knots, in plain words: what holds what, the shape of a search's state. No program in sight.
-/
namespace Go.Mz
inductive Kin (up:Nat→Int):Nat→Nat→Prop
  | here (b:Nat):Kin up b b
  | step {x c b:Nat} (h:up x=(c:Int)) (k:Kin up c b):Kin up x b
section
variable {up:Nat→Int} {x b c d:Nat}
theorem Kin.one (h:up x=(b:Int)):Kin up x b:=.step h (.here b)
theorem Kin.trans (h:Kin up x b) (k:Kin up b c):Kin up x c:=by
  induction h with
  | here=>exact k
  | step e _ ih=>exact .step e (ih k)
theorem Kin.comp (h:Kin up x b) (k:Kin up x c):Kin up b c∨Kin up c b:=by
  induction h with
  | here=>exact .inl k
  | @step x y b e h' ih=>
    cases k with
    | here=>exact .inr (.step e h')
    | @step _ y' _ e' k'=>
      have:y=y':=by rw [e] at e'; omega
      subst this
      exact ih k'
def UpG (up:Nat→Int):Prop:=∀x b:Nat,up x=(b:Int)→x<b
theorem Kin.le (hu:UpG up) (h:Kin up x b):x≤b:=by
  induction h with
  | here=>exact Nat.le_refl _
  | step e _ ih=>have:=hu _ _ e; omega
theorem Kin.top (h:Kin up b c) (hb:up b<0):b=c:=by
  cases h with
  | here=>rfl
  | step e _=>omega
theorem Kin.uniq (h:Kin up x b) (k:Kin up x c) (hb:up b<0) (hc:up c<0):b=c:=by
  rcases h.comp k with h' | h'
  · exact h'.top hb
  · exact (h'.top hc).symm
theorem Kin.last (h:Kin up x b) (hne:x≠b):∃c,up c=(b:Int)∧Kin up x c:=by
  induction h with
  | here=>exact (hne rfl).elim
  | @step x c b e h' ih=>
    by_cases hcb:c=b
    · subst hcb; exact ⟨x,e,.here x⟩
    · obtain ⟨d,hd,hk⟩:=ih hcb
      exact ⟨d,hd,.step e hk⟩
theorem Kin.kid (hu:UpG up) (hc:up c=(b:Int)) (hd:up d=(b:Int)) (h:Kin up x c) (k:Kin up x d):c=d:=by
  have key:∀{c d:Nat},up c=(b:Int)→up d=(b:Int)→Kin up c d→c=d:=fun {c d} hc hd h=>by
    cases h with
    | here=>rfl
    | step e h'=>
      rename_i y
      have:y=b:=by rw [hc] at e; omega
      subst this
      have:=h'.le hu
      have:=hu _ _ hd
      omega
  rcases h.comp k with h' | h'
  · exact key hc hd h'
  · exact (key hd hc h').symm
end
structure KS where
  m:Nat
  kn:Nat→Nat
  kd:Nat→Nat→Nat
  le:Nat→Nat→Nat
  li:Nat→Nat→Nat
  lo:Nat→Nat→Nat
  base:Nat→Nat
  z:Nat→Int
  lab:Nat→Int
  ve:Nat→Int
  vi:Nat→Nat
  vo:Nat→Nat
  up:Nat→Int
  y:Nat→Int
  mb:Nat→Int
  surf:Nat→Nat
def KS.Lv (σ:KS) (n b:Nat):Prop:=n≤b∧b<σ.m∧σ.up b≠-2
def KS.Sf (σ:KS) (b:Nat):Prop:=b<σ.m∧σ.up b=-1
structure Kps (n ne:Nat) (fr to:Nat→Nat) (σ:KS):Prop where
  nm:n≤σ.m
  upc:∀c,c<σ.m→σ.up c=-2∨σ.up c=-1∨∃b i:Nat,σ.up c=(b:Int)∧c<b∧σ.Lv n b∧i<σ.kn b∧σ.kd b i=c
  upo:∀c,σ.m≤c→σ.up c<0
  nod:∀v,v<n→σ.up v≠-2
  odd:∀b,σ.Lv n b→σ.kn b%2=1∧3≤σ.kn b
  kid:∀b i,σ.Lv n b→i<σ.kn b→σ.kd b i<b∧σ.up (σ.kd b i)=(b:Int)
  inj:∀b i j,σ.Lv n b→i<σ.kn b→j<σ.kn b→σ.kd b i=σ.kd b j→i=j
  lnk:∀b i,σ.Lv n b→i<σ.kn b→En ne fr to (σ.le b i) (σ.li b i)∧σ.lo b i=ot fr to (σ.le b i) (σ.li b i)∧Kin σ.up (σ.li b i) (σ.kd b i)∧Kin σ.up (σ.lo b i) (σ.kd b ((i+1)%σ.kn b))
  srf:∀v,v<n→σ.Sf (σ.surf v)∧Kin σ.up v (σ.surf v)
section
variable {n ne:Nat} {fr to:Nat→Nat} {σ:KS} {b c v w x:Nat}
theorem Kps.upg (h:Kps n ne fr to σ):UpG σ.up:=fun x b e=>by
  by_cases hx:x<σ.m
  · rcases h.upc x hx with e' | e' | ⟨b',i,e',hlt,_⟩
    · omega
    · omega
    · omega
  · have:=h.upo x (by omega)
    omega
theorem Kps.up_lt (h:Kps n ne fr to σ) {x b:Nat} (e:σ.up x=(b:Int)):x<σ.m∧σ.Lv n b∧∃i,i<σ.kn b∧σ.kd b i=x:=by
  by_cases hx:x<σ.m
  · rcases h.upc x hx with e' | e' | ⟨b',i,e',hlt,hl,hi,hk⟩
    · omega
    · omega
    · have:b'=b:=by omega
      subst this
      exact ⟨hx,hl,i,hi,hk⟩
  · have:=h.upo x (by omega)
    omega
theorem Kps.live (h:Kps n ne fr to σ) (k:Kin σ.up x b) (hne:x≠b):σ.Lv n b:=by
  obtain ⟨c,hc,_⟩:=k.last hne
  exact (h.up_lt hc).2.1
theorem Kps.node_in (h:Kps n ne fr to σ) (hb:b<n) (k:Kin σ.up x b):x=b:=by
  by_cases e:x=b
  · exact e
  · have:=(h.live k e).1
    omega
theorem Kps.part (h:Kps n ne fr to σ) (k:Kin σ.up c b) (hb:b<σ.m) (hu:σ.up b≠-2):c<σ.m∧σ.up c≠-2:=by
  cases k with
  | here=>exact ⟨hb,hu⟩
  | step e _=>exact ⟨(h.up_lt e).1,by omega⟩
theorem Kps.which (h:Kps n ne fr to σ) (hb:σ.Lv n b) (k:Kin σ.up x b) (hne:x≠b):∃i,i<σ.kn b∧Kin σ.up x (σ.kd b i):=by
  obtain ⟨c,hc,hx⟩:=k.last hne
  obtain ⟨_,_,i,hi,e⟩:=h.up_lt hc
  exact ⟨i,hi,by rw [e]; exact hx⟩
theorem Kps.kidn (h:Kps n ne fr to σ) (hb:σ.Lv n b) {i j:Nat} (hi:i<σ.kn b) (hj:j<σ.kn b) (k1:Kin σ.up x (σ.kd b i)) (k2:Kin σ.up x (σ.kd b j)):i=j:=
  h.inj b i j hb hi hj (Kin.kid h.upg (h.kid b i hb hi).2 (h.kid b j hb hj).2 k1 k2)
theorem Kps.kin (h:Kps n ne fr to σ) (hb:σ.Lv n b) {i:Nat} (hi:i<σ.kn b) (k:Kin σ.up x (σ.kd b i)):Kin σ.up x b:=k.trans (.one (h.kid b i hb hi).2)
theorem Kps.srf_eq (h:Kps n ne fr to σ) (hv:v<n) (hb:σ.up b=-1) (k:Kin σ.up v b):σ.surf v=b:=
  (h.srf v hv).2.uniq k (by rw [(h.srf v hv).1.2]; omega) (by omega)
theorem Kps.some (h:Kps n ne fr to σ):∀(b:Nat),b<σ.m→σ.up b≠-2→∃v,v<n∧Kin σ.up v b:=by
  intro b
  induction b using Nat.strongRecOn with
  | _ b ih=>
    intro hb hu
    by_cases hn:b<n
    · exact ⟨b,hn,.here b⟩
    · have hl:σ.Lv n b:=⟨by omega,hb,hu⟩
      have h0:0<σ.kn b:=by have:=(h.odd b hl).2; omega
      obtain ⟨k1,k2⟩:=h.kid b 0 hl h0
      obtain ⟨v,hv,hi⟩:=ih _ k1 (h.up_lt k2).1 (by omega)
      exact ⟨v,hv,hi.trans (.one k2)⟩
theorem Kps.apart (h:Kps n ne fr to σ) (hb:σ.up b=-1) (hc:σ.up c=-1) (hne:b≠c):∀x,Kin σ.up x b→¬Kin σ.up x c:=fun x h1 h2=>hne (h1.uniq h2 (by omega) (by omega))
end
/-! ### What is matched within a knot -/
structure BsAt (σ:KS) (b at':Nat):Prop where
  lt:at'<σ.kn b
  eq:σ.base b=σ.base (σ.kd b at')
  pr:∀i,i%2=1→i<σ.kn b→
    σ.base (σ.kd b ((at'+i)%σ.kn b))=σ.li b ((at'+i)%σ.kn b)∧σ.base (σ.kd b ((at'+i+1)%σ.kn b))=σ.lo b ((at'+i)%σ.kn b)∧
    σ.mb (σ.li b ((at'+i)%σ.kn b))=(σ.le b ((at'+i)%σ.kn b):Int)∧σ.mb (σ.lo b ((at'+i)%σ.kn b))=(σ.le b ((at'+i)%σ.kn b):Int)
structure BasI (n:Nat) (σ:KS) (b:Nat):Prop where
  nd:∀v,v<n→σ.base v=v
  kn:∀c,σ.Lv n c→Kin σ.up c b→∃a,BsAt σ c a
structure Bas (n:Nat) (σ:KS):Prop where
  nd:∀v,v<n→σ.base v=v
  kn:∀b,σ.Lv n b→∃a,BsAt σ b a
section
variable {n ne:Nat} {fr to:Nat→Nat} {σ:KS} {b c v w x:Nat}
theorem mod_rel {k a j:Nat} (ha:a<k) (hj:j<k):∃r,r<k∧(a+r)%k=j:=by
  by_cases h:a≤j
  · exact ⟨j-a,by omega,by rw [show a+(j-a)=j by omega]; exact Nat.mod_eq_of_lt hj⟩
  · exact ⟨j+k-a,by omega,by rw [show a+(j+k-a)=j+k by omega,Nat.add_mod_right]; exact Nat.mod_eq_of_lt hj⟩
theorem mod_inj {k a r s:Nat} (hr:r<k) (hs:s<k) (e:(a+r)%k=(a+s)%k):r=s:=by
  have h0:0<k:=by omega
  rcases Nat.lt_or_ge r s with h | h
  · have:=Nat.sub_mod_eq_zero_of_mod_eq e.symm
    rw [show a+s-(a+r)=s-r by omega,Nat.mod_eq_of_lt (by omega)] at this
    omega
  · have:=Nat.sub_mod_eq_zero_of_mod_eq e
    rw [show a+r-(a+s)=r-s by omega,Nat.mod_eq_of_lt (by omega)] at this
    omega
theorem BasI.part (k:BasI n σ b) (hc:Kin σ.up c b):BasI n σ c:=⟨k.nd,fun d hd hdc=>k.kn d hd (hdc.trans hc)⟩
theorem Bas.at' (k:Bas n σ) (b:Nat):BasI n σ b:=⟨k.nd,fun c hc _=>k.kn c hc⟩
theorem BasI.within (h:Kps n ne fr to σ):∀(b:Nat),b<σ.m→σ.up b≠-2→BasI n σ b→Kin σ.up (σ.base b) b∧σ.base b<n:=by
  intro b
  induction b using Nat.strongRecOn with
  | _ b ih=>
    intro hb hu k
    by_cases hn:b<n
    · rw [k.nd b hn]; exact ⟨.here b,hn⟩
    · have hl:σ.Lv n b:=⟨by omega,hb,hu⟩
      obtain ⟨a,ha⟩:=k.kn b hl (.here b)
      obtain ⟨k1,k2⟩:=h.kid b a hl ha.lt
      obtain ⟨h1,h2⟩:=ih _ k1 (h.up_lt k2).1 (by omega) (k.part (.one k2))
      rw [ha.eq]
      exact ⟨h1.trans (.one k2),h2⟩
theorem BasI.sub (h:Kps n ne fr to σ):∀(b:Nat),b<σ.m→σ.up b≠-2→BasI n σ b→∀c,Kin σ.up c b→Kin σ.up (σ.base b) c→σ.base c=σ.base b:=by
  intro b
  induction b using Nat.strongRecOn with
  | _ b ih=>
    intro hb hu k c hc hx
    by_cases hcb:c=b
    · rw [hcb]
    · have hl:=h.live hc hcb
      obtain ⟨i,hi,hci⟩:=h.which hl hc hcb
      obtain ⟨a,ha⟩:=k.kn b hl (.here b)
      obtain ⟨k1,k2⟩:=h.kid b a hl ha.lt
      have hba:=(BasI.within h _ (h.up_lt k2).1 (by omega) (k.part (.one k2))).1
      rw [ha.eq] at hx ⊢
      have hia:=h.kidn hl hi ha.lt (hx.trans hci) hba
      subst hia
      exact ih _ k1 (h.up_lt k2).1 (by omega) (k.part (.one k2)) c hci hx
theorem BasI.mate (hN:Nds n ne fr to) (h:Kps n ne fr to σ):∀(b:Nat),b<σ.m→σ.up b≠-2→BasI n σ b→∀w,w<n→Kin σ.up w b→w≠σ.base b→∃e:Nat,σ.mb w=e∧En ne fr to e w∧Kin σ.up (ot fr to e w) b∧σ.mb (ot fr to e w)=e:=by
  intro b
  induction b using Nat.strongRecOn with
  | _ b ih=>
    intro hb hu k w hw hi hne
    by_cases hn:b<n
    · rw [k.nd b hn] at hne
      exact (hne (h.node_in hn hi)).elim
    · have hl:σ.Lv n b:=⟨by omega,hb,hu⟩
      have hwb:w≠b:=by omega
      obtain ⟨j,hj,hwj⟩:=h.which hl hi hwb
      obtain ⟨a,ha⟩:=k.kn b hl (.here b)
      obtain ⟨k1,k2⟩:=h.kid b j hl hj
      have up:∀x,Kin σ.up x (σ.kd b j)→Kin σ.up x b:=fun x hx=>h.kin hl hj hx
      by_cases hwk:w=σ.base (σ.kd b j)
      · obtain ⟨r,hr,er⟩:=mod_rel ha.lt hj
        have h3:=(h.odd b hl).2
        have ho:=(h.odd b hl).1
        by_cases h0:r=0
        · subst h0
          rw [Nat.add_zero,Nat.mod_eq_of_lt ha.lt] at er
          rw [ha.eq,er] at hne
          exact (hne hwk).elim
        · by_cases hpar:r%2=1
          · obtain ⟨p1,p2,p3,p4⟩:=ha.pr r hpar hr
            rw [er] at p1 p2 p3 p4
            obtain ⟨l1,l2,l3,l4⟩:=h.lnk b j hl hj
            refine ⟨σ.le b j,?_,?_,?_,?_⟩
            · rw [hwk,p1]; exact p3
            · rw [hwk,p1]; exact l1
            · rw [hwk,p1,←l2]
              exact h.kin hl (Nat.mod_lt _ (by omega)) l4
            · rw [hwk,p1,←l2]; exact p4
          · obtain ⟨p1,p2,p3,p4⟩:=ha.pr (r-1) (by omega) (by omega)
            rw [show a+(r-1)+1=a+r by omega,er] at p2
            obtain ⟨q,hq⟩:∃q,q=(a+(r-1))%σ.kn b:=⟨_,rfl⟩
            rw [←hq] at p1 p2 p3 p4
            have hqk:q<σ.kn b:=by rw [hq]; exact Nat.mod_lt _ (by omega)
            obtain ⟨l1,l2,l3,l4⟩:=h.lnk b q hl hqk
            refine ⟨σ.le b q,?_,?_,?_,?_⟩
            · rw [hwk,p2]; exact p4
            · rw [hwk,p2,l2]; exact l1.ot
            · rw [hwk,p2,l2,l1.oo]
              exact h.kin hl hqk l3
            · rw [hwk,p2,l2,l1.oo]; exact p3
      · obtain ⟨e,h1,h2,h3,h4⟩:=ih _ k1 (h.up_lt k2).1 (by omega) (k.part (.one k2)) w hw hwj hwk
        exact ⟨e,h1,h2,up _ h3,h4⟩
theorem BasI.cross (hN:Nds n ne fr to) (h:Kps n ne fr to σ) {b w:Nat} (k:BasI n σ b) (hb:b<σ.m) (hu:σ.up b≠-2) (hw:w<n) (hi:Kin σ.up w b) {e:Nat} (he:σ.mb w=e) (ho:¬Kin σ.up (ot fr to e w) b):w=σ.base b:=by
  by_cases hne:w=σ.base b
  · exact hne
  · obtain ⟨e',h1,_,h3,_⟩:=BasI.mate hN h b hb hu k w hw hi hne
    have:e'=e:=by omega
    subst this
    exact (ho h3).elim
end
end Go.Mz
/-
  Rebasing a knot, in plain words: within it all is matched but one node. No program in sight.
-/
namespace Go.Mz
def KS.wb (σ:KS) (f:Nat→Nat) (g:Nat→Int):KS:={ σ with base:=f,mb:=g }
section
variable {n ne:Nat} {fr to:Nat→Nat} {σ:KS} {b c v w x:Nat}
theorem Kps.wb {f:Nat→Nat} {g:Nat→Int} (h:Kps n ne fr to σ):Kps n ne fr to (σ.wb f g):=
  ⟨h.nm,h.upc,h.upo,h.nod,h.odd,h.kid,h.inj,h.lnk,h.srf⟩
theorem BasI.frame {f:Nat→Nat} {g:Nat→Int} (h:Kps n ne fr to σ) (k:BasI n σ b) (hf:∀c,Kin σ.up c b→f c=σ.base c) (hn:∀v,v<n→f v=v) (hg:∀w,Kin σ.up w b→g w=σ.mb w):BasI n (σ.wb f g) b:=by
  refine ⟨hn,fun c hc hcb=>?_⟩
  obtain ⟨a,ha⟩:=k.kn c hc hcb
  have h3:=(h.odd c hc).2
  have hk:∀i,i<σ.kn c→f (σ.kd c i)=σ.base (σ.kd c i):=fun i hi=>hf _ ((Kin.one (h.kid c i hc hi).2).trans hcb)
  refine ⟨a,ha.lt,?_,fun i hi hik=>?_⟩
  · show f c=f (σ.kd c a)
    rw [hf c hcb,hk a ha.lt]; exact ha.eq
  · obtain ⟨p1,p2,p3,p4⟩:=ha.pr i hi hik
    have hj:(a+i)%σ.kn c<σ.kn c:=Nat.mod_lt _ (by omega)
    obtain ⟨l1,l2,l3,l4⟩:=h.lnk c _ hc hj
    have m1:Kin σ.up (σ.li c ((a+i)%σ.kn c)) b:=(h.kin hc hj l3).trans hcb
    have m2:Kin σ.up (σ.lo c ((a+i)%σ.kn c)) b:=(h.kin hc (Nat.mod_lt _ (by omega)) l4).trans hcb
    refine ⟨?_,?_,?_,?_⟩
    · exact (hk _ hj).trans p1
    · exact (hk _ (Nat.mod_lt _ (by omega))).trans p2
    · exact (hg _ m1).trans p3
    · exact (hg _ m2).trans p4
theorem BasI.setmb {g:Nat→Int} (h:Kps n ne fr to σ) (hb:b<σ.m) (hu:σ.up b≠-2) (k:BasI n σ b) (hg:∀w,w≠σ.base b→Kin σ.up w b→g w=σ.mb w):BasI n (σ.wb σ.base g) b:=by
  refine ⟨k.nd,fun c hc hcb=>?_⟩
  obtain ⟨a,ha⟩:=k.kn c hc hcb
  have h3:=(h.odd c hc).2
  have ho:=(h.odd c hc).1
  have key:∀j,j<σ.kn c→j≠a→∀x,Kin σ.up x (σ.kd c j)→x≠σ.base b:=fun j hj hja x hx e=>by
    have hxc:Kin σ.up (σ.base b) c:=e▸h.kin hc hj hx
    have h1:=BasI.sub h b hb hu k c hcb hxc
    have h2:Kin σ.up (σ.base c) (σ.kd c a):=by
      rw [ha.eq]
      have hk:=h.kid c a hc ha.lt
      exact (BasI.within h _ (h.up_lt hk.2).1 (by omega) (k.part ((Kin.one hk.2).trans hcb))).1
    rw [h1,←e] at h2
    exact hja (h.kidn hc hj ha.lt hx h2)
  refine ⟨a,ha.lt,ha.eq,fun i hi hik=>?_⟩
  obtain ⟨p1,p2,p3,p4⟩:=ha.pr i hi hik
  have hj:(a+i)%σ.kn c<σ.kn c:=Nat.mod_lt _ (by omega)
  have hj':(a+i+1)%σ.kn c<σ.kn c:=Nat.mod_lt _ (by omega)
  have hja:(a+i)%σ.kn c≠a:=fun e=>by
    have:(a+i)%σ.kn c=(a+0)%σ.kn c:=by rw [e,Nat.add_zero,Nat.mod_eq_of_lt ha.lt]
    have:=mod_inj hik (by omega) this
    omega
  have hja':(a+i+1)%σ.kn c≠a:=fun e=>by
    have:(a+(i+1))%σ.kn c=(a+0)%σ.kn c:=by rw [←Nat.add_assoc,e,Nat.add_zero,Nat.mod_eq_of_lt ha.lt]
    have hik':i<σ.kn c:=hik
    have hi1:i+1<σ.kn c:=by omega
    have h0:0<σ.kn c:=by omega
    have:=mod_inj hi1 h0 this
    omega
  obtain ⟨l1,l2,l3,l4⟩:=h.lnk c _ hc hj
  have hs:(((a+i)%σ.kn c)+1)%σ.kn c=(a+i+1)%σ.kn c:=by rw [Nat.mod_add_mod]
  rw [hs] at l4
  refine ⟨p1,p2,?_,?_⟩
  · exact (hg _ (key _ hj hja _ l3) ((h.kin hc hj l3).trans hcb)).trans p3
  · exact (hg _ (key _ hj' hja' _ l4) ((h.kin hc hj' l4).trans hcb)).trans p4
structure Rb (n:Nat) (σ:KS) (f:Nat→Nat) (g:Nat→Int) (b v:Nat):Prop where
  bb:f b=v
  bo:∀c,¬Kin σ.up c b→f c=σ.base c
  mo:∀w,¬Kin σ.up w b∨w=v→g w=σ.mb w
  bs:BasI n (σ.wb f g) b
  tg:∀w,g w=σ.mb w∨∃c i,σ.Lv n c∧i<σ.kn c∧g w=(σ.le c i:Int)
structure RbI (n:Nat) (σ:KS) (f:Nat→Nat) (g:Nat→Int) (b v a q:Nat):Prop where
  bb:f b=v
  bo:∀c,¬Kin σ.up c b→f c=σ.base c
  mo:∀w,¬Kin σ.up w b∨w=v→g w=σ.mb w
  nd:∀w,w<n→f w=w
  ks:∀i,i<σ.kn b→BasI n (σ.wb f g) (σ.kd b i)
  ka:f (σ.kd b a)=v
  pr:∀i,i%2=1→i<q→
    f (σ.kd b ((a+i)%σ.kn b))=σ.li b ((a+i)%σ.kn b)∧f (σ.kd b ((a+i+1)%σ.kn b))=σ.lo b ((a+i)%σ.kn b)∧
    g (σ.li b ((a+i)%σ.kn b))=(σ.le b ((a+i)%σ.kn b):Int)∧g (σ.lo b ((a+i)%σ.kn b))=(σ.le b ((a+i)%σ.kn b):Int)
  tg:∀w,g w=σ.mb w∨∃c i,σ.Lv n c∧i<σ.kn c∧g w=(σ.le c i:Int)
theorem Rb.node (h:Kps n ne fr to σ) (k:∀v,v<n→σ.base v=v) (hb:b<n):Rb n σ (upf σ.base b b) σ.mb b b:=by
  refine ⟨upf_same,fun c hc=>upf_ne fun e=>hc (by rw [e]; exact .here b),fun w _=>rfl,⟨fun w hw=>?_,fun c hc hcb=>?_⟩,fun w=>.inl rfl⟩
  · show upf σ.base b b w=w
    by_cases e:w=b
    · rw [e,upf_same]
    · rw [upf_ne e]; exact k w hw
  · have h1:c≤b:=Kin.le h.upg hcb
    have h2:n≤c:=hc.1
    omega
theorem Kps.kapart (h:Kps n ne fr to σ) (hb:σ.Lv n b) {i j:Nat} (hi:i<σ.kn b) (hj:j<σ.kn b) (hne:i≠j) (k:Kin σ.up x (σ.kd b i)):¬Kin σ.up x (σ.kd b j):=fun k'=>hne (h.kidn hb hi hj k k')
theorem RbI.start {f:Nat→Nat} {g:Nat→Int} {a:Nat} (h:Kps n ne fr to σ) (k:BasI n σ b) (hb:σ.Lv n b) (ha:a<σ.kn b) (hv:Kin σ.up v (σ.kd b a)) (hr:Rb n (σ.wb (upf σ.base b v) σ.mb) f g (σ.kd b a) v):RbI n σ f g b v a 1:=by
  have hka:=h.kid b a hb ha
  have nb:¬Kin σ.up b (σ.kd b a):=fun hk=>by have:=hk.le h.upg; omega
  refine ⟨?_,fun c hc=>?_,fun w hw=>?_,hr.bs.nd,fun i hi=>?_,hr.bb,fun i hi hi'=>by omega,hr.tg⟩
  · rw [hr.bo b nb]; exact upf_same
  · rw [hr.bo c fun hk=>hc (hk.trans (.one hka.2))]
    exact upf_ne fun e=>hc (by rw [e]; exact .here b)
  · exact hr.mo w (hw.imp (fun h1 h2=>h1 (h.kin hb ha h2)) id)
  · by_cases e:i=a
    · rw [e]; exact hr.bs
    · have hki:=h.kid b i hb hi
      refine (k.part (.one hki.2)).frame h (fun c hc=>?_) hr.bs.nd fun w hw=>hr.mo w (.inl (h.kapart hb hi ha e hw))
      rw [hr.bo c (h.kapart hb hi ha e hc)]
      exact upf_ne fun e'=>by have:=hc.le h.upg; omega
theorem RbI.step {f f1 f2:Nat→Nat} {g g1 g2:Nat→Int} {a q:Nat} (h:Kps n ne fr to σ) (hb:σ.Lv n b) (ha:a<σ.kn b) (k:RbI n σ f g b v a q) (hq:q%2=1) (hqk:q<σ.kn b)
    (r1:Rb n (σ.wb f g) f1 g1 (σ.kd b ((a+q)%σ.kn b)) (σ.li b ((a+q)%σ.kn b))) (r2:Rb n (σ.wb f1 g1) f2 g2 (σ.kd b ((a+q+1)%σ.kn b)) (σ.lo b ((a+q)%σ.kn b))) :
    RbI n σ f2 (upf (upf g2 (σ.li b ((a+q)%σ.kn b)) (σ.le b ((a+q)%σ.kn b):Int)) (σ.lo b ((a+q)%σ.kn b)) (σ.le b ((a+q)%σ.kn b):Int)) b v a (q+2):=by
  have h3:=(h.odd b hb).2
  have ho:=(h.odd b hb).1
  have hq1:q+1<σ.kn b:=by omega
  obtain ⟨j,ej⟩:∃j,j=(a+q)%σ.kn b:=⟨_,rfl⟩
  obtain ⟨j',ej'⟩:∃j',j'=(a+q+1)%σ.kn b:=⟨_,rfl⟩
  have hj:j<σ.kn b:=by rw [ej]; exact Nat.mod_lt _ (by omega)
  have hj':j'<σ.kn b:=by rw [ej']; exact Nat.mod_lt _ (by omega)
  have rel:∀r s,r<σ.kn b→s<σ.kn b→(a+r)%σ.kn b=(a+s)%σ.kn b→r=s:=fun r s hr hs e=>mod_inj hr hs e
  have ea:a=(a+0)%σ.kn b:=by rw [Nat.add_zero,Nat.mod_eq_of_lt ha]
  have nja:j≠a:=fun e=>by have:=rel q 0 hqk (by omega) (by rw [←ej,←ea]; exact e); omega
  have nja':j'≠a:=fun e=>by have:=rel (q+1) 0 hq1 (by omega) (by rw [←Nat.add_assoc,←ej',←ea]; exact e); omega
  have njj:j≠j':=fun e=>by have:=rel q (q+1) hqk hq1 (by rw [←Nat.add_assoc,←ej',←ej]; exact e); omega
  rw [←ej] at r1 r2 ⊢
  rw [←ej'] at r2
  obtain ⟨l1,l2,l3,l4⟩:=h.lnk b j hb hj
  have hs:(j+1)%σ.kn b=j':=by rw [ej,ej',Nat.mod_add_mod]
  rw [hs] at l4
  obtain ⟨x,ex⟩:∃x,x=σ.li b j:=⟨_,rfl⟩
  obtain ⟨w,ew⟩:∃w,w=σ.lo b j:=⟨_,rfl⟩
  obtain ⟨e,ee⟩:∃e,e=(σ.le b j:Int):=⟨_,rfl⟩
  rw [←ex] at r1 l3 ⊢
  rw [←ew] at r2 l4 ⊢
  rw [←ee]
  have kj:=h.kid b j hb hj
  have kj':=h.kid b j' hb hj'
  have hxw:x≠w:=fun e'=>h.kapart hb hj hj' njj l3 (e'▸l4)
  have fo:∀c,¬Kin σ.up c (σ.kd b j)→¬Kin σ.up c (σ.kd b j')→f2 c=f c:=fun c h1 h2=>(r2.bo c h2).trans (r1.bo c h1)
  have go:∀u,¬Kin σ.up u (σ.kd b j)→¬Kin σ.up u (σ.kd b j')→g2 u=g u:=fun u h1 h2=>(r2.mo u (.inl h2)).trans (r1.mo u (.inl h1))
  have gat:∀u,upf (upf g2 x e) w e u=if u=x∨u=w then e else g2 u:=fun u=>by
    by_cases c1:u=w
    · subst c1; simp [upf_same]
    · rw [upf_ne c1]
      by_cases c2:u=x
      · subst c2; simp [upf_same]
      · rw [upf_ne c2]; simp [c1,c2]
  have fx:f2 (σ.kd b j)=x:=by rw [r2.bo _ (h.kapart hb hj hj' njj (.here _))]; exact r1.bb
  have fw:f2 (σ.kd b j')=w:=r2.bb
  have inb:∀u,(u=x∨u=w)→Kin σ.up u b:=fun u hu=>by
    rcases hu with rfl | rfl
    · exact h.kin hb hj l3
    · exact h.kin hb hj' l4
  have nov:∀i,i<σ.kn b→i≠j→i≠j'→∀u,Kin σ.up u (σ.kd b i)→u≠x∧u≠w:=fun i hi h1 h2 u hu=>
    ⟨fun e'=>h.kapart hb hi hj h1 hu (e'▸l3),fun e'=>h.kapart hb hi hj' h2 hu (e'▸l4)⟩
  have nbk:∀i,i<σ.kn b→¬Kin σ.up b (σ.kd b i):=fun i hi hk=>by have:=hk.le h.upg; have:=(h.kid b i hb hi).1; omega
  have fva:f2 (σ.kd b a)=v:=by
    rw [fo _ (h.kapart hb ha hj nja.symm (.here _)) (h.kapart hb ha hj' nja'.symm (.here _))]; exact k.ka
  have vka:BasI n (σ.wb f g) (σ.kd b a):=k.ks a ha
  have hva:Kin σ.up v (σ.kd b a):=by
    have hk:=h.kid b a hb ha
    have:=(BasI.within (h.wb (f:=f) (g:=g)) _ (h.up_lt hk.2).1 (by rw [show (σ.wb f g).up=σ.up from rfl,hk.2]; omega) vka).1
    rw [show (σ.wb f g).base (σ.kd b a)=v from k.ka] at this
    exact this
  have hvx:=nov a ha nja.symm nja'.symm v hva
  refine ⟨?_,fun c hc=>?_,fun u hu=>?_,r2.bs.nd,fun i hi=>?_,fva,fun i hi hi'=>?_,fun u=>?_⟩
  · rw [fo b (nbk j hj) (nbk j' hj')]; exact k.bb
  · rw [fo c (fun hk=>hc (hk.trans (.one kj.2))) fun hk=>hc (hk.trans (.one kj'.2))]
    exact k.bo c hc
  · have n1:¬(u=x∨u=w):=fun h'=>by
      rcases hu with hu | hu
      · exact hu (inb u h')
      · subst hu; exact h'.elim hvx.1 hvx.2
    rw [gat,if_neg n1]
    have n2:¬Kin σ.up u (σ.kd b j)∧¬Kin σ.up u (σ.kd b j'):=by
      rcases hu with hu | hu
      · exact ⟨fun hk=>hu (h.kin hb hj hk),fun hk=>hu (h.kin hb hj' hk)⟩
      · subst hu; exact ⟨h.kapart hb ha hj nja.symm hva,h.kapart hb ha hj' nja'.symm hva⟩
    rw [go u n2.1 n2.2]
    exact k.mo u hu
  · by_cases c1:i=j
    · subst c1
      have hb1:BasI n (σ.wb f2 g2) (σ.kd b i):=BasI.frame (σ:=σ.wb f1 g1) (h.wb (f:=f1) (g:=g1)) r1.bs (fun c hc=>r2.bo c (h.kapart hb hi hj' njj hc)) r2.bs.nd fun u hu=>r2.mo u (.inl (h.kapart hb hi hj' njj hu))
      exact BasI.setmb (σ:=σ.wb f2 g2) (h.wb (f:=f2) (g:=g2)) (h.up_lt kj.2).1 (by rw [show (σ.wb f2 g2).up=σ.up from rfl,kj.2]; omega) hb1 fun u hne hu=>by
        have hne:u≠f2 (σ.kd b i):=hne
        rw [fx] at hne
        rw [gat,if_neg]; rfl
        rintro (h' | h')
        · exact hne h'
        · exact h.kapart hb hi hj' njj hu (h'▸l4)
    · by_cases c2:i=j'
      · subst c2
        exact BasI.setmb (σ:=σ.wb f2 g2) (h.wb (f:=f2) (g:=g2)) (h.up_lt kj'.2).1 (by rw [show (σ.wb f2 g2).up=σ.up from rfl,kj'.2]; omega) r2.bs fun u hne hu=>by
          have hne:u≠f2 (σ.kd b i):=hne
          rw [fw] at hne
          rw [gat,if_neg]; rfl
          rintro (h' | h')
          · exact h.kapart hb hi hj (Ne.symm njj) hu (h'▸l3)
          · exact hne h'
      · refine BasI.frame (σ:=σ.wb f g) (h.wb (f:=f) (g:=g)) (k.ks i hi) (fun c hc=>fo c (h.kapart hb hi hj c1 hc) (h.kapart hb hi hj' c2 hc)) r2.bs.nd fun u hu=>?_
        obtain ⟨n1,n2⟩:=nov i hi c1 c2 u hu
        rw [gat,if_neg (fun h'=>h'.elim n1 n2)]
        exact go u (h.kapart hb hi hj c1 hu) (h.kapart hb hi hj' c2 hu)
  · by_cases ci:i=q
    · subst ci
      rw [←ej,←ej',←ex,←ew,←ee]
      exact ⟨fx,fw,by rw [gat,if_pos (.inl rfl)],by rw [gat,if_pos (.inr rfl)]⟩
    · have hiq:i<q:=by omega
      obtain ⟨p1,p2,p3,p4⟩:=k.pr i hi hiq
      obtain ⟨t,et⟩:∃t,t=(a+i)%σ.kn b:=⟨_,rfl⟩
      obtain ⟨t',et'⟩:∃t',t'=(a+i+1)%σ.kn b:=⟨_,rfl⟩
      have ht:t<σ.kn b:=by rw [et]; exact Nat.mod_lt _ (by omega)
      have ht':t'<σ.kn b:=by rw [et']; exact Nat.mod_lt _ (by omega)
      have d1:t≠j:=fun e'=>by have:=rel i q (by omega) hqk (by rw [←ej,←et]; exact e'); omega
      have d2:t≠j':=fun e'=>by have:=rel i (q+1) (by omega) hq1 (by rw [←Nat.add_assoc,←ej',←et]; exact e'); omega
      have d3:t'≠j:=fun e'=>by have:=rel (i+1) q (by omega) hqk (by rw [←Nat.add_assoc,←ej,←et']; exact e'); omega
      have d4:t'≠j':=fun e'=>by have:=rel (i+1) (q+1) (by omega) hq1 (by rw [←Nat.add_assoc,←Nat.add_assoc,←ej',←et']; exact e'); omega
      rw [←et] at p1 p2 p3 p4
      rw [←et'] at p2
      rw [←et,←et']
      obtain ⟨m1,m2,m3,m4⟩:=h.lnk b t hb ht
      have hst:(t+1)%σ.kn b=t':=by rw [et,et',Nat.mod_add_mod]
      rw [hst] at m4
      obtain ⟨z1,z2⟩:=nov t ht d1 d2 _ m3
      obtain ⟨z3,z4⟩:=nov t' ht' d3 d4 _ m4
      refine ⟨?_,?_,?_,?_⟩
      · rw [fo _ (h.kapart hb ht hj d1 (.here _)) (h.kapart hb ht hj' d2 (.here _))]; exact p1
      · rw [fo _ (h.kapart hb ht' hj d3 (.here _)) (h.kapart hb ht' hj' d4 (.here _))]; exact p2
      · rw [gat,if_neg (fun h'=>h'.elim z1 z2),go _ (h.kapart hb ht hj d1 m3) (h.kapart hb ht hj' d2 m3)]; exact p3
      · rw [gat,if_neg (fun h'=>h'.elim z3 z4),go _ (h.kapart hb ht' hj d3 m4) (h.kapart hb ht' hj' d4 m4)]; exact p4
  · rw [gat]
    by_cases cu:u=x∨u=w
    · rw [if_pos cu]
      exact .inr ⟨b,j,hb,hj,ee⟩
    · rw [if_neg cu]
      rcases r2.tg u with t1 | t1
      · rw [t1]
        rcases r1.tg u with t2 | t2
        · rw [show (σ.wb f1 g1).mb u=g1 u from rfl,t2]
          exact k.tg u
        · exact .inr t2
      · exact .inr t1
theorem RbI.fin {f:Nat→Nat} {g:Nat→Int} {a q:Nat} (h:Kps n ne fr to σ) (hb:σ.Lv n b) (ha:a<σ.kn b) (k:RbI n σ f g b v a q) (hq:σ.kn b≤q):Rb n σ f g b v:=by
  refine ⟨k.bb,k.bo,k.mo,⟨k.nd,fun c hc hcb=>?_⟩,k.tg⟩
  by_cases e:c=b
  · subst e
    exact ⟨a,ha,k.bb.trans k.ka.symm,fun i hi hik=>k.pr i hi (Nat.lt_of_lt_of_le hik hq)⟩
  · obtain ⟨i,hi,hci⟩:=h.which hb hcb e
    exact (k.ks i hi).kn c hc hci
end
end Go.Mz
/-
  look of the package vouch: it runs a function and answers the code that this gives up with by panic, or OK. Told of plain heaps; by the kit's laws of deferred calls.
-/
namespace Go.Mz
open Go.Proofs
theorem undR (w:World):∃fs,(underlying 130).run P0 w=.ok (.struct fs) w:=by
  obtain ⟨d,hd,e,_⟩:=(T0_ok.of_kinds (t:=130) (fun e=>by cases e)).run_und
  obtain ⟨fs,rfl,_⟩:=dOf_st (d:=d) (l:=[(0,31)]) (by rw [e]; rfl)
  exact ⟨fs,hd w⟩
theorem ta_hit (c:Int) (w:World):(Instr.typeAssert (.iface 130 (.agg #[.int .i64 c])) 20 130 true).run P0 w=.ok (.tuple #[.agg #[.int .i64 c],.bool true]) w:=by
  obtain ⟨fs,h⟩:=undR w
  simp [Instr.typeAssert,h]
theorem zeroR (w:World):(zeroValue 130).run P0 w=.ok (.agg #[.int .i64 0]) w:=by
  simp [go_sem]
theorem ta_nil (w:World):(Instr.typeAssert .nilIface 20 130 true).run P0 w=.ok (.tuple #[.agg #[.int .i64 0],.bool false]) w:=by
  obtain ⟨fs,h⟩:=undR w
  simp [Instr.typeAssert,h,zeroR]
theorem hp_alloc (w:World) (c:Array Value) (e:TypeId):hp (w.alloc (.cells c e))=(hp w).upd w.heap.size ⟨c.toList,e⟩:=hp_push w c e
theorem catch_pan {b:Nat} {x c:Int} {w:World} (hb:hp w b=some ⟨[.int .i64 x],31⟩) :
    CallsD P0 71 #[.pointer (some ⟨b,0,none⟩)] (.panicking [{ v:=.iface 130 (.agg #[.int .i64 c]),recovered:=false }]) w fun e u' w'=>
      e=.returned (.tuple #[])∧u'=.panicking [{ v:=.iface 130 (.agg #[.int .i64 c]),recovered:=true }]∧Rest w w'∧hp w' b=some ⟨[.int .i64 c],31⟩∧Step (·=b) (hp w) (hp w'):=by
  have hne:b≠w.heap.size:=fun e=>by have:=hp_lt hb; omega
  have h1:hp (w.alloc (.cells #[.int .i64 0] 130)) w.heap.size=some ⟨[.int .i64 0],130⟩:=by rw [hp_alloc]; exact upd_same
  have h1b:hp (w.alloc (.cells #[.int .i64 0] 130)) b=some ⟨[.int .i64 x],31⟩:=by rw [hp_alloc,upd_ne hne]; exact hb
  have h2:=hp_setCell (o:=0) h1 (.int .i64 c)
  have h2b:hp ((w.alloc (.cells #[.int .i64 0] 130)).setCell ⟨w.heap.size,0,none⟩ (.int .i64 c)) b=some ⟨[.int .i64 x],31⟩:=by rw [h2,upd_ne hne]; exact h1b
  have h3:=hp_setCell (o:=0) h2b (.int .i64 c)
  have hc:=cell_of_hp (w:=(w.alloc (.cells #[.int .i64 0] 130)).setCell ⟨w.heap.size,0,none⟩ (.int .i64 c)) (b:=b) (o:=0) (v:=.int .i64 x) (by rw [Hp.get_of h2b]; rfl)
  have hz:=frozen_of_hp (o:=0) h1b rfl
  refine CallsD.mono (R:=fun e u' w'=>e=.returned (.tuple #[])∧u'=.panicking [{ v:=.iface 130 (.agg #[.int .i64 c]),recovered:=true }]∧w'=((w.alloc (.cells #[.int .i64 0] 130)).setCell ⟨w.heap.size,0,none⟩ (.int .i64 c)).setCell ⟨b,0,none⟩ (.int .i64 c)) ?_ ?_
  · refine callsD_of_wpS Try.func71 rfl fun c₀ cs hu=>?_
    apply wpS_seq
    apply wpS_region
    simp [wpOpsS,go_sem,recoverD,hu,Try.ntmps71,Exit.thenS,ta_hit]
    apply wpS_seq
    apply wpS_region
    simp [wpOpsS,go_sem,Exit.thenS]
    refine wpS_cond (t:=true) (by simp [Act.eval,Array.replicate]) ?_
    simp only [if_true]
    apply wpS_region
    simp [wpOpsS,go_sem,hc,hz,bodyPostS,results,Try.results71]
  · rintro e u' w' ⟨rfl,rfl,rfl⟩
    refine ⟨rfl,rfl,((rest_push w _).trans (rest_setCell h1 _)).trans (rest_setCell h2b _),by rw [h3,upd_same]; rfl,?_⟩
    rw [h3]
    have s1:Step (fun _=>False) (hp w) (hp (w.alloc (.cells #[.int .i64 0] 130))):=by rw [hp_alloc]; exact Step.new (hp_size w)
    have s2:Step (·=w.heap.size) (hp (w.alloc (.cells #[.int .i64 0] 130))) (hp ((w.alloc (.cells #[.int .i64 0] 130)).setCell ⟨w.heap.size,0,none⟩ (.int .i64 c))):=by rw [h2]; exact Step.wr h1 rfl
    exact ((s1.weak fun _ h=>h.elim).trans s2 fun b' hb'=>.inr (hb'▸hp_size w)).trans (Step.wr (F:=(·=b)) h2b rfl) fun _ h=>.inl h
theorem catch_idle (p:Addr) (w:World) :
    CallsD P0 71 #[.pointer (some p)] .returning w fun e u' w'=>e=.returned (.tuple #[])∧u'=.returning∧Rest w w'∧Step (fun _=>False) (hp w) (hp w'):=by
  refine CallsD.mono (R:=fun e u' w'=>e=.returned (.tuple #[])∧u'=.returning∧w'=(w.alloc (.cells #[.int .i64 0] 130)).setCell ⟨w.heap.size,0,none⟩ (.int .i64 0)) ?_ ?_
  · refine callsD_of_wpS Try.func71 rfl fun c₀ cs hu=>?_
    apply wpS_seq
    apply wpS_region
    simp [wpOpsS,go_sem,recoverD,hu,Try.ntmps71,Exit.thenS,ta_nil]
    apply wpS_seq
    apply wpS_region
    simp [wpOpsS,go_sem,Exit.thenS]
    refine wpS_cond (t:=false) (by simp [Act.eval,Array.replicate]) ?_
    simp only [Bool.false_eq_true,if_false]
    refine wpS_of_wp (wp_skip ?_)
    cases c₀
    simp_all [bodyPostS,results,Try.results71]
  · rintro e u' w' ⟨rfl,rfl,rfl⟩
    have h1:hp (w.alloc (.cells #[.int .i64 0] 130)) w.heap.size=some ⟨[.int .i64 0],130⟩:=by rw [hp_alloc]; exact upd_same
    refine ⟨rfl,rfl,(rest_push w _).trans (rest_setCell h1 _),?_⟩
    have s1:Step (fun _=>False) (hp w) (hp (w.alloc (.cells #[.int .i64 0] 130))):=by rw [hp_alloc]; exact Step.new (hp_size w)
    have s2:Step (·=w.heap.size) (hp (w.alloc (.cells #[.int .i64 0] 130))) (hp ((w.alloc (.cells #[.int .i64 0] 130)).setCell ⟨w.heap.size,0,none⟩ (.int .i64 0))):=by rw [hp_setCell h1]; exact Step.wr h1 rfl
    exact (s1.weak fun _ h=>h.elim).trans s2 fun b' hb'=>.inr (hb'▸hp_size w)
theorem vlook {g:Nat} {k:List Value} {E:VP} {H:Hp} {K:Int→Hp→Prop} (hg:T0.fok g=true)
    (h:∀b H1,H b=none→H1 b=some ⟨[.int .i64 0],31⟩→Step (fun _=>False) H H1→
      callW P0 g k (fun _ H2=>H2 b=some ⟨[.int .i64 0],31⟩∧∀H3,Step (·=b) H2 H3→K 0 H3)
        (fun v H2=>∃c,v=.iface 130 (.agg #[.int .i64 c])∧H2 b=some ⟨[.int .i64 0],31⟩∧∀H3,Step (·=b) H2 H3→K c H3) H1) :
    Q16.call g k E H K:=by
  intro w hw
  subst hw
  have hmf:∀(fn:Fn) (first cap:Array Value) (w:World),(Instr.makeFunc fn first cap).run P0 w=.ok (.func fn first cap) w:=fun _ _ _ _=>rfl
  refine calls_of_wp_defers Try.func40 rfl ?_
  apply wp_seq
  apply wp_region
  simp [wpOps,go_sem,Try.ntmps40,hmf]
  left
  apply wp_seq
  apply wp_region
  simp [wpOps,go_sem,Try.ntmps40,hmf,Exit.then]
  left
  left
  apply wp_seq
  apply wp_region
  simp [wpOps,go_sem,Try.ntmps40,hmf,Exit.then]
  left
  left
  rw [run_callFunc T0_ok hg]
  simp only [Oper.upon]
  have hs:=hp_size w
  have e1:hp (w.alloc (.cells #[.int .i64 0] 31)) w.heap.size=some ⟨[.int .i64 0],31⟩:=by rw [hp_alloc]; exact upd_same
  have s1:Step (fun _=>False) (hp w) (hp (w.alloc (.cells #[.int .i64 0] 31))):=by rw [hp_alloc]; exact Step.new hs
  have r1:Rest w (w.alloc (.cells #[.int .i64 0] 31)):=rest_push w _
  refine (h _ _ hs e1 s1 _ rfl).mono ?_
  rintro e w2 ⟨r2,he⟩
  split at he
  · obtain ⟨e2,hk⟩:=he
    simp only [Oper.upon]
    have hc:=cell_of_hp (w:=w2) (b:=w.heap.size) (o:=0) (v:=.int .i64 0) (by rw [Hp.get_of e2]; rfl)
    have hz:=frozen_of_hp (o:=0) e2 rfl
    have h3:=hp_setCell (o:=0) e2 (.int .i64 0)
    have e3:hp (w2.setCell ⟨w.heap.size,0,none⟩ (.int .i64 0)) w.heap.size=some ⟨[.int .i64 0],31⟩:=by rw [h3,upd_same]; rfl
    have s3:Step (·=w.heap.size) (hp w2) (hp (w2.setCell ⟨w.heap.size,0,none⟩ (.int .i64 0))):=by rw [h3]; exact Step.wr e2 rfl
    apply wp_seq
    apply wp_region
    simp [wpOps,go_sem,Exit.then,hc,hz]
    left
    apply wp_ret
    simp only [bodyPostD]
    refine leaves_cons (f:=71) (args:=#[.pointer (some ⟨w.heap.size,0,none⟩)]) (by simp) (by simp [invoke,run_callFunc T0_ok (f:=71) rfl]) ?_
    refine (catch_idle ⟨w.heap.size,0,none⟩ _).mono ?_
    rintro e u' w4 ⟨rfl,rfl,r4,s4⟩
    have e4:=s4.keep _ _ e3 fun h=>h
    have hl:=cell_of_hp (w:=w4) (b:=w.heap.size) (o:=0) (v:=.int .i64 0) (by rw [Hp.get_of e4]; rfl)
    have hk':=hk _ (s3.trans (s4.weak fun _ h=>h.elim) fun _ h=>.inl h)
    have rr:=((r1.trans r2).trans (rest_setCell (o:=0) e2 (.int .i64 0))).trans r4
    simp [Leaves,settle,results,Try.results40,go_sem,hl]
    exact ⟨rr,hk'⟩
  · obtain ⟨hr,hgo,c,hv,e2,hk⟩:=he
    rename_i c0
    obtain ⟨v0,rec0,go0⟩:=c0
    simp only at hr hgo hv
    subst hr hgo hv
    simp only [Oper.upon,Exit.then,bodyPostD]
    refine leaves_cons (f:=71) (args:=#[.pointer (some ⟨w.heap.size,0,none⟩)]) (by simp) (by simp [invoke,run_callFunc T0_ok (f:=71) rfl]) ?_
    refine (catch_pan e2).mono ?_
    rintro e u' w4 ⟨rfl,rfl,r4,e4,s4⟩
    have hl:=cell_of_hp (w:=w4) (b:=w.heap.size) (o:=0) (v:=.int .i64 c) (by rw [Hp.get_of e4]; rfl)
    have hk':=hk _ s4
    have rr:=(r1.trans r2).trans r4
    simp [Leaves,settle,results,Try.results40,go_sem,hl]
    exact ⟨rr,hk'⟩
  · exact he.elim
end Go.Mz
/-
  Walks of layer 12, the first: Check, need, right, rising, loop, one, cost, marked.
-/
namespace Go.Mz
section
variable {E:VP}
theorem glabel {a b c d:Int} {H:Hp} {K:Bool→Hp→Prop} (k:∀H',Step (fun _=>False) H H'→K (decide (0≤c∧c≤1048576∧-1048576≤d∧d≤1048576)) H'):Q40.call a b c d E H K:=by
  refine Q40.of (Q40.run_eq ?_)
  unfold Q40.run_t
  refine nwk fun b1 H1 hb1 e1 s1=>?_
  simp only [get_at e1,gZ,gS,ldI_mk]
  have k:=k H1 s1
  refine bc (fun h0=>?_) fun h0=>?_
  · refine bc (fun h1=>?_) fun h1=>?_
    · refine bc (fun h2=>?_) fun h2=>?_
      · by_cases h3:d≤1048576
        · rw [decide_eq_true h3]; rwa [decide_eq_true (by omega)] at k
        · rw [decide_eq_false h3]; rwa [decide_eq_false (by omega)] at k
      · rwa [decide_eq_false (by omega)] at k
    · rwa [decide_eq_false (by omega)] at k
  · rwa [decide_eq_false (by omega)] at k
theorem gcheckA {N:Int} {p:OA} {n c:Nat} {e:Nat→Edg} {H:Hp} {K:Int→Int→Hp→Prop} (he:Rdr H p n e) (hn:n<2 ^ 63)
    (k:∀H' a,Step (fun _=>False) H H'→ChkAt N n e a→K (chk N n e) a H'):Q25.call N p n c E H K:=by
  refine Q25.of (Q25.run_eq ?_)
  unfold Q25.run_t
  refine nwk fun b1 H1 hb1 e1 s1=>?_
  refine nwk fun b2 H2 hb2 e2 s2=>?_
  have e1:=s2.keep _ _ e1 fun h=>h
  have s02:=s1.trans s2 fun _ h=>.inl h
  have f2:H b2=none:=s1.mono _ hb2
  simp only [get_at e1,gZ,gS,ldI_mk,ldS_mk]
  have bad:(N<0∨1024<N∨4096<n)→Q25.j1 b2 E H2 K:=fun hs=>by
    have hc:3=chk N n e:=by unfold chk; rw [if_pos hs]
    refine Q25.j1_eq ?_
    unfold Q25.j1_t
    refine stk e2 rfl rfl fun H3 e3 s3=>?_
    simp only [get_at e3,gZ,gS,ldI_mk]
    rw [hc]
    exact k _ _ (s02.own s3 fun b hb=>hb▸f2) (ChkAt.none (.inl hs))
  refine bc (fun h=>bad (by omega)) fun h1=>?_
  refine bc (fun h=>bad (by omega)) fun h2=>?_
  refine bc (fun h=>bad (by omega)) fun h3=>?_
  have hc:chk N n e=chkE N e n:=by unfold chk; rw [if_neg (by omega)]
  refine Q25.l1_rule (fun g1 t2 tp tn tc t22 t23 H'=>b1=g1∧b2=t2∧p=tp∧n=tn∧t22=n∧∃i:Nat,t23=i∧i≤n∧chkE N e i=0∧Step (fun _=>False) H H'∧H' b1=some ⟨[.int .i64 N,.slice p n c],24⟩∧H' b2=some ⟨[.int .i64 0,.int .i64 0],97⟩)
    (fun g1 t2 tp tn tc t22 t23 H'=>n-t23.toNat) ?_ ⟨rfl,rfl,rfl,rfl,rfl,0,rfl,by omega,rfl,s02,e1,e2⟩
  clear e1 e2 s1 s2 s02 bad hb2
  rintro g1 t2 tp tn tc t22 t23 H3 ⟨rfl,rfl,rfl,rfl,rfl,i,rfl,hi,hz,s3,e1,e2⟩ X hX
  refine Q25.b1_eq ?_
  unfold Q25.b1_t
  refine bc (fun hlt=>?_) fun hge=>?_
  · refine (he.keep s3 fun _ _ _ h=>h).edge (by omega) (by omega) ?_
    simp only [tN]
    refine nwst rfl rfl fun b4 H4 hb4 e4 s4=>?_
    have e1:=s4.keep _ _ e1 fun h=>h
    have e2:=s4.keep _ _ e2 fun h=>h
    have s04:=s3.trans s4 fun _ h=>.inl h
    simp only [get_at e4,get_at e1,gZ,gS,ldI_mk,ldS_mk]
    have fin:∀d:Nat,n=i+1+d→∀z,badE N (e i)=z→z≠0→chk N n e=z:=fun d hd z hb hz'=>by
      have h1:chkE N e (i+1)=z:=by
        show (if chkE N e i=0 then badE N (e i) else chkE N e i)=z
        rw [if_pos hz,hb]
      rw [hc,hd,chkE_stay (by rw [h1]; exact hz'),h1]
    have bad:((e i).fr<0∨N≤(e i).fr∨(e i).to<0∨N≤(e i).to)→Q25.j2 b2 (i:Int) X E H4 K:=fun hb=>by
      refine Q25.j2_eq ?_
      unfold Q25.j2_t
      refine stk e2 rfl rfl fun H5 e5 s5=>?_
      simp only [get_at e5,gZ,gS,ldI_mk]
      have:=k H5 i (s04.own s5 fun b hb=>hb▸f2) (ChkAt.here (by omega) (by omega) hz (by unfold badE; rw [if_pos hb]; decide))
      rwa [fin (n-(i+1)) (by omega) 30 (by unfold badE; rw [if_pos hb]) (by decide)] at this
    refine bc (fun h=>bad (.inl h)) fun c1=>?_
    refine bc (fun h=>bad (.inr (.inl h))) fun c2=>?_
    refine bc (fun h=>bad (.inr (.inr (.inl h)))) fun c3=>?_
    refine bc (fun h=>bad (.inr (.inr (.inr h)))) fun c4=>?_
    refine glabel fun H5 s5=>?_
    have e2:=s5.keep _ _ e2 fun h=>h
    have e1:=s5.keep _ _ e1 fun h=>h
    have s05:=s04.trans s5 fun _ h=>.inl h
    refine bcn (fun hl=>?_) fun hl=>?_
    · refine stk e2 rfl rfl fun H6 e6 s6=>?_
      simp only [get_at e6,gZ,gS,ldI_mk]
      have:=k H6 i (s05.own s6 fun b hb=>hb▸f2) (ChkAt.here (by omega) (by omega) hz (by unfold badE; rw [if_neg (by omega),if_neg hl]; decide))
      rwa [fin (n-(i+1)) (by omega) 31 (by unfold badE; rw [if_neg (by omega),if_neg hl]) (by decide)] at this
    · rw [i64w (by omega) (by omega)]
      refine hX _ _ _ _ _ _ _ _ ⟨rfl,rfl,rfl,rfl,rfl,i+1,by omega,by omega,?_,s05,e1,e2⟩ (by omega)
      show (if chkE N e i=0 then badE N (e i) else chkE N e i)=0
      rw [if_pos hz]; unfold badE; rw [if_neg (by omega),if_pos hl]
  · refine Q25.j3_eq ?_
    unfold Q25.j3_t
    have:i=n:=by omega
    subst this
    refine stk e2 rfl rfl fun H5 e5 s5=>?_
    simp only [get_at e5,gZ,gS,ldI_mk]
    have:=k H5 0 (s3.own s5 fun b hb=>hb▸f2) (ChkAt.none (.inr hz))
    rwa [hc,hz] at this
theorem gcheck {N:Int} {p:OA} {n c:Nat} {e:Nat→Edg} {H:Hp} {K:Int→Int→Hp→Prop} (he:Rdr H p n e) (hn:n<2 ^ 63)
    (k:∀H' a,Step (fun _=>False) H H'→K (chk N n e) a H'):Q25.call N p n c E H K:=gcheckA he hn fun H' a s _=>k H' a s
def pv (c:Int):Value:=.iface 130 (.agg ⟨[.int .i64 c]⟩)
theorem vneed {ok:Bool} {c:Int} {H:Hp} {K:Hp→Prop} (k:ok=true→K H) (e:ok=false→E (pv c) H):Q21.call ok c E H K:=by
  refine Q21.of (Q21.run_eq ?_)
  unfold Q21.run_t
  cases ok with
  | true=>exact k rfl
  | false=>exact e rfl
theorem vneedD {p:Prop} [Decidable p] {c:Int} {H:Hp} {K:Hp→Prop} (k:p→K H) (e:¬p→E (pv c) H):Q21.call (decide p) c E H K:=
  vneed (fun h=>k (of_decide_eq_true h)) fun h=>e (of_decide_eq_false h)
theorem vright {N:Int} {p:OA} {n c:Nat} {e:Nat→Edg} {H:Hp} {K:Hp→Prop} (he:Rdr H p n e) (hn:n<2 ^ 63)
    (k:∀H',Step (fun _=>False) H H'→Right N n e→K H') (b:∀H',Step (fun _=>False) H H'→chk N n e≠0→E (pv (chk N n e)) H'):Q18.call N p n c E H K:=by
  refine Q18.of (Q18.run_eq ?_)
  unfold Q18.run_t
  refine nwk fun b1 H1 hb1 e1 s1=>?_
  simp only [get_at e1,gZ,gS,ldI_mk,ldS_mk]
  refine gcheck (he.keep s1 fun _ _ _ h=>h) hn fun H2 a s2=>?_
  refine nwst rfl rfl fun b3 H3 hb3 e3 s3=>?_
  simp only [get_at e3,gZ,gS,ldI_mk,ldS_mk]
  have s03:=(s1.trans s2 fun _ h=>.inl h).trans s3 fun _ h=>.inl h
  exact vneedD (fun h=>k _ s03 (chk_zero.1 h)) fun h=>b _ s03 h
theorem vrising {p:OA} {k c:Nat} {n:Int} {m:Nat→Int} {H:Hp} {K:Hp→Prop} (hm:Rdr H p k m) (hk:k<2 ^ 63)
    (kk:Ris m k n→K H) (b:¬Ris m k n→E (pv 221) H):Q38.call p k c n E H K:=by
  refine Q38.of (Q38.run_eq ?_)
  unfold Q38.run_t
  refine Q38.l1_rule (fun n1 last tp tn tc t8 t9 H'=>n=n1∧p=tp∧k=tn∧t8=k∧H=H'∧∃i:Nat,t9=i∧i≤k∧Ris m i n∧last=if i=0 then -1 else m (i-1))
    (fun n1 last tp tn tc t8 t9 H'=>k-t9.toNat) ?_ ⟨rfl,rfl,rfl,rfl,rfl,0,rfl,by omega,fun i hi=>by omega,rfl⟩
  rintro n1 last tp tn tc t8 t9 H' ⟨rfl,rfl,rfl,rfl,rfl,i,rfl,hi,hr,rfl⟩ X hX
  refine Q38.b1_eq ?_
  unfold Q38.b1_t
  refine bc (fun hlt=>?_) fun hge=>?_
  · refine hm.ixI (by omega) (by omega) ?_
    simp only [tN]
    refine bc (fun h1=>?_) fun h1=>?_
    · refine vneedD (fun h2=>?_) fun h2=>b fun hh=>h2 (hh i (by omega)).2.1
      refine Q38.j1_eq ?_
      unfold Q38.j1_t
      rw [i64w (by omega) (by omega)]
      refine hX _ _ _ _ _ _ _ _ ⟨rfl,rfl,rfl,rfl,rfl,i+1,by omega,by omega,fun j hj=>?_,by simp⟩ (by omega)
      by_cases e:j=i
      · subst e
        split at h1
        · rename_i e0; subst e0; exact ⟨by omega,h2,fun h=>by omega⟩
        · have:=(hr (j-1) (by omega)).1
          exact ⟨by omega,h2,fun _=>h1⟩
      · exact hr j (by omega)
    · refine vneed (fun h=>by cases h) fun _=>b fun hh=>h1 ?_
      have:=hh i (by omega)
      split
      · omega
      · exact this.2.2 (by omega)
  · have:i=k:=by omega
    subst this
    exact kk hr
theorem vloop {a b c d:Int} {H:Hp} {K:Bool→Hp→Prop} (k:∀H',Step (fun _=>False) H H'→K (decide (a=b)) H'):Q23.call a b c d E H K:=by
  refine Q23.of (Q23.run_eq ?_)
  unfold Q23.run_t
  refine nwk fun b1 H1 hb1 e1 s1=>?_
  simp only [get_at e1,gZ,gS,ldI_mk]
  exact k _ s1
theorem vcost {N:Int} {ep:OA} {n ec:Nat} {e:Nat→Edg} {p:OA} {k c:Nat} {m:Nat→Int} {H:Hp} {K:Int→Hp→Prop} (he:Rdr H ep n e) (hr:Right N n e) (hm:Rdr H p k m) (hs:Ris m k n)
    (kk:∀H',Step (fun _=>False) H H'→K (cst e m k) H'):Q24.call N ep n ec p k c E H K:=by
  have hl:=hs.len
  have hn:=hr.n1
  refine Q24.of (Q24.run_eq ?_)
  unfold Q24.run_t
  refine nwk fun b1 H1 hb1 e1 s1=>?_
  refine Q24.l1_rule (fun g2 n5 tp tn tc t9 t10 H'=>b1=g2∧p=tp∧k=tn∧t9=k∧H1=H'∧∃i:Nat,t10=i∧i≤k∧n5=cst e m i)
    (fun g2 n5 tp tn tc t9 t10 H'=>k-t10.toNat) ?_ ⟨rfl,rfl,rfl,rfl,rfl,0,rfl,by omega,rfl⟩
  rintro g2 n5 tp tn tc t9 t10 H' ⟨rfl,rfl,rfl,rfl,rfl,i,rfl,hi,rfl⟩ X hX
  refine Q24.b1_eq ?_
  unfold Q24.b1_t
  refine bc (fun hlt=>?_) fun hge=>?_
  · refine (hm.keep s1 fun _ _ _ h=>h).ixI (by omega) (by omega) ?_
    simp only [tN,get_at e1,gZ,gS,ldI_mk,ldS_mk]
    have hmi:=hs i (by omega)
    refine (he.keep s1 fun _ _ _ h=>h).edgeC (by omega) (by omega) ?_
    have h1:=cst_bound hr (hs.cut (j:=i) (by omega))
    have h2:=cst_bound hr (hs.cut (j:=i+1) (by omega))
    have h3:cst e m (i+1)=cst e m i+(e (m i).toNat).co:=rfl
    rw [i64w (by omega) (by omega),i64w (by omega) (by omega)]
    exact hX _ _ _ _ _ _ _ _ ⟨rfl,rfl,rfl,rfl,rfl,i+1,by omega,by omega,h3.symm⟩ (by omega)
  · have:i=k:=by omega
    subst this
    exact kk _ s1
open Classical in
theorem vmarked {p:OA} {k c:Nat} {n:Int} {m:Nat→Int} {H:Hp} {K:OA→Nat→Nat→Hp→Prop} (hm:Rdr H p k m) (hk:k<2 ^ 63) (h0:0≤n) (h1:n≤1048576)
    (kk:∀b H',Ris m k n→Step (fun _=>False) H H'→H b=none→Row H' (some ⟨b,0,none⟩) n.toNat n.toNat (fun v=>decide (In m k v))→K (some ⟨b,0,none⟩) n.toNat n.toNat H')
    (bad:¬Ris m k n→E (pv 221) H):Q33.call p k c n E H K:=by
  refine Q33.of (Q33.run_eq ?_)
  unfold Q33.run_t
  refine vrising hm hk (fun hr=>?_) bad
  refine Row.mkB h0 h1 fun b H1 hb r1 s1=>?_
  refine Q33.l1_rule (fun ip inn ic tp tn tc t14 t15 H'=>ip=some ⟨b,0,none⟩∧inn=n.toNat∧ic=n.toNat∧p=tp∧k=tn∧t14=k∧∃i:Nat,t15=i∧i≤k∧Step (fun _=>False) H H'∧Row H' (some ⟨b,0,none⟩) n.toNat n.toNat (fun v=>decide (In m i v)))
    (fun ip inn ic tp tn tc t14 t15 H'=>k-t15.toNat) ?_ ⟨rfl,rfl,rfl,rfl,rfl,rfl,0,rfl,by omega,s1,r1.congr fun v _=>by simp [In]⟩
  clear r1 s1
  rintro ip inn ic tp tn tc t14 t15 H2 ⟨rfl,rfl,rfl,rfl,rfl,rfl,i,rfl,hi,s2,r2⟩ X hX
  refine Q33.b1_eq ?_
  unfold Q33.b1_t
  refine bc (fun hlt=>?_) fun hge=>?_
  · refine (hm.keep s2 fun _ _ _ h=>h).ixI (by omega) (by omega) ?_
    simp only [tN]
    have hmi:=hr i (by omega)
    refine r2.stB (by omega) (by omega) true fun H3 r3 s3=>?_
    rw [i64w (by omega) (by omega)]
    refine hX _ _ _ _ _ _ _ _ _ ⟨rfl,rfl,rfl,rfl,rfl,rfl,i+1,by omega,by omega,s2.own s3 fun b' hb'=>by rw [fpS_mk] at hb'; exact hb'▸hb,r3.congr fun v hv=>?_⟩ (by omega)
    by_cases e:v=(m i).toNat
    · subst e
      rw [upf_same]
      exact (decide_eq_true ⟨i,by omega,by omega⟩).symm
    · rw [upf_ne e]
      refine decide_eq_decide.2 ⟨fun ⟨j,hj,h⟩=>⟨j,by omega,h⟩,fun ⟨j,hj,h⟩=>?_⟩
      by_cases ej:j=i
      · subst ej; omega
      · exact ⟨j,by omega,h⟩
  · have:i=k:=by omega
    subst this
    exact kk _ _ hr s2 hb r2
theorem vone {v:Int} {H:Hp} {K:Int→Hp→Prop} (k:K 1 H):Q20.call v E H K:=by
  refine Q20.of (Q20.run_eq ?_)
  unfold Q20.run_t
  exact k
end
end Go.Mz
/-
  Walks of layer 12, more: matched.
-/
namespace Go.Mz
section
variable {E:VP}
def Fun1 (E:VP) (H:Hp) (g:Nat) (gk:List Value) (N:Int) (most:Int→Int):Prop:=
  T0.fok g=true∧∀(v:Int) (H1:Hp) (K:VP),0≤v→v<N→Step (fun _=>False) H H1→(∀H2,Step (fun _=>False) H1 H2→K (.int .i64 (most v)) H2)→callW P0 g (.int .i64 v :: gk) K E H1
theorem ldR_int {x:Int} {K:Value→Prop} (k:K (.int .i64 x)):ldR (.one false [.i .i64]) (.int .i64 x) K:=k
theorem asR_int {r:Value} {K:Int→Prop} (h:ldR (.one false [.i .i64]) r fun u=>K (asI u)):∃n,r=.int .i64 n∧K n:=by
  have h':ldI .i64 (some r) (fun n=>K (asI (.int .i64 n))):=h
  obtain ⟨n,e,hk⟩:=ldI_spec h'
  cases e
  exact ⟨n,rfl,hk⟩
theorem fun1_one {H:Hp} {N:Int}:Fun1 E H 44 [] N (fun _=>1):=by
  refine ⟨rfl,fun v H1 K _ _ _ k=>?_⟩
  have h:Q20.call v E H1 (fun x H'=>x=1∧K (.int .i64 1) H'):=vone ⟨rfl,k _ .refl⟩
  refine callW_mono (fun r H' hr=>?_) (fun _ _ h=>h) h
  obtain ⟨n,rfl,h1,hk⟩:=asR_int (K:=fun x=>x=1∧K (.int .i64 1) H') hr
  rw [h1]
  exact hk
def dgs (e:Nat→Edg) (m:Nat→Int) (i:Nat) (t:Int) (v:Int):Nat:=
  dg e m i v+(if 1≤t∧(e (m i).toNat).fr=v then 1 else 0)+(if 2≤t∧(e (m i).toNat).to=v then 1 else 0)
theorem dgs_le {e:Nat→Edg} {m:Nat→Int} {i:Nat} {t v:Int}:dgs e m i t v≤dg e m (i+1) v:=by
  show dgs e m i t v≤dg e m i v+_+_
  unfold dgs
  split<;>split<;>split<;>split<;>simp_all<;>omega
theorem dgs_bound {e:Nat→Edg} {m:Nat→Int} {i:Nat} {t v:Int}:dgs e m i t v≤2*(i+1):=Nat.le_trans dgs_le (dg_le (i+1))
theorem vmatched {N:Int} {ep:OA} {n ec:Nat} {e:Nat→Edg} {p:OA} {k c:Nat} {m:Nat→Int} {mg:Nat} {mk:List Value} {most:Int→Int} {H:Hp} {K:Hp→Prop}
    (he:Rdr H ep n e) (hr:Right N n e) (hm:Rdr H p k m) (hk:k<2 ^ 63) (hf:Fun1 E H mg mk N most)
    (kk:∀H',Step (fun _=>False) H H'→Tkn N n e m k most→K H') (bad:∀H',Step (fun _=>False) H H'→¬Tkn N n e m k most→E (pv 221) H') :
    Q19.call N ep n ec p k c mg mk E H K:=by
  have hN0:=hr.N0
  have hN1:=hr.N1
  have hn1:=hr.n1
  refine Q19.of (Q19.run_eq ?_)
  unfold Q19.run_t
  refine nwk fun b1 H1 hb1 e1 s1=>?_
  simp only [get_at e1,gZ,gS,ldS_mk]
  refine vrising (hm.keep s1 fun _ _ _ h=>h) hk (fun hs=>?_) fun hb=>bad _ s1 fun h=>hb h.ris
  have hl:=hs.len
  simp only [get_at e1,gZ,gS,ldI_mk]
  refine Row.mkI hN0 (by omega) fun b2 H2 hb2 r2 s2=>?_
  have e12:=s2.keep _ _ e1 fun h=>h
  have ne:b1≠b2:=ne_of_live hb2 (by rw [e1]; exact fun h=>by cases h)
  have f2:H b2=none:=s1.mono _ hb2
  have fp2:∀b,fpS (some ⟨b2,0,none⟩) b→H b=none:=fun b hb=>by rw [fpS_mk] at hb; exact hb▸f2
  refine Q19.l1_rule (fun g mk' g3 ap an ac tp tn tc t21 t22 H'=>mg=g∧mk=mk'∧b1=g3∧ap=some ⟨b2,0,none⟩∧an=N.toNat∧ac=N.toNat∧p=tp∧k=tn∧t21=k∧
      ∃i:Nat,t22=i∧i≤k∧Step (fun _=>False) H H'∧H' b1=some ⟨[.int .i64 N,.slice ep n ec],24⟩∧Row H' (some ⟨b2,0,none⟩) N.toNat N.toNat (fun v=>(dg e m i v:Int))∧Tkn N n e m i most)
    (fun g mk' g3 ap an ac tp tn tc t21 t22 H'=>k-t22.toNat) ?_ ⟨rfl,rfl,rfl,rfl,rfl,rfl,rfl,rfl,rfl,0,rfl,by omega,s1.and s2,e12,r2,⟨hs.cut (by omega),fun i hi=>by omega,fun v _ _ h=>by cases h⟩⟩
  clear r2 e12 s2 hb2 e1 s1
  rintro g mk' g3 ap an ac tp tn tc t21 t22 H3 ⟨rfl,rfl,rfl,rfl,rfl,rfl,rfl,rfl,rfl,i,rfl,hi,s3,e3,r3,tk⟩ X hX
  refine Q19.b1_eq ?_
  unfold Q19.b1_t
  refine bc (fun hlt=>?_) fun hge=>?_
  · refine (hm.keep s3 fun _ _ _ h=>h).ixI (by omega) (by omega) ?_
    simp only [tN,get_at e3,gZ,gS,ldI_mk,ldS_mk]
    have hmi:=hs i (by omega)
    refine (he.keep s3 fun _ _ _ h=>h).edge (by omega) (by omega) ?_
    refine nwst rfl rfl fun b4 H4 hb4 e4 s4=>?_
    simp only [get_at e4,gZ,gS,ldI_mk]
    refine vloop fun H5 s5=>?_
    have s35:=s4.and s5
    refine vneed (fun hno=>?_) fun hyes=>bad _ (s3.and s35) fun h=>h.nl i (by omega) (by show (e (m i).toNat).fr=(e (m i).toNat).to; simpa using hyes)
    have hnl:¬lp (e (m i).toNat):=by show ¬(e (m i).toNat).fr=(e (m i).toNat).to; simpa using hno
    have e45:=s5.keep _ _ e4 fun h=>h
    simp only [get_at e45,gZ,gS,ldI_mk]
    have hx:=hr.ed (m i).toNat (by omega)
    have hf0:=hx.f0; have hf1:=hx.f1; have ht0:=hx.t0; have ht1:=hx.t1
    generalize hfr:(e (m i).toNat).fr=fr at *
    generalize hto:(e (m i).toNat).to=to at *
    refine Q19.l2_rule (fun g mk' g3 ap an ac tp tn tc t21 t22 y0 y1 t40 H'=>mg=g∧mk=mk'∧b1=g3∧ap=some ⟨b2,0,none⟩∧an=N.toNat∧ac=N.toNat∧p=tp∧k=tn∧t21=k∧t22=i∧fr=y0∧to=y1∧
        ∃t:Nat,t40=t∧t≤2∧Step (fun _=>False) H H'∧H' b1=some ⟨[.int .i64 N,.slice ep n ec],24⟩∧Row H' (some ⟨b2,0,none⟩) N.toNat N.toNat (fun v=>(dgs e m i t v:Int))∧(1≤t→(dgs e m i t fr:Int)≤most fr)∧(2≤t→(dgs e m i t to:Int)≤most to))
      (fun g mk' g3 ap an ac tp tn tc t21 t22 y0 y1 t40 H'=>2-t40.toNat) ?_ ⟨rfl,rfl,rfl,rfl,rfl,rfl,rfl,rfl,rfl,rfl,rfl,rfl,0,rfl,by omega,s3.and s35,s35.keep _ _ e3 fun h=>h,(r3.keep s35 fun _ _ h=>h).congr fun v hv=>by simp [dgs],fun h=>by omega,fun h=>by omega⟩
    clear r3 e3 e4 e45 s35 s4 s5 hb4
    rintro g mk' g3 ap an ac tp tn tc t21 t22 y0 y1 t40 H6 ⟨rfl,rfl,rfl,rfl,rfl,rfl,rfl,rfl,rfl,rfl,rfl,rfl,t,rfl,ht,s6,e6,r6,q1,q2⟩ Y hY
    refine Q19.b2_eq ?_
    unfold Q19.b2_t
    refine bc (fun hlt2=>?_) fun hge2=>?_
    · refine ⟨⟨by omega,by omega⟩,?_⟩
      obtain ⟨y,hy,y0',y1',hyd⟩:∃y,[Value.int .i64 fr,Value.int .i64 to][(t:Int).toNat]?=some (.int .i64 y)∧0≤y∧y<N∧((t=0∧y=fr)∨(t=1∧y=to)):=by
        have:t=0∨t=1:=by omega
        rcases this with rfl | rfl
        · exact ⟨fr,rfl,hf0,hf1,.inl ⟨rfl,rfl⟩⟩
        · exact ⟨to,rfl,ht0,ht1,.inr ⟨rfl,rfl⟩⟩
      rw [hy]
      simp only [ldI_mk]
      refine r6.ixI (by omega) (by omega) ?_
      have hb:=dgs_bound (e:=e) (m:=m) (i:=i) (t:=t) (v:=(y.toNat:Int))
      rw [i64w (by omega) (by omega)]
      refine r6.stI (by omega) (by omega) _ fun H7 r7 s7=>?_
      have hst:∀v:Nat,(upf (fun v:Nat=>(dgs e m i t v:Int)) y.toNat ((dgs e m i t (y.toNat:Int):Int)+1)) v=(dgs e m i ((t+1:Nat):Int) v:Int):=by
        intro v
        have hyv:(v=y.toNat)↔(y=(v:Int)):=by omega
        unfold upf
        rcases hyd with ⟨rfl,rfl⟩ | ⟨rfl,rfl⟩
        · by_cases h:v=y.toNat
          · subst h
            rw [if_pos rfl]
            unfold dgs
            rw [hfr,hto]
            simp [show (y.toNat:Int)=y by omega]
          · rw [if_neg h]
            unfold dgs
            rw [hfr,hto]
            have:¬y=(v:Int):=fun h'=>h (hyv.2 h')
            simp [this]
        · by_cases h:v=y.toNat
          · subst h
            rw [if_pos rfl]
            unfold dgs
            rw [hfr,hto]
            simp [show (y.toNat:Int)=y by omega]
          · rw [if_neg h]
            unfold dgs
            rw [hfr,hto]
            have:¬y=(v:Int):=fun h'=>h (hyv.2 h')
            simp [this]
      have r7:=r7.congr fun v _=>hst v
      have s07:=s6.own s7 fp2
      have e7:=s7.keep _ _ e6 (by rw [fpS_mk]; exact ne)
      have ey:((y.toNat:Nat):Int)=y:=by omega
      refine r7.ix (α:=Int) (by omega) (by omega) fun b o hbo hg=>?_
      have g0:=hg 0 (by decide)
      simp only [El.enc,Nat.add_zero] at g0
      simp only [gZ] at g0
      rw [g0]
      simp only [ldI_mk]
      refine ⟨hf.1,hf.2 y H7 _ y0' y1' s07 fun H8 s8=>ldR_int ?_⟩
      show (ldI .i64 (H8.get b o) _)∧_
      rw [s8.get g0 fun h=>h]
      refine ⟨rfl,?_⟩
      refine vneedD (fun hle=>?_) fun hgt=>bad _ (s07.and s8) fun h=>hgt ?_
      · rw [i64w (by omega) (by omega)]
        rw [ey] at hle
        refine hY _ _ _ _ _ _ _ _ _ _ _ _ _ _ _ ⟨rfl,rfl,rfl,rfl,rfl,rfl,rfl,rfl,rfl,rfl,rfl,rfl,t+1,by omega,by omega,s07.and s8,s8.keep _ _ e7 fun h=>h,r7.keep s8 fun _ _ h=>h,fun _=>?_,fun h2=>?_⟩ (by omega)
        · rcases hyd with ⟨rfl,rfl⟩ | ⟨rfl,rfl⟩
          · exact hle
          · have:=q1 (by omega)
            have hne:¬y=fr:=fun h=>hnl (show (e (m i).toNat).fr=(e (m i).toNat).to by rw [hfr,hto,h])
            have:dgs e m i ((1+1:Nat):Int) fr=dgs e m i ((1:Nat):Int) fr:=by unfold dgs; rw [hfr,hto]; simp [hne]
            rw [this]; assumption
        · rcases hyd with ⟨rfl,rfl⟩ | ⟨rfl,rfl⟩
          · omega
          · exact hle
      · -- so many are at most what is let in
        have h1:dgs e m i ((t+1:Nat):Int) (y.toNat:Int)≤dg e m k (y.toNat:Int):=Nat.le_trans dgs_le (dg_mono (by omega))
        rw [ey] at h1
        have hpos:0<dgs e m i ((t+1:Nat):Int) y:=by
          have:=hst y.toNat
          rw [upf_same,ey] at this
          omega
        have:=h.mst y y0' y1' (by omega)
        show (dgs e m i ((t+1:Nat):Int) (y.toNat:Int):Int)≤most y
        rw [ey]; omega
    · have:t=2:=by omega
      subst this
      refine Q19.j1_eq ?_
      unfold Q19.j1_t
      rw [i64w (by omega) (by omega)]
      have hd:∀v:Int,dgs e m i ((2:Nat):Int) v=dg e m (i+1) v:=fun v=>by
        unfold dgs
        simp only [show (1:Int)≤((2:Nat):Int) from by decide,show (2:Int)≤((2:Nat):Int) from by decide,true_and]
        rfl
      refine hX _ _ _ _ _ _ _ _ _ _ _ _ ⟨rfl,rfl,rfl,rfl,rfl,rfl,rfl,rfl,rfl,i+1,by omega,by omega,s6,e6,r6.congr fun v _=>by rw [hd],hs.cut (by omega),fun j hj=>?_,fun v v0 v1 hv=>?_⟩ (by omega)
      · by_cases e':j=i
        · subst e'; exact hnl
        · exact tk.nl j (by omega)
      · by_cases h1:v=fr
        · have:=q1 (by omega); rw [hd] at this; rw [h1]; exact this
        · by_cases h2:v=to
          · have:=q2 (by omega); rw [hd] at this; rw [h2]; exact this
          · have:dg e m (i+1) v=dg e m i v:=by
              show dg e m i v+_+_=_
              rw [hfr,hto,if_neg (fun h=>h1 h.symm),if_neg (fun h=>h2 h.symm)]; rfl
            rw [this] at hv ⊢
            exact tk.mst v v0 v1 hv
  · have:i=k:=by omega
    subst this
    exact kk _ s3 tk
end
end Go.Mz
/-
  Walks of layer 12, more: near, uneven; what a call that looks answers; Matching, Covered.
-/
namespace Go.Mz
section
variable {E:VP}
def Out (N:Int) (n:Nat) (e:Nat→Edg) (P:Prop) (c:Int):Prop:=
  (c=0∧Right N n e∧P)∨(c=chk N n e∧c≠0)∨(c=221∧Right N n e∧¬P)
theorem Out.det {N:Int} {n:Nat} {e:Nat→Edg} {P P':Prop} {c c':Int} (h:Out N n e P c) (h':Out N n e P' c') (hp:Right N n e→(P↔P')):c=c':=by
  have hz:chk N n e=0↔Right N n e:=chk_zero
  rcases h with ⟨rfl,h1,h2⟩ | ⟨rfl,h1⟩ | ⟨rfl,h1,h2⟩<;>rcases h' with ⟨rfl,h1',h2'⟩ | ⟨rfl,h1'⟩ | ⟨rfl,h1',h2'⟩
  · rfl
  · exact absurd (hz.2 h1) h1'
  · exact absurd ((hp h1).1 h2) h2'
  · exact absurd (hz.2 h1') h1
  · rfl
  · exact absurd (hz.2 h1') h1
  · exact absurd ((hp h1).2 h2') h2
  · exact absurd (hz.2 h1) h1'
  · rfl
theorem Out.ok {N:Int} {n:Nat} {e:Nat→Edg} {P:Prop} {c:Int} (h:Out N n e P c) (hc:c=0):Right N n e∧P:=by
  rcases h with ⟨_,h1,h2⟩ | ⟨h1,h2⟩ | ⟨h1,_⟩
  · exact ⟨h1,h2⟩
  · exact absurd hc h2
  · omega
theorem Out.bad {N:Int} {n:Nat} {e:Nat→Edg} {P:Prop} {c:Int} (h:Out N n e P c) (hr:¬Right N n e):c=chk N n e∧c≠0:=by
  rcases h with ⟨_,h1,h2⟩ | h | ⟨_,h1,_⟩
  · exact absurd h1 hr
  · exact h
  · exact absurd h1 hr
theorem Out.good {N:Int} {n:Nat} {e:Nat→Edg} {P:Prop} {c:Int} (h:Out N n e P c) (hr:Right N n e) (hp:P):c=0:=by
  rcases h with ⟨h,_⟩ | ⟨h,h'⟩ | ⟨_,_,h⟩
  · exact h
  · rw [h] at h'; exact (h' (chk_zero.2 hr)).elim
  · exact (h hp).elim
theorem and1 {x:Int} (h0:0≤x) (h1:x<2 ^ 63):IntKind.wrap .i64 (((BitVec.ofInt (IntKind.bits .i64) x &&& BitVec.ofInt (IntKind.bits .i64) 1).toNat:Int))=x%2:=by
  have hx:(BitVec.ofInt (IntKind.bits .i64) x).toNat=x.toNat:=by
    show (BitVec.ofInt 64 x).toNat=x.toNat
    rw [BitVec.toNat_ofInt,Int.emod_eq_of_lt h0 (by omega)]
  have h2:(BitVec.ofInt (IntKind.bits .i64) x &&& BitVec.ofInt (IntKind.bits .i64) 1).toNat=x.toNat%2:=by
    rw [BitVec.toNat_and,hx]
    show x.toNat &&& 1=x.toNat%2
    exact Nat.and_one_is_mod _
  rw [h2,i64w (by omega) (by omega)]
  omega
end
end Go.Mz
/-
  Walks of layer 12, more: Matching, Covered, Heaviest.
-/
namespace Go.Mz
section
variable {E:VP}
end
end Go.Mz
