/-
  Joined: VouE, VouS1, VouF, VouG, VouS2, VouH, VouI, VouQ, VouS3.
-/
import Derived.Test.YtndgjfbibkdokaaPkA00
import Derived.Test.YtndgjfbibkdokaaPkM
set_option linter.unusedVariables false
/-
  Walks of layer 12, more: Heaviest.
-/
namespace Go.Mz
section
variable {E:VP}
def psum (f:Nat→Int):Nat→Int
  | 0=>0
  | i+1=>psum f i+f i
theorem psum_bound {f:Nat→Int} {a b:Int}:∀{i:Nat},(∀v,v<i→a≤f v∧f v≤b)→a*(i:Int)≤psum f i∧psum f i≤b*(i:Int):=by
  intro i
  induction i with
  | zero=>intro _; simp [psum]
  | succ i ih=>
    intro h
    have h1:=ih fun v hv=>h v (by omega)
    have h2:=h i (by omega)
    show _≤psum f i+f i∧psum f i+f i≤_
    have e1:a*((i+1:Nat):Int)=a*(i:Int)+a:=by rw [Int.natCast_add,Int.mul_add]; simp
    have e2:b*((i+1:Nat):Int)=b*(i:Int)+b:=by rw [Int.natCast_add,Int.mul_add]; simp
    rw [e1,e2]
    omega
end
end Go.Mz
/-
  Plain laws: covers and potentials bound every matching. No program in sight.
-/
namespace Go.Mz
open Classical in
theorem cover_count {cv:Nat→Int} {N:Nat}:∀q,cnt (fun v=>decide (In cv q (v:Int))) N≤q:=by
  intro q
  induction q with
  | zero=>rw [cnt_none fun v _=>decide_eq_false fun ⟨i,hi,_⟩=>by omega]; exact Nat.le_refl _
  | succ q ih=>
    by_cases h:0≤cv q∧cv q<N∧¬In cv q (cv q)
    · have:cnt (fun v=>decide (In cv (q+1) (v:Int))) N=cnt (fun v=>decide (In cv q (v:Int))) N+1:=by
        refine cnt_less (b:=(cv q).toNat) (by omega) ?_ ?_ fun i hi hne=>?_
        · exact decide_eq_true ⟨q,by omega,by omega⟩
        · exact decide_eq_false (by rw [show (((cv q).toNat:Nat):Int)=cv q by omega]; exact h.2.2)
        · refine decide_eq_decide.2 ⟨fun ⟨j,hj,hv⟩=>?_,fun ⟨j,hj,hv⟩=>⟨j,by omega,hv⟩⟩
          by_cases ej:j=q
          · subst ej; omega
          · exact ⟨j,by omega,hv⟩
      omega
    · have:cnt (fun v=>decide (In cv (q+1) (v:Int))) N=cnt (fun v=>decide (In cv q (v:Int))) N:=by
        refine cnt_congr fun i hi=>decide_eq_decide.2 ⟨fun ⟨j,hj,hv⟩=>?_,fun ⟨j,hj,hv⟩=>⟨j,by omega,hv⟩⟩
        by_cases ej:j=q
        · subst ej
          by_cases h':In cv j (cv j)
          · rwa [hv] at h'
          · exact absurd ⟨by omega,by omega,h'⟩ h
        · exact ⟨j,by omega,hv⟩
      omega
theorem psum_congr {f g:Nat→Int} {n:Nat} (h:∀i,i<n→f i=g i):psum f n=psum g n:=by
  induction n with
  | zero=>rfl
  | succ n ih=>simp only [psum]; rw [ih fun i hi=>h i (by omega),h n (by omega)]
theorem psum_add {f g:Nat→Int} {n:Nat}:psum (fun i=>f i+g i) n=psum f n+psum g n:=by
  induction n with
  | zero=>rfl
  | succ n ih=>simp only [psum]; omega
theorem psum_zero {f:Nat→Int} {n:Nat} (h:∀i,i<n→f i=0):psum f n=0:=by
  induction n with
  | zero=>rfl
  | succ n ih=>simp only [psum]; rw [ih fun i hi=>h i (by omega),h n (by omega)]; rfl
theorem psum_le {f g:Nat→Int} {n:Nat} (h:∀i,i<n→f i≤g i):psum f n≤psum g n:=by
  induction n with
  | zero=>exact Int.le_refl _
  | succ n ih=>simp only [psum]; have:=ih fun i hi=>h i (by omega); have:=h n (by omega); omega
theorem psum_single {a n:Nat} {x:Int} (ha:a<n):psum (fun i=>if i=a then x else 0) n=x:=by
  induction n with
  | zero=>omega
  | succ n ih=>
    simp only [psum]
    by_cases h:a=n
    · subst h
      rw [psum_zero fun i hi=>if_neg (by omega),if_pos rfl]; omega
    · rw [ih (by omega),if_neg (by omega)]; omega
theorem weight_sum {N:Int} {n:Nat} {e:Nat→Edg} {m:Nat→Int} (w:Nat→Int) (hr:Right N n e):∀{k:Nat},Ris m k n→psum (fun v=>w v*(dg e m k v:Int)) N.toNat=psum (fun j=>w (e (m j).toNat).fr.toNat+w (e (m j).toNat).to.toNat) k:=by
  intro k
  induction k with
  | zero=>intro _; rw [psum_zero fun i _=>by simp [dg]]; rfl
  | succ k ih=>
    intro h
    have hmk:=h k (by omega)
    have hx:=hr.ed (m k).toNat (by omega)
    have hf0:=hx.f0; have hf1:=hx.f1; have ht0:=hx.t0; have ht1:=hx.t1
    have e1:psum (fun v=>w v*(dg e m (k+1) v:Int)) N.toNat=psum (fun v=>w v*(dg e m k v:Int)) N.toNat+(psum (fun v=>if v=(e (m k).toNat).fr.toNat then w (e (m k).toNat).fr.toNat else 0) N.toNat+psum (fun v=>if v=(e (m k).toNat).to.toNat then w (e (m k).toNat).to.toNat else 0) N.toNat):=by
      rw [←psum_add,←psum_add]
      refine psum_congr fun v _=>?_
      rw [dg_succ]
      by_cases h1:v=(e (m k).toNat).fr.toNat<;>by_cases h2:v=(e (m k).toNat).to.toNat
      · have q1:(e (m k).toNat).fr=(v:Int):=by omega
        have q2:(e (m k).toNat).to=(v:Int):=by omega
        rw [if_pos q1,if_pos q2,if_pos h1,if_pos h2,←h1,←h2]
        simp only [Int.natCast_add,Int.mul_add]; omega
      · have q1:(e (m k).toNat).fr=(v:Int):=by omega
        have q2:¬(e (m k).toNat).to=(v:Int):=by omega
        rw [if_pos q1,if_neg q2,if_pos h1,if_neg h2,←h1]
        simp only [Int.natCast_add,Int.mul_add]; omega
      · have q1:¬(e (m k).toNat).fr=(v:Int):=by omega
        have q2:(e (m k).toNat).to=(v:Int):=by omega
        rw [if_neg q1,if_pos q2,if_neg h1,if_pos h2,←h2]
        simp only [Int.natCast_add,Int.mul_add]; omega
      · have q1:¬(e (m k).toNat).fr=(v:Int):=by omega
        have q2:¬(e (m k).toNat).to=(v:Int):=by omega
        rw [if_neg q1,if_neg q2,if_neg h1,if_neg h2]
        simp only [Int.natCast_add,Int.mul_add]; omega
    rw [e1,ih (h.cut (by omega)),psum_single (by omega),psum_single (by omega)]
    simp only [psum]
end Go.Mz
/-
  Walks of layer 12, more: odd.
-/
namespace Go.Mz
section
variable {E:VP}
end
end Go.Mz
/-
  Walks of layer 12, more: Largest, NoPerfect.
-/
namespace Go.Mz
section
variable {E:VP}
open Classical in
noncomputable def oddS (N:Int) (n:Nat) (e:Nat→Edg) (set:Nat→Int) (q:Nat):Nat:=oddN N n e fun v=>decide (In set q v)
structure LrgP (N:Int) (n:Nat) (e:Nat→Edg) (m:Nat→Int) (k:Nat) (set:Nat→Int) (q:Nat):Prop where
  tk:Tkn N n e m k fun _=>1
  ris:Ris set q N
  eq:2*(k:Int)=N+q-oddS N n e set q
end
end Go.Mz
/-
  Plain law: no matching has more edges than a set of nodes allows that leaves odd parts (each odd part has a node that is left, or one that is matched into the set). No program in sight.
-/
namespace Go.Mz
theorem sm_swap {f:Nat→Nat→Nat} {N M:Nat}:sm (fun i=>sm (fun j=>f i j) M) N=sm (fun j=>sm (fun i=>f i j) N) M:=by
  induction N with
  | zero=>exact (sm_zero fun _ _=>rfl).symm
  | succ N ih=>
    show sm (fun i=>sm (fun j=>f i j) M) N+sm (fun j=>f N j) M=sm (fun j=>sm (fun i=>f i j) N+f N j) M
    rw [ih,sm_add]
theorem sm_uniq {p:Nat→Prop} [DecidablePred p] {N:Nat} (h:∀i j,i<N→j<N→p i→p j→i=j):sm (fun i=>if p i then 1 else 0) N≤1:=by
  induction N with
  | zero=>exact Nat.zero_le _
  | succ N ih=>
    simp only [sm]
    by_cases hp:p N
    · rw [sm_zero fun i hi=>if_neg fun hi'=>by have:=h i N (by omega) (by omega) hi' hp; omega,if_pos hp]; omega
    · rw [if_neg hp]; have:=ih fun i j hi hj=>h i j (by omega) (by omega); omega
theorem sm_pick {N:Nat} {a:Int} {g:Nat→Nat} (a0:0≤a) (a1:a<N):sm (fun v=>if a=(v:Int) then g v else 0) N=g a.toNat:=by
  obtain ⟨x,rfl⟩:∃x:Nat,a=x:=⟨a.toNat,by omega⟩
  have h:=sm_one (f:=fun v:Nat=>if (x:Int)=(v:Int) then g v else 0) (g:=fun _=>0) (n:=N) (b:=x) (by omega) fun i hi hne=>if_neg (by omega)
  rw [sm_zero (f:=fun _=>0) fun _ _=>rfl,if_pos rfl] at h
  rw [tN]
  omega
section
variable {N:Int} {n:Nat} {e:Nat→Edg} {W:Nat→Bool}
theorem cn_W {s v:Nat} (h:Cn (Adj e n W) s v):W s=W v:=h.resp W fun a b hab=>by rw [hab.left.1,hab.left.2]
theorem fst_uniq {s s' v:Nat} (h:Fst (Adj e n W) W s) (h':Fst (Adj e n W) W s') (k:Cn (Adj e n W) s v) (k':Cn (Adj e n W) s' v):s=s':=by
  rcases Nat.lt_trichotomy s s' with hlt | rfl | hlt
  · exact (h'.2 s hlt (k.trans k'.symm)).elim
  · rfl
  · exact (h.2 s' hlt (k'.trans k.symm)).elim
open Classical in
theorem odd_boundG {m:Nat→Int} {k:Nat} (hr:Right N n e) (hm:∀j,j<k→0≤m j∧m j<n) (hd1:∀v:Nat,v<N.toNat→dg e m k (v:Int)≤1):(oddN N n e W:Int)+2*k≤N+(cnt W N.toNat:Int):=by
  have hN0:=hr.N0
  have hsum:∀j,j≤k→sm (fun v=>dg e m j (v:Int)) N.toNat=2*j:=by
    intro j
    induction j with
    | zero=>intro _; exact sm_zero fun _ _=>rfl
    | succ j ih=>
      intro hj
      have hmj:=hm j (by omega)
      have hx:=hr.ed (m j).toNat (by omega)
      have hf0:=hx.f0; have hf1:=hx.f1; have ht0:=hx.t0; have ht1:=hx.t1
      have hone:∀a:Int,0≤a→a<N→sm (fun v=>if a=(v:Int) then 1 else 0) N.toNat=1:=fun a a0 a1=>sm_pick (g:=fun _=>1) a0 (by omega)
      have:sm (fun v=>dg e m (j+1) (v:Int)) N.toNat=sm (fun v=>dg e m j (v:Int)) N.toNat+(sm (fun v=>if (e (m j).toNat).fr=(v:Int) then 1 else 0) N.toNat+sm (fun v=>if (e (m j).toNat).to=(v:Int) then 1 else 0) N.toNat):=by
        rw [←sm_add,←sm_add]
        exact sm_congr fun v _=>by rw [dg_succ]; omega
      rw [this,ih (by omega),hone _ hf0 hf1,hone _ ht0 ht1]; omega
  let R:=Adj e n W
  let us:=fun s=>sm (fun v=>if Cn R s v then 1-dg e m k (v:Int) else 0) N.toNat
  let ds:=fun s j=>sm (fun v=>if Cn R s v then dg e m j (v:Int) else 0) N.toNat
  let X:=fun s j=>(Cn R s (e (m j).toNat).fr.toNat∧¬Cn R s (e (m j).toNat).to.toNat)∨(¬Cn R s (e (m j).toNat).fr.toNat∧Cn R s (e (m j).toNat).to.toNat)
  let bs:=fun s=>sm (fun j=>if X s j then 1 else 0) k
  have hpar:∀s j,j≤k→ds s j%2=sm (fun j=>if X s j then 1 else 0) j%2:=by
    intro s j
    induction j with
    | zero=>intro _; show sm _ _%2=0%2; rw [sm_zero fun v _=>by show (if Cn R s v then 0 else 0)=0; split<;>rfl]
    | succ j ih=>
      intro hj
      have hmj:=hm j (by omega)
      have hx:=hr.ed (m j).toNat (by omega)
      have hf0:=hx.f0; have hf1:=hx.f1; have ht0:=hx.t0; have ht1:=hx.t1
      have hone:∀a:Int,0≤a→a<N→sm (fun v=>if Cn R s v then (if a=(v:Int) then 1 else 0) else 0) N.toNat=if Cn R s a.toNat then 1 else 0:=fun a a0 a1=>by
            rw [←sm_pick (g:=fun v=>if Cn R s v then 1 else 0) a0 (by omega:a<(N.toNat:Int))]
            refine sm_congr fun v _=>?_
            split<;>split<;>rfl
      have hspl:ds s (j+1)=ds s j+((if Cn R s (e (m j).toNat).fr.toNat then 1 else 0)+(if Cn R s (e (m j).toNat).to.toNat then 1 else 0)):=by
        rw [←hone _ hf0 hf1,←hone _ ht0 ht1]
        show sm _ _=sm _ _+_
        rw [←sm_add,←sm_add]
        refine sm_congr fun v _=>?_
        rw [dg_succ]
        split<;>omega
      have ih:=ih (by omega)
      rw [hspl]
      simp only [sm]
      show (ds s j+_)%2=(_+if X s j then 1 else 0)%2
      by_cases h1:Cn R s (e (m j).toNat).fr.toNat<;>by_cases h2:Cn R s (e (m j).toNat).to.toNat
      · have:¬X s j:=fun h=>h.elim (fun h=>h.2 h2) fun h=>h.1 h1
        rw [if_pos h1,if_pos h2,if_neg this]; omega
      · have:X s j:=.inl ⟨h1,h2⟩
        rw [if_pos h1,if_neg h2,if_pos this]; omega
      · have:X s j:=.inr ⟨h1,h2⟩
        rw [if_neg h1,if_pos h2,if_pos this]; omega
      · have:¬X s j:=fun h=>h.elim (fun h=>h1 h.1) fun h=>h2 h.2
        rw [if_neg h1,if_neg h2,if_neg this]; omega
  have hcsz:∀s,csz R N.toNat s=us s+ds s k:=fun s=>by
    show cnt _ _=sm _ _+sm _ _
    rw [cnt_sm,←sm_add]
    refine sm_congr fun v hv=>?_
    have:=hd1 v hv
    by_cases h:Cn R s v
    · simp [h]; omega
    · simp [h]
  have hodd:∀s,csz R N.toNat s%2≤us s+bs s:=fun s=>by
    have h1:=hcsz s
    have h2:=hpar s k (Nat.le_refl _)
    have h3:bs s=sm (fun j=>if X s j then 1 else 0) k:=rfl
    omega
  have htot:oddN N n e W≤sm (fun s=>if Fst R W s then us s+bs s else 0) N.toNat:=by
    have:∀s,oddB R W N.toNat s≤sm (fun s=>if Fst R W s then us s+bs s else 0) s:=by
      intro s
      induction s with
      | zero=>exact Nat.le_refl _
      | succ s ih=>
        show oddB R W N.toNat s+_≤_
        simp only [sm]
        have:=hodd s
        split<;>omega
    exact this N.toNat
  have hu:sm (fun s=>if Fst R W s then us s else 0) N.toNat≤sm (fun v=>1-dg e m k (v:Int)) N.toNat:=by
    have e1:sm (fun s=>if Fst R W s then us s else 0) N.toNat=sm (fun s=>sm (fun v=>if Fst R W s∧Cn R s v then 1-dg e m k (v:Int) else 0) N.toNat) N.toNat:=by
      refine sm_congr fun s _=>?_
      by_cases h:Fst R W s
      · rw [if_pos h]; exact sm_congr fun v _=>by by_cases h':Cn R s v<;>simp [h,h']
      · rw [if_neg h]; exact (sm_zero fun v _=>by simp [h]).symm
    rw [e1,sm_swap]
    refine sm_le fun v hv=>?_
    have hz:1-dg e m k (v:Int)=0∨1-dg e m k (v:Int)=1:=by omega
    rcases hz with hz | hz
    · rw [hz,sm_zero fun s _=>by split<;>rfl]; exact Nat.le_refl _
    · rw [hz]
      exact sm_uniq (p:=fun s=>Fst R W s∧Cn R s v) fun i j _ _ hi hj=>fst_uniq hi.1 hj.1 hi.2 hj.2
  have hb:sm (fun s=>if Fst R W s then bs s else 0) N.toNat≤sm (fun j=>(if W (e (m j).toNat).fr.toNat then 1 else 0)+(if W (e (m j).toNat).to.toNat then 1 else 0)) k:=by
    have e1:sm (fun s=>if Fst R W s then bs s else 0) N.toNat=sm (fun s=>sm (fun j=>if Fst R W s∧X s j then 1 else 0) k) N.toNat:=by
      refine sm_congr fun s _=>?_
      by_cases h:Fst R W s
      · rw [if_pos h]; exact sm_congr fun v _=>by by_cases h':X s v<;>simp [h,h']
      · rw [if_neg h]; exact (sm_zero fun v _=>by simp [h]).symm
    rw [e1,sm_swap]
    refine sm_le fun j hj=>?_
    have hmj:=hm j hj
    have noW:∀s v,Fst R W s→Cn R s v→W v=false:=fun s v hf hc=>by rw [←cn_W hc]; exact hf.1
    cases hwf:W (e (m j).toNat).fr.toNat with
    | true=>
      cases hwt:W (e (m j).toNat).to.toNat with
      | true=>
        refine Nat.le_trans (Nat.le_of_eq (sm_zero fun s _=>if_neg fun ⟨hf,hx⟩=>?_)) (Nat.zero_le _)
        rcases hx with ⟨h,_⟩ | ⟨_,h⟩
        · rw [noW s _ hf h] at hwf; cases hwf
        · rw [noW s _ hf h] at hwt; cases hwt
      | false=>
        refine Nat.le_trans (sm_uniq (p:=fun s=>Fst R W s∧X s j) fun a b _ _ ha hb=>?_) (by simp)
        have side:∀s,Fst R W s→X s j→Cn R s (e (m j).toNat).to.toNat:=fun s hf hx=>by
          rcases hx with ⟨h,_⟩ | ⟨_,h⟩
          · rw [noW s _ hf h] at hwf; cases hwf
          · exact h
        exact fst_uniq ha.1 hb.1 (side a ha.1 ha.2) (side b hb.1 hb.2)
    | false=>
      cases hwt:W (e (m j).toNat).to.toNat with
      | true=>
        refine Nat.le_trans (sm_uniq (p:=fun s=>Fst R W s∧X s j) fun a b _ _ ha hb=>?_) (by simp)
        have side:∀s,Fst R W s→X s j→Cn R s (e (m j).toNat).fr.toNat:=fun s hf hx=>by
          rcases hx with ⟨h,_⟩ | ⟨_,h⟩
          · exact h
          · rw [noW s _ hf h] at hwt; cases hwt
        exact fst_uniq ha.1 hb.1 (side a ha.1 ha.2) (side b hb.1 hb.2)
      | false=>
        have hadj:R (e (m j).toNat).fr.toNat (e (m j).toNat).to.toNat:=⟨(m j).toNat,by omega,by simp [okE,hwf,hwt],.inl ⟨rfl,rfl⟩⟩
        refine Nat.le_trans (Nat.le_of_eq (sm_zero fun s _=>if_neg fun ⟨hf,hx⟩=>?_)) (Nat.zero_le _)
        rcases hx with ⟨h,h'⟩ | ⟨h',h⟩
        · exact h' (h.trans (.edge hadj))
        · exact h' (h.trans (.symm (.edge hadj)))
  have hw:sm (fun j=>(if W (e (m j).toNat).fr.toNat then 1 else 0)+(if W (e (m j).toNat).to.toNat then 1 else 0)) k≤cnt W N.toNat:=by
    have key:∀j,j≤k→sm (fun j=>(if W (e (m j).toNat).fr.toNat then 1 else 0)+(if W (e (m j).toNat).to.toNat then 1 else 0)) j=sm (fun v=>if W v then dg e m j (v:Int) else 0) N.toNat:=by
      intro j
      induction j with
      | zero=>intro _; exact (sm_zero fun v _=>by show (if W v then 0 else 0)=0; split<;>rfl).symm
      | succ j ih=>
        intro hj
        have hmj:=hm j (by omega)
        have hx:=hr.ed (m j).toNat (by omega)
        have hf0:=hx.f0; have hf1:=hx.f1; have ht0:=hx.t0; have ht1:=hx.t1
        have hone:∀a:Int,0≤a→a<N→sm (fun v=>if W v then (if a=(v:Int) then 1 else 0) else 0) N.toNat=if W a.toNat then 1 else 0:=fun a a0 a1=>by
            rw [←sm_pick (g:=fun v=>if W v then 1 else 0) a0 (by omega:a<(N.toNat:Int))]
            refine sm_congr fun v _=>?_
            split<;>split<;>rfl
        simp only [sm]
        rw [ih (by omega),←hone _ hf0 hf1,←hone _ ht0 ht1,←sm_add,←sm_add]
        refine sm_congr fun v _=>?_
        rw [dg_succ]
        split<;>omega
    rw [key k (Nat.le_refl _),cnt_sm]
    refine sm_le fun v hv=>?_
    have:=hd1 v hv
    split<;>omega
  have hsp:sm (fun s=>if Fst R W s then us s+bs s else 0) N.toNat=sm (fun s=>if Fst R W s then us s else 0) N.toNat+sm (fun s=>if Fst R W s then bs s else 0) N.toNat:=by
    rw [←sm_add]; exact sm_congr fun s _=>by split<;>rfl
  have hun:sm (fun v=>1-dg e m k (v:Int)) N.toNat+2*k=N.toNat:=by
    have hcn:∀M,sm (fun _=>1) M=M:=by
      intro M
      induction M with
      | zero=>rfl
      | succ M ih=>simp only [sm,ih]
    rw [←hsum k (Nat.le_refl _),←sm_add,sm_congr (g:=fun _=>1) fun v hv=>by have:=hd1 v hv; omega,hcn]
  omega
theorem odd_bound {m:Nat→Int} {k:Nat} (hr:Right N n e) (ht:Tkn N n e m k fun _=>1):(oddN N n e W:Int)+2*k≤N+(cnt W N.toNat:Int):=
  odd_boundG hr (fun j hj=>⟨(ht.ris j hj).1,(ht.ris j hj).2.1⟩) fun v hv=>by
    by_cases h:0<dg e m k v
    · have:=ht.mst v (by omega) (by omega) h; omega
    · omega
end
open Classical in
theorem barrier_bound {N:Int} {n:Nat} {e:Nat→Edg} {m:Nat→Int} {k:Nat} {set:Nat→Int} {q:Nat} (hr:Right N n e) (ht:Tkn N n e m k fun _=>1):(oddS N n e set q:Int)+2*k≤N+q:=by
  have h1:=odd_bound (W:=fun v=>decide (In set q (v:Int))) hr ht
  have h2:=cover_count (cv:=set) (N:=N.toNat) q
  have h3:oddS N n e set q=oddN N n e fun v=>decide (In set q (v:Int)):=rfl
  omega
end Go.Mz
/-
  Walks of layer 12, more: weigh, and the function of pairs that it makes.
-/
namespace Go.Mz
section
variable {E:VP}
def Fun2 (E:VP) (H:Hp) (g:Nat) (gk:List Value) (N:Int) (f:Int→Int→Int):Prop:=
  T0.fok g=true∧∀(u v:Int) (H1:Hp) (K:VP),0≤u→u<N→0≤v→v<N→Step (fun _=>False) H H1→(∀H2,Step (fun _=>False) H1 H2→K (.int .i64 (f u v)) H2)→callW P0 g (.int .i64 u :: .int .i64 v :: gk) K E H1
theorem Fun2.step {H H':Hp} {g:Nat} {gk:List Value} {N:Int} {f:Int→Int→Int} (h:Fun2 E H g gk N f) (s:Step (fun _=>False) H H'):Fun2 E H' g gk N f:=
  ⟨h.1,fun u v H1 K u0 u1 v0 v1 s1=>h.2 u v H1 K u0 u1 v0 v1 (s.and s1)⟩
structure Wt (n:Int) (Y:Nat→Int) (yn:Nat) (z:Nat→Int) (ln:Nat→Nat) (nd:Nat→Nat→Int) (sn:Nat):Prop where
  ylen:(yn:Int)=n
  slen:(sn:Int)≤n
  ybnd:∀v,v<yn→-4398046511104≤Y v∧Y v≤4398046511104
  sets:∀i,i<sn→(3≤ln i∧ln i%2=1)∧(0≤z i∧z i≤4398046511104)∧Ris (nd i) (ln i) n
def wsum (Y:Nat→Int) (yn:Nat) (z:Nat→Int) (ln:Nat→Nat) (sn:Nat):Int:=psum Y yn-psum (fun i=>z i*((ln i / 2:Nat):Int)) sn
open Classical in
noncomputable def prW (Y:Nat→Int) (z:Nat→Int) (ln:Nat→Nat) (nd:Nat→Nat→Int) (sn:Nat) (u v:Int):Int:=
  Y u.toNat+Y v.toNat-psum (fun i=>if In (nd i) (ln i) u∧In (nd i) (ln i) v then z i else 0) sn
structure DualR (H:Hp) (yp:OA) (yn:Nat) (sp:OA) (sn:Nat) (Y:Nat→Int) (z:Nat→Int) (sl:Nat→Sl) (nd:Nat→Nat→Int):Prop where
  y:Rdr H yp yn Y
  s:Rdr H sp sn (fun i=>(sl i,z i))
  nd:∀i,i<sn→Rdr H (sl i).p (sl i).n (nd i)∧(sl i).n<2 ^ 63
theorem DualR.keep {H H':Hp} {yp:OA} {yn:Nat} {sp:OA} {sn:Nat} {Y:Nat→Int} {z:Nat→Int} {sl:Nat→Sl} {nd:Nat→Nat→Int} (h:DualR H yp yn sp sn Y z sl nd) (s:Step (fun _=>False) H H'):DualR H' yp yn sp sn Y z sl nd:=
  ⟨h.y.keep s fun _ _ _ h=>h,h.s.keep s fun _ _ _ h=>h,fun i hi=>⟨(h.nd i hi).1.keep s fun _ _ _ h=>h,(h.nd i hi).2⟩⟩
open Classical in
structure Ins (H1 H:Hp) (nb:Nat) (ip:OA) (i ic N:Nat) (rows:Nat→Sl) (ln:Nat→Nat) (nd:Nat→Nat→Int):Prop where
  cell:H nb=some ⟨[.slice ip i ic],134⟩
  new:H1 nb=none
  row:Row H ip i ic rows
  rnew:∀y,fpS ip y→H1 y=none∧y≠nb
  each:∀j,j<i→(rows j).n=N∧Rdr H (rows j).p N (fun v=>decide (In (nd j) (ln j) v))∧∀y,fpS (rows j).p y→H1 y=none∧y≠nb∧¬fpS ip y
theorem Ins.keep {H1 H H':Hp} {nb:Nat} {ip:OA} {i ic N:Nat} {rows:Nat→Sl} {ln:Nat→Nat} {nd:Nat→Nat→Int} (h:Ins H1 H nb ip i ic N rows ln nd) (s:Step (fun _=>False) H H'):Ins H1 H' nb ip i ic N rows ln nd:=
  ⟨s.keep _ _ h.cell fun h=>h,h.new,h.row.keep s fun _ _ h=>h,h.rnew,fun j hj=>⟨(h.each j hj).1,(h.each j hj).2.1.keep s fun _ _ _ h=>h,(h.each j hj).2.2⟩⟩
end
end Go.Mz
/-
  Walks of layer 12, more: Cheapest.
-/
namespace Go.Mz
section
variable {E:VP}
structure ChpP (N:Int) (n:Nat) (e:Nat→Edg) (m:Nat→Int) (k:Nat) (Y:Nat→Int) (yn:Nat) (z:Nat→Int) (ln:Nat→Nat) (nd:Nat→Nat→Int) (sn:Nat):Prop where
  tk:Tkn N n e m k fun _=>1
  all:2*(k:Int)=N
  wt:Wt N Y yn z ln nd sn
  ed:∀i,i<n→lp (e i)∨prW Y z ln nd sn (e i).fr (e i).to≤2*(e i).co
  sum:wsum Y yn z ln sn=2*cst e m k
end
end Go.Mz
/-
  The plain law of the gadget: copies of nodes, its edges, its size. No program in sight.
-/
namespace Go.Mz
def ends (e:Nat→Edg):Nat→Int→Nat
  | 0,_=>0
  | i+1,v=>ends e i v+if lp (e i) then 0 else (if (e i).fr=v then 1 else 0)+(if (e i).to=v then 1 else 0)
structure Bnd (N:Int) (b:Nat→Int) (bn:Nat):Prop where
  len:(bn:Int)=N
  bnd:∀v,v<bn→0≤b v∧b v≤4096
def cps (e:Nat→Edg) (n:Nat) (b:Nat→Int) (v:Nat):Int:=if b v<(ends e n v:Int) then b v else ends e n v
def nol (e:Nat→Edg):Nat→Nat
  | 0=>0
  | i+1=>nol e i+if lp (e i) then 0 else 1
def fanI (a lo:Int) (k:Nat):List Edg:=(List.range k).map fun (j:Nat)=>(lo+(j:Int),a,0,0)
def fanO (a lo:Int) (k:Nat):List Edg:=(List.range k).map fun (j:Nat)=>(a,lo+(j:Int),0,0)
def gnn (e:Nat→Edg) (cp:Nat→Int) (N:Nat) (i:Nat):Int:=psum cp N+2*(nol e i:Int)
def gel (e:Nat→Edg) (cp:Nat→Int) (N:Nat):Nat→List Edg
  | 0=>[]
  | i+1=>if lp (e i) then gel e cp N i else
      gel e cp N i++[(gnn e cp N i,gnn e cp N i+1,0,0)]++fanI (gnn e cp N i) (psum cp (e i).fr.toNat) (cp (e i).fr.toNat).toNat
        ++ fanO (gnn e cp N i+1) (psum cp (e i).to.toNat) (cp (e i).to.toNat).toNat
def Gsz (e:Nat→Edg) (cp:Nat→Int) (N n:Nat):Prop:=gnn e cp N n≤1024∧(gel e cp N n).length≤4096
def lsE (l:List Edg):Nat→Edg:=fun i=>l[i]?.getD (0,0,0,0)
theorem lsE_app {l:List Edg} {x:Edg}:upf (lsE l) l.length x=lsE (l++[x]):=by
  funext i
  unfold upf lsE
  by_cases h:i=l.length
  · subst h; simp
  · rw [if_neg h]
    by_cases h2:i<l.length
    · rw [List.getElem?_append_left h2]
    · rw [List.getElem?_eq_none (by omega),List.getElem?_eq_none (by simp; omega)]
theorem psum_mono {f:Nat→Int} {N:Nat} (h:∀v,v<N→0≤f v):∀{i j:Nat},i≤j→j≤N→psum f i≤psum f j:=by
  intro i j hij hj
  obtain ⟨d,rfl⟩:∃d,j=i+d:=⟨j-i,by omega⟩
  clear hij
  induction d with
  | zero=>exact Int.le_refl _
  | succ d ih=>
    have h1:=ih (by omega)
    have h2:=h (i+d) (by omega)
    show _≤psum f (i+d)+f (i+d)
    omega
end Go.Mz
/-
  Plain law: no matching of all nodes costs less than duals allow. No program in sight.
-/
namespace Go.Mz
theorem psum_sub {f g:Nat→Int} {n:Nat}:psum (fun i=>f i-g i) n=psum f n-psum g n:=by
  induction n with
  | zero=>rfl
  | succ n ih=>simp only [psum]; omega
theorem psum_mulc {f:Nat→Int} {n:Nat} {x:Int}:psum (fun i=>x*f i) n=x*psum f n:=by
  induction n with
  | zero=>simp [psum]
  | succ n ih=>simp only [psum]; rw [ih,Int.mul_add]
theorem psum_swap {f:Nat→Nat→Int} {N M:Nat}:psum (fun i=>psum (fun j=>f i j) M) N=psum (fun j=>psum (fun i=>f i j) N) M:=by
  induction N with
  | zero=>exact (psum_zero fun _ _=>rfl).symm
  | succ N ih=>
    show psum (fun i=>psum (fun j=>f i j) M) N+psum (fun j=>f N j) M=psum (fun j=>psum (fun i=>f i j) N+f N j) M
    rw [ih,psum_add]
theorem psum_sm {f:Nat→Nat} {n:Nat}:psum (fun i=>(f i:Int)) n=(sm f n:Int):=by
  induction n with
  | zero=>rfl
  | succ n ih=>simp only [psum,sm,ih]; omega
section
variable {N:Int} {n:Nat} {e:Nat→Edg} {m:Nat→Int} {k:Nat}
theorem ends_in {W:Nat→Bool} (hr:Right N n e) (ht:Tkn N n e m k fun _=>1):sm (fun j=>(if W (e (m j).toNat).fr.toNat then 1 else 0)+(if W (e (m j).toNat).to.toNat then 1 else 0)) k≤cnt W N.toNat:=by
  have hd1:∀v:Nat,v<N.toNat→dg e m k (v:Int)≤1:=fun v hv=>by
    by_cases h:0<dg e m k v
    · have:=ht.mst v (by omega) (by omega) h; omega
    · omega
  have h1:=weight_sum (fun v=>if W v then (1:Int) else 0) hr ht.ris
  have h2:psum (fun j=>(if W (e (m j).toNat).fr.toNat then (1:Int) else 0)+(if W (e (m j).toNat).to.toNat then (1:Int) else 0)) k=(sm (fun j=>(if W (e (m j).toNat).fr.toNat then 1 else 0)+(if W (e (m j).toNat).to.toNat then 1 else 0)) k:Int):=by
    rw [←psum_sm]
    refine psum_congr fun j _=>?_
    split<;>split<;>rfl
  have h3:psum (fun v=>(if W v then (1:Int) else 0)*(dg e m k (v:Int):Int)) N.toNat≤(cnt W N.toNat:Int):=by
    rw [cnt_sm,←psum_sm]
    refine psum_le fun v hv=>?_
    have:=hd1 v hv
    split
    · simp; omega
    · simp
  omega
theorem all_one (hr:Right N n e) (ht:Tkn N n e m k fun _=>1) (hall:2*(k:Int)=N):∀v,v<N.toNat→dg e m k (v:Int)=1:=by
  have hd1:∀v:Nat,v<N.toNat→dg e m k (v:Int)≤1:=fun v hv=>by
    by_cases h:0<dg e m k v
    · have:=ht.mst v (by omega) (by omega) h; omega
    · omega
  have h1:=weight_sum (fun _=>(1:Int)) hr ht.ris
  have h2:psum (fun _=>(1:Int)+1) k=2*k:=by
    have:∀j,psum (fun _=>(1:Int)+1) j=2*j:=by
      intro j
      induction j with
      | zero=>rfl
      | succ j ih=>simp only [psum,ih]; omega
    exact this k
  rw [h2] at h1
  have hc:∀M,psum (fun _=>(1:Int)) M=M:=by
    intro M
    induction M with
    | zero=>rfl
    | succ M ih=>simp only [psum,ih]; omega
  have h3:psum (fun v=>1-(dg e m k (v:Int):Int)) N.toNat=0:=by
    rw [psum_sub,hc]
    have:psum (fun v=>(dg e m k (v:Int):Int)) N.toNat=psum (fun v=>(1:Int)*(dg e m k (v:Int):Int)) N.toNat:=psum_congr fun v _=>by omega
    have:=hr.N0
    omega
  intro v hv
  have key:∀M,M≤N.toNat→psum (fun v=>1-(dg e m k (v:Int):Int)) M≤psum (fun v=>1-(dg e m k (v:Int):Int)) N.toNat:=fun M hM=>psum_mono (fun v hv=>by have:=hd1 v hv; omega) hM (Nat.le_refl _)
  have k1:=key (v+1) (by omega)
  have k0:0≤psum (fun v=>1-(dg e m k (v:Int):Int)) v:=psum_mono (f:=fun v=>1-(dg e m k (v:Int):Int)) (N:=N.toNat) (fun v hv=>by have:=hd1 v hv; omega) (Nat.zero_le v) (by omega)
  simp only [psum] at k1
  have:=hd1 v hv
  omega
open Classical in
theorem dual_bound {Y:Nat→Int} {yn:Nat} {z:Nat→Int} {ln:Nat→Nat} {nd:Nat→Nat→Int} {sn:Nat} (hr:Right N n e) (ht:Tkn N n e m k fun _=>1) (hall:2*(k:Int)=N) (hw:Wt N Y yn z ln nd sn)
    (hed:∀i,i<n→lp (e i)∨prW Y z ln nd sn (e i).fr (e i).to≤2*(e i).co):wsum Y yn z ln sn≤2*cst e m k:=by
  have hyn:N.toNat=yn:=by have:=hw.ylen; omega
  have hone:=all_one hr ht hall
  have hA:psum (fun j=>prW Y z ln nd sn (e (m j).toNat).fr (e (m j).toNat).to) k≤2*cst e m k:=by
    have:∀j,j≤k→psum (fun j=>prW Y z ln nd sn (e (m j).toNat).fr (e (m j).toNat).to) j≤2*cst e m j:=by
      intro j
      induction j with
      | zero=>intro _; exact Int.le_refl _
      | succ j ih=>
        intro hj
        have hmj:=ht.ris j (by omega)
        have:=(hed (m j).toNat (by omega)).resolve_left (ht.nl j (by omega))
        have:=ih (by omega)
        simp only [psum,cst]
        omega
    exact this k (Nat.le_refl _)
  let B:=fun i j=>In (nd i) (ln i) (e (m j).toNat).fr∧In (nd i) (ln i) (e (m j).toNat).to
  have hB:psum (fun j=>prW Y z ln nd sn (e (m j).toNat).fr (e (m j).toNat).to) k=psum Y yn-psum (fun i=>psum (fun j=>if B i j then z i else 0) k) sn:=by
    have e1:psum (fun j=>prW Y z ln nd sn (e (m j).toNat).fr (e (m j).toNat).to) k=psum (fun j=>Y (e (m j).toNat).fr.toNat+Y (e (m j).toNat).to.toNat) k-psum (fun j=>psum (fun i=>if B i j then z i else 0) sn) k:=by
      rw [←psum_sub]; rfl
    rw [e1,psum_swap,←weight_sum Y hr ht.ris,hyn]
    congr 1
    exact psum_congr fun v hv=>by rw [hone v (by omega)]; simp
  have hC:∀i,i<sn→psum (fun j=>if B i j then z i else 0) k≤z i*((ln i / 2:Nat):Int):=fun i hi=>by
    obtain ⟨_,hz,_⟩:=hw.sets i hi
    have e1:psum (fun j=>if B i j then z i else 0) k=z i*(sm (fun j=>if B i j then 1 else 0) k:Int):=by
      rw [←psum_sm,←psum_mulc]
      refine psum_congr fun j _=>?_
      split<;>simp
    rw [e1]
    refine Int.mul_le_mul_of_nonneg_left ?_ hz.1
    have h1:=ends_in (W:=fun v=>decide (In (nd i) (ln i) (v:Int))) hr ht
    have h2:=cover_count (cv:=nd i) (N:=N.toNat) (ln i)
    have h3:2*sm (fun j=>if B i j then 1 else 0) k≤sm (fun j=>(if decide (In (nd i) (ln i) (((e (m j).toNat).fr.toNat:Nat):Int)) then 1 else 0)+(if decide (In (nd i) (ln i) (((e (m j).toNat).to.toNat:Nat):Int)) then 1 else 0)) k:=by
      have:∀j,j≤k→2*sm (fun j=>if B i j then 1 else 0) j≤sm (fun j=>(if decide (In (nd i) (ln i) (((e (m j).toNat).fr.toNat:Nat):Int)) then 1 else 0)+(if decide (In (nd i) (ln i) (((e (m j).toNat).to.toNat:Nat):Int)) then 1 else 0)) j:=by
        intro j
        induction j with
        | zero=>intro _; exact Nat.le_refl _
        | succ j ih=>
          intro hj
          have hmj:=ht.ris j (by omega)
          have hx:=hr.ed (m j).toNat (by omega)
          have hf0:=hx.f0; have ht0:=hx.t0
          have ih:=ih (by omega)
          simp only [sm]
          by_cases hb:B i j
          · have b1:In (nd i) (ln i) (((e (m j).toNat).fr.toNat:Nat):Int):=by rw [show (((e (m j).toNat).fr.toNat:Nat):Int)=(e (m j).toNat).fr by omega]; exact hb.1
            have b2:In (nd i) (ln i) (((e (m j).toNat).to.toNat:Nat):Int):=by rw [show (((e (m j).toNat).to.toNat:Nat):Int)=(e (m j).toNat).to by omega]; exact hb.2
            rw [if_pos hb,if_pos (decide_eq_true b1),if_pos (decide_eq_true b2)]; omega
          · rw [if_neg hb]; omega
      exact this k (Nat.le_refl _)
    omega
  have hD:psum (fun i=>psum (fun j=>if B i j then z i else 0) k) sn≤psum (fun i=>z i*((ln i / 2:Nat):Int)) sn:=psum_le hC
  unfold wsum
  omega
end
end Go.Mz
