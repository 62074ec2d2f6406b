/-
  Joined: VouE, VouS1, VouF, VouG, VouS2, VouH, VouI, VouQ, VouS3.
-/
import Derived.Test.YtndgjfbibkdokaaPkA00
import Derived.Test.YtndgjfbibkdokaaPkM
set_option linter.unusedSimpArgs false
set_option linter.unusedVariables false
/-
  Walks of layer 12, more: Heaviest.
-/
namespace Go.Mz
section
variable {E:VP}
def psum (f:Nat→Int):Nat→Int
  | 0=>0
  | i+1=>psum f i+f i
theorem psum_bound {f:Nat→Int} {a b:Int}:∀{i:Nat},(∀v,v<i→a≤f v∧f v≤b)→a*(i:Int)≤psum f i∧psum f i≤b*(i:Int):=by
  intro i
  induction i with
  | zero=>intro _; simp [psum]
  | succ i ih=>
    intro h
    have h1:=ih fun v hv=>h v (by omega)
    have h2:=h i (by omega)
    show _≤psum f i+f i∧psum f i+f i≤_
    have e1:a*((i+1:Nat):Int)=a*(i:Int)+a:=by rw [Int.natCast_add,Int.mul_add]; simp
    have e2:b*((i+1:Nat):Int)=b*(i:Int)+b:=by rw [Int.natCast_add,Int.mul_add]; simp
    rw [e1,e2]
    omega
end
end Go.Mz
/-
  Plain laws: covers and potentials bound every matching. No program in sight.
-/
namespace Go.Mz
open Classical in
theorem cover_count {cv:Nat→Int} {N:Nat}:∀q,cnt (fun v=>decide (In cv q (v:Int))) N≤q:=by
  intro q
  induction q with
  | zero=>rw [cnt_none fun v _=>decide_eq_false fun ⟨i,hi,_⟩=>by omega]; exact Nat.le_refl _
  | succ q ih=>
    by_cases h:0≤cv q∧cv q<N∧¬In cv q (cv q)
    · have:cnt (fun v=>decide (In cv (q+1) (v:Int))) N=cnt (fun v=>decide (In cv q (v:Int))) N+1:=by
        refine cnt_less (b:=(cv q).toNat) (by omega) ?_ ?_ fun i hi hne=>?_
        · exact decide_eq_true ⟨q,by omega,by omega⟩
        · exact decide_eq_false (by rw [show (((cv q).toNat:Nat):Int)=cv q by omega]; exact h.2.2)
        · refine decide_eq_decide.2 ⟨fun ⟨j,hj,hv⟩=>?_,fun ⟨j,hj,hv⟩=>⟨j,by omega,hv⟩⟩
          by_cases ej:j=q
          · subst ej; omega
          · exact ⟨j,by omega,hv⟩
      omega
    · have:cnt (fun v=>decide (In cv (q+1) (v:Int))) N=cnt (fun v=>decide (In cv q (v:Int))) N:=by
        refine cnt_congr fun i hi=>decide_eq_decide.2 ⟨fun ⟨j,hj,hv⟩=>?_,fun ⟨j,hj,hv⟩=>⟨j,by omega,hv⟩⟩
        by_cases ej:j=q
        · subst ej
          by_cases h':In cv j (cv j)
          · rwa [hv] at h'
          · exact absurd ⟨by omega,by omega,h'⟩ h
        · exact ⟨j,by omega,hv⟩
      omega
theorem psum_congr {f g:Nat→Int} {n:Nat} (h:∀i,i<n→f i=g i):psum f n=psum g n:=by
  induction n with
  | zero=>rfl
  | succ n ih=>simp only [psum]; rw [ih fun i hi=>h i (by omega),h n (by omega)]
theorem psum_add {f g:Nat→Int} {n:Nat}:psum (fun i=>f i+g i) n=psum f n+psum g n:=by
  induction n with
  | zero=>rfl
  | succ n ih=>simp only [psum]; omega
theorem psum_zero {f:Nat→Int} {n:Nat} (h:∀i,i<n→f i=0):psum f n=0:=by
  induction n with
  | zero=>rfl
  | succ n ih=>simp only [psum]; rw [ih fun i hi=>h i (by omega),h n (by omega)]; rfl
theorem psum_le {f g:Nat→Int} {n:Nat} (h:∀i,i<n→f i≤g i):psum f n≤psum g n:=by
  induction n with
  | zero=>exact Int.le_refl _
  | succ n ih=>simp only [psum]; have:=ih fun i hi=>h i (by omega); have:=h n (by omega); omega
theorem psum_single {a n:Nat} {x:Int} (ha:a<n):psum (fun i=>if i=a then x else 0) n=x:=by
  induction n with
  | zero=>omega
  | succ n ih=>
    simp only [psum]
    by_cases h:a=n
    · subst h
      rw [psum_zero fun i hi=>if_neg (by omega),if_pos rfl]; omega
    · rw [ih (by omega),if_neg (by omega)]; omega
theorem weight_sum {N:Int} {n:Nat} {e:Nat→Edg} {m:Nat→Int} (w:Nat→Int) (hr:Right N n e):∀{k:Nat},Ris m k n→psum (fun v=>w v*(dg e m k v:Int)) N.toNat=psum (fun j=>w (e (m j).toNat).fr.toNat+w (e (m j).toNat).to.toNat) k:=by
  intro k
  induction k with
  | zero=>intro _; rw [psum_zero fun i _=>by simp [dg]]; rfl
  | succ k ih=>
    intro h
    have hmk:=h k (by omega)
    have hx:=hr.ed (m k).toNat (by omega)
    have hf0:=hx.f0; have hf1:=hx.f1; have ht0:=hx.t0; have ht1:=hx.t1
    have e1:psum (fun v=>w v*(dg e m (k+1) v:Int)) N.toNat=psum (fun v=>w v*(dg e m k v:Int)) N.toNat+(psum (fun v=>if v=(e (m k).toNat).fr.toNat then w (e (m k).toNat).fr.toNat else 0) N.toNat+psum (fun v=>if v=(e (m k).toNat).to.toNat then w (e (m k).toNat).to.toNat else 0) N.toNat):=by
      rw [←psum_add,←psum_add]
      refine psum_congr fun v _=>?_
      rw [dg_succ]
      by_cases h1:v=(e (m k).toNat).fr.toNat<;>by_cases h2:v=(e (m k).toNat).to.toNat
      · have q1:(e (m k).toNat).fr=(v:Int):=by omega
        have q2:(e (m k).toNat).to=(v:Int):=by omega
        rw [if_pos q1,if_pos q2,if_pos h1,if_pos h2,←h1,←h2]
        simp only [Int.natCast_add,Int.mul_add]; omega
      · have q1:(e (m k).toNat).fr=(v:Int):=by omega
        have q2:¬(e (m k).toNat).to=(v:Int):=by omega
        rw [if_pos q1,if_neg q2,if_pos h1,if_neg h2,←h1]
        simp only [Int.natCast_add,Int.mul_add]; omega
      · have q1:¬(e (m k).toNat).fr=(v:Int):=by omega
        have q2:(e (m k).toNat).to=(v:Int):=by omega
        rw [if_neg q1,if_pos q2,if_neg h1,if_pos h2,←h2]
        simp only [Int.natCast_add,Int.mul_add]; omega
      · have q1:¬(e (m k).toNat).fr=(v:Int):=by omega
        have q2:¬(e (m k).toNat).to=(v:Int):=by omega
        rw [if_neg q1,if_neg q2,if_neg h1,if_neg h2]
        simp only [Int.natCast_add,Int.mul_add]; omega
    rw [e1,ih (h.cut (by omega)),psum_single (by omega),psum_single (by omega)]
    simp only [psum]
end Go.Mz
/-
  Walks of layer 12, more: odd.
-/
namespace Go.Mz
section
variable {E:VP}
end
end Go.Mz
/-
  Walks of layer 12, more: Largest, NoPerfect.
-/
namespace Go.Mz
section
variable {E:VP}
open Classical in
noncomputable def oddS (N:Int) (n:Nat) (e:Nat→Edg) (set:Nat→Int) (q:Nat):Nat:=oddN N n e fun v=>decide (In set q v)
structure LrgP (N:Int) (n:Nat) (e:Nat→Edg) (m:Nat→Int) (k:Nat) (set:Nat→Int) (q:Nat):Prop where
  tk:Tkn N n e m k fun _=>1
  ris:Ris set q N
  eq:2*(k:Int)=N+q-oddS N n e set q
end
end Go.Mz
/-
  Plain law: no matching has more edges than a set of nodes allows that leaves odd parts (each odd part has a node that is left, or one that is matched into the set). No program in sight.
-/
namespace Go.Mz
theorem sm_swap {f:Nat→Nat→Nat} {N M:Nat}:sm (fun i=>sm (fun j=>f i j) M) N=sm (fun j=>sm (fun i=>f i j) N) M:=by
  induction N with
  | zero=>exact (sm_zero fun _ _=>rfl).symm
  | succ N ih=>
    show sm (fun i=>sm (fun j=>f i j) M) N+sm (fun j=>f N j) M=sm (fun j=>sm (fun i=>f i j) N+f N j) M
    rw [ih,sm_add]
theorem sm_uniq {p:Nat→Prop} [DecidablePred p] {N:Nat} (h:∀i j,i<N→j<N→p i→p j→i=j):sm (fun i=>if p i then 1 else 0) N≤1:=by
  induction N with
  | zero=>exact Nat.zero_le _
  | succ N ih=>
    simp only [sm]
    by_cases hp:p N
    · rw [sm_zero fun i hi=>if_neg fun hi'=>by have:=h i N (by omega) (by omega) hi' hp; omega,if_pos hp]; omega
    · rw [if_neg hp]; have:=ih fun i j hi hj=>h i j (by omega) (by omega); omega
theorem sm_pick {N:Nat} {a:Int} {g:Nat→Nat} (a0:0≤a) (a1:a<N):sm (fun v=>if a=(v:Int) then g v else 0) N=g a.toNat:=by
  obtain ⟨x,rfl⟩:∃x:Nat,a=x:=⟨a.toNat,by omega⟩
  have h:=sm_one (f:=fun v:Nat=>if (x:Int)=(v:Int) then g v else 0) (g:=fun _=>0) (n:=N) (b:=x) (by omega) fun i hi hne=>if_neg (by omega)
  rw [sm_zero (f:=fun _=>0) fun _ _=>rfl,if_pos rfl] at h
  rw [tN]
  omega
section
variable {N:Int} {n:Nat} {e:Nat→Edg} {W:Nat→Bool}
theorem cn_W {s v:Nat} (h:Cn (Adj e n W) s v):W s=W v:=h.resp W fun a b hab=>by rw [hab.left.1,hab.left.2]
theorem fst_uniq {s s' v:Nat} (h:Fst (Adj e n W) W s) (h':Fst (Adj e n W) W s') (k:Cn (Adj e n W) s v) (k':Cn (Adj e n W) s' v):s=s':=by
  rcases Nat.lt_trichotomy s s' with hlt | rfl | hlt
  · exact (h'.2 s hlt (k.trans k'.symm)).elim
  · rfl
  · exact (h.2 s' hlt (k'.trans k.symm)).elim
open Classical in
theorem odd_boundG {m:Nat→Int} {k:Nat} (hr:Right N n e) (hm:∀j,j<k→0≤m j∧m j<n) (hd1:∀v:Nat,v<N.toNat→dg e m k (v:Int)≤1):(oddN N n e W:Int)+2*k≤N+(cnt W N.toNat:Int):=by
  have hN0:=hr.N0
  have hsum:∀j,j≤k→sm (fun v=>dg e m j (v:Int)) N.toNat=2*j:=by
    intro j
    induction j with
    | zero=>intro _; exact sm_zero fun _ _=>rfl
    | succ j ih=>
      intro hj
      have hmj:=hm j (by omega)
      have hx:=hr.ed (m j).toNat (by omega)
      have hf0:=hx.f0; have hf1:=hx.f1; have ht0:=hx.t0; have ht1:=hx.t1
      have hone:∀a:Int,0≤a→a<N→sm (fun v=>if a=(v:Int) then 1 else 0) N.toNat=1:=fun a a0 a1=>sm_pick (g:=fun _=>1) a0 (by omega)
      have:sm (fun v=>dg e m (j+1) (v:Int)) N.toNat=sm (fun v=>dg e m j (v:Int)) N.toNat+(sm (fun v=>if (e (m j).toNat).fr=(v:Int) then 1 else 0) N.toNat+sm (fun v=>if (e (m j).toNat).to=(v:Int) then 1 else 0) N.toNat):=by
        rw [←sm_add,←sm_add]
        exact sm_congr fun v _=>by rw [dg_succ]; omega
      rw [this,ih (by omega),hone _ hf0 hf1,hone _ ht0 ht1]; omega
  let R:=Adj e n W
  let us:=fun s=>sm (fun v=>if Cn R s v then 1-dg e m k (v:Int) else 0) N.toNat
  let ds:=fun s j=>sm (fun v=>if Cn R s v then dg e m j (v:Int) else 0) N.toNat
  let X:=fun s j=>(Cn R s (e (m j).toNat).fr.toNat∧¬Cn R s (e (m j).toNat).to.toNat)∨(¬Cn R s (e (m j).toNat).fr.toNat∧Cn R s (e (m j).toNat).to.toNat)
  let bs:=fun s=>sm (fun j=>if X s j then 1 else 0) k
  have hpar:∀s j,j≤k→ds s j%2=sm (fun j=>if X s j then 1 else 0) j%2:=by
    intro s j
    induction j with
    | zero=>intro _; show sm _ _%2=0%2; rw [sm_zero fun v _=>by show (if Cn R s v then 0 else 0)=0; split<;>rfl]
    | succ j ih=>
      intro hj
      have hmj:=hm j (by omega)
      have hx:=hr.ed (m j).toNat (by omega)
      have hf0:=hx.f0; have hf1:=hx.f1; have ht0:=hx.t0; have ht1:=hx.t1
      have hone:∀a:Int,0≤a→a<N→sm (fun v=>if Cn R s v then (if a=(v:Int) then 1 else 0) else 0) N.toNat=if Cn R s a.toNat then 1 else 0:=fun a a0 a1=>by
            rw [←sm_pick (g:=fun v=>if Cn R s v then 1 else 0) a0 (by omega:a<(N.toNat:Int))]
            refine sm_congr fun v _=>?_
            split<;>split<;>rfl
      have hspl:ds s (j+1)=ds s j+((if Cn R s (e (m j).toNat).fr.toNat then 1 else 0)+(if Cn R s (e (m j).toNat).to.toNat then 1 else 0)):=by
        rw [←hone _ hf0 hf1,←hone _ ht0 ht1]
        show sm _ _=sm _ _+_
        rw [←sm_add,←sm_add]
        refine sm_congr fun v _=>?_
        rw [dg_succ]
        split<;>omega
      have ih:=ih (by omega)
      rw [hspl]
      simp only [sm]
      show (ds s j+_)%2=(_+if X s j then 1 else 0)%2
      by_cases h1:Cn R s (e (m j).toNat).fr.toNat<;>by_cases h2:Cn R s (e (m j).toNat).to.toNat
      · have:¬X s j:=fun h=>h.elim (fun h=>h.2 h2) fun h=>h.1 h1
        rw [if_pos h1,if_pos h2,if_neg this]; omega
      · have:X s j:=.inl ⟨h1,h2⟩
        rw [if_pos h1,if_neg h2,if_pos this]; omega
      · have:X s j:=.inr ⟨h1,h2⟩
        rw [if_neg h1,if_pos h2,if_pos this]; omega
      · have:¬X s j:=fun h=>h.elim (fun h=>h1 h.1) fun h=>h2 h.2
        rw [if_neg h1,if_neg h2,if_neg this]; omega
  have hcsz:∀s,csz R N.toNat s=us s+ds s k:=fun s=>by
    show cnt _ _=sm _ _+sm _ _
    rw [cnt_sm,←sm_add]
    refine sm_congr fun v hv=>?_
    have:=hd1 v hv
    by_cases h:Cn R s v
    · simp [h]; omega
    · simp [h]
  have hodd:∀s,csz R N.toNat s%2≤us s+bs s:=fun s=>by
    have h1:=hcsz s
    have h2:=hpar s k (Nat.le_refl _)
    have h3:bs s=sm (fun j=>if X s j then 1 else 0) k:=rfl
    omega
  have htot:oddN N n e W≤sm (fun s=>if Fst R W s then us s+bs s else 0) N.toNat:=by
    have:∀s,oddB R W N.toNat s≤sm (fun s=>if Fst R W s then us s+bs s else 0) s:=by
      intro s
      induction s with
      | zero=>exact Nat.le_refl _
      | succ s ih=>
        show oddB R W N.toNat s+_≤_
        simp only [sm]
        have:=hodd s
        split<;>omega
    exact this N.toNat
  have hu:sm (fun s=>if Fst R W s then us s else 0) N.toNat≤sm (fun v=>1-dg e m k (v:Int)) N.toNat:=by
    have e1:sm (fun s=>if Fst R W s then us s else 0) N.toNat=sm (fun s=>sm (fun v=>if Fst R W s∧Cn R s v then 1-dg e m k (v:Int) else 0) N.toNat) N.toNat:=by
      refine sm_congr fun s _=>?_
      by_cases h:Fst R W s
      · rw [if_pos h]; exact sm_congr fun v _=>by by_cases h':Cn R s v<;>simp [h,h']
      · rw [if_neg h]; exact (sm_zero fun v _=>by simp [h]).symm
    rw [e1,sm_swap]
    refine sm_le fun v hv=>?_
    have hz:1-dg e m k (v:Int)=0∨1-dg e m k (v:Int)=1:=by omega
    rcases hz with hz | hz
    · rw [hz,sm_zero fun s _=>by split<;>rfl]; exact Nat.le_refl _
    · rw [hz]
      exact sm_uniq (p:=fun s=>Fst R W s∧Cn R s v) fun i j _ _ hi hj=>fst_uniq hi.1 hj.1 hi.2 hj.2
  have hb:sm (fun s=>if Fst R W s then bs s else 0) N.toNat≤sm (fun j=>(if W (e (m j).toNat).fr.toNat then 1 else 0)+(if W (e (m j).toNat).to.toNat then 1 else 0)) k:=by
    have e1:sm (fun s=>if Fst R W s then bs s else 0) N.toNat=sm (fun s=>sm (fun j=>if Fst R W s∧X s j then 1 else 0) k) N.toNat:=by
      refine sm_congr fun s _=>?_
      by_cases h:Fst R W s
      · rw [if_pos h]; exact sm_congr fun v _=>by by_cases h':X s v<;>simp [h,h']
      · rw [if_neg h]; exact (sm_zero fun v _=>by simp [h]).symm
    rw [e1,sm_swap]
    refine sm_le fun j hj=>?_
    have hmj:=hm j hj
    have noW:∀s v,Fst R W s→Cn R s v→W v=false:=fun s v hf hc=>by rw [←cn_W hc]; exact hf.1
    cases hwf:W (e (m j).toNat).fr.toNat with
    | true=>
      cases hwt:W (e (m j).toNat).to.toNat with
      | true=>
        refine Nat.le_trans (Nat.le_of_eq (sm_zero fun s _=>if_neg fun ⟨hf,hx⟩=>?_)) (Nat.zero_le _)
        rcases hx with ⟨h,_⟩ | ⟨_,h⟩
        · rw [noW s _ hf h] at hwf; cases hwf
        · rw [noW s _ hf h] at hwt; cases hwt
      | false=>
        refine Nat.le_trans (sm_uniq (p:=fun s=>Fst R W s∧X s j) fun a b _ _ ha hb=>?_) (by simp)
        have side:∀s,Fst R W s→X s j→Cn R s (e (m j).toNat).to.toNat:=fun s hf hx=>by
          rcases hx with ⟨h,_⟩ | ⟨_,h⟩
          · rw [noW s _ hf h] at hwf; cases hwf
          · exact h
        exact fst_uniq ha.1 hb.1 (side a ha.1 ha.2) (side b hb.1 hb.2)
    | false=>
      cases hwt:W (e (m j).toNat).to.toNat with
      | true=>
        refine Nat.le_trans (sm_uniq (p:=fun s=>Fst R W s∧X s j) fun a b _ _ ha hb=>?_) (by simp)
        have side:∀s,Fst R W s→X s j→Cn R s (e (m j).toNat).fr.toNat:=fun s hf hx=>by
          rcases hx with ⟨h,_⟩ | ⟨_,h⟩
          · exact h
          · rw [noW s _ hf h] at hwt; cases hwt
        exact fst_uniq ha.1 hb.1 (side a ha.1 ha.2) (side b hb.1 hb.2)
      | false=>
        have hadj:R (e (m j).toNat).fr.toNat (e (m j).toNat).to.toNat:=⟨(m j).toNat,by omega,by simp [okE,hwf,hwt],.inl ⟨rfl,rfl⟩⟩
        refine Nat.le_trans (Nat.le_of_eq (sm_zero fun s _=>if_neg fun ⟨hf,hx⟩=>?_)) (Nat.zero_le _)
        rcases hx with ⟨h,h'⟩ | ⟨h',h⟩
        · exact h' (h.trans (.edge hadj))
        · exact h' (h.trans (.symm (.edge hadj)))
  have hw:sm (fun j=>(if W (e (m j).toNat).fr.toNat then 1 else 0)+(if W (e (m j).toNat).to.toNat then 1 else 0)) k≤cnt W N.toNat:=by
    have key:∀j,j≤k→sm (fun j=>(if W (e (m j).toNat).fr.toNat then 1 else 0)+(if W (e (m j).toNat).to.toNat then 1 else 0)) j=sm (fun v=>if W v then dg e m j (v:Int) else 0) N.toNat:=by
      intro j
      induction j with
      | zero=>intro _; exact (sm_zero fun v _=>by show (if W v then 0 else 0)=0; split<;>rfl).symm
      | succ j ih=>
        intro hj
        have hmj:=hm j (by omega)
        have hx:=hr.ed (m j).toNat (by omega)
        have hf0:=hx.f0; have hf1:=hx.f1; have ht0:=hx.t0; have ht1:=hx.t1
        have hone:∀a:Int,0≤a→a<N→sm (fun v=>if W v then (if a=(v:Int) then 1 else 0) else 0) N.toNat=if W a.toNat then 1 else 0:=fun a a0 a1=>by
            rw [←sm_pick (g:=fun v=>if W v then 1 else 0) a0 (by omega:a<(N.toNat:Int))]
            refine sm_congr fun v _=>?_
            split<;>split<;>rfl
        simp only [sm]
        rw [ih (by omega),←hone _ hf0 hf1,←hone _ ht0 ht1,←sm_add,←sm_add]
        refine sm_congr fun v _=>?_
        rw [dg_succ]
        split<;>omega
    rw [key k (Nat.le_refl _),cnt_sm]
    refine sm_le fun v hv=>?_
    have:=hd1 v hv
    split<;>omega
  have hsp:sm (fun s=>if Fst R W s then us s+bs s else 0) N.toNat=sm (fun s=>if Fst R W s then us s else 0) N.toNat+sm (fun s=>if Fst R W s then bs s else 0) N.toNat:=by
    rw [←sm_add]; exact sm_congr fun s _=>by split<;>rfl
  have hun:sm (fun v=>1-dg e m k (v:Int)) N.toNat+2*k=N.toNat:=by
    have hcn:∀M,sm (fun _=>1) M=M:=by
      intro M
      induction M with
      | zero=>rfl
      | succ M ih=>simp only [sm,ih]
    rw [←hsum k (Nat.le_refl _),←sm_add,sm_congr (g:=fun _=>1) fun v hv=>by have:=hd1 v hv; omega,hcn]
  omega
theorem odd_bound {m:Nat→Int} {k:Nat} (hr:Right N n e) (ht:Tkn N n e m k fun _=>1):(oddN N n e W:Int)+2*k≤N+(cnt W N.toNat:Int):=
  odd_boundG hr (fun j hj=>⟨(ht.ris j hj).1,(ht.ris j hj).2.1⟩) fun v hv=>by
    by_cases h:0<dg e m k v
    · have:=ht.mst v (by omega) (by omega) h; omega
    · omega
end
open Classical in
theorem barrier_bound {N:Int} {n:Nat} {e:Nat→Edg} {m:Nat→Int} {k:Nat} {set:Nat→Int} {q:Nat} (hr:Right N n e) (ht:Tkn N n e m k fun _=>1):(oddS N n e set q:Int)+2*k≤N+q:=by
  have h1:=odd_bound (W:=fun v=>decide (In set q (v:Int))) hr ht
  have h2:=cover_count (cv:=set) (N:=N.toNat) q
  have h3:oddS N n e set q=oddN N n e fun v=>decide (In set q (v:Int)):=rfl
  omega
end Go.Mz
/-
  Walks of layer 12, more: weigh, and the function of pairs that it makes.
-/
namespace Go.Mz
section
variable {E:VP}
def Fun2 (E:VP) (H:Hp) (g:Nat) (gk:List Value) (N:Int) (f:Int→Int→Int):Prop:=
  T0.fok g=true∧∀(u v:Int) (H1:Hp) (K:VP),0≤u→u<N→0≤v→v<N→Step (fun _=>False) H H1→(∀H2,Step (fun _=>False) H1 H2→K (.int .i64 (f u v)) H2)→callW P0 g (.int .i64 u :: .int .i64 v :: gk) K E H1
theorem Fun2.step {H H':Hp} {g:Nat} {gk:List Value} {N:Int} {f:Int→Int→Int} (h:Fun2 E H g gk N f) (s:Step (fun _=>False) H H'):Fun2 E H' g gk N f:=
  ⟨h.1,fun u v H1 K u0 u1 v0 v1 s1=>h.2 u v H1 K u0 u1 v0 v1 (s.and s1)⟩
structure Wt (n:Int) (Y:Nat→Int) (yn:Nat) (z:Nat→Int) (ln:Nat→Nat) (nd:Nat→Nat→Int) (sn:Nat):Prop where
  ylen:(yn:Int)=n
  slen:(sn:Int)≤n
  ybnd:∀v,v<yn→-4398046511104≤Y v∧Y v≤4398046511104
  sets:∀i,i<sn→(3≤ln i∧ln i%2=1)∧(0≤z i∧z i≤4398046511104)∧Ris (nd i) (ln i) n
def wsum (Y:Nat→Int) (yn:Nat) (z:Nat→Int) (ln:Nat→Nat) (sn:Nat):Int:=psum Y yn-psum (fun i=>z i*((ln i / 2:Nat):Int)) sn
open Classical in
noncomputable def prW (Y:Nat→Int) (z:Nat→Int) (ln:Nat→Nat) (nd:Nat→Nat→Int) (sn:Nat) (u v:Int):Int:=
  Y u.toNat+Y v.toNat-psum (fun i=>if In (nd i) (ln i) u∧In (nd i) (ln i) v then z i else 0) sn
structure DualR (H:Hp) (yp:OA) (yn:Nat) (sp:OA) (sn:Nat) (Y:Nat→Int) (z:Nat→Int) (sl:Nat→Sl) (nd:Nat→Nat→Int):Prop where
  y:Rdr H yp yn Y
  s:Rdr H sp sn (fun i=>(sl i,z i))
  nd:∀i,i<sn→Rdr H (sl i).p (sl i).n (nd i)∧(sl i).n<2 ^ 63
theorem DualR.keep {H H':Hp} {yp:OA} {yn:Nat} {sp:OA} {sn:Nat} {Y:Nat→Int} {z:Nat→Int} {sl:Nat→Sl} {nd:Nat→Nat→Int} (h:DualR H yp yn sp sn Y z sl nd) (s:Step (fun _=>False) H H'):DualR H' yp yn sp sn Y z sl nd:=
  ⟨h.y.keep s fun _ _ _ h=>h,h.s.keep s fun _ _ _ h=>h,fun i hi=>⟨(h.nd i hi).1.keep s fun _ _ _ h=>h,(h.nd i hi).2⟩⟩
theorem Rdr.slz {H:Hp} {p:OA} {n:Nat} {f:Nat→Sl × Int} (h:Rdr H p n f) {i:Int} (h0:0≤i) (h1:i<(n:Int)) {G:OA→Nat→Nat→Int→Prop}
    (k:G (f i.toNat).1.p (f i.toNat).1.n (f i.toNat).1.c (f i.toNat).2):Mz.ix p n i 2 fun b o=>ldS (H.get b o) fun xp xn xc=>ldI .i64 (H.get b (o+1)) fun x=>G xp xn xc x:=by
  refine h.ix (α:=Sl × Int) h0 h1 fun b o _ hg=>?_
  have g0:=hg 0 (by decide)
  have g1:=hg 1 (by decide)
  simp only [El.enc,Nat.add_zero] at g0 g1
  simp at g0 g1
  rw [g0,g1]
  exact k
open Classical in
structure Ins (H1 H:Hp) (nb:Nat) (ip:OA) (i ic N:Nat) (rows:Nat→Sl) (ln:Nat→Nat) (nd:Nat→Nat→Int):Prop where
  cell:H nb=some ⟨[.slice ip i ic],134⟩
  new:H1 nb=none
  row:Row H ip i ic rows
  rnew:∀y,fpS ip y→H1 y=none∧y≠nb
  each:∀j,j<i→(rows j).n=N∧Rdr H (rows j).p N (fun v=>decide (In (nd j) (ln j) v))∧∀y,fpS (rows j).p y→H1 y=none∧y≠nb∧¬fpS ip y
theorem Ins.keep {H1 H H':Hp} {nb:Nat} {ip:OA} {i ic N:Nat} {rows:Nat→Sl} {ln:Nat→Nat} {nd:Nat→Nat→Int} (h:Ins H1 H nb ip i ic N rows ln nd) (s:Step (fun _=>False) H H'):Ins H1 H' nb ip i ic N rows ln nd:=
  ⟨s.keep _ _ h.cell fun h=>h,h.new,h.row.keep s fun _ _ h=>h,h.rnew,fun j hj=>⟨(h.each j hj).1,(h.each j hj).2.1.keep s fun _ _ _ h=>h,(h.each j hj).2.2⟩⟩
open Classical in
theorem vpair {n:Int} {yp:OA} {yn yc:Nat} {sp:OA} {sn sc:Nat} {Y:Nat→Int} {z:Nat→Int} {sl:Nat→Sl} {nd:Nat→Nat→Int} {db nb:Nat} {H0 H1:Hp} {ip:OA} {ic:Nat} {rows:Nat→Sl} {u v:Int} {K:Int→Hp→Prop}
    (hd:H1 db=some ⟨[.slice yp yn yc,.slice sp sn sc],30⟩) (hdu:DualR H1 yp yn sp sn Y z sl nd) (hw:Wt n Y yn z (fun i=>(sl i).n) nd sn) (hn:n≤1024) (hi:Ins H0 H1 nb ip sn ic n.toNat rows (fun i=>(sl i).n) nd)
    (u0:0≤u) (u1:u<n) (v0:0≤v) (v1:v<n) (k:∀H2,Step (fun _=>False) H1 H2→K (prW Y z (fun i=>(sl i).n) nd sn u v) H2):Q39.call u v db 0 nb 0 E H1 K:=by
  have hy:=hw.ylen
  have hs:=hw.slen
  refine Q39.of (Q39.run_eq ?_)
  unfold Q39.run_t
  simp only [get_at hd,gZ,gS,ldI_mk,ldS_mk,Nat.zero_add]
  refine hdu.y.ixI (by omega) (by omega) ?_
  refine hdu.y.ixI (by omega) (by omega) ?_
  have b1:=hw.ybnd u.toNat (by omega)
  have b2:=hw.ybnd v.toNat (by omega)
  rw [i64w (by omega) (by omega)]
  refine Q39.l1_rule (fun u' v' tb tbo x tp tn tc t23 t24 H'=>u=u'∧v=v'∧nb=tb∧tbo=0∧sp=tp∧sn=tn∧t23=sn∧∃i:Nat,t24=i∧i≤sn∧Step (fun _=>False) H1 H'∧x=Y u.toNat+Y v.toNat-psum (fun i=>if In (nd i) (sl i).n u∧In (nd i) (sl i).n v then z i else 0) i)
    (fun u' v' tb tbo x tp tn tc t23 t24 H'=>sn-t24.toNat) ?_ ⟨rfl,rfl,rfl,rfl,rfl,rfl,rfl,0,rfl,by omega,.refl,by simp [psum]⟩
  rintro u' v' tb tbo x tp tn tc t23 t24 H2 ⟨rfl,rfl,rfl,rfl,rfl,rfl,rfl,i,rfl,hil,s2,rfl⟩ X hX
  have hpb:=psum_bound (f:=fun i=>if In (nd i) (sl i).n u∧In (nd i) (sl i).n v then z i else 0) (a:=0) (b:=4398046511104) (i:=i) fun j hj=>by
    have:=(hw.sets j (by omega)).2.1
    split<;>omega
  refine Q39.b1_eq ?_
  unfold Q39.b1_t
  refine bc (fun hlt=>?_) fun hge=>?_
  · have hz:=(hw.sets i (by omega)).2.1
    refine (hdu.s.keep s2 fun _ _ _ h=>h).slz (by omega) (by omega) ?_
    simp only [tN]
    refine nwst rfl rfl fun b3 H3 hb3 e3 s3=>?_
    have s13:=s2.and s3
    have hi3:=hi.keep s13
    simp only [get_at e3,get_at hi3.cell,gZ,gS,ldI_mk,ldS_mk,Nat.zero_add]
    have next:∀x,x=(if In (nd i) (sl i).n u∧In (nd i) (sl i).n v then z i else 0)→Q39.j1 u v nb 0 (Y u.toNat+Y v.toNat-psum (fun i=>if In (nd i) (sl i).n u∧In (nd i) (sl i).n v then z i else 0) i-x) sp sn tc (sn:Int) (i:Int) X E H3 K:=fun x hx=>by
      refine Q39.j1_eq ?_
      unfold Q39.j1_t
      rw [i64w (by omega) (by omega)]
      refine hX _ _ _ _ _ _ _ _ _ _ _ ⟨rfl,rfl,rfl,rfl,rfl,rfl,rfl,i+1,by omega,by omega,s13,?_⟩ (by omega)
      rw [hx]
      simp only [psum]
      omega
    obtain ⟨rn,rr,_⟩:=hi3.each i (by omega)
    refine hi3.row.rdr.ixS (by omega) (by omega) ?_
    simp only [tN]
    rw [rn]
    refine rr.ixB (by omega) (by omega) ?_
    rw [show ((u.toNat:Nat):Int)=u by omega]
    refine bc (fun hu=>?_) fun hu=>?_
    · refine hi3.row.rdr.ixS (by omega) (by omega) ?_
      simp only [tN]
      rw [rn]
      refine rr.ixB (by omega) (by omega) ?_
      rw [show ((v.toNat:Nat):Int)=v by omega]
      refine bc (fun hv=>?_) fun hv=>?_
      · rw [i64w (n:=_-z i) (by omega) (by omega)]
        exact next (z i) (by rw [if_pos ⟨hu,hv⟩])
      · have:=next 0 (by rw [if_neg fun h=>hv h.2])
        rwa [Int.sub_zero] at this
    · have:=next 0 (by rw [if_neg fun h=>hu h.1])
      rwa [Int.sub_zero] at this
  · have:i=sn:=by omega
    subst this
    exact k _ s2
theorem vweigh {n:Int} {yp:OA} {yn yc:Nat} {sp:OA} {sn sc:Nat} {Y:Nat→Int} {z:Nat→Int} {sl:Nat→Sl} {nd:Nat→Nat→Int} {H:Hp} {K:Int→Nat→List Value→Hp→Prop}
    (hdu:DualR H yp yn sp sn Y z sl nd) (hyn:yn<2 ^ 63) (hsn:sn<2 ^ 63) (n0:0≤n) (n1:n≤1024)
    (kk:∀H' g gk,Step (fun _=>False) H H'→Wt n Y yn z (fun i=>(sl i).n) nd sn→Fun2 E H' g gk n (prW Y z (fun i=>(sl i).n) nd sn)→K (wsum Y yn z (fun i=>(sl i).n) sn) g gk H')
    (bad:∀H',Step (fun _=>False) H H'→¬Wt n Y yn z (fun i=>(sl i).n) nd sn→E (pv 221) H'):Q22.call n yp yn yc sp sn sc E H K:=by
  refine Q22.of (Q22.run_eq ?_)
  unfold Q22.run_t
  refine nwk fun db H1 hb1 e1 s1=>?_
  try simp only [get_at e1,gZ,gS,ldI_mk,ldS_mk]
  refine bc (fun hyl=>?_) fun h=>vneed (fun h=>by cases h) fun _=>bad _ s1 fun hh=>h hh.ylen
  try simp only [get_at e1,gZ,gS,ldI_mk,ldS_mk]
  refine vneedD (fun hsl=>?_) fun h=>bad _ s1 fun hh=>h hh.slen
  refine Q22.j1_eq ?_
  unfold Q22.j1_t
  try simp only [get_at e1,gZ,gS,ldI_mk,ldS_mk]
  have hd1:=hdu.keep s1
  refine Q22.l1_rule (fun m d3 sm tp tn tc t27 t28 H'=>n=m∧db=d3∧yp=tp∧yn=tn∧t27=yn∧H1=H'∧∃i:Nat,t28=i∧i≤yn∧sm=psum Y i∧∀v,v<i→-4398046511104≤Y v∧Y v≤4398046511104)
    (fun m d3 sm tp tn tc t27 t28 H'=>yn-t28.toNat) ?_ ⟨rfl,rfl,rfl,rfl,rfl,rfl,0,rfl,by omega,rfl,fun v hv=>by omega⟩
  rintro m d3 sm tp tn tc t27 t28 H' ⟨rfl,rfl,rfl,rfl,rfl,rfl,i,rfl,hi,rfl,hb⟩ X hX
  refine Q22.b1_eq ?_
  unfold Q22.b1_t
  have hp:=psum_bound hb
  refine bc (fun hlt=>?_) fun hge=>?_
  · refine hd1.y.ixI (by omega) (by omega) ?_
    simp only [tN]
    refine bc (fun g1=>?_) fun g1=>vneed (fun h=>by cases h) fun _=>bad _ s1 fun hh=>g1 (hh.ybnd i (by omega)).1
    refine vneedD (fun g2=>?_) fun g2=>bad _ s1 fun hh=>g2 (hh.ybnd i (by omega)).2
    refine Q22.j2_eq ?_
    unfold Q22.j2_t
    rw [i64w (n:=psum Y i+Y i) (by omega) (by omega),i64w (by omega) (by omega)]
    refine hX _ _ _ _ _ _ _ _ _ ⟨rfl,rfl,rfl,rfl,rfl,rfl,i+1,by omega,by omega,rfl,fun v hv=>?_⟩ (by omega)
    by_cases ev:v=i
    · subst ev; exact ⟨g1,g2⟩
    · exact hb v (by omega)
  have:i=yn:=by omega
  subst this
  clear hX
  refine Q22.j3_eq ?_
  unfold Q22.j3_t
  try simp only [get_at e1,gZ,gS,ldI_mk,ldS_mk]
  refine Row.make0 (⟨none,0,0⟩:Sl) rfl (by omega) (by omega) (by decide) fun b2 H2 hb2 r2 s2=>?_
  refine nwst rfl rfl fun nb H3 hb3 e3 s3=>?_
  have e13:=(s2.and s3).keep _ _ e1 fun h=>h
  try simp only [get_at e13,gZ,gS,ldI_mk,ldS_mk]
  have f2:H b2=none:=s1.mono _ hb2
  have s03:=(s1.and s2).and s3
  have fnb:H nb=none:=(s1.and s2).mono _ hb3
  have l1:H1 db≠none:=by rw [e1]; exact fun h=>by cases h
  have h1nb:H1 nb=none:=s2.mono _ hb3
  have ins0:Ins H1 H3 nb (some ⟨b2,0,none⟩) 0 ((sn:Int).toNat) n.toNat (fun _=>⟨none,0,0⟩) (fun i=>(sl i).n) nd:=
    ⟨e3,h1nb,r2.keep s3 fun _ _ h=>h,fun y hy=>by rw [fpS_mk] at hy; subst hy; exact ⟨hb2,fun h=>r2.live (b:=y) ⟨_,rfl⟩ (h▸hb3)⟩,fun j hj=>by omega⟩
  refine Q22.l2_rule (fun m d3 sm in9 tp tn tc t49 t50 H'=>n=m∧db=d3∧nb=in9∧sp=tp∧sn=tn∧t49=sn∧
      ∃j:Nat,t50=j∧j≤sn∧sm=psum Y i-psum (fun a=>z a*(((sl a).n / 2:Nat):Int)) j∧Step (fun _=>False) H1 H'∧(∃ip ic rows,Ins H1 H' nb ip j ic n.toNat rows (fun i=>(sl i).n) nd)∧∀a,a<j→(3≤(sl a).n∧(sl a).n%2=1)∧(0≤z a∧z a≤4398046511104)∧Ris (nd a) (sl a).n n)
    (fun m d3 sm in9 tp tn tc t49 t50 H'=>sn-t50.toNat) ?_ ⟨rfl,rfl,rfl,rfl,rfl,rfl,0,rfl,by omega,by simp [psum],s2.and s3,⟨_,_,_,ins0⟩,fun a ha=>by omega⟩
  clear ins0 e3 hb3 r2 s2 s3 s03 f2 e13 hb2
  rintro m d3 sm in9 tp tn tc t49 t50 H4 ⟨rfl,rfl,rfl,rfl,rfl,rfl,j,rfl,hj,rfl,s4,⟨ip,ic,rows,ins⟩,hs⟩ X hX
  have s04:=s1.and s4
  have hd4:=hd1.keep s4
  have hwb:∀a,a<j→0≤z a*(((sl a).n / 2:Nat):Int)∧z a*(((sl a).n / 2:Nat):Int)≤4398046511104*512:=fun a ha=>by
    obtain ⟨h1,h2,h3⟩:=hs a ha
    have hl:=h3.len
    constructor
    · exact Int.mul_nonneg h2.1 (by omega)
    · exact Int.mul_le_mul h2.2 (by omega) (by omega) (by omega)
  have hpw:=psum_bound hwb
  refine Q22.b2_eq ?_
  unfold Q22.b2_t
  refine bc (fun hlt=>?_) fun hge=>?_
  · refine hd4.s.slz (by omega) (by omega) ?_
    simp only [tN]
    refine nwst rfl rfl fun b5 H5 hb5 e5 s5=>?_
    have s05:=s04.and s5
    obtain ⟨hnr,hnl⟩:=hd4.nd j (by omega)
    try simp only [get_at e5,gZ,gS,ldI_mk,ldS_mk]
    refine bc (fun g1=>?_) fun g1=>vneed (fun h=>by cases h) fun _=>bad _ s05 fun hh=>g1 (by have:=(hh.sets j (by omega)).1.1; omega)
    try simp only [get_at e5,gZ,gS,ldI_mk,ldS_mk]
    have hand:=and1 (x:=((sl j).n:Int)) (by omega) (by omega)
    refine bc (fun g2=>?_) fun g2=>vneed (fun h=>by cases h) fun _=>bad _ s05 fun hh=>g2 (by have:=(hh.sets j (by omega)).1.2; rw [hand]; omega)
    rw [hand] at g2
    try simp only [get_at e5,gZ,gS,ldI_mk,ldS_mk]
    refine bc (fun g3=>?_) fun g3=>vneed (fun h=>by cases h) fun _=>bad _ s05 fun hh=>g3 (hh.sets j (by omega)).2.1.1
    try simp only [get_at e5,gZ,gS,ldI_mk,ldS_mk]
    refine vneedD (fun g4=>?_) fun g4=>bad _ s05 fun hh=>g4 (hh.sets j (by omega)).2.1.2
    refine Q22.j4_eq ?_
    unfold Q22.j4_t
    have ins5:=ins.keep s5
    try simp only [get_at e5,get_at ins5.cell,gZ,gS,ldI_mk,ldS_mk]
    refine vmarked (hnr.keep s5 fun _ _ _ h=>h) hnl n0 (by omega) (fun b H6 hris s6 hb r6=>?_) fun h=>bad _ s05 fun hh=>h (hh.sets j (by omega)).2.2
    have ins6:=ins5.keep s6
    try simp only [get_at ins6.cell,gZ,gS,ldI_mk,ldS_mk,true_and]
    have s46:=s5.and s6
    have s06:=s05.and s6
    have s16:=s4.and s46
    have hH1b:H1 b=none:=s4.mono _ (s5.mono _ hb)
    have bnb:b≠nb:=fun h=>by rw [h,ins5.cell] at hb; cases hb
    have bip:¬fpS ip b:=fun h=>ins5.row.live h hb
    refine ins6.row.app (α:=Sl) ⟨some ⟨b,0,none⟩,n.toNat,n.toNat⟩ rfl (by omega) (by decide) fun ip' ic' H7 r7 s7 f7=>?_
    have hnb6:¬fpS ip nb:=fun h=>(ins6.rnew _ h).2 rfl
    have c7:=s7.keep _ _ ins6.cell hnb6
    have s17:=s16.own s7 fun y hy=>(ins6.rnew y hy).1
    have e7:=s7.keep _ _ (s6.keep _ _ e5 fun h=>h) fun h=>ins.row.live h hb5
    refine stk c7 rfl rfl fun H8 e8 s8=>?_
    have s18:=s17.own s8 fun y hy=>hy▸ins.new
    have b5nb:b5≠nb:=fun h=>by rw [h,ins.cell] at hb5; cases hb5
    have e58:=s8.keep _ _ e7 fun h=>b5nb h
    try simp only [get_at e58,gZ,gS,ldI_mk,ldS_mk]
    refine ⟨by decide,?_⟩
    have hlen:=hris.len
    have hdv:Int.tdiv (((sl j).n:Nat):Int) 2=(((sl j).n / 2:Nat):Int):=by
      rw [Int.tdiv_eq_ediv_of_nonneg (by omega)]; omega
    have hzb:0≤z j*(((sl j).n / 2:Nat):Int)∧z j*(((sl j).n / 2:Nat):Int)≤4398046511104*512:=
      ⟨Int.mul_nonneg g3 (by omega),Int.mul_le_mul g4 (by omega) (by omega) (by omega)⟩
    rw [hdv,i64w (n:=(((sl j).n / 2:Nat):Int)) (by omega) (by omega),i64w (n:=z j*(((sl j).n / 2:Nat):Int)) (by omega) (by omega),i64w (n:=_-z j*(((sl j).n / 2:Nat):Int)) (by omega) (by omega),i64w (by omega) (by omega)]
    have f8:∀y,fpS ip' y→H1 y=none∧y≠nb:=fun y hy=>by
      rcases f7 y hy with h | h
      · exact ins6.rnew y h
      · exact ⟨s16.mono _ h,fun e=>by rw [e,ins6.cell] at h; cases h⟩
    refine hX _ _ _ _ _ _ _ _ _ _ ⟨rfl,rfl,rfl,rfl,rfl,rfl,j+1,by omega,by omega,?_,s18,⟨ip',ic',upf rows j ⟨some ⟨b,0,none⟩,n.toNat,n.toNat⟩,e8,ins.new,r7.keep s8 fun y hy h=>(f8 y hy).2 h,f8,fun a ha=>?_⟩,fun a ha=>?_⟩ (by omega)
    · simp only [psum]; omega
    · by_cases ea:a=j
      · subst ea
        rw [upf_same]
        refine ⟨rfl,((r6.rdr).keep s7 fun y hy _=>by rw [fpS_mk] at hy; exact hy▸bip).keep s8 fun y hy _ h=>by rw [fpS_mk] at hy; exact bnb (hy▸h),fun y hy=>?_⟩
        rw [fpS_mk] at hy
        subst hy
        refine ⟨hH1b,bnb,fun h=>?_⟩
        rcases f7 _ h with h | h
        · exact bip h
        · exact r6.live (b:=y) ⟨_,rfl⟩ h
      · rw [upf_ne ea]
        obtain ⟨q1,q2,q3⟩:=ins6.each a (by omega)
        refine ⟨q1,(q2.keep s7 fun y hy _=>(q3 y hy).2.2).keep s8 fun y hy _ h=>(q3 y hy).2.1 h,fun y hy=>⟨(q3 y hy).1,(q3 y hy).2.1,fun h=>?_⟩⟩
        rcases f7 _ h with h | h
        · exact (q3 y hy).2.2 h
        · by_cases hn0:0<n.toNat
          · exact q2.live hy hn0 h
          · omega
    · by_cases ea:a=j
      · subst ea; exact ⟨⟨by omega,by omega⟩,⟨g3,g4⟩,hris⟩
      · exact hs a (by omega)
  · have:j=sn:=by omega
    subst this
    refine Q22.j5_eq ?_
    unfold Q22.j5_t
    have hw:Wt n Y i z (fun i=>(sl i).n) nd j:=⟨hyl,hsl,hb,hs⟩
    refine kk _ _ _ s04 hw ⟨rfl,fun u v H5 K' u0 u1 v0 v1 s5 hk=>?_⟩
    have hd5:=(s4.and s5).keep _ _ e1 fun h=>h
    have hp:Q39.call u v db 0 nb 0 E H5 (fun x H'=>x=prW Y z (fun i=>(sl i).n) nd j u v∧K' (.int .i64 (prW Y z (fun i=>(sl i).n) nd j u v)) H'):=
      vpair hd5 (hd4.keep s5) hw n1 (ins.keep s5) u0 u1 v0 v1 fun H6 s6=>⟨rfl,hk _ s6⟩
    refine callW_mono (fun r H' hr=>?_) (fun _ _ h=>h) hp
    obtain ⟨x,rfl,hx,hk'⟩:=asR_int (K:=fun x=>x=prW Y z (fun i=>(sl i).n) nd j u v∧K' (.int .i64 (prW Y z (fun i=>(sl i).n) nd j u v)) H') hr
    rw [hx]; exact hk'
end
end Go.Mz
/-
  Walks of layer 12, more: Cheapest.
-/
namespace Go.Mz
section
variable {E:VP}
structure ChpP (N:Int) (n:Nat) (e:Nat→Edg) (m:Nat→Int) (k:Nat) (Y:Nat→Int) (yn:Nat) (z:Nat→Int) (ln:Nat→Nat) (nd:Nat→Nat→Int) (sn:Nat):Prop where
  tk:Tkn N n e m k fun _=>1
  all:2*(k:Int)=N
  wt:Wt N Y yn z ln nd sn
  ed:∀i,i<n→lp (e i)∨prW Y z ln nd sn (e i).fr (e i).to≤2*(e i).co
  sum:wsum Y yn z ln sn=2*cst e m k
theorem vcheapest1 {N:Int} {ep:OA} {n ec:Nat} {e:Nat→Edg} {p:OA} {k c:Nat} {m:Nat→Int} {yp:OA} {yn yc:Nat} {sp:OA} {sn sc:Nat} {Y:Nat→Int} {z:Nat→Int} {sl:Nat→Sl} {nd:Nat→Nat→Int} {c0 c1 c2 c3:Nat} {H:Hp} {K:Hp→Prop}
    (h0:H c0=some ⟨[.int .i64 N,.slice ep n ec],24⟩) (h1:H c1=some ⟨[.slice p k c],26⟩) (h2:H c2=some ⟨[.slice yp yn yc,.slice sp sn sc],30⟩) (h3:H c3=some ⟨[.int .i64 0],2⟩)
    (he:Rdr H ep n e) (hn:n<2 ^ 63) (hm:Rdr H p k m) (hk:k<2 ^ 63) (hd:DualR H yp yn sp sn Y z sl nd) (hyn:yn<2 ^ 63) (hsn:sn<2 ^ 63)
    (kk:∀H',Step (·=c3) H H'→H' c3=some ⟨[.int .i64 (cst e m k)],2⟩→Right N n e→ChpP N n e m k Y yn z (fun i=>(sl i).n) nd sn→K H')
    (bad:∀H' c,Step (fun _=>False) H H'→c≠0→Out N n e (ChpP N n e m k Y yn z (fun i=>(sl i).n) nd sn) c→E (pv c) H'):Q17.call c0 0 c1 0 c2 0 c3 0 E H K:=by
  refine Q17.of (Q17.run_eq ?_)
  unfold Q17.run_t
  simp only [get_at h0,gZ,gS,ldI_mk,ldS_mk,Nat.zero_add]
  refine vright he hn (fun H1 s1 hr=>?_) fun H1 s1 hc=>bad _ _ s1 hc (.inr (.inl ⟨rfl,hc⟩))
  have h01:=s1.keep _ _ h0 fun h=>h
  have h11:=s1.keep _ _ h1 fun h=>h
  simp only [get_at h01,get_at h11,gZ,gS,ldI_mk,ldS_mk]
  have hno:∀H',Step (fun _=>False) H H'→¬ChpP N n e m k Y yn z (fun i=>(sl i).n) nd sn→E (pv 221) H':=fun H' s h=>bad _ _ s (by decide) (.inr (.inr ⟨rfl,hr,h⟩))
  refine vmatched (he.keep s1 fun _ _ _ h=>h) hr (hm.keep s1 fun _ _ _ h=>h) hk fun1_one (fun H2 s2 ht=>?_) fun H2 s2 ht=>hno _ (s1.and s2) fun h=>ht h.tk
  have s02:=s1.and s2
  have h02:=s02.keep _ _ h0 fun h=>h
  have h12:=s02.keep _ _ h1 fun h=>h
  have h22:=s02.keep _ _ h2 fun h=>h
  simp only [get_at h02,get_at h12,get_at h22,gZ,gS,ldI_mk,ldS_mk]
  have hN0:=hr.N0; have hN1:=hr.N1; have hn1:=hr.n1
  have hkn:=ht.ris.len
  rw [i64w (n:=2*(k:Int)) (by omega) (by omega)]
  refine vneedD (fun hall=>?_) fun h=>hno _ s02 fun hh=>h hh.all
  try simp only [get_at h02,get_at h12,get_at h22,gZ,gS,ldI_mk,ldS_mk]
  refine vweigh (hd.keep s02) hyn hsn hN0 hN1 (fun H3 g gk s3 hw hf=>?_) fun H3 s3 h=>hno _ (s02.and s3) fun hh=>h hh.wt
  have s03:=s02.and s3
  have h03:=s03.keep _ _ h0 fun h=>h
  simp only [get_at h03,gZ,gS,ldI_mk,ldS_mk]
  refine Q17.l1_rule (fun t0b t0o t1b t1o t3b t3o sm pg pk tp tn tc t29 t30 H'=>c0=t0b∧t0o=0∧c1=t1b∧t1o=0∧c3=t3b∧t3o=0∧sm=wsum Y yn z (fun i=>(sl i).n) sn∧g=pg∧gk=pk∧ep=tp∧n=tn∧t29=n∧
      ∃i:Nat,t30=i∧i≤n∧Step (fun _=>False) H3 H'∧∀a,a<i→lp (e a)∨prW Y z (fun i=>(sl i).n) nd sn (e a).fr (e a).to≤2*(e a).co)
    (fun t0b t0o t1b t1o t3b t3o sm pg pk tp tn tc t29 t30 H'=>n-t30.toNat) ?_ ⟨rfl,rfl,rfl,rfl,rfl,rfl,rfl,rfl,rfl,rfl,rfl,rfl,0,rfl,by omega,.refl,fun a ha=>by omega⟩
  rintro t0b t0o t1b t1o t3b t3o sm pg pk tp tn tc t29 t30 H4 ⟨rfl,rfl,rfl,rfl,rfl,rfl,rfl,rfl,rfl,rfl,rfl,rfl,i,rfl,hi,s4,hed⟩ X hX
  have s04:=s03.and s4
  refine Q17.b1_eq ?_
  unfold Q17.b1_t
  refine bc (fun hlt=>?_) fun hge=>?_
  · refine (he.keep s04 fun _ _ _ h=>h).edge (by omega) (by omega) ?_
    simp only [tN]
    refine nwst rfl rfl fun b5 H5 hb5 e5 s5=>?_
    simp only [get_at e5,gZ,gS,ldI_mk]
    refine vloop fun H6 s6=>?_
    have s46:=s5.and s6
    have e6:=s6.keep _ _ e5 fun h=>h
    have hx:=hr.ed i (by omega)
    have hf0:=hx.f0; have hf1:=hx.f1; have ht0:=hx.t0; have ht1:=hx.t1; have hk0:=hx.k0; have hk1:=hx.k1
    have next:∀H',Step (fun _=>False) H6 H'→(lp (e i)∨prW Y z (fun i=>(sl i).n) nd sn (e i).fr (e i).to≤2*(e i).co)→Q17.j1 c0 0 c1 0 c3 0 (wsum Y yn z (fun i=>(sl i).n) sn) g gk ep n tc (n:Int) (i:Int) X E H' K:=fun H' s' h=>by
      refine Q17.j1_eq ?_
      unfold Q17.j1_t
      rw [i64w (by omega) (by omega)]
      refine hX _ _ _ _ _ _ _ _ _ _ _ _ _ _ _ ⟨rfl,rfl,rfl,rfl,rfl,rfl,rfl,rfl,rfl,rfl,rfl,rfl,i+1,by omega,by omega,(s4.and s46).and s',fun a ha=>?_⟩ (by omega)
      by_cases ea:a=i
      · subst ea; exact h
      · exact hed a (by omega)
    simp only [get_at e6,gZ,gS,ldI_mk]
    refine bc (fun hl=>vneed (fun _=>next _ .refl (.inl hl)) fun h=>by cases h) fun hl=>?_
    refine ⟨hf.1,hf.2 _ _ H6 _ hf0 hf1 ht0 ht1 (s4.and s46) fun H7 s7=>ldR_int ?_⟩
    have e7:=s7.keep _ _ e6 fun h=>h
    simp only [get_at e7,gZ,gS,ldI_mk,true_and]
    rw [i64w (n:=2*(e i).co) (by omega) (by omega)]
    refine vneedD (fun h=>next _ s7 (.inr h)) fun h=>hno _ ((s04.and s46).and s7) fun hh=>?_
    rcases hh.ed i (by omega) with h' | h'
    · exact hl h'
    · exact h h'
  · have:i=n:=by omega
    subst this
    refine Q17.j2_eq ?_
    unfold Q17.j2_t
    have h04:=s04.keep _ _ h0 fun h=>h
    have h14:=s04.keep _ _ h1 fun h=>h
    simp only [get_at h04,get_at h14,gZ,gS,ldI_mk,ldS_mk,Nat.zero_add]
    refine vcost (he.keep s04 fun _ _ _ h=>h) hr (hm.keep s04 fun _ _ _ h=>h) ht.ris fun H5 s5=>?_
    have s05:=s04.and s5
    have hcb:=cst_bound hr ht.ris
    rw [i64w (n:=2*cst e m k) (by omega) (by omega)]
    refine vneedD (fun hs=>?_) fun h=>hno _ s05 fun hh=>h hh.sum
    have h05:=s05.keep _ _ h0 fun h=>h
    have h15:=s05.keep _ _ h1 fun h=>h
    simp only [get_at h05,get_at h15,gZ,gS,ldI_mk,ldS_mk,Nat.zero_add]
    refine vcost (he.keep s05 fun _ _ _ h=>h) hr (hm.keep s05 fun _ _ _ h=>h) ht.ris fun H6 s6=>?_
    have s06:=s05.and s6
    have h36:=s06.keep _ _ h3 fun h=>h
    refine stk h36 rfl rfl fun H7 e7 s7=>?_
    exact kk _ ((s06.weak fun _ h=>h.elim).trans s7 fun _ h=>.inl h) e7 hr ⟨ht,hall,hw,hed,hs⟩
theorem vCheapest {N:Int} {ep:OA} {n ec:Nat} {e:Nat→Edg} {p:OA} {k c:Nat} {m:Nat→Int} {yp:OA} {yn yc:Nat} {sp:OA} {sn sc:Nat} {Y:Nat→Int} {z:Nat→Int} {sl:Nat→Sl} {nd:Nat→Nat→Int} {H:Hp} {K:Int→Int→Hp→Prop}
    (he:Rdr H ep n e) (hn:n<2 ^ 63) (hm:Rdr H p k m) (hk:k<2 ^ 63) (hd:DualR H yp yn sp sn Y z sl nd) (hyn:yn<2 ^ 63) (hsn:sn<2 ^ 63)
    (kk:∀H' c,Step (fun _=>False) H H'→Out N n e (ChpP N n e m k Y yn z (fun i=>(sl i).n) nd sn) c→K (if c=0 then cst e m k else 0) c H'):Q10.call N ep n ec p k c yp yn yc sp sn sc E H K:=by
  refine Q10.of (Q10.run_eq ?_)
  unfold Q10.run_t
  refine nwk fun b1 H1 hb1 e1 s1=>?_
  refine nwk fun b2 H2 hb2 e2 s2=>?_
  refine nwk fun b3 H3 hb3 e3 s3=>?_
  refine nwst rfl rfl fun b4 H4 hb4 e4 s4=>?_
  have s04:=((s1.and s2).and s3).and s4
  refine vlook rfl fun b H5 hb e5 s5=>?_
  have s05:=s04.and s5
  have e1:=(((s2.and s3).and s4).and s5).keep _ _ e1 fun h=>h
  have e2:=((s3.and s4).and s5).keep _ _ e2 fun h=>h
  have e3:=(s4.and s5).keep _ _ e3 fun h=>h
  have e45:=s5.keep _ _ e4 fun h=>h
  have fb:H b=none:=s04.mono _ hb
  have f4:H b4=none:=((s1.and s2).and s3).mono _ hb4
  have ne:b4≠b:=ne_of_live hb (by rw [e4]; exact fun h=>by cases h)
  refine callW_mono (fun v H' h=>ldR_spec h) (fun _ _ h=>h) (vcheapest1 (K:=fun H2=>H2 b=some ⟨[.int .i64 0],31⟩∧∀H3,Step (·=b) H2 H3→ldI .i64 (H3.get b4 0) fun x=>K x 0 H3) e1 e2 e3 e45 (he.keep s05 fun _ _ _ h=>h) hn (hm.keep s05 fun _ _ _ h=>h) hk (hd.keep s05) hyn hsn (fun H6 s6 e6 hr hP=>?_) fun H6 cd s6 hc ho=>?_)
  · refine ⟨s6.keep _ _ e5 fun h=>ne h.symm,fun H7 s7=>?_⟩
    have e7:=s7.keep _ _ e6 ne
    simp only [get_at e7,gZ,ldI_mk]
    have:=kk H7 0 ((s05.own s6 fun b' hb'=>hb'▸f4).own s7 fun b' hb'=>hb'▸fb) (.inl ⟨rfl,hr,hP⟩)
    rwa [if_pos rfl] at this
  · refine ⟨cd,rfl,s6.keep _ _ e5 fun h=>h,fun H7 s7=>?_⟩
    have e7:=s7.keep _ _ (s6.keep _ _ e45 fun h=>h) ne
    simp only [get_at e7,gZ,ldI_mk]
    have:=kk H7 cd ((s05.and s6).own s7 fun b' hb'=>hb'▸fb) ho
    rwa [if_neg hc] at this
end
end Go.Mz
/-
  The plain law of the gadget: copies of nodes, its edges, its size. No program in sight.
-/
namespace Go.Mz
def ends (e:Nat→Edg):Nat→Int→Nat
  | 0,_=>0
  | i+1,v=>ends e i v+if lp (e i) then 0 else (if (e i).fr=v then 1 else 0)+(if (e i).to=v then 1 else 0)
theorem psum_mono {f:Nat→Int} {N:Nat} (h:∀v,v<N→0≤f v):∀{i j:Nat},i≤j→j≤N→psum f i≤psum f j:=by
  intro i j hij hj
  obtain ⟨d,rfl⟩:∃d,j=i+d:=⟨j-i,by omega⟩
  clear hij
  induction d with
  | zero=>exact Int.le_refl _
  | succ d ih=>
    have h1:=ih (by omega)
    have h2:=h (i+d) (by omega)
    show _≤psum f (i+d)+f (i+d)
    omega
end Go.Mz
/-
  Plain law: no matching of all nodes costs less than duals allow. No program in sight.
-/
namespace Go.Mz
theorem psum_sub {f g:Nat→Int} {n:Nat}:psum (fun i=>f i-g i) n=psum f n-psum g n:=by
  induction n with
  | zero=>rfl
  | succ n ih=>simp only [psum]; omega
theorem psum_mulc {f:Nat→Int} {n:Nat} {x:Int}:psum (fun i=>x*f i) n=x*psum f n:=by
  induction n with
  | zero=>simp [psum]
  | succ n ih=>simp only [psum]; rw [ih,Int.mul_add]
theorem psum_swap {f:Nat→Nat→Int} {N M:Nat}:psum (fun i=>psum (fun j=>f i j) M) N=psum (fun j=>psum (fun i=>f i j) N) M:=by
  induction N with
  | zero=>exact (psum_zero fun _ _=>rfl).symm
  | succ N ih=>
    show psum (fun i=>psum (fun j=>f i j) M) N+psum (fun j=>f N j) M=psum (fun j=>psum (fun i=>f i j) N+f N j) M
    rw [ih,psum_add]
theorem psum_sm {f:Nat→Nat} {n:Nat}:psum (fun i=>(f i:Int)) n=(sm f n:Int):=by
  induction n with
  | zero=>rfl
  | succ n ih=>simp only [psum,sm,ih]; omega
section
variable {N:Int} {n:Nat} {e:Nat→Edg} {m:Nat→Int} {k:Nat}
theorem ends_in {W:Nat→Bool} (hr:Right N n e) (ht:Tkn N n e m k fun _=>1):sm (fun j=>(if W (e (m j).toNat).fr.toNat then 1 else 0)+(if W (e (m j).toNat).to.toNat then 1 else 0)) k≤cnt W N.toNat:=by
  have hd1:∀v:Nat,v<N.toNat→dg e m k (v:Int)≤1:=fun v hv=>by
    by_cases h:0<dg e m k v
    · have:=ht.mst v (by omega) (by omega) h; omega
    · omega
  have h1:=weight_sum (fun v=>if W v then (1:Int) else 0) hr ht.ris
  have h2:psum (fun j=>(if W (e (m j).toNat).fr.toNat then (1:Int) else 0)+(if W (e (m j).toNat).to.toNat then (1:Int) else 0)) k=(sm (fun j=>(if W (e (m j).toNat).fr.toNat then 1 else 0)+(if W (e (m j).toNat).to.toNat then 1 else 0)) k:Int):=by
    rw [←psum_sm]
    refine psum_congr fun j _=>?_
    split<;>split<;>rfl
  have h3:psum (fun v=>(if W v then (1:Int) else 0)*(dg e m k (v:Int):Int)) N.toNat≤(cnt W N.toNat:Int):=by
    rw [cnt_sm,←psum_sm]
    refine psum_le fun v hv=>?_
    have:=hd1 v hv
    split
    · simp; omega
    · simp
  omega
theorem all_one (hr:Right N n e) (ht:Tkn N n e m k fun _=>1) (hall:2*(k:Int)=N):∀v,v<N.toNat→dg e m k (v:Int)=1:=by
  have hd1:∀v:Nat,v<N.toNat→dg e m k (v:Int)≤1:=fun v hv=>by
    by_cases h:0<dg e m k v
    · have:=ht.mst v (by omega) (by omega) h; omega
    · omega
  have h1:=weight_sum (fun _=>(1:Int)) hr ht.ris
  have h2:psum (fun _=>(1:Int)+1) k=2*k:=by
    have:∀j,psum (fun _=>(1:Int)+1) j=2*j:=by
      intro j
      induction j with
      | zero=>rfl
      | succ j ih=>simp only [psum,ih]; omega
    exact this k
  rw [h2] at h1
  have hc:∀M,psum (fun _=>(1:Int)) M=M:=by
    intro M
    induction M with
    | zero=>rfl
    | succ M ih=>simp only [psum,ih]; omega
  have h3:psum (fun v=>1-(dg e m k (v:Int):Int)) N.toNat=0:=by
    rw [psum_sub,hc]
    have:psum (fun v=>(dg e m k (v:Int):Int)) N.toNat=psum (fun v=>(1:Int)*(dg e m k (v:Int):Int)) N.toNat:=psum_congr fun v _=>by omega
    have:=hr.N0
    omega
  intro v hv
  have key:∀M,M≤N.toNat→psum (fun v=>1-(dg e m k (v:Int):Int)) M≤psum (fun v=>1-(dg e m k (v:Int):Int)) N.toNat:=fun M hM=>psum_mono (fun v hv=>by have:=hd1 v hv; omega) hM (Nat.le_refl _)
  have k1:=key (v+1) (by omega)
  have k0:0≤psum (fun v=>1-(dg e m k (v:Int):Int)) v:=psum_mono (f:=fun v=>1-(dg e m k (v:Int):Int)) (N:=N.toNat) (fun v hv=>by have:=hd1 v hv; omega) (Nat.zero_le v) (by omega)
  simp only [psum] at k1
  have:=hd1 v hv
  omega
open Classical in
theorem dual_bound {Y:Nat→Int} {yn:Nat} {z:Nat→Int} {ln:Nat→Nat} {nd:Nat→Nat→Int} {sn:Nat} (hr:Right N n e) (ht:Tkn N n e m k fun _=>1) (hall:2*(k:Int)=N) (hw:Wt N Y yn z ln nd sn)
    (hed:∀i,i<n→lp (e i)∨prW Y z ln nd sn (e i).fr (e i).to≤2*(e i).co):wsum Y yn z ln sn≤2*cst e m k:=by
  have hyn:N.toNat=yn:=by have:=hw.ylen; omega
  have hone:=all_one hr ht hall
  have hA:psum (fun j=>prW Y z ln nd sn (e (m j).toNat).fr (e (m j).toNat).to) k≤2*cst e m k:=by
    have:∀j,j≤k→psum (fun j=>prW Y z ln nd sn (e (m j).toNat).fr (e (m j).toNat).to) j≤2*cst e m j:=by
      intro j
      induction j with
      | zero=>intro _; exact Int.le_refl _
      | succ j ih=>
        intro hj
        have hmj:=ht.ris j (by omega)
        have:=(hed (m j).toNat (by omega)).resolve_left (ht.nl j (by omega))
        have:=ih (by omega)
        simp only [psum,cst]
        omega
    exact this k (Nat.le_refl _)
  let B:=fun i j=>In (nd i) (ln i) (e (m j).toNat).fr∧In (nd i) (ln i) (e (m j).toNat).to
  have hB:psum (fun j=>prW Y z ln nd sn (e (m j).toNat).fr (e (m j).toNat).to) k=psum Y yn-psum (fun i=>psum (fun j=>if B i j then z i else 0) k) sn:=by
    have e1:psum (fun j=>prW Y z ln nd sn (e (m j).toNat).fr (e (m j).toNat).to) k=psum (fun j=>Y (e (m j).toNat).fr.toNat+Y (e (m j).toNat).to.toNat) k-psum (fun j=>psum (fun i=>if B i j then z i else 0) sn) k:=by
      rw [←psum_sub]; rfl
    rw [e1,psum_swap,←weight_sum Y hr ht.ris,hyn]
    congr 1
    exact psum_congr fun v hv=>by rw [hone v (by omega)]; simp
  have hC:∀i,i<sn→psum (fun j=>if B i j then z i else 0) k≤z i*((ln i / 2:Nat):Int):=fun i hi=>by
    obtain ⟨_,hz,_⟩:=hw.sets i hi
    have e1:psum (fun j=>if B i j then z i else 0) k=z i*(sm (fun j=>if B i j then 1 else 0) k:Int):=by
      rw [←psum_sm,←psum_mulc]
      refine psum_congr fun j _=>?_
      split<;>simp
    rw [e1]
    refine Int.mul_le_mul_of_nonneg_left ?_ hz.1
    have h1:=ends_in (W:=fun v=>decide (In (nd i) (ln i) (v:Int))) hr ht
    have h2:=cover_count (cv:=nd i) (N:=N.toNat) (ln i)
    have h3:2*sm (fun j=>if B i j then 1 else 0) k≤sm (fun j=>(if decide (In (nd i) (ln i) (((e (m j).toNat).fr.toNat:Nat):Int)) then 1 else 0)+(if decide (In (nd i) (ln i) (((e (m j).toNat).to.toNat:Nat):Int)) then 1 else 0)) k:=by
      have:∀j,j≤k→2*sm (fun j=>if B i j then 1 else 0) j≤sm (fun j=>(if decide (In (nd i) (ln i) (((e (m j).toNat).fr.toNat:Nat):Int)) then 1 else 0)+(if decide (In (nd i) (ln i) (((e (m j).toNat).to.toNat:Nat):Int)) then 1 else 0)) j:=by
        intro j
        induction j with
        | zero=>intro _; exact Nat.le_refl _
        | succ j ih=>
          intro hj
          have hmj:=ht.ris j (by omega)
          have hx:=hr.ed (m j).toNat (by omega)
          have hf0:=hx.f0; have ht0:=hx.t0
          have ih:=ih (by omega)
          simp only [sm]
          by_cases hb:B i j
          · have b1:In (nd i) (ln i) (((e (m j).toNat).fr.toNat:Nat):Int):=by rw [show (((e (m j).toNat).fr.toNat:Nat):Int)=(e (m j).toNat).fr by omega]; exact hb.1
            have b2:In (nd i) (ln i) (((e (m j).toNat).to.toNat:Nat):Int):=by rw [show (((e (m j).toNat).to.toNat:Nat):Int)=(e (m j).toNat).to by omega]; exact hb.2
            rw [if_pos hb,if_pos (decide_eq_true b1),if_pos (decide_eq_true b2)]; omega
          · rw [if_neg hb]; omega
      exact this k (Nat.le_refl _)
    omega
  have hD:psum (fun i=>psum (fun j=>if B i j then z i else 0) k) sn≤psum (fun i=>z i*((ln i / 2:Nat):Int)) sn:=psum_le hC
  unfold wsum
  omega
end
end Go.Mz
