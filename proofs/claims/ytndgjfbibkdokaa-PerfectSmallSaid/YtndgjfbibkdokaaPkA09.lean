/-
  Joined: LPeO, BsP, DupR, DeS, VouJ, VouK, VouL, VouM.
-/
import Derived.Test.YtndgjfbibkdokaaPkA08
import Derived.Test.YtndgjfbibkdokaaPkM
import Derived.Test.YtndgjfbibkdokaaMzZ
import Derived.Test.YtndgjfbibkdokaaPkA04
import Derived.Test.YtndgjfbibkdokaaGR18
import Derived.Test.YtndgjfbibkdokaaPkA01
set_option linter.unusedVariables false
/-
  Walks of layer 18: what Solve answers, of its cost and code alone; graphs that are turned about, or dearer at a node.
-/
namespace Go.Mz
def SolO (N:Int) (n:Nat) (e:Nat→Edg) (c cd:Int):Prop:=
  (cd=chk N n e∧cd≠0∧c=0)∨∃M:Nat,N=M∧Right (M:Int) n e∧((cd=5∧c=0∧∀b,¬Ful M n e b)∨(cd=0∧LstP M n e c))
section
variable {N:Int} {M n n':Nat} {e e':Nat→Edg} {c c' cd cd':Int}
theorem SolO.right (h:SolO (M:Int) n e c cd) (hr:Right (M:Int) n e):(cd=5∧c=0∧∀b,¬Ful M n e b)∨(cd=0∧LstP M n e c):=by
  rcases h with ⟨h1,h2,_⟩ | ⟨M',h1,_,h2⟩
  · exact (h2 (h1.trans (chk_zero.2 hr))).elim
  · have:M'=M:=by omega
    subst this
    exact h2
theorem SolO.zero (h:SolO N n e c cd):cd=0∨c=0:=by
  rcases h with ⟨_,_,h⟩ | ⟨M,_,_,⟨_,h,_⟩ | ⟨h,_⟩⟩
  · exact .inr h
  · exact .inr h
  · exact .inl h
theorem SolO.ren (hr:Right (M:Int) n e) (hr':Right (M:Int) n' e') (h:SolO (M:Int) n e c cd) (h':SolO (M:Int) n' e' c' cd') (π ρ:Nat→Nat) (hπ:∀i,i<n→π i<n'∧(e' (π i)).co=(e i).co∧((ef e' (π i)=ef e i∧et e' (π i)=et e i)∨(ef e' (π i)=et e i∧et e' (π i)=ef e i)))
    (hρ:∀i,i<n'→ρ i<n∧(e (ρ i)).co=(e' i).co∧((ef e (ρ i)=ef e' i∧et e (ρ i)=et e' i)∨(ef e (ρ i)=et e' i∧et e (ρ i)=ef e' i))):cd=cd'∧c=c':=by
  rcases h.right hr with ⟨h1,h2,h3⟩ | ⟨h1,h2⟩<;>rcases h'.right hr' with ⟨k1,k2,k3⟩ | ⟨k1,k2⟩
  · omega
  · obtain ⟨b,hb,_⟩:=k2.ex
    exact (h3 _ (hb.ren hr' ρ fun i hi=>⟨(hρ i hi).1,(hρ i hi).2.2⟩)).elim
  · obtain ⟨b,hb,_⟩:=h2.ex
    exact (k3 _ (hb.ren hr π fun i hi=>⟨(hπ i hi).1,(hπ i hi).2.2⟩)).elim
  · exact ⟨by omega,(h2.ren hr hr' π ρ hπ hρ).uniq k2⟩
theorem SolO.turned (hr:Right (M:Int) n e) (hr':Right (M:Int) n e') (h:SolO (M:Int) n e c cd) (h':SolO (M:Int) n e' c' cd') (he:∀i,i<n→e' i=trn (e (n-1-i))):cd=cd'∧c=c':=by
  have f1:∀i,i<n→ef e' i=et e (n-1-i)∧et e' i=ef e (n-1-i)∧(e' i).co=(e (n-1-i)).co:=fun i hi=>by
    unfold ef et; rw [he i hi]; exact ⟨rfl,rfl,rfl⟩
  refine h.ren hr hr' h' (fun i=>n-1-i) (fun i=>n-1-i) (fun i hi=>?_) fun i hi=>?_
  · have:=f1 (n-1-i) (by omega)
    rw [show n-1-(n-1-i)=i by omega] at this
    exact ⟨by omega,this.2.2,.inr ⟨this.1,this.2.1⟩⟩
  · obtain ⟨a,b,d⟩:=f1 i hi
    exact ⟨by omega,d.symm,.inr ⟨b.symm,a.symm⟩⟩
theorem LstP.bnd (hr:Right (M:Int) n e) (h:LstP M n e c):-1073741824≤c∧c≤1073741824:=by
  obtain ⟨b,hb,eb⟩:=h.ex
  have h1:=psum_bound (f:=fun v=>(e (b v).toNat).co) (a:=-1048576) (b:=1048576) (i:=M) fun v hv=>by
    obtain ⟨i,e1,e2,_⟩:=hb.en hv
    have hx:=hr.ed i e2.1
    have hk0:=hx.k0; have hk1:=hx.k1
    show _≤(e (b v).toNat).co∧(e (b v).toNat).co≤_
    rw [e1,tN]
    exact ⟨hk0,hk1⟩
  have h2:psum (fun v=>(e (b v).toNat).co) M=2*c:=eb
  have:=hr.N1
  omega
end
section
variable {N:Int} {n:Nat} {e:Nat→Edg} {E:VP} {H:Hp}
theorem pSolveO {ep:OA} {ec:Nat} {K:OA→Nat→Nat→OA→Nat→Nat→OA→Nat→Nat→OA→Nat→Nat→Int→Int→Hp→Prop} (he:Rdr H ep n e) (hn:n<2 ^ 62)
    (kk:∀H' mp mk mc yp yn yc sp sn sc tp tn tc c cd,Step (fun _=>False) H H'→SolO N n e c cd→K mp mk mc yp yn yc sp sn sc tp tn tc c cd H'):Q3.call N ep n ec E H K:=
  pSolve he (by omega) (fun H' s hz=>kk _ _ _ _ _ _ _ _ _ _ _ _ _ _ _ s (.inl ⟨rfl,hz,rfl⟩)) (fun H' sp sn sc cv mn g M s hM hr hA hlt _ _=>kk _ _ _ _ _ _ _ _ _ _ _ _ _ _ _ s (.inr ⟨M,hM,hM▸hr,.inl ⟨rfl,rfl,hA.nofull hlt⟩⟩)) fun H' mp k mc g yb Y sp ks sc z S F M s hM hr hS=>kk _ _ _ _ _ _ _ _ _ _ _ _ _ _ _ s (.inr ⟨M,hM,hM▸hr,.inr ⟨rfl,hS.chp.lst (hM▸hr)⟩⟩)
end
end Go.Mz
/-
  Matchings of the nodes that aren't used yet, in plain words: the cheapest one. No program in sight.
-/
namespace Go.Mz
structure Pm (M n:Nat) (e:Nat→Edg) (us:Nat→Bool) (b:Nat→Int):Prop where
  out:∀v,v<M→us v=true→b v=-1
  mm:∀v,v<M→us v=false→∃i:Nat,b v=i∧En n (ef e) (et e) i v∧b (ot (ef e) (et e) i v)=i
def csp (e:Nat→Edg) (us:Nat→Bool) (b:Nat→Int) (M:Nat):Int:=psum (fun v=>if us v=true then 0 else (e (b v).toNat).co) M
structure BstO (M n:Nat) (e:Nat→Edg) (us:Nat→Bool) (any:Bool) (c:Int):Prop where
  ex:any=true→∃b,Pm M n e us b∧csp e us b M=2*c
  no:any=false→c=0
  lo:∀b,Pm M n e us b→any=true∧2*c≤csp e us b M
def us2 (us:Nat→Bool) (v w:Nat):Nat→Bool:=upf (upf us v true) w true
def bs2 (b:Nat→Int) (v w:Nat) (x:Int):Nat→Int:=fun u=>if u=v∨u=w then x else b u
section
variable {M n:Nat} {e:Nat→Edg} {us:Nat→Bool} {b:Nat→Int} {v w i:Nat}
theorem us2_t {u:Nat}:us2 us v w u=true↔u=v∨u=w∨us u=true:=by
  unfold us2
  by_cases h:u=w
  · subst h; rw [upf_same]; simp
  · rw [upf_ne h]
    by_cases h2:u=v
    · subst h2; rw [upf_same]; simp
    · rw [upf_ne h2]; simp [h,h2]
theorem us2_f {u:Nat}:us2 us v w u=false↔u≠v∧u≠w∧us u=false:=by
  have:=us2_t (us:=us) (v:=v) (w:=w) (u:=u)
  cases h:us2 us v w u
  · rw [h] at this
    simp only [Bool.false_eq_true,false_iff] at this
    refine ⟨fun _=>⟨fun hh=>this (.inl hh),fun hh=>this (.inr (.inl hh)),?_⟩,fun _=>rfl⟩
    cases h2:us u
    · rfl
    · exact (this (.inr (.inr h2))).elim
  · rw [h] at this
    simp only [true_iff] at this
    refine ⟨fun hh=>(by cases hh),fun ⟨h1,h2,h3⟩=>?_⟩
    rcases this with h4 | h4 | h4
    · exact (h1 h4).elim
    · exact (h2 h4).elim
    · rw [h3] at h4; cases h4
theorem csp_two {b':Nat→Int} (hv:v<M) (hw:w<M) (hne:v≠w) (uv:us v=false) (uw:us w=false) (bv:b v=(i:Int)) (bw:b w=(i:Int)) (hb:∀u,u≠v→u≠w→us u=false→b u=b' u):csp e us b M=csp e (us2 us v w) b' M+2*(e i).co:=by
  have h1:csp e us b M=psum (fun u=>(fun u=>(fun u=>if us2 us v w u=true then 0 else (e (b' u).toNat).co) u+(fun u=>if u=v then (e i).co else 0) u) u+(fun u=>if u=w then (e i).co else 0) u) M:=psum_congr fun u hu=>by
    show (if us u=true then 0 else (e (b u).toNat).co)=(if us2 us v w u=true then 0 else (e (b' u).toNat).co)+(if u=v then (e i).co else 0)+(if u=w then (e i).co else 0)
    by_cases e1:u=v
    · subst e1
      rw [if_neg (by rw [uv]; simp),if_pos (us2_t.2 (.inl rfl)),if_pos rfl,if_neg hne,bv,tN]; omega
    · by_cases e2:u=w
      · subst e2
        rw [if_neg (by rw [uw]; simp),if_pos (us2_t.2 (.inr (.inl rfl))),if_neg e1,if_pos rfl,bw,tN]; omega
      · rw [if_neg e1,if_neg e2]
        by_cases e3:us u=true
        · rw [if_pos e3,if_pos (us2_t.2 (.inr (.inr e3)))]; omega
        · have e4:us u=false:=by cases h:us u with | true=>exact (e3 h).elim | false=>rfl
          rw [if_neg e3,if_neg (fun hh=>by rcases us2_t.1 hh with h | h | h; exact e1 h; exact e2 h; exact e3 h),hb u e1 e2 e4]; omega
  rw [h1,psum_add,psum_add,psum_single hv,psum_single hw]
  show csp e (us2 us v w) b' M+_+_=_
  omega
theorem Pm.take (hr:Right (M:Int) n e) (h:Pm M n e us b) (hv:v<M) (uv:us v=false):∃i:Nat,b v=(i:Int)∧En n (ef e) (et e) i v∧ot (ef e) (et e) i v<M∧us (ot (ef e) (et e) i v)=false∧Pm M n e (us2 us v (ot (ef e) (et e) i v)) (bs2 b v (ot (ef e) (et e) i v) (-1))∧csp e us b M=csp e (us2 us v (ot (ef e) (et e) i v)) (bs2 b v (ot (ef e) (et e) i v) (-1)) M+2*(e i).co:=by
  obtain ⟨i,e1,e2,e3⟩:=h.mm v hv uv
  have hw:=e2.ot.nd hr.nds
  have uw:us (ot (ef e) (et e) i v)=false:=by
    cases hh:us (ot (ef e) (et e) i v) with
    | false=>rfl
    | true=>have:=h.out _ hw hh; omega
  have hne:v≠ot (ef e) (et e) i v:=fun hh=>e2.ne hh.symm
  refine ⟨i,e1,e2,hw,uw,⟨fun u hu hh=>?_,fun u hu hh=>?_⟩,csp_two hv hw hne uv uw e1 e3 fun u h1 h2 _=>(if_neg (by omega)).symm⟩
  · unfold bs2
    rcases us2_t.1 hh with h1 | h1 | h1
    · rw [if_pos (.inl h1)]
    · rw [if_pos (.inr h1)]
    · by_cases h2:u=v∨u=ot (ef e) (et e) i v
      · rw [if_pos h2]
      · rw [if_neg h2]; exact h.out u hu h1
  · obtain ⟨h1,h2,h3⟩:=us2_f.1 hh
    obtain ⟨j,f1,f2,f3⟩:=h.mm u hu h3
    refine ⟨j,by unfold bs2; rw [if_neg (by omega)]; exact f1,f2,?_⟩
    unfold bs2
    rw [if_neg]
    · exact f3
    · rintro (hh | hh)
      · -- the other end is v: the edge is the same,and its other end the mate
        rw [hh,e1] at f3
        have:i=j:=by omega
        subst this
        have hl:=f2.2.2; have hl2:=e2.2.2
        exact h2 (by unfold ot at hh ⊢; omega)
      · rw [hh,e3] at f3
        have:i=j:=by omega
        subst this
        have hl:=f2.2.2; have hl2:=e2.2.2
        exact h1 (by unfold ot at hh; omega)
theorem Pm.put (hr:Right (M:Int) n e) (hv:v<M) (uv:us v=false) (hi:En n (ef e) (et e) i v) (uw:us (ot (ef e) (et e) i v)=false) (h:Pm M n e (us2 us v (ot (ef e) (et e) i v)) b):Pm M n e us (bs2 b v (ot (ef e) (et e) i v) (i:Int))∧csp e us (bs2 b v (ot (ef e) (et e) i v) (i:Int)) M=csp e (us2 us v (ot (ef e) (et e) i v)) b M+2*(e i).co∧bs2 b v (ot (ef e) (et e) i v) (i:Int) v=(i:Int):=by
  have hw:=hi.ot.nd hr.nds
  have hne:v≠ot (ef e) (et e) i v:=fun hh=>hi.ne hh.symm
  have bv:bs2 b v (ot (ef e) (et e) i v) (i:Int) v=(i:Int):=if_pos (.inl rfl)
  have bw:bs2 b v (ot (ef e) (et e) i v) (i:Int) (ot (ef e) (et e) i v)=(i:Int):=if_pos (.inr rfl)
  refine ⟨⟨fun u hu hh=>?_,fun u hu hh=>?_⟩,csp_two hv hw hne uv uw bv bw fun u h1 h2 _=>if_neg (by omega),bv⟩
  · have h1:u≠v:=fun e'=>by rw [e',uv] at hh; cases hh
    have h2:u≠ot (ef e) (et e) i v:=fun e'=>by rw [e',uw] at hh; cases hh
    unfold bs2
    rw [if_neg (by omega)]
    exact h.out u hu (us2_t.2 (.inr (.inr hh)))
  · by_cases e1:u=v
    · subst e1
      exact ⟨i,bv,hi,bw⟩
    · by_cases e2:u=ot (ef e) (et e) i v
      · refine ⟨i,by rw [e2]; exact bw,by rw [e2]; exact hi.ot,?_⟩
        have:ot (ef e) (et e) i u=v:=by have:=hi.2.2; rw [e2]; unfold ot; omega
        rw [this]; exact bv
      · obtain ⟨j,f1,f2,f3⟩:=h.mm u hu (us2_f.2 ⟨e1,e2,hh⟩)
        refine ⟨j,by unfold bs2; rw [if_neg (by omega)]; exact f1,f2,?_⟩
        unfold bs2
        rw [if_neg]
        · exact f3
        · rintro (h3 | h3)
          · have:=h.out v hv (us2_t.2 (.inl rfl))
            rw [h3,this] at f3; omega
          · have:=h.out _ hw (us2_t.2 (.inr (.inl rfl)))
            rw [h3,this] at f3; omega
theorem BstO.all (h:∀v,v<M→us v=true):BstO M n e us true 0:=by
  have hc:∀b,csp e us b M=0:=fun b=>psum_zero fun v hv=>if_pos (h v hv)
  exact ⟨fun _=>⟨fun _=>-1,⟨fun _ _ _=>rfl,fun v hv hh=>by rw [h v hv] at hh; cases hh⟩,hc _⟩,fun h=>(by cases h),fun b _=>⟨rfl,by rw [hc b]; omega⟩⟩
theorem bst_bnd (hr:Right (M:Int) n e) {any:Bool} {c:Int} (hex:any=true→∃b,Pm M n e us b∧csp e us b M=2*c) (hno:any=false→c=0):-1073741824≤c∧c≤1073741824:=by
  have hM:=hr.N1
  cases any with
  | false=>have:=hno rfl; omega
  | true=>
    obtain ⟨b,hb,eb⟩:=hex rfl
    have h1:=psum_bound (f:=fun v=>if us v=true then 0 else (e (b v).toNat).co) (a:=-1048576) (b:=1048576) (i:=M) fun v hv=>by
      show -1048576≤(if us v=true then 0 else (e (b v).toNat).co)∧(if us v=true then 0 else (e (b v).toNat).co)≤1048576
      by_cases hu:us v=true
      · rw [if_pos hu]; omega
      · rw [if_neg hu]
        obtain ⟨i,e1,e2,_⟩:=hb.mm v hv (by cases h:us v with | true=>exact (hu h).elim | false=>rfl)
        rw [e1,tN]
        exact ⟨(hr.ed i e2.1).k0,(hr.ed i e2.1).k1⟩
    have h2:psum (fun v=>if us v=true then 0 else (e (b v).toNat).co) M=2*c:=eb
    omega
theorem BstO.bnd (hr:Right (M:Int) n e) {any:Bool} {c:Int} (h:BstO M n e us any c):-1073741824≤c∧c≤1073741824:=bst_bnd hr h.ex h.no
theorem BstO.ful (hu:∀v,v<M→us v=false) {any:Bool} {c:Int} (hr:Right (M:Int) n e) (h:BstO M n e us any c):(any=false∧∀b,¬Ful M n e b)∨(any=true∧LstP M n e c):=by
  have hc:∀b,csp e us b M=tco e b M:=fun b=>psum_congr fun v hv=>if_neg (by rw [hu v hv]; simp)
  have to:∀b,Ful M n e b→Pm M n e us b:=fun b hb=>⟨fun v hv hh=>(by rw [hu v hv] at hh; cases hh),fun v hv _=>by
    obtain ⟨i,e1,e2,e3,e4,e5,_⟩:=hb.mm.en hv (by omega) (hb.all v hv)
    rw [e3] at e5
    exact ⟨i,e1,e2,e5⟩⟩
  have of:∀b,Pm M n e us b→Ful M n e b:=fun b hb=>⟨fun v hv _=>by
    obtain ⟨i,e1,e2,e3⟩:=hb.mm v hv (hu v hv)
    have:=e2.ot.nd hr.nds
    exact .inr ⟨i,e1,e2,by omega,e3⟩,fun v hv=>by
    obtain ⟨i,e1,_⟩:=hb.mm v hv (hu v hv)
    omega⟩
  cases any with
  | false=>exact .inl ⟨rfl,fun b hb=>by have:=(h.lo b (to b hb)).1; cases this⟩
  | true=>
    refine .inr ⟨rfl,?_,fun b hb=>by rw [←hc b]; exact (h.lo b (to b hb)).2⟩
    obtain ⟨b,hb,eb⟩:=h.ex rfl
    exact ⟨b,of b hb,by rw [←hc b]; exact eb⟩
structure Bst1 (M n:Nat) (e:Nat→Edg) (us:Nat→Bool) (v i:Nat) (any:Bool) (c:Int):Prop where
  ex:any=true→∃b,Pm M n e us b∧csp e us b M=2*c
  no:any=false→c=0
  lo:∀b,Pm M n e us b→b v<(i:Int)→any=true∧2*c≤csp e us b M
theorem Bst1.ini (hv:v<M) (uv:us v=false):Bst1 M n e us v 0 false 0:=⟨fun h=>(by cases h),fun _=>rfl,fun b hb h=>by
  obtain ⟨i,e1,_⟩:=hb.mm v hv uv
  omega⟩
theorem Bst1.fin (hv:v<M) (uv:us v=false) {any:Bool} {c:Int} (h:Bst1 M n e us v n any c):BstO M n e us any c:=⟨h.ex,h.no,fun b hb=>h.lo b hb (by
  obtain ⟨i,e1,e2,_⟩:=hb.mm v hv uv
  have:=e2.1
  omega)⟩
theorem Bst1.skip (hr:Right (M:Int) n e) (hv:v<M) (uv:us v=false) {any:Bool} {c:Int} (h:Bst1 M n e us v i any c) (hno:¬(En n (ef e) (et e) i v∧us (ot (ef e) (et e) i v)=false)):Bst1 M n e us v (i+1) any c:=⟨h.ex,h.no,fun b hb hlt=>by
  obtain ⟨j,e1,e2,_,e4,_⟩:=hb.take hr hv uv
  by_cases hj:j=i
  · subst hj; exact (hno ⟨e2,e4⟩).elim
  · exact h.lo b hb (by omega)⟩
theorem Bst1.try' (hr:Right (M:Int) n e) (hv:v<M) (uv:us v=false) {any any2:Bool} {c c2:Int} (h:Bst1 M n e us v i any c) (hi:En n (ef e) (et e) i v) (uw:us (ot (ef e) (et e) i v)=false) (h2:BstO M n e (us2 us v (ot (ef e) (et e) i v)) any2 c2) :
    (any2=true→(any=false∨c2+(e i).co<c)→Bst1 M n e us v (i+1) true (c2+(e i).co))∧((any2=false∨(any=true∧c≤c2+(e i).co))→Bst1 M n e us v (i+1) any c):=by
  have key:∀b,Pm M n e us b→b v=(i:Int)→any2=true∧2*(c2+(e i).co)≤csp e us b M:=fun b hb hbv=>by
    obtain ⟨j,e1,e2,_,e4,e5,e6⟩:=hb.take hr hv uv
    have:j=i:=by omega
    subst this
    obtain ⟨k1,k2⟩:=h2.lo _ e5
    exact ⟨k1,by omega⟩
  constructor
  · intro ha hor
    refine ⟨fun _=>?_,fun hh=>(by cases hh),fun b hb hlt=>⟨rfl,?_⟩⟩
    · obtain ⟨b,hb,eb⟩:=h2.ex ha
      obtain ⟨q1,q2,_⟩:=Pm.put hr hv uv hi uw hb
      exact ⟨_,q1,by omega⟩
    · by_cases hbv:b v=(i:Int)
      · exact (key b hb hbv).2
      · obtain ⟨k1,k2⟩:=h.lo b hb (by omega)
        rcases hor with ho | ho
        · rw [k1] at ho; cases ho
        · omega
  · intro hor
    refine ⟨h.ex,h.no,fun b hb hlt=>?_⟩
    by_cases hbv:b v=(i:Int)
    · obtain ⟨k1,k2⟩:=key b hb hbv
      rcases hor with ho | ⟨ho,h3⟩
      · rw [k1] at ho; cases ho
      · exact ⟨ho,by omega⟩
    · exact h.lo b hb (by omega)
end
end Go.Mz
/-
  A list that is but read, appended to a new one of none.
-/
namespace Go.Mz
theorem Rdr.dup {α:Type} [El α] {H:Hp} {p2:OA} {m b0:Nat} {g:Nat→α} (h2:Rdr H p2 m g) {t:BT} (e0:H b0=some ⟨[],t⟩) {e:TypeId} {ks:List CK} {bytes:Nat} {K:OA→Nat→Nat→Hp→Prop}
    (hk:ks.length=El.w α) (hm0:0<m) (hm:(m+(m+768) / 4+512)*bytes≤2 ^ 48) (hm2:m<2 ^ 63)
    (k:∀p' c' H',Row H' p' m c' g→Step (fun _=>False) H H'→(∀b,fpS p' b→H b=none)→K p' m c' H') :
    appM e ks bytes (some ⟨b0,0,none⟩) 0 0 p2 m H K:=by
  have hw:=El.pos (α:=α)
  refine Or.inl ?_
  unfold appO
  rw [hk]
  obtain ⟨b,o,rfl,_⟩:=h2 0 hm0
  have hb:=h2.live (b:=b) ⟨o,rfl⟩ hm0
  cases hx:H b with
  | none=>exact (hb hx).elim
  | some x=>
    have get:∀i,i<m→∀j,j<El.w α→x.cells[o+i*El.w α+j]?=(El.enc (g i))[j]?:=fun i hi j hj=>by
      obtain ⟨b',o',e',hg⟩:=h2 i hi
      cases e'
      have:=hg j hj
      simpa [Hp.get,hx] using this
    have hl:o+m*El.w α≤x.cells.length:=by
      have h1:=get (m-1) (by omega) (El.w α-1) (by omega)
      have hl1:=El.len (g (m-1))
      rw [List.getElem?_eq_getElem (by omega:El.w α-1<(El.enc (g (m-1))).length)] at h1
      obtain ⟨h3,_⟩:=List.getElem?_eq_some_iff.1 h1
      have h4:(m-1)*El.w α+El.w α=m*El.w α:=by rw [←Nat.succ_mul]; congr 1; omega
      omega
    have hsl:((x.cells.drop o).take (m*El.w α)).length=m*El.w α:=by simp; omega
    have hsg:∀i,i<m→∀j,j<El.w α→((x.cells.drop o).take (m*El.w α))[i*El.w α+j]?=(El.enc (g i))[j]?:=fun i hi j hj=>by
      have:(i+1)*El.w α≤m*El.w α:=Nat.mul_le_mul_right _ hi
      rw [Nat.add_mul] at this
      rw [List.getElem?_take_of_lt (by omega),List.getElem?_drop,←Nat.add_assoc]
      exact get i hi j hj
    refine ⟨x,hx,hl,src_one hsl hsg,?_⟩
    rw [if_neg (by omega)]
    have hroom:=room_fine (0+m) 0 (by omega)
    refine ⟨⟨by omega,Nat.le_trans (Nat.mul_le_mul_right _ (by omega)) hm⟩,⟨_,e0,by simp,fun c' b' hc' hc2 hb'=>?_⟩⟩
    rw [Nat.zero_add] at hc' ⊢
    refine k _ _ _ ⟨hc',hc2,.inr ⟨b',0,_,rfl,upd_same,⟨?_,rfl⟩,?_⟩⟩ (Step.new hb') fun y hy=>by rw [fpS_mk.1 hy]; exact hb'
    · have:m*El.w α≤c'*El.w α:=Nat.mul_le_mul_right _ hc'
      simp only [List.drop_nil,List.take_nil,List.nil_append,List.length_append,hsl,zr_length,hk,Nat.sub_mul]
      omega
    · intro i hi j hj
      have:(i+1)*El.w α≤m*El.w α:=Nat.mul_le_mul_right _ hi
      rw [Nat.add_mul] at this
      simp only [List.drop_nil,List.take_nil,List.nil_append,Nat.zero_add]
      rw [List.getElem?_append_left (by rw [hsl]; omega)]
      exact hsg i hi j hj
end Go.Mz
/-
  The document's Best of layer 18, walked: the cheapest matching of the nodes that aren't used yet, by trying all.
-/
namespace Go.Mz
section
variable {M n:Nat} {e:Nat→Edg} {E:VP}
theorem rbest (hr:Right (M:Int) n e):∀(k:Nat) {us:Nat→Bool} {up ep:OA} {uc ec:Nat} {H:Hp} {K:Bool→Int→Hp→Prop},cnt (fun v=>!us v) M=k→Rdr H ep n e→Rdr H up M us→
    (∀H' any c,Step (fun _=>False) H H'→BstO M n e us any c→K any c H')→Q8.call (M:Int) ep n ec up M uc E H K:=by
  intro k
  induction k using Nat.strongRecOn with
  | _ k ih=>
    intro us up ep uc ec H K hk he hu kk
    have hM:=hr.N1
    have hn:=hr.n1
    refine Q8.of (Q8.run_eq ?_)
    unfold Q8.run_t
    refine nwk fun b1 H1 hb1 e1 s1=>?_
    refine nwk fun b2 H2 hb2 e2 s2=>?_
    have e12:=s2.keep _ _ e1 fun h=>h
    have s02:=s1.and s2
    have fb2:H b2=none:=s1.mono _ hb2
    have d12:b1≠b2:=fun h=>by rw [←h,e1] at hb2; cases hb2
    refine Q8.l1_rule (fun up' un uc' g2 t4 v5 H'=>up=up'∧M=un∧b1=g2∧b2=t4∧H2=H'∧∃v:Nat,v5=v∧v≤M∧∀u,u<v→us u=true)
      (fun _ _ _ _ _ v5 _=>M-v5.toNat) ?_ ⟨rfl,rfl,rfl,rfl,rfl,0,rfl,Nat.zero_le _,fun u h=>by omega⟩
    rintro up' un uc' g2 t4 v5 H' ⟨rfl,rfl,rfl,rfl,rfl,v,rfl,hv,hus⟩ X hX
    have hu2:=hu.keep s02 fun _ _ _ h=>h
    have j1:(v<M→us v=false)→Q8.j1 up M uc' b1 b2 (v:Int) E H2 K:=fun hvu=>by
      refine Q8.j1_eq ?_
      unfold Q8.j1_t
      simp only [get_at e12,gZ,gS,ldI_mk,ldS_mk]
      refine bc (fun heq=>?_) fun hne=>?_
      · have:v=M:=by omega
        subst this
        refine stk e2 rfl rfl fun H3 e3 s3=>?_
        simp only [get_at e3,gZ,gS,ldI_mk,ldB_mk]
        exact kk H3 true 0 (s02.own s3 fun y hy=>hy▸fb2) (BstO.all hus)
      · have hv:v<M:=by omega
        have uv:=hvu hv
        refine nwk fun b3 H3 hb3 e3 s3=>?_
        refine stk e3 rfl rfl fun H4 e34 s4=>?_
        have fb3:H b3=none:=s02.mono _ hb3
        have d13:b1≠b3:=fun h=>by rw [←h,e12] at hb3; cases hb3
        have d23:b2≠b3:=fun h=>by rw [←h,e2] at hb3; cases hb3
        have s24:Step (fun _=>False) H2 H4:=s3.own s4 fun y hy=>hy▸hb3
        have s04:=s02.and s24
        have e14:=s24.keep _ _ e12 fun h=>h
        have e24:=s24.keep _ _ e2 fun h=>h
        refine Q8.l2_rule (fun up' un uc'' g2 t4 v5 be6 i7 H'=>up=up'∧M=un∧b1=g2∧b2=t4∧(v:Int)=v5∧b3=be6∧∃(i:Nat) (any:Bool) (c:Int),i7=i∧i≤n∧Step (fun y=>y=b3) H4 H'∧H' b3=some ⟨[.bool any,.int .i64 c],45⟩∧Bst1 M n e us v i any c∧-1073741824≤c∧c≤1073741824)
          (fun _ _ _ _ _ _ _ i7 _=>n-i7.toNat) ?_ ⟨rfl,rfl,rfl,rfl,rfl,rfl,0,false,0,rfl,Nat.zero_le _,.refl,e34,Bst1.ini hv uv,by omega,by omega⟩
        rintro up' un uc'' g2 t4 v5 be6 i7 H5 ⟨rfl,rfl,rfl,rfl,rfl,rfl,i,any,c,rfl,hi,s5,e35,hB,hc0,hc1⟩ X2 hX2
        have s05:Step (fun _=>False) H H5:=s04.own s5 fun y hy=>hy▸fb3
        have e15:=s5.keep _ _ e14 d13
        have e25:=s5.keep _ _ e24 d23
        have next:∀(H':Hp) (any':Bool) (c':Int),i<n→Step (fun y=>y=b3) H4 H'→H' b3=some ⟨[.bool any',.int .i64 c'],45⟩→Bst1 M n e us v (i+1) any' c'→-1073741824≤c'→c'≤1073741824→Q8.j4 up M uc'' b1 b2 (v:Int) b3 (i:Int) X2 E H' K:=fun H' any' c' hin q1 q2 q3 q4 q5=>by
          refine Q8.j4_eq ?_
          unfold Q8.j4_t
          rw [i64w (by omega) (by omega)]
          exact hX2 _ _ _ _ _ _ _ _ _ ⟨rfl,rfl,rfl,rfl,rfl,rfl,i+1,any',c',by omega,by omega,q1,q2,q3,q4,q5⟩ (by omega)
        refine Q8.b2_eq ?_
        unfold Q8.b2_t
        simp only [get_at e15,gZ,gS,ldI_mk,ldS_mk]
        refine bc (fun hlt=>?_) fun hge=>?_
        · have hin:i<n:=by omega
          try simp only [get_at e15,gZ,gS,ldI_mk,ldS_mk]
          refine (he.keep s05 fun _ _ _ h=>h).edge (by omega) (by omega) ?_
          rw [tN]
          refine nwst rfl rfl fun b4 H6 hb4 e4 s6=>?_
          have e16:=s6.keep _ _ e15 fun h=>h
          have e36:=s6.keep _ _ e35 fun h=>h
          have s06:=s05.and s6
          have s46:Step (fun y=>y=b3) H4 H6:=s5.trans s6 fun _ h=>h.elim
          have d34:b3≠b4:=fun h=>by rw [←h,e35] at hb4; cases hb4
          obtain ⟨f1,f2⟩:=hr.ends hin
          obtain ⟨n1,n2⟩:=hr.nds i hin
          simp only [get_at e4,gZ,gS,ldI_mk,ldS_mk]
          have skip:¬(En n (ef e) (et e) i v∧us (ot (ef e) (et e) i v)=false)→Q8.j4 up M uc'' b1 b2 (v:Int) b3 (i:Int) X2 E H6 K:=fun hno=>next H6 any c hin s46 e36 (hB.skip hr hv uv hno) hc0 hc1
          refine bc (fun heq=>skip fun hh=>hh.1.2.1 (by omega)) fun hne=>?_
          have touch:(v=ef e i∨v=et e i)→Mz.ix up M (IntKind.wrap .i64 ((IntKind.wrap .i64 ((e i).fr+(e i).to))-(v:Int))) 1 fun b_3 o_2=>ldB (H6.get b_3 o_2) fun x_13=>bcase (x_13) (Q8.j4 up M uc'' b1 b2 (v:Int) b3 (i:Int) X2 E H6 K) (Q8.j2 up M uc'' b1 b2 (v:Int) b3 (i:Int) b4 (IntKind.wrap .i64 ((IntKind.wrap .i64 ((e i).fr+(e i).to))-(v:Int))) X2 E H6 K):=fun ht=>by
            have hen:En n (ef e) (et e) i v:=⟨hin,by omega,ht⟩
            have hwM:=hen.ot.nd hr.nds
            have hwne:=hen.ne
            have ew:IntKind.wrap .i64 ((IntKind.wrap .i64 ((e i).fr+(e i).to))-(v:Int))=((ot (ef e) (et e) i v:Nat):Int):=by
              rw [f1,f2,i64w (n:=(ef e i:Int)+(et e i:Int)) (by omega) (by omega),i64w (by omega) (by omega)]
              unfold ot; omega
            rw [ew]
            generalize hw:ot (ef e) (et e) i v=w at *
            refine (hu.keep s06 fun _ _ _ h=>h).ixB (by omega) (by omega) ?_
            rw [tN]
            refine bcb (fun hut=>skip fun hh=>by rw [hut] at hh; exact absurd hh.2 (by simp)) fun uw=>?_
            refine Q8.j2_eq ?_
            unfold Q8.j2_t
            refine nwk fun b5 H7 hb5 e5 s7=>?_
            have s07:=s06.and s7
            refine Rdr.dup (α:=Bool) (hu.keep s07 fun _ _ _ h=>h) e5 rfl (by omega) (by omega) (by omega) fun ap ac H8 r8 s8 f8=>?_
            have s68:=s7.and s8
            refine r8.stB (by omega) (by omega) true fun H9 r9 s9=>?_
            rw [tN] at r9
            refine r9.stB (by omega) (by omega) true fun H10 r10 s10=>?_
            rw [tN] at r10
            have f6:∀y,fpS ap y→H6 y=none:=fun y hy=>s7.mono _ (f8 y hy)
            have s610:Step (fun _=>False) H6 H10:=(s68.own s9 f6).own s10 f6
            have s010:=s06.and s610
            have e110:=s610.keep _ _ e16 fun h=>h
            simp only [get_at e110,gZ,gS,ldI_mk,ldS_mk]
            have hcnt:cnt (fun u=>!us2 us v w u) M<k:=by
              have h1:=cnt_more (p:=fun u=>!us2 us v w u) (q:=fun u=>!us u) (N:=M) hv (by rw [us2_t.2 (.inl rfl)]; rfl) (by rw [uv]; rfl) fun u hu2 hh=>by
                have h3:us2 us v w u=false:=by simpa using hh
                rw [(us2_f.1 h3).2.2]; rfl
              rw [hk] at h1
              omega
            refine ih _ hcnt (us:=us2 us v w) rfl (he.keep s010 fun _ _ _ h=>h) r10.rdr fun H11 any2 c2 s11 hB2=>?_
            have hcb:=hB2.bnd hr
            have hk0:=(hr.ed i hin).k0
            have hk1:=(hr.ed i hin).k1
            have s611:=s610.and s11
            have e111:=s611.keep _ _ e16 fun h=>h
            have e311:=s611.keep _ _ e36 fun h=>h
            have e411:=s611.keep _ _ e4 fun h=>h
            refine nwk fun b6 H12 hb6 e6 s12=>?_
            refine stk e6 rfl rfl fun H13 e613 s13=>?_
            have s1113:Step (fun _=>False) H11 H13:=s12.own s13 fun y hy=>hy▸hb6
            have e313:=s1113.keep _ _ e311 fun h=>h
            have e413:=s1113.keep _ _ e411 fun h=>h
            have s413:Step (fun y=>y=b3) H4 H13:=s46.trans (s611.and s1113) fun _ h=>h.elim
            subst hw
            obtain ⟨t1,t2⟩:=hB.try' hr hv uv hen uw hB2
            have put:any2=true→(any=false∨c2+(e i).co<c)→Q8.j3 up M uc'' b1 b2 (v:Int) b3 (i:Int) b4 b6 X2 E H13 K:=fun h1 h2=>by
              refine Q8.j3_eq ?_
              unfold Q8.j3_t
              simp only [get_at e613,get_at e413,gZ,gS,ldI_mk,ldS_mk]
              rw [i64w (n:=c2+(e i).co) (by omega) (by omega)]
              refine stk e313 rfl rfl fun H14 e14' s14=>?_
              have h3:=t1 h1 h2
              have h4:-1073741824≤c2+(e i).co∧c2+(e i).co≤1073741824:=bst_bnd hr h3.ex h3.no
              exact next H14 true _ hin (s413.trans s14 fun y hy=>.inl hy) e14' h3 h4.1 h4.2
            simp only [get_at e613,get_at e313,get_at e413,gZ,gS,ldI_mk,ldB_mk]
            refine bcb (fun ha2=>?_) fun ha2=>next H13 any c hin s413 e313 (t2 (.inl ha2)) hc0 hc1
            refine bcb (fun ha=>put ha2 (.inl (by simpa using ha))) fun ha=>?_
            rw [i64w (n:=c2+(e i).co) (by omega) (by omega)]
            refine bc (fun hlt2=>put ha2 (.inr hlt2)) fun hge2=>next H13 any c hin s413 e313 (t2 (.inr ⟨by simpa using ha,by omega⟩)) hc0 hc1
          refine bcn (fun c1=>?_) fun c1=>touch (by omega)
          refine bcn (fun c2=>skip fun hh=>by have:=hh.1.2.2; omega) fun c2=>touch (by omega)
        · have:i=n:=by omega
          subst this
          refine Q8.j5_eq ?_
          unfold Q8.j5_t
          simp only [get_at e35,gZ,gS,ldI_mk,ldB_mk]
          refine stk e25 rfl rfl fun H6 e6 s6=>?_
          simp only [get_at e6,gZ,gS,ldI_mk,ldB_mk]
          exact kk H6 any c (s05.own s6 fun y hy=>hy▸fb2) (hB.fin hv uv)
    refine Q8.b1_eq ?_
    unfold Q8.b1_t
    simp only [get_at e12,gZ,gS,ldI_mk,ldS_mk]
    refine bc (fun hlt=>?_) fun hge=>j1 fun h=>by omega
    refine hu2.ixB (by omega) (by omega) ?_
    rw [tN]
    refine bcb (fun ht=>?_) fun hf=>j1 fun _=>hf
    rw [i64w (by omega) (by omega)]
    refine hX _ _ _ _ _ _ _ ⟨rfl,rfl,rfl,rfl,rfl,v+1,by omega,by omega,fun u hu'=>?_⟩ (by omega)
    by_cases eu:u=v
    · rw [eu]; exact ht
    · exact hus u (by omega)
end
end Go.Mz
/-
  Walks of layer 12, more: copies.
-/
namespace Go.Mz
section
variable {E:VP}
end
end Go.Mz
/-
  Walks of layer 12, more: build.
-/
namespace Go.Mz
section
variable {E:VP}
structure Bst (H0 H:Hp) (fb lb tb ob:Nat) (ln lc N:Nat) (f g:Nat→Int) (nodes:Int) (op:OA) (oc:Nat) (L:List Edg):Prop where
  s:Step (fun _=>False) H0 H
  fr:Row H (some ⟨fb,0,none⟩) N N f
  la:Row H (some ⟨lb,0,none⟩) ln lc g
  t:H tb=some ⟨[.int .i64 0,.slice none 0 0],24⟩
  o:H ob=some ⟨[.int .i64 nodes,.slice op L.length oc],24⟩
  r:Row H op L.length oc (lsE L)
  new:∀y,fpS op y→H0 y=none∧y≠fb∧y≠lb∧y≠tb∧y≠ob
  ob0:H0 ob=none
  tb0:H0 tb=none
  of:ob≠fb
  ol:ob≠lb
  ot:ob≠tb
theorem Bst.keep {H0 H H':Hp} {fb lb tb ob ln lc N:Nat} {f g:Nat→Int} {nodes:Int} {op:OA} {oc:Nat} {L:List Edg} (h:Bst H0 H fb lb tb ob ln lc N f g nodes op oc L) (s:Step (fun _=>False) H H') :
    Bst H0 H' fb lb tb ob ln lc N f g nodes op oc L:=
  ⟨h.s.and s,h.fr.keep s fun _ _ h=>h,h.la.keep s fun _ _ h=>h,s.keep _ _ h.t fun h=>h,s.keep _ _ h.o fun h=>h,h.r.keep s fun _ _ h=>h,h.new,h.ob0,h.tb0,h.of,h.ol,h.ot⟩
theorem Bst.push {H0 H:Hp} {fb lb tb ob ln lc N:Nat} {f g:Nat→Int} {nodes x y:Int} {op:OA} {oc:Nat} {L:List Edg} {K:Hp→Prop} (h:Bst H0 H fb lb tb ob ln lc N f g nodes op oc L) (hL:L.length≤1048576)
    (k:∀H' op' oc',Bst H0 H' fb lb tb ob ln lc N f g nodes op' oc' (L++[(x,y,0,0)])→(∀a z,H a=some z→a≠ob→¬fpS op a→H' a=some z∧¬fpS op' a)→K H') :
    nw H ⟨[.int .i64 x,.int .i64 y,.int .i64 0,.int .i64 0],49⟩ fun bb H1=>appM 49 [.i .i64,.i .i64,.i .i64,.i .i64] 32 op L.length oc (some ⟨bb,0,none⟩) 1 H1 fun p' n' c' H2=>stC H2 ob 1 [.slice p' n' c'] K:=by
  refine h.r.app (α:=Edg) (x,y,0,0) rfl hL (by decide) fun p' c' H2 r2 s2 f2=>?_
  have oo:¬fpS op ob:=fun hh=>(h.new _ hh).2.2.2.2 rfl
  have o2:=s2.keep _ _ h.o oo
  refine stp o2 (by simp) rfl fun H3 e3 s3=>?_
  have lv:∀z,H z≠none→(∀y,fpS op y→y≠z)→∀y,fpS p' y→y≠z:=fun z hz hn y hy e=>by
    rcases f2 y hy with h' | h'
    · exact hn y h' e
    · exact hz (e▸h')
  have nob:=lv ob (by rw [h.o]; exact fun h=>by cases h) fun y hy=>(h.new y hy).2.2.2.2
  have s02:=h.s.own s2 fun y hy=>(h.new y hy).1
  rw [lsE_app] at r2
  refine k H3 p' c' ⟨s02.own s3 fun y hy=>hy▸h.ob0,(h.fr.keep s2 fun y hy hy'=>?_).keep s3 fun y hy e=>?_,(h.la.keep s2 fun y hy hy'=>?_).keep s3 fun y hy e=>?_,s3.keep _ _ (s2.keep _ _ h.t fun hh=>(h.new _ hh).2.2.2.1 rfl) fun e=>h.ot e.symm,?_,?_,fun y hy=>?_,h.ob0,h.tb0,h.of,h.ol,h.ot⟩ fun a z ha hao haf=>?_
  · rw [fpS_mk] at hy; exact (h.new _ hy').2.1 hy
  · rw [fpS_mk] at hy; exact h.of (e▸hy)
  · rw [fpS_mk] at hy; exact (h.new _ hy').2.2.1 hy
  · rw [fpS_mk] at hy; exact h.ol (e▸hy)
  · rw [List.length_append]; exact e3
  · rw [List.length_append]; exact r2.keep s3 fun y hy e=>nob y hy e
  · refine ⟨?_,lv fb (h.fr.live ⟨_,rfl⟩) (fun y hy=>(h.new y hy).2.1) y hy,lv lb (h.la.live ⟨_,rfl⟩) (fun y hy=>(h.new y hy).2.2.1) y hy,lv tb (by rw [h.t]; exact fun h=>by cases h) (fun y hy=>(h.new y hy).2.2.2.1) y hy,nob y hy⟩
    rcases f2 y hy with h' | h'
    · exact (h.new y h').1
    · exact h.s.mono _ h'
  · refine ⟨s3.keep _ _ (s2.keep _ _ ha haf) hao,fun hh=>?_⟩
    rcases f2 a hh with h' | h'
    · exact haf h'
    · rw [ha] at h'; cases h'
end
end Go.Mz
/-
  Walks of layer 12, more: build whole, Gadget, Many.
-/
namespace Go.Mz
section
variable {E:VP}
def GadB (N:Int) (n:Nat) (e:Nat→Edg) (b:Nat→Int) (bn:Nat) (c:Int):Prop:=
  (c=chk N n e∧c≠0)∨(c=130∧Right N n e∧¬Bnd N b bn)∨(c=3∧Right N n e∧Bnd N b bn∧¬Gsz e (cps e n b) N.toNat n)
theorem GadB.ne {N:Int} {n:Nat} {e:Nat→Edg} {b:Nat→Int} {bn:Nat} {c:Int} (h:GadB N n e b bn c):c≠0:=by
  rcases h with ⟨_,h⟩ | ⟨rfl,_⟩ | ⟨rfl,_⟩
  · exact h
  · decide
  · decide
end
end Go.Mz
/-
  Walks of layer 12, more: Doubled.
-/
namespace Go.Mz
section
variable {E:VP}
def sub (e:Nat→Edg) (tw:Nat→Int):Nat→Edg:=fun i=>e (tw i).toNat
structure DistR (H:Hp) (dp:OA) (dn:Nat) (dl:Nat→Sl) (row:Nat→Nat→Int):Prop where
  d:Rdr H dp dn dl
  r:∀i,i<dn→Rdr H (dl i).p (dl i).n (row i)∧(dl i).n<2 ^ 63
theorem DistR.keep {H H':Hp} {dp:OA} {dn:Nat} {dl:Nat→Sl} {row:Nat→Nat→Int} (h:DistR H dp dn dl row) (s:Step (fun _=>False) H H'):DistR H' dp dn dl row:=
  ⟨h.d.keep s fun _ _ _ h=>h,fun i hi=>⟨(h.r i hi).1.keep s fun _ _ _ h=>h,(h.r i hi).2⟩⟩
end
end Go.Mz
