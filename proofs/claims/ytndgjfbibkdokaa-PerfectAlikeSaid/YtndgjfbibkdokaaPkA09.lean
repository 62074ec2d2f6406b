/-
  Joined: LPeO, DeL.
-/
import Derived.Test.YtndgjfbibkdokaaPkA08
set_option linter.unusedVariables false
/-
  Walks of layer 18: what Solve answers, of its cost and code alone; graphs that are turned about, or dearer at a node.
-/
namespace Go.Mz
def SolO (N:Int) (n:Nat) (e:Nat→Edg) (c cd:Int):Prop:=
  (cd=chk N n e∧cd≠0∧c=0)∨∃M:Nat,N=M∧Right (M:Int) n e∧((cd=5∧c=0∧∀b,¬Ful M n e b)∨(cd=0∧LstP M n e c))
section
variable {N:Int} {M n n':Nat} {e e':Nat→Edg} {c c' cd cd':Int}
theorem SolO.right (h:SolO (M:Int) n e c cd) (hr:Right (M:Int) n e):(cd=5∧c=0∧∀b,¬Ful M n e b)∨(cd=0∧LstP M n e c):=by
  rcases h with ⟨h1,h2,_⟩ | ⟨M',h1,_,h2⟩
  · exact (h2 (h1.trans (chk_zero.2 hr))).elim
  · have:M'=M:=by omega
    subst this
    exact h2
theorem SolO.zero (h:SolO N n e c cd):cd=0∨c=0:=by
  rcases h with ⟨_,_,h⟩ | ⟨M,_,_,⟨_,h,_⟩ | ⟨h,_⟩⟩
  · exact .inr h
  · exact .inr h
  · exact .inl h
theorem SolO.ren (hr:Right (M:Int) n e) (hr':Right (M:Int) n' e') (h:SolO (M:Int) n e c cd) (h':SolO (M:Int) n' e' c' cd') (π ρ:Nat→Nat) (hπ:∀i,i<n→π i<n'∧(e' (π i)).co=(e i).co∧((ef e' (π i)=ef e i∧et e' (π i)=et e i)∨(ef e' (π i)=et e i∧et e' (π i)=ef e i)))
    (hρ:∀i,i<n'→ρ i<n∧(e (ρ i)).co=(e' i).co∧((ef e (ρ i)=ef e' i∧et e (ρ i)=et e' i)∨(ef e (ρ i)=et e' i∧et e (ρ i)=ef e' i))):cd=cd'∧c=c':=by
  rcases h.right hr with ⟨h1,h2,h3⟩ | ⟨h1,h2⟩<;>rcases h'.right hr' with ⟨k1,k2,k3⟩ | ⟨k1,k2⟩
  · omega
  · obtain ⟨b,hb,_⟩:=k2.ex
    exact (h3 _ (hb.ren hr' ρ fun i hi=>⟨(hρ i hi).1,(hρ i hi).2.2⟩)).elim
  · obtain ⟨b,hb,_⟩:=h2.ex
    exact (k3 _ (hb.ren hr π fun i hi=>⟨(hπ i hi).1,(hπ i hi).2.2⟩)).elim
  · exact ⟨by omega,(h2.ren hr hr' π ρ hπ hρ).uniq k2⟩
theorem SolO.turned (hr:Right (M:Int) n e) (hr':Right (M:Int) n e') (h:SolO (M:Int) n e c cd) (h':SolO (M:Int) n e' c' cd') (he:∀i,i<n→e' i=trn (e (n-1-i))):cd=cd'∧c=c':=by
  have f1:∀i,i<n→ef e' i=et e (n-1-i)∧et e' i=ef e (n-1-i)∧(e' i).co=(e (n-1-i)).co:=fun i hi=>by
    unfold ef et; rw [he i hi]; exact ⟨rfl,rfl,rfl⟩
  refine h.ren hr hr' h' (fun i=>n-1-i) (fun i=>n-1-i) (fun i hi=>?_) fun i hi=>?_
  · have:=f1 (n-1-i) (by omega)
    rw [show n-1-(n-1-i)=i by omega] at this
    exact ⟨by omega,this.2.2,.inr ⟨this.1,this.2.1⟩⟩
  · obtain ⟨a,b,d⟩:=f1 i hi
    exact ⟨by omega,d.symm,.inr ⟨b.symm,a.symm⟩⟩
theorem LstP.bnd (hr:Right (M:Int) n e) (h:LstP M n e c):-1073741824≤c∧c≤1073741824:=by
  obtain ⟨b,hb,eb⟩:=h.ex
  have h1:=psum_bound (f:=fun v=>(e (b v).toNat).co) (a:=-1048576) (b:=1048576) (i:=M) fun v hv=>by
    obtain ⟨i,e1,e2,_⟩:=hb.en hv
    have hx:=hr.ed i e2.1
    have hk0:=hx.k0; have hk1:=hx.k1
    show _≤(e (b v).toNat).co∧(e (b v).toNat).co≤_
    rw [e1,tN]
    exact ⟨hk0,hk1⟩
  have h2:psum (fun v=>(e (b v).toNat).co) M=2*c:=eb
  have:=hr.N1
  omega
end
section
variable {N:Int} {n:Nat} {e:Nat→Edg} {E:VP} {H:Hp}
theorem pSolveO {ep:OA} {ec:Nat} {K:OA→Nat→Nat→OA→Nat→Nat→OA→Nat→Nat→OA→Nat→Nat→Int→Int→Hp→Prop} (he:Rdr H ep n e) (hn:n<2 ^ 62)
    (kk:∀H' mp mk mc yp yn yc sp sn sc tp tn tc c cd,Step (fun _=>False) H H'→SolO N n e c cd→K mp mk mc yp yn yc sp sn sc tp tn tc c cd H'):Q3.call N ep n ec E H K:=
  pSolve he (by omega) (fun H' s hz=>kk _ _ _ _ _ _ _ _ _ _ _ _ _ _ _ s (.inl ⟨rfl,hz,rfl⟩)) (fun H' sp sn sc cv mn g M s hM hr hA hlt _ _=>kk _ _ _ _ _ _ _ _ _ _ _ _ _ _ _ s (.inr ⟨M,hM,hM▸hr,.inl ⟨rfl,rfl,hA.nofull hlt⟩⟩)) fun H' mp k mc g yb Y sp ks sc z S F M s hM hr hS=>kk _ _ _ _ _ _ _ _ _ _ _ _ _ _ _ s (.inr ⟨M,hM,hM▸hr,.inr ⟨rfl,hS.chp.lst (hM▸hr)⟩⟩)
end
end Go.Mz
/-
  A table as a graph: an edge for each two nodes, in plain words. No program in sight.
-/
namespace Go.Mz
def qrj (i t:Nat):List (Nat × Nat):=(List.range t).map fun s=>(i,s)
def qrs:Nat→List (Nat × Nat)
  | 0=>[]
  | i+1=>qrs i++qrj i i
theorem qrj_succ {i t:Nat}:qrj i (t+1)=qrj i t++[(i,t)]:=by
  unfold qrj
  rw [List.range_succ,List.map_append]
  rfl
theorem qrj_mem {i t a b:Nat}:(a,b)∈qrj i t↔a=i∧b<t:=by
  unfold qrj
  rw [List.mem_map]
  constructor
  · rintro ⟨s,hs,e⟩
    have hs:=List.mem_range.1 hs
    injection e with e1 e2
    omega
  · rintro ⟨e,h1⟩
    exact ⟨b,List.mem_range.2 h1,by rw [e]⟩
theorem qrs_mem {a b:Nat}:∀{k:Nat},(a,b)∈qrs k↔a<k∧b<a
  | 0=>by simp [qrs]
  | k+1=>by
    show (a,b)∈qrs k++qrj k k↔_
    rw [List.mem_append,qrs_mem,qrj_mem]
    constructor
    · rintro (h | h)<;>omega
    · intro h
      by_cases e:a=k
      · right; omega
      · left; omega
theorem qrs_len:∀{k:Nat},(qrs k).length≤k*k
  | 0=>by simp [qrs]
  | k+1=>by
    show (qrs k++qrj k k).length≤_
    rw [List.length_append]
    have:=qrs_len (k:=k)
    have:(qrj k k).length=k:=by simp [qrj]
    rw [Nat.succ_mul,Nat.mul_succ]
    omega
section
variable {n:Nat} {D:Nat→Nat→Int}
def qE (D:Nat→Nat→Int) (L:List (Nat × Nat)) (x:Nat):Edg:=((pF L x:Int),(pT L x:Int),0,D (pT L x) (pF L x))
theorem qE_app {L:List (Nat × Nat)} {a b:Nat}:upf (qE D L) L.length (((a:Int),(b:Int),0,D b a):Edg)=qE D (L++[(a,b)]):=by
  funext i
  unfold upf qE pF pT
  by_cases h:i=L.length
  · subst h; simp
  · rw [if_neg h]
    by_cases h2:i<L.length
    · rw [List.getElem?_append_left h2]
    · rw [List.getElem?_eq_none (by omega),List.getElem?_eq_none (by simp; omega)]
open Classical in
theorem prW_symm {Y:Nat→Int} {z:Nat→Int} {ln:Nat→Nat} {nd:Nat→Nat→Int} {sn:Nat} {u v:Int}:prW Y z ln nd sn u v=prW Y z ln nd sn v u:=by
  unfold prW
  have:(fun i=>if In (nd i) (ln i) u∧In (nd i) (ln i) v then z i else 0)=fun i=>if In (nd i) (ln i) v∧In (nd i) (ln i) u then z i else 0:=by
    funext i
    by_cases h:In (nd i) (ln i) u∧In (nd i) (ln i) v
    · rw [if_pos h,if_pos ⟨h.2,h.1⟩]
    · rw [if_neg h,if_neg fun h'=>h ⟨h'.2,h'.1⟩]
  rw [this]
  omega
theorem DenP.lst {mate:Nat→Nat} {total:Int} {Y:Nat→Int} {z:Nat→Int} {ln:Nat→Nat} {nd:Nat→Nat→Int} {sn:Nat} (h:DenP n D mate total Y z ln nd sn) (hr:Right (n:Int) (qrs n).length (qE D (qrs n))):LstP n (qrs n).length (qE D (qrs n)) total:=by
  classical
  have hin:∀x,x<(qrs n).length→pF (qrs n) x<n∧pT (qrs n) x<pF (qrs n) x:=fun x hx=>qrs_mem.1 (pr_in hx)
  have hef:∀x,ef (qE D (qrs n)) x=pF (qrs n) x:=fun x=>by unfold ef qE; exact tN _
  have het:∀x,et (qE D (qrs n)) x=pT (qrs n) x:=fun x=>by unfold et qE; exact tN _
  constructor
  · have ex:∀v,∃x,v<n→x<(qrs n).length∧pF (qrs n) x=max v (mate v)∧pT (qrs n) x=min v (mate v):=fun v=>by
      by_cases hv:v<n
      · obtain ⟨a,b,_⟩:=h.mt v hv
        obtain ⟨x,hx⟩:=pr_at (qrs_mem.2 (⟨by omega,by omega⟩:max v (mate v)<n∧min v (mate v)<max v (mate v)))
        exact ⟨x,fun _=>hx⟩
      · exact ⟨0,fun h'=>(hv h').elim⟩
    obtain ⟨I,hI⟩:=Classical.axiomOfChoice ex
    let J:Nat→Nat:=fun v=>if v≤mate v then I v else I (mate v)
    have hJ:∀v,v<n→J v<(qrs n).length∧pF (qrs n) (J v)=max v (mate v)∧pT (qrs n) (J v)=min v (mate v):=fun v hv=>by
      obtain ⟨a,b,c⟩:=h.mt v hv
      show (if v≤mate v then I v else I (mate v))<_∧pF (qrs n) (if v≤mate v then I v else I (mate v))=_∧pT (qrs n) (if v≤mate v then I v else I (mate v))=_
      by_cases hle:v≤mate v
      · rw [if_pos hle]; exact hI v hv
      · rw [if_neg hle]
        have:=hI (mate v) a
        rw [c] at this
        rw [Nat.max_comm v,Nat.min_comm v]
        exact this
    have hJs:∀v,v<n→J (mate v)=J v:=fun v hv=>by
      obtain ⟨a,b,c⟩:=h.mt v hv
      show (if mate v≤mate (mate v) then I (mate v) else I (mate (mate v)))=(if v≤mate v then I v else I (mate v))
      rw [c]
      by_cases hle:v≤mate v
      · rw [if_pos hle,if_neg (by omega)]
      · rw [if_neg hle,if_pos (by omega)]
    refine ⟨fun v=>(J v:Int),⟨fun v hv _=>?_,fun v _=>Int.natCast_nonneg _⟩,?_⟩
    · obtain ⟨a,b,c⟩:=h.mt v hv
      obtain ⟨j1,j2,j3⟩:=hJ v hv
      have ho:ot (ef (qE D (qrs n))) (et (qE D (qrs n))) (J v) v=mate v:=by
        unfold ot; rw [hef,het,j2,j3]; omega
      refine .inr ⟨J v,rfl,⟨j1,?_,?_⟩,by rw [ho]; omega,by rw [ho]; exact congrArg _ (hJs v hv)⟩
      · rw [hef,het,j2,j3]; omega
      · rw [hef,het,j2,j3]; omega
    · rw [←h.tot]
      refine psum_congr fun v hv=>?_
      obtain ⟨j1,j2,j3⟩:=hJ v hv
      show (qE D (qrs n) ((J v:Nat):Int).toNat).co=_
      rw [tN]
      show D (pT (qrs n) (J v)) (pF (qrs n) (J v))=_
      rw [j2,j3]
  · intro b hb
    rw [←h.sum]
    refine hb.dual hr h.wt fun i hi=>.inr ?_
    obtain ⟨a1,a2⟩:=hin i hi
    show prW Y z ln nd sn (pF (qrs n) i:Int) (pT (qrs n) i:Int)≤2*D (pT (qrs n) i) (pF (qrs n) i)
    rw [prW_symm]
    exact h.pr _ _ a2 a1
end
end Go.Mz
