/-
  PerfectBeats, walked: whatever the graph and the other matching, it answers true and leaves what was there as it was.
-/
import Derived.Test.YtndgjfbibkdokaaPkA08
import Derived.Test.YtndgjfbibkdokaaPkA09
import Derived.Test.YtndgjfbibkdokaaGLFB
set_option linter.unusedVariables false
namespace Go.Mz
section
variable {E:VP}
theorem lpbeats {N:Int} {ep:OA} {n ec:Nat} {e:Nat→Edg} {op:OA} {o oc:Nat} {om:Nat→Int} {H:Hp} {K:Bool→Hp→Prop} (he:Rdr H ep n e) (hn:n<2 ^ 62) (ho:Rdr H op o om) (hol:o<2 ^ 63)
    (kk:∀H',Step (fun _=>False) H H'→K true H'):Q0.call N ep n ec op o oc E H K:=by
  refine Q0.of (Q0.run_eq ?_)
  unfold Q0.run_t
  refine nwk fun b1 H1 hb1 e1 s1=>?_
  refine lawake18 fun H2 s2=>?_
  have e12:=s2.keep _ _ e1 fun h=>h
  have s02:=s1.and s2
  refine bcb (fun h=>by cases h) fun _=>?_
  simp only [get_at e12,gZ,gS,ldI_mk,ldS_mk]
  have rest:∀(H3:Hp) (mp:OA) (mk mc:Nat) (yp:OA) (yn yc:Nat) (sp:OA) (sn sc:Nat) (c cd:Int),Step (fun _=>False) H2 H3→(cd=0∨c=0)→(∀M:Nat,N=M→Right (M:Int) n e→Tkn (M:Int) n e om o (fun _=>1)→2*(o:Int)=M→cd=0∧c≤cst e om o)→
      nw H3 ⟨[.slice none 0 0,.slice none 0 0],30⟩ fun b_2 H_4=>stC H_4 b_2 0 [.slice yp yn yc,.slice sp sn sc] fun H_5=>ldI .i64 (H_5.get b1 0) fun x_3=>ldS (H_5.get b1 1) fun x_4p x_4n x_4c=>Q8.call x_3 x_4p x_4n x_4c op o oc E H_5 fun r_7 H_6=>
        bcase (decide ((r_7:Int)=0)) (ldI .i64 (H_6.get b1 0) fun x_5=>bcase ((!(decide (((IntKind.wrap .i64 (2*(o:Int))):Int)=x_5)))) (Q0.j1 c cd E H_6 K) (bcase (decide ((cd:Int)=0)) (ldI .i64 (H_6.get b1 0) fun x_6=>ldS (H_6.get b1 1) fun x_7p x_7n x_7c=>Q9.call x_6 x_7p x_7n x_7c op o oc E H_6 fun r_8 H_7=>K (decide ((c:Int)≤r_8)) H_7) (K false H_6))) (Q0.j1 c cd E H_6 K):=by
    intro H3 mp mk mc yp yn yc sp sn sc c cd s3 hcc hgood
    have j1:∀H',Step (fun _=>False) H H'→Q0.j1 c cd E H' K:=fun H' s=>by
      refine Q0.j1_eq ?_
      unfold Q0.j1_t
      refine bc (fun _=>kk H' s) fun h=>?_
      rw [decide_eq_true (hcc.resolve_left h)]
      exact kk H' s
    have e13:=s3.keep _ _ e12 fun h=>h
    refine nwk fun b2 H4 hb2 e2 s4=>?_
    refine stk e2 rfl rfl fun H5 e25 s5=>?_
    have s35:Step (fun _=>False) H3 H5:=s4.own s5 fun y hy=>hy▸hb2
    have e15:=s35.keep _ _ e13 fun h=>h
    have s05:=(s02.and s3).and s35
    simp only [get_at e15,gZ,gS,ldI_mk,ldS_mk]
    refine rmatching (he.keep s05 fun _ _ _ h=>h) (ho.keep s05 fun _ _ _ h=>h) hol fun H6 c1 s6 o1=>?_
    have s06:=s05.and s6
    have e16:=s6.keep _ _ e15 fun h=>h
    refine bc (fun h1=>?_) fun _=>j1 H6 s06
    obtain ⟨hr,ht⟩:=o1.ok h1
    have hN0:=hr.N0
    obtain ⟨M,rfl⟩:∃M:Nat,N=M:=⟨N.toNat,by omega⟩
    have hol2:=ht.ris.len
    have hn1:=hr.n1
    simp only [get_at e16,gZ,gS,ldI_mk,ldS_mk]
    refine bcn (fun _=>j1 H6 s06) fun h2=>?_
    rw [i64w (by omega) (by omega)] at h2
    obtain ⟨rfl,hle⟩:=hgood M rfl hr ht h2
    refine bct rfl ?_
    try simp only [get_at e16,gZ,gS,ldI_mk,ldS_mk]
    refine rcost (he.keep s06 fun _ _ _ h=>h) hr (ho.keep s06 fun _ _ _ h=>h) ht.ris fun H7 s7=>?_
    rw [decide_eq_true hle]
    exact kk _ (s06.and s7)
  refine pSolve (he.keep s02 fun _ _ _ h=>h) (by omega) (fun H3 s3 hz=>rest H3 none 0 0 _ _ _ _ _ _ _ _ s3 (.inr rfl) fun M hM hr _ _=>?_) (fun H3 sp sn sc cv mn g M s3 hM hr hA hlt rs fs=>rest H3 none 0 0 _ _ _ _ _ _ _ _ s3 (.inr rfl) fun M' hM' hr' ht h2=>?_) fun H3 mp k mc g yb Y sp ks sc z S F M s3 hM hr hS=>rest H3 mp k mc _ _ _ _ _ _ _ _ s3 (.inl rfl) fun M' hM' hr' ht h2=>⟨rfl,?_⟩
  · rw [hM] at hz
    exact (hz (chk_zero.2 hr)).elim
  · have:M'=M:=by omega
    subst this
    obtain ⟨b,hb,_⟩:=ht.full hr' h2
    exact (hA.nofull hlt b hb).elim
  · have:M'=M:=by omega
    subst this
    obtain ⟨b,hb,eb⟩:=ht.full hr' h2
    have:=(hS.chp.lst hr').lo b hb
    omega
end
end Go.Mz
