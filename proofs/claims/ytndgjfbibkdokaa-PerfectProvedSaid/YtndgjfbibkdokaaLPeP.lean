/-
  PerfectProved, walked: whatever the graph, it answers true and leaves what was there as it was.
-/
import Derived.Test.YtndgjfbibkdokaaPkA08
import Derived.Test.YtndgjfbibkdokaaPkA01
import Derived.Test.YtndgjfbibkdokaaGLFP
set_option linter.unusedVariables false
namespace Go.Mz
theorem SolR.dual' {H H':Hp} {M n:Nat} {e:Nat→Edg} {mp:OA} {k mc:Nat} {g:Nat→Int} {yb:Nat} {Y:Nat→Int} {sp:OA} {ks sc:Nat} {z:Nat→Int} {S:Nat→Sl} {F:Nat→Nat→Int} (hM:M≤1024) (h:SolR H H' M n e mp k mc g yb Y sp ks sc z S F):DualR H' (some ⟨yb,0,none⟩) M sp ks Y z S F:=
  ⟨h.ry.rdr,h.rs.rdr,fun i hi=>⟨(h.re i hi).rdr,by
    have:=(h.chp.wt.sets i hi).2.2.len
    omega⟩⟩
theorem BlA.same {M n k k' q q':Nat} {e:Nat→Edg} {m m' set set':Nat→Int} (h:BlA M n e m k set q) (h':BlA M n e m' k' set' q'):k=k':=by
  obtain ⟨b,hb,hc⟩:=h.ex
  obtain ⟨b',hb',hc'⟩:=h'.ex
  have h1:=h.mx b' hb'
  have h2:=h'.mx b hb
  omega
section
variable {E:VP}
theorem lpproved {N:Int} {ep:OA} {n ec:Nat} {e:Nat→Edg} {H:Hp} {K:Bool→Hp→Prop} (he:Rdr H ep n e) (hn:n<2 ^ 62)
    (kk:∀H',Step (fun _=>False) H H'→K true H'):Q0.call N ep n ec E H K:=by
  refine Q0.of (Q0.run_eq ?_)
  unfold Q0.run_t
  refine nwk fun b1 H1 hb1 e1 s1=>?_
  refine lawake18 fun H2 s2=>?_
  have e12:=s2.keep _ _ e1 fun h=>h
  have s02:=s1.and s2
  refine bcb (fun h=>by cases h) fun _=>?_
  simp only [get_at e12,gZ,gS,ldI_mk,ldS_mk]
  refine pSolve (he.keep s02 fun _ _ _ h=>h) (by omega) (fun H3 s3 hz=>?_) (fun H3 sp sn sc cv mn g M s3 hM hr hA hlt rs fs=>?_) fun H3 mp k mc g yb Y sp ks sc z S F M s3 hM hr hS=>?_
  · have e13:=s3.keep _ _ e12 fun h=>h
    refine nwk fun b2 H4 hb2 e2 s4=>?_
    refine stk e2 rfl rfl fun H5 e25 s5=>?_
    have s35:Step (fun _=>False) H3 H5:=s4.own s5 fun y hy=>hy▸hb2
    have e15:=s35.keep _ _ e13 fun h=>h
    have s05:=(s02.and s3).and s35
    simp only [get_at e15,gZ,gS,ldI_mk,ldS_mk]
    refine sBlo (he.keep s05 fun _ _ _ h=>h) (by omega) fun H6 mp' mn' mc' g' cp' cn' cc' cv' s6 r1 r2 f1 f2 f12 l1 l2 hF=>?_
    rcases hF with ⟨h0,rfl,rfl⟩ | ⟨h0,_⟩
    · refine bcn (fun _=>?_) fun h=>(h0 h).elim
      refine bct rfl ?_
      exact kk H6 (s05.and s6)
    · exact (hz h0).elim
  · subst hM
    have e13:=s3.keep _ _ e12 fun h=>h
    have hM1:=hr.N1
    refine nwk fun b2 H4 hb2 e2 s4=>?_
    refine stk e2 rfl rfl fun H5 e25 s5=>?_
    have s35:Step (fun _=>False) H3 H5:=s4.own s5 fun y hy=>hy▸hb2
    have e15:=s35.keep _ _ e13 fun h=>h
    have s05:=(s02.and s3).and s35
    simp only [get_at e15,gZ,gS,ldI_mk,ldS_mk]
    refine sBlo (he.keep s05 fun _ _ _ h=>h) (by omega) fun H6 mp' mn' mc' g' cp' cn' cc' cv' s6 r1 r2 f1 f2 f12 l1 l2 hF=>?_
    have e16:=s6.keep _ _ e15 fun h=>h
    have s06:=s05.and s6
    rcases hF with ⟨h0,_⟩ | ⟨h0,_,hA'⟩
    · exact (h0 (chk_zero.2 hr)).elim
    rw [tN] at hA'
    have hk:=hA.same hA'
    subst hk
    refine bcn (fun h=>(h h0).elim) fun _=>?_
    simp only [get_at e16,gZ,gS,ldI_mk,ldS_mk]
    rw [i64w (n:=2*(mn:Int)) (by omega) (by omega)]
    refine bct (by omega) ?_
    refine bct (by trivial) ?_
    try simp only [get_at e16,gZ,gS,ldI_mk,ldS_mk]
    have hsn:=hA.lrg.ris.len
    have heq:=hA.lrg.eq
    refine vNoPerfect (he.keep s06 fun _ _ _ h=>h) (by omega) ((rs.keep s35 fun _ _ h=>h).keep s6 fun _ _ h=>h).rdr (by omega) fun H7 c s7 ho=>?_
    have hc:=ho.good hr ⟨hA.lrg.ris,by omega⟩
    subst hc
    exact kk H7 (s06.and s7)
  · subst hM
    have e13:=s3.keep _ _ e12 fun h=>h
    have hM1:=hr.N1
    refine nwk fun b2 H4 hb2 e2 s4=>?_
    refine stk e2 rfl rfl fun H5 e25 s5=>?_
    have s35:Step (fun _=>False) H3 H5:=s4.own s5 fun y hy=>hy▸hb2
    have e15:=s35.keep _ _ e13 fun h=>h
    have s05:=(s02.and s3).and s35
    simp only [get_at e15,gZ,gS,ldI_mk,ldS_mk]
    refine sBlo (he.keep s05 fun _ _ _ h=>h) (by omega) fun H6 mp' mn' mc' g' cp' cn' cc' cv' s6 r1 r2 f1 f2 f12 l1 l2 hF=>?_
    have e16:=s6.keep _ _ e15 fun h=>h
    have e26:=s6.keep _ _ e25 fun h=>h
    have s06:=s05.and s6
    have s36:=s35.and s6
    rcases hF with ⟨h0,_⟩ | ⟨h0,_,hA'⟩
    · exact (h0 (chk_zero.2 hr)).elim
    rw [tN] at hA'
    have hkk:=hS.chp.all
    have hmn:mn'=k:=by
      obtain ⟨b,hb,_⟩:=hS.chp.tk.full hr hS.chp.all
      obtain ⟨b',_,hc'⟩:=hA'.ex
      have h1:¬2*mn'<M:=fun hh=>hA'.nofull hh b hb
      omega
    refine bcn (fun h=>(h h0).elim) fun _=>?_
    simp only [get_at e16,gZ,gS,ldI_mk,ldS_mk]
    rw [i64w (n:=2*(mn':Int)) (by omega) (by omega)]
    refine bc (fun h=>by omega) fun _=>?_
    simp only [get_at e16,get_at e26,gZ,gS,ldI_mk,ldS_mk]
    have hd:=(hS.dual' (by omega)).keep s36
    have hks:=hS.chp.wt.slen
    refine vCheapest (he.keep s06 fun _ _ _ h=>h) (by omega) (hS.rm.keep s36 fun _ _ h=>h).rdr (by omega) hd (by omega) (by omega) fun H8 c s8 ho=>?_
    have hc:=ho.good hr hS.chp
    subst hc
    refine bct (by trivial) ?_
    refine bct (by trivial) ?_
    refine bct (if_pos rfl) ?_
    rw [decide_eq_true (by rw [hmn])]
    exact kk H8 (s06.and s8)
end
end Go.Mz
