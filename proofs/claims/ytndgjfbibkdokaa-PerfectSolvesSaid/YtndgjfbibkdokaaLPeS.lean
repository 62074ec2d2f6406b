/-
  PerfectSolves, walked: whatever the graph, it answers true and leaves what was there as it was.
-/
import Derived.Test.YtndgjfbibkdokaaPkA08
import Derived.Test.YtndgjfbibkdokaaPkA10
import Derived.Test.YtndgjfbibkdokaaGLFS
set_option linter.unusedVariables false
namespace Go.Mz
theorem SolR.dual {H H':Hp} {M n:Nat} {e:Nat→Edg} {mp:OA} {k mc:Nat} {g:Nat→Int} {yb:Nat} {Y:Nat→Int} {sp:OA} {ks sc:Nat} {z:Nat→Int} {S:Nat→Sl} {F:Nat→Nat→Int} (hM:M≤1024) (h:SolR H H' M n e mp k mc g yb Y sp ks sc z S F):DualR H' (some ⟨yb,0,none⟩) M sp ks Y z S F:=
  ⟨h.ry.rdr,h.rs.rdr,fun i hi=>⟨(h.re i hi).rdr,by
    have:=(h.chp.wt.sets i hi).2.2.len
    omega⟩⟩
theorem BlA.nop {M n k q:Nat} {e:Nat→Edg} {m set:Nat→Int} (h:BlA M n e m k set q) (hlt:2*k<M):NopP (M:Int) n e set q:=by
  have h1:=h.lrg.eq
  exact ⟨h.lrg.ris,by omega⟩
section
variable {E:VP}
theorem lpsolves {N:Int} {ep:OA} {n ec:Nat} {e:Nat→Edg} {H:Hp} {K:Bool→Hp→Prop} (he:Rdr H ep n e) (hn:n<2 ^ 62)
    (kk:∀H',Step (fun _=>False) H H'→K true H'):Q0.call N ep n ec E H K:=by
  refine Q0.of (Q0.run_eq ?_)
  unfold Q0.run_t
  refine nwk fun b1 H1 hb1 e1 s1=>?_
  refine lawake18 fun H2 s2=>?_
  have e12:=s2.keep _ _ e1 fun h=>h
  have s02:=s1.and s2
  refine bcb (fun h=>by cases h) fun _=>?_
  simp only [get_at e12,gZ,gS,ldI_mk,ldS_mk]
  refine pSolve (he.keep s02 fun _ _ _ h=>h) (by omega) (fun H3 s3 hz=>?_) (fun H3 sp sn sc cv mn g M s3 hM hr hA hlt rs fs=>?_) fun H3 mp k mc g yb Y sp ks sc z S F M s3 hM hr hS=>?_
  · have e13:=s3.keep _ _ e12 fun h=>h
    refine nwk fun b2 H4 hb2 e2 s4=>?_
    refine stk e2 rfl rfl fun H5 e25 s5=>?_
    have s35:Step (fun _=>False) H3 H5:=s4.own s5 fun y hy=>hy▸hb2
    have e15:=s35.keep _ _ e13 fun h=>h
    have s05:=(s02.and s3).and s35
    simp only [get_at e15,gZ,gS,ldI_mk,ldS_mk]
    refine rcheck (he.keep s05 fun _ _ _ h=>h) fun H6 a s6=>?_
    have e26:=s6.keep _ _ e25 fun h=>h
    refine bcn (fun _=>?_) fun h=>(hz h).elim
    refine bct (by trivial) ?_
    refine bct (by trivial) ?_
    simp only [get_at e26,gZ,gS,ldI_mk,ldS_mk]
    refine bct (by trivial) ?_
    refine bct (by trivial) ?_
    refine bct (by trivial) ?_
    exact kk H6 (s05.and s6)
  · subst hM
    have e13:=s3.keep _ _ e12 fun h=>h
    refine nwk fun b2 H4 hb2 e2 s4=>?_
    refine stk e2 rfl rfl fun H5 e25 s5=>?_
    have s35:Step (fun _=>False) H3 H5:=s4.own s5 fun y hy=>hy▸hb2
    have e15:=s35.keep _ _ e13 fun h=>h
    have s05:=(s02.and s3).and s35
    simp only [get_at e15,gZ,gS,ldI_mk,ldS_mk]
    refine rcheck (he.keep s05 fun _ _ _ h=>h) fun H6 a s6=>?_
    have e16:=s6.keep _ _ e15 fun h=>h
    have e26:=s6.keep _ _ e25 fun h=>h
    have s06:=s05.and s6
    refine bcn (fun h=>(h (chk_zero.2 hr)).elim) fun _=>?_
    refine bct (by trivial) ?_
    simp only [get_at e16,gZ,gS,ldI_mk,ldS_mk]
    have hsn:=hA.lrg.ris.len
    refine rnoperfect (he.keep s06 fun _ _ _ h=>h) ((rs.keep s35 fun _ _ h=>h).keep s6 fun _ _ h=>h).rdr (by have:=hr.N1; omega) fun H7 c s7 ho=>?_
    have hc:=ho.good hr (hA.nop hlt)
    subst hc
    have e27:=s7.keep _ _ e26 fun h=>h
    refine bct (by trivial) ?_
    refine bct (by trivial) ?_
    simp only [get_at e27,gZ,gS,ldI_mk,ldS_mk]
    refine bct (by trivial) ?_
    refine bct (by trivial) ?_
    exact kk H7 (s06.and s7)
  · subst hM
    have e13:=s3.keep _ _ e12 fun h=>h
    have hM1:=hr.N1
    refine nwk fun b2 H4 hb2 e2 s4=>?_
    refine stk e2 rfl rfl fun H5 e25 s5=>?_
    have s35:Step (fun _=>False) H3 H5:=s4.own s5 fun y hy=>hy▸hb2
    have e15:=s35.keep _ _ e13 fun h=>h
    have s05:=(s02.and s3).and s35
    simp only [get_at e15,gZ,gS,ldI_mk,ldS_mk]
    refine rcheck (he.keep s05 fun _ _ _ h=>h) fun H6 a s6=>?_
    have e16:=s6.keep _ _ e15 fun h=>h
    have e26:=s6.keep _ _ e25 fun h=>h
    have s06:=s05.and s6
    have s36:=s35.and s6
    refine bcn (fun h=>(h (chk_zero.2 hr)).elim) fun _=>?_
    refine bc (fun h=>by cases h) fun _=>?_
    simp only [get_at e16,get_at e26,gZ,gS,ldI_mk,ldS_mk]
    have hd:=(hS.dual (by omega)).keep s36
    have hks:=hS.chp.wt.slen
    refine rplain18 hd (by have hb:reachBytes=140737488351232:=rfl; omega) fun H7 sp' sc' s7 hd7=>?_
    have e17:=s7.keep _ _ e16 fun h=>h
    have s07:=s06.and s7
    simp only [get_at e17,gZ,gS,ldI_mk,ldS_mk]
    refine ⟨trivial,?_⟩
    have hkk:=hS.chp.all
    refine rcheapest (he.keep s07 fun _ _ _ h=>h) ((hS.rm.keep s36 fun _ _ h=>h).keep s7 fun _ _ h=>h).rdr (by omega) hd7 (by omega) (by omega) fun H8 c s8 ho=>?_
    have hc:=ho.good hr hS.chp
    subst hc
    refine bct (by trivial) ?_
    refine bct (by trivial) ?_
    refine bct (if_pos rfl) ?_
    exact kk H8 (s07.and s8)
end
end Go.Mz
