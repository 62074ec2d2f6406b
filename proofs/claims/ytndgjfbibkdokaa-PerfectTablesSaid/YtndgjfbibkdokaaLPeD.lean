/-
  PerfectTables, walked: whatever the table, it answers true and leaves what was there as it was.
-/
import Derived.Test.YtndgjfbibkdokaaPkA08
import Derived.Test.YtndgjfbibkdokaaPkA10
import Derived.Test.YtndgjfbibkdokaaGLFA
set_option linter.unusedVariables false
namespace Go.Mz
theorem DenP.bnd {n:Nat} {D:Nat→Nat→Int} {mate:Nat→Nat} {total:Int} {Y:Nat→Int} {z:Nat→Int} {ln:Nat→Nat} {nd:Nat→Nat→Int} {sn:Nat} (hn:n≤1024) (hg:Rng n D) (h:DenP n D mate total Y z ln nd sn):-1099511627776≤total∧total≤1099511627776:=by
  have h1:=psum_bound (f:=fun v=>D (min v (mate v)) (max v (mate v))) (a:=-2147483648) (b:=2147483648) (i:=n) fun v hv=>by
    obtain ⟨a,b,_⟩:=h.mt v hv
    exact hg _ _ (by omega) (by omega)
  have h2:=h.tot
  omega
section
variable {E:VP}
theorem lptables {dp:OA} {dn dc:Nat} {dl:Nat→Sl} {row:Nat→Nat→Int} {H:Hp} {K:Bool→Hp→Prop} (hd:TabR H dp dn dl row) (hdn:dn<2 ^ 63)
    (kk:∀H',Step (fun _=>False) H H'→K true H'):Q0.call dp dn dc E H K:=by
  refine Q0.of (Q0.run_eq ?_)
  unfold Q0.run_t
  refine lawake18 fun H1 s1=>?_
  refine bcb (fun h=>by cases h) fun _=>?_
  refine pDense (hd.keep s1) hdn (fun H2 s2 hz=>?_) fun H2 mp mate total yb Y sp ks sc z S F s2 hz hR=>?_
  · refine nwk fun b1 H3 hb1 e1 s3=>?_
    refine stk e1 rfl rfl fun H4 e14 s4=>?_
    have s04:=(s1.and s2).and (s3.own s4 fun y hy=>hy▸hb1:Step (fun _=>False) H2 H4)
    refine rtable (hd.keep s04) hdn ?_
    refine bcn (fun _=>?_) fun h=>(hz h).elim
    refine bct rfl ?_
    refine bct rfl ?_
    simp only [get_at e14,gZ,gS,ldI_mk,ldS_mk]
    refine bct (by trivial) ?_
    refine bct (by trivial) ?_
    exact kk H4 s04
  · obtain ⟨hs,hg,_⟩:=tbl_ok hz
    have hn:=hs.1
    refine nwk fun b1 H3 hb1 e1 s3=>?_
    refine stk e1 rfl rfl fun H4 e14 s4=>?_
    have s24:Step (fun _=>False) H2 H4:=s3.own s4 fun y hy=>hy▸hb1
    have s04:=(s1.and s2).and s24
    have hd4:=hd.keep s04
    have hR4:=hR.keep s24
    refine rtable hd4 hdn ?_
    refine bcn (fun h=>(h hz).elim) fun _=>?_
    refine rmates hd4 hs hg hR.den.mt hR4.mr ?_
    refine bct (by trivial) ?_
    refine bcb (fun _=>?_) fun h=>by cases h
    refine bct (by have h1:=mco_twice (D:=row) hR.den.mt; have h2:=hR.den.tot; rw [h1] at h2; omega) ?_
    simp only [get_at e14,gZ,gS,ldI_mk,ldS_mk]
    have hks:=hR.den.wt.slen
    refine rplain18 hR4.du (by have hb:reachBytes=140737488351232:=rfl; omega) fun H7 sp' sc' s7 hd7=>?_
    have hb:=hR.den.bnd hn hg
    refine rdense18 (hd4.keep s7) hs hg hd7 hR.den.wt hR.den.sum (by omega) hR.den.pr fun H8 s8=>?_
    exact kk H8 ((s04.and s7).and s8)
end
end Go.Mz
