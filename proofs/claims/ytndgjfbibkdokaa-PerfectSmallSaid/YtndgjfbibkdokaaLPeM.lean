/-
  PerfectSmall, walked: whatever the graph, it answers true and leaves what was there as it was.
-/
import Derived.Test.YtndgjfbibkdokaaPkA09
import Derived.Test.YtndgjfbibkdokaaPkA10
import Derived.Test.YtndgjfbibkdokaaGLFM
set_option linter.unusedVariables false
namespace Go.Mz
section
variable {E:VP}
theorem lpsmall {N:Int} {ep:OA} {n ec:Nat} {e:Nat→Edg} {H:Hp} {K:Bool→Hp→Prop} (he:Rdr H ep n e) (hn:n<2 ^ 62)
    (kk:∀H',Step (fun _=>False) H H'→K true H'):Q0.call N ep n ec E H K:=by
  refine Q0.of (Q0.run_eq ?_)
  unfold Q0.run_t
  refine nwk fun b1 H1 hb1 e1 s1=>?_
  refine lawake18 fun H2 s2=>?_
  have e12:=s2.keep _ _ e1 fun h=>h
  have s02:=s1.and s2
  refine bcb (fun h=>by cases h) fun _=>?_
  simp only [get_at e12,gZ,gS,ldI_mk,ldS_mk]
  refine pSolveO (he.keep s02 fun _ _ _ h=>h) hn fun H3 mp mk mc yp yn yc sp sn sc tp tn tc c cd s3 hO=>?_
  have e13:=s3.keep _ _ e12 fun h=>h
  refine nwk fun b2 H4 hb2 e2 s4=>?_
  refine stk e2 rfl rfl fun H5 e25 s5=>?_
  have s35:Step (fun _=>False) H3 H5:=s4.own s5 fun y hy=>hy▸hb2
  have e15:=s35.keep _ _ e13 fun h=>h
  have s05:=(s02.and s3).and s35
  simp only [get_at e15,gZ,gS,ldI_mk,ldS_mk]
  refine rcheck (he.keep s05 fun _ _ _ h=>h) fun H6 a s6=>?_
  have e16:=s6.keep _ _ e15 fun h=>h
  have s06:=s05.and s6
  have j1:(chk N n e≠0→cd=chk N n e)→Q0.j1 cd (chk N n e) E H6 K:=fun h=>by
    refine Q0.j1_eq ?_
    unfold Q0.j1_t
    refine bc (fun _=>kk H6 s06) fun hz=>?_
    rw [decide_eq_true (h hz)]
    exact kk H6 s06
  refine bcn (fun hz=>j1 fun _=>?_) fun hz=>?_
  · rcases hO with ⟨h1,_⟩ | ⟨M,hM,hr,_⟩
    · exact h1
    · rw [hM] at hz; exact (hz (chk_zero.2 hr)).elim
  have hr:=chk_zero.1 hz
  have hN0:=hr.N0; have hN1:=hr.N1; have hn1:=hr.n1
  obtain ⟨M,rfl⟩:∃M:Nat,N=M:=⟨N.toNat,by omega⟩
  have j1':Q0.j1 cd (chk (M:Int) n e) E H6 K:=j1 fun h=>(h hz).elim
  simp only [get_at e16,gZ,gS,ldI_mk,ldS_mk]
  refine bc (fun _=>j1') fun h10=>?_
  try simp only [get_at e16,gZ,gS,ldI_mk,ldS_mk]
  refine bc (fun _=>j1') fun h24=>?_
  try simp only [get_at e16,gZ,gS,ldI_mk,ldS_mk]
  refine Row.mkB (by omega) (by omega) fun ub H7 hub ru s7=>?_
  rw [tN] at ru ⊢
  have s07:=s06.and s7
  have he7:=he.keep s07 fun _ _ _ h=>h
  have fin:∀(H':Hp) (bb:Nat) (any:Bool) (c2:Int),Step (fun _=>False) H H'→H' bb=some ⟨[.bool any,.int .i64 c2],45⟩→BstO M n e (fun _=>false) any c2→Q0.j2 c cd bb E H' K:=fun H' bb any c2 s eb hB=>by
    refine Q0.j2_eq ?_
    unfold Q0.j2_t
    simp only [get_at eb,gZ,gS,ldI_mk,ldB_mk]
    rcases hB.ful (fun _ _=>rfl) hr with ⟨rfl,hno⟩ | ⟨rfl,hL⟩
    · refine bcb (fun _=>?_) fun h=>by cases h
      rcases hO.right hr with ⟨h1,h2,_⟩ | ⟨h1,h2⟩
      · refine bct h1 ?_
        rw [decide_eq_true h2]
        exact kk H' s
      · obtain ⟨b,hb,_⟩:=h2.ex
        exact (hno b hb).elim
    · refine bcb (fun h=>by cases h) fun _=>?_
      rcases hO.right hr with ⟨h1,h2,h3⟩ | ⟨h1,h2⟩
      · obtain ⟨b,hb,_⟩:=hL.ex
        exact (h3 b hb).elim
      · refine bct h1 ?_
        try simp only [get_at eb,gZ,gS,ldI_mk,ldB_mk]
        rw [decide_eq_true (h2.uniq hL)]
        exact kk H' s
  constructor
  · refine nwk fun b4 H8 hb4 e4 s8=>?_
    refine rbest hr _ (us:=fun _=>false) rfl (he7.keep s8 fun _ _ _ h=>h) (ru.keep s8 fun _ _ h=>h).rdr fun H9 any c2 s9 hB=>?_
    have e49:=s9.keep _ _ e4 fun h=>h
    refine stk e49 rfl rfl fun H10 e10 s10=>?_
    exact fin H10 b4 any c2 (((s07.and s8).and s9).own s10 fun y hy=>hy▸s07.mono _ hb4) e10 hB
  · refine rbest hr _ (us:=fun _=>false) rfl he7 ru.rdr fun H9 any c2 s9 hB=>?_
    refine nwk fun b4 H10 hb4 e4 s10=>?_
    refine stk e4 rfl rfl fun H11 e11 s11=>?_
    exact fin H11 b4 any c2 (((s07.and s9).and s10).own s11 fun y hy=>hy▸(s07.and s9).mono _ hb4) e11 hB
end
end Go.Mz
