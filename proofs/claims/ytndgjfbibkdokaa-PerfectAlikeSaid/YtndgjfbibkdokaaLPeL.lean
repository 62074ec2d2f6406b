/-
  PerfectAlike, walked: whatever the table, it answers true and leaves what was there as it was.
-/
import Derived.Test.YtndgjfbibkdokaaPkA09
import Derived.Test.YtndgjfbibkdokaaMzZ
import Derived.Test.YtndgjfbibkdokaaGLFL
set_option linter.unusedVariables false
namespace Go.Mz
theorem chk_tab {n k:Nat} {e:Nat→Edg} (hn:n≤1024) (h:∀i,i<k→0≤(e i).fr∧(e i).fr<(n:Int)∧0≤(e i).to∧(e i).to<(n:Int)):chk (n:Int) k e=0∨chk (n:Int) k e=31∨chk (n:Int) k e=3:=by
  by_cases hk:k≤4096
  · rcases chk_range (n:Int) k e with h1 | h1 | h1 | h1
    · exact .inl h1
    · exact .inr (.inr h1)
    · exfalso
      unfold chk at h1
      rw [if_neg (by omega)] at h1
      have key:∀j,j≤k→chkE (n:Int) e j≠30:=by
        intro j
        induction j with
        | zero=>intro _ hh; cases hh
        | succ j ih=>
          intro hj hh
          unfold chkE at hh
          split at hh
          · have:=h j (by omega)
            unfold badE at hh
            rw [if_neg (by omega)] at hh
            split at hh<;>cases hh
          · exact ih (by omega) hh
      exact key k (Nat.le_refl _) h1
    · exact .inr (.inl h1)
  · unfold chk
    rw [if_pos (by omega)]
    exact .inr (.inr rfl)
section
variable {E:VP}
theorem lpalike {dp:OA} {dn dc:Nat} {dl:Nat→Sl} {row:Nat→Nat→Int} {H:Hp} {K:Bool→Hp→Prop} (hd:TabR H dp dn dl row) (hdn:dn<2 ^ 63)
    (kk:∀H',Step (fun _=>False) H H'→K true H'):Q0.call dp dn dc E H K:=by
  refine Q0.of (Q0.run_eq ?_)
  unfold Q0.run_t
  refine lawake18 fun H1 s1=>?_
  refine bcb (fun h=>by cases h) fun _=>?_
  refine pDense (hd.keep s1) hdn (fun H2 s2 hz=>?_) fun H2 mp mate total yb Y sp ks sc z S F s2 hz hR=>?_
  · refine nwk fun b1 H3 hb1 e1 s3=>?_
    refine stk e1 rfl rfl fun H4 e14 s4=>?_
    have s04:=(s1.and s2).and (s3.own s4 fun y hy=>hy▸hb1:Step (fun _=>False) H2 H4)
    refine bcn (fun _=>?_) fun h=>(hz h).elim
    refine bct (by trivial) ?_
    exact kk H4 s04
  · obtain ⟨hs,hg,_⟩:=tbl_ok hz
    have hn:=hs.1
    refine nwk fun b1 H3 hb1 e1 s3=>?_
    refine stk e1 rfl rfl fun H4 e14 s4=>?_
    have s24:Step (fun _=>False) H2 H4:=s3.own s4 fun y hy=>hy▸hb1
    have s04:=(s1.and s2).and s24
    refine bcn (fun h=>(h rfl).elim) fun _=>?_
    refine nwk fun b2 H5 hb2 e2 s5=>?_
    refine stk e2 rfl rfl fun H6 e26 s6=>?_
    have fb2:H b2=none:=s04.mono _ hb2
    have s06:Step (fun _=>False) H H6:=(s04.and s5).own s6 fun y hy=>hy▸fb2
    have len2:∀{i t:Nat},i≤dn→t≤i→(qrs i++qrj i t).length≤1049600:=fun {i t} hi ht=>by
      have h1:=qrs_len (k:=i)
      have h2:i*i≤1024*1024:=Nat.mul_le_mul (by omega) (by omega)
      have h3:(qrj i t).length=t:=by simp [qrj]
      rw [List.length_append]
      omega
    refine Q0.l1_rule (fun dip din dic to5 g7 t37 t38 H'=>dip=dp∧din=dn∧to5=total∧g7=b2∧t37=(dn:Int)∧∃(i:Nat) (gp:OA) (gc:Nat),t38=i∧i≤dn∧Step (·=b2) H6 H'∧H' b2=some ⟨[.int .i64 (dn:Int),.slice gp (qrs i).length gc],24⟩∧Row H' gp (qrs i).length gc (qE row (qrs i))∧∀y,fpS gp y→H6 y=none)
      (fun _ _ _ _ _ _ t38 _=>dn-t38.toNat) ?_ ⟨rfl,rfl,rfl,rfl,rfl,0,none,0,rfl,Nat.zero_le _,.refl,e26,Row.nil,fun y hy=>by rw [fpS_none] at hy; exact hy.elim⟩
    rintro dip din dic to5 g7 t37 t38 H7 ⟨hdip,hdin,rfl,rfl,rfl,i,gp,gc,rfl,hi,s7,e27,rg,fg⟩ X1 hX
    subst hdip
    subst hdin
    refine Q0.b1_eq ?_
    unfold Q0.b1_t
    refine bc (fun hl=>?_) fun hge=>?_
    · have hl:i<din:=by omega
      refine Q0.l2_rule (fun dip' din' dic to5' g7' i8 j9 t37 t38 H'=>dip'=dip∧din'=din∧to5'=to5∧g7'=g7∧i8=(i:Int)∧t37=(din:Int)∧t38=(i:Int)∧∃(t:Nat) (gp:OA) (gc:Nat),j9=t∧t≤i∧Step (·=g7) H6 H'∧H' g7=some ⟨[.int .i64 (din:Int),.slice gp (qrs i++qrj i t).length gc],24⟩∧Row H' gp (qrs i++qrj i t).length gc (qE row (qrs i++qrj i t))∧∀y,fpS gp y→H6 y=none)
        (fun _ _ _ _ _ _ j9 _ _ _=>i-j9.toNat) ?_ ⟨rfl,rfl,rfl,rfl,rfl,rfl,rfl,0,gp,gc,rfl,Nat.zero_le _,s7,by simpa [qrj] using e27,by simpa [qrj] using rg,fg⟩
      clear e27 rg fg
      rintro dip' din' dic to5' g7' i8 j9 t37 t38 H8 ⟨hdip',hdin',hto,hg7,rfl,rfl,rfl,t,gp,gc,rfl,ht,s8,e28,rg,fg⟩ X2 hX2
      subst hdip'
      subst hdin'
      subst hto
      subst hg7
      have hln:=len2 (i:=i) (t:=t) (by omega) ht
      have s08:Step (fun _=>False) H H8:=s06.own s8 fun y hy=>hy▸fb2
      refine Q0.b2_eq ?_
      unfold Q0.b2_t
      refine bc (fun hl2=>?_) fun hge2=>?_
      · have hl2:t<i:=by omega
        have hd8:=hd.keep s08
        have hrow:=(hd8.r t (by omega)).1
        rw [hs.2 t (by omega)] at hrow
        simp only [get_at e28,gZ,gS,ldI_mk,ldS_mk]
        refine hd8.d.ixS (by omega) (by omega) ?_
        rw [tN,hs.2 t (by omega)]
        refine hrow.ixI (by omega) (by omega) ?_
        rw [tN]
        have n2:¬fpS gp g7':=fun h=>by have:=fg _ h; rw [e26] at this; cases this
        refine Row.appW (α:=Edg) rg (((i:Int),(t:Int),0,row t i):Edg) rfl (by omega) (by omega) fun p6 c6 H10 r6 s10 f6=>?_
        have e210:=s10.keep _ _ e28 n2
        have m2:¬fpS p6 g7':=fun h=>(f6 _ h).elim n2 fun h'=>by rw [e28] at h'; cases h'
        have fp6:∀y,fpS p6 y→H6 y=none:=fun y hy=>(f6 y hy).elim (fg y) fun h=>s8.mono y h
        refine stp e210 (by simp) rfl fun H11 e11 s11=>?_
        have hr6:Row H10 p6 ((qrs i++qrj i t).length+1) c6 (qE row (qrs i++qrj i (t+1))):=by
          rw [qrj_succ,←List.append_assoc,←qE_app]; exact r6
        have hlen':(qrs i++qrj i (t+1)).length=(qrs i++qrj i t).length+1:=by rw [qrj_succ,←List.append_assoc]; exact List.length_append
        replace e11:H11 g7'=some ⟨[.int .i64 (din':Int),.slice p6 (qrs i++qrj i (t+1)).length c6],24⟩:=by rw [hlen']; exact e11
        rw [i64w (by omega) (by omega)]
        exact hX2 _ _ _ _ _ _ _ _ _ _ ⟨rfl,rfl,rfl,rfl,rfl,rfl,rfl,t+1,p6,c6,by omega,by omega,(s8.trans s10 fun y hy=>.inr (fg y hy)).trans s11 fun y hy=>.inl hy,e11,by rw [hlen']; exact hr6.keep s11 fun y hy h=>m2 (h▸hy),fp6⟩ (by omega)
      · have:t=i:=by omega
        subst this
        refine Q0.j1_eq ?_
        unfold Q0.j1_t
        rw [i64w (by omega) (by omega)]
        exact hX _ _ _ _ _ _ _ _ ⟨rfl,rfl,rfl,rfl,rfl,t+1,gp,gc,by omega,by omega,s8,e28,rg,fg⟩ (by omega)
    · have:i=din:=by omega
      subst this
      have s07:Step (fun _=>False) H H7:=s06.own s7 fun y hy=>hy▸fb2
      have hln:=len2 (i:=i) (t:=0) (by omega) (Nat.zero_le _)
      have hl2:(qrs i).length≤1049600:=by rw [List.length_append] at hln; omega
      refine Q0.j2_eq ?_
      unfold Q0.j2_t
      simp only [get_at e27,gZ,gS,ldI_mk,ldS_mk]
      refine pSolveO rg.rdr (by omega) fun H8 _ _ _ _ _ _ _ _ _ _ _ _ c cd s8 hO=>?_
      refine nwk fun b6 H9 hb6 e6 s9=>?_
      refine stk e6 rfl rfl fun H10 e610 s10=>?_
      have s010:=(s07.and s8).and (s9.own s10 fun y hy=>hy▸hb6:Step (fun _=>False) H8 H10)
      refine bc (fun _=>kk H10 s010) fun h31=>?_
      refine bc (fun _=>kk H10 s010) fun h3=>?_
      have hr:Right (i:Int) (qrs i).length (qE row (qrs i)):=by
        rcases chk_tab (e:=qE row (qrs i)) (k:=(qrs i).length) hn (fun x hx=>by
          obtain ⟨a1,a2⟩:=qrs_mem.1 (pr_in hx)
          show 0≤(pF (qrs i) x:Int)∧(pF (qrs i) x:Int)<(i:Int)∧0≤(pT (qrs i) x:Int)∧(pT (qrs i) x:Int)<(i:Int)
          omega) with h | h | h
        · exact chk_zero.1 h
        · rcases hO with ⟨q1,_⟩ | ⟨M',hM',q,_⟩
          · exact (h31 (q1.trans h)).elim
          · rw [hM']; exact q
        · rcases hO with ⟨q1,_⟩ | ⟨M',hM',q,_⟩
          · exact (h3 (q1.trans h)).elim
          · rw [hM']; exact q
      have hL:=hR.den.lst hr
      rcases hO.right hr with ⟨_,_,h⟩ | ⟨h1,h2⟩
      · obtain ⟨b,hb,_⟩:=hL.ex
        exact (h b hb).elim
      · refine bct h1 ?_
        rw [decide_eq_true (h2.uniq hL)]
        exact kk H10 s010
end
end Go.Mz
