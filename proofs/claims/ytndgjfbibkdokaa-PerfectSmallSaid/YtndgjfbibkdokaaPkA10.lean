/-
  Joined: RefA.
-/
import Derived.Test.YtndgjfbibkdokaaPkA09
import Derived.Test.YtndgjfbibkdokaaGRea
set_option linter.unusedVariables false
/-
  The document's functions of layers 3, 11 and 12, walked: Check, Costs, Rising, At, Taken, Matching, Cost.
-/
namespace Go.Mz
section
variable {E:VP}
theorem rbad {N a b c d:Int} {H:Hp} {K:Int→Hp→Prop} (k:∀H',Step (fun _=>False) H H'→K (badE N (a,b,c,d)) H'):Q15.call N a b c d E H K:=by
  refine Q15.of (Q15.run_eq ?_)
  unfold Q15.run_t
  refine nwk fun b1 H1 hb1 e1 s1=>?_
  simp only [get_at e1,gZ,gS,ldI_mk]
  have k:=k H1 s1
  have b30:(a<0∨N≤a∨b<0∨N≤b)→K 30 H1:=fun h=>by
    have:badE N (a,b,c,d)=30:=by unfold badE; exact if_pos h
    rwa [this] at k
  have b31:¬(a<0∨N≤a∨b<0∨N≤b)→¬(0≤c∧c≤1048576∧-1048576≤d∧d≤1048576)→K 31 H1:=fun h h'=>by
    have:badE N (a,b,c,d)=31:=by unfold badE; rw [if_neg h]; exact if_neg h'
    rwa [this] at k
  refine bc (fun h=>b30 (.inl h)) fun h1=>?_
  refine bc (fun h=>b30 (.inr (.inr (.inl h)))) fun h2=>?_
  refine bc (fun h=>b30 (.inr (.inl h))) fun h3=>?_
  refine bc (fun h=>b30 (.inr (.inr (.inr h)))) fun h4=>?_
  refine bc (fun h=>b31 (by omega) (by omega)) fun h5=>?_
  refine bc (fun h=>b31 (by omega) (by omega)) fun h6=>?_
  refine bc (fun h=>b31 (by omega) (by omega)) fun h7=>?_
  refine bc (fun h=>b31 (by omega) (by omega)) fun h8=>?_
  have:badE N (a,b,c,d)=0:=by unfold badE; rw [if_neg (show ¬(a<0∨N≤a∨b<0∨N≤b) by omega)]; exact if_pos (show 0≤c∧c≤1048576∧-1048576≤d∧d≤1048576 by omega)
  rwa [this] at k
theorem rcheckA {N:Int} {p:OA} {n c:Nat} {e:Nat→Edg} {H:Hp} {K:Int→Int→Hp→Prop} (he:Rdr H p n e)
    (k:∀H' a,Step (fun _=>False) H H'→ChkAt N n e a→K (chk N n e) a H'):Q7.call N p n c E H K:=by
  refine Q7.of (Q7.run_eq ?_)
  unfold Q7.run_t
  refine nwk fun b1 H1 hb1 e1 s1=>?_
  simp only [get_at e1,gZ,gS,ldI_mk,ldS_mk]
  have bad:(N<0∨1024<N∨4096<n)→K 3 0 H1:=fun hs=>by
    have hc:3=chk N n e:=by unfold chk; rw [if_pos hs]
    rw [hc]; exact k _ _ s1 (ChkAt.none (.inl hs))
  refine bc (fun h=>bad (by omega)) fun h1=>?_
  refine bc (fun h=>bad (by omega)) fun h2=>?_
  refine bc (fun h=>bad (by omega)) fun h3=>?_
  have hsz:¬(N<0∨1024<N∨4096<n):=by omega
  have hc:chk N n e=chkE N e n:=by unfold chk; rw [if_neg (by omega)]
  refine Q7.l1_rule (fun g1 i4 H'=>b1=g1∧∃i:Nat,i4=i∧i≤n∧chkE N e i=0∧Step (fun _=>False) H H'∧H' b1=some ⟨[.int .i64 N,.slice p n c],24⟩)
    (fun g1 i4 H'=>n-i4.toNat) ?_ ⟨rfl,0,rfl,by omega,rfl,s1,e1⟩
  clear e1 s1 bad
  rintro g1 i4 H3 ⟨rfl,i,rfl,hi,hz,s3,e3⟩ X hX
  refine Q7.b1_eq ?_
  unfold Q7.b1_t
  simp only [get_at e3,gZ,gS,ldI_mk,ldS_mk]
  refine bc (fun hlt=>?_) fun hge=>?_
  · refine (he.keep s3 fun _ _ _ h=>h).edge (by omega) (by omega) ?_
    simp only [tN]
    refine rbad fun H4 s4=>?_
    have s04:=s3.and s4
    refine bcn (fun hb=>?_) fun hb=>?_
    · have h1:chkE N e (i+1)=badE N (e i):=by
        show (if chkE N e i=0 then badE N (e i) else chkE N e i)=_
        rw [if_pos hz]
      have:chk N n e=badE N (e i):=by
        rw [hc,show n=i+1+(n-(i+1)) by omega,chkE_stay (by rw [h1]; exact hb),h1]
      have k:=k H4 i s04 (ChkAt.here hsz (by omega) hz hb)
      rwa [this] at k
    · rw [i64w (by omega) (by omega)]
      refine hX _ _ _ ⟨rfl,i+1,by omega,by omega,?_,s04,s4.keep _ _ e3 fun h=>h⟩ (by omega)
      show (if chkE N e i=0 then badE N (e i) else chkE N e i)=0
      rw [if_pos hz]; exact hb
  · have:i=n:=by omega
    subst this
    have k:=k H3 0 s3 (ChkAt.none (.inr hz))
    rwa [hc,hz] at k
theorem rcheck {N:Int} {p:OA} {n c:Nat} {e:Nat→Edg} {H:Hp} {K:Int→Int→Hp→Prop} (he:Rdr H p n e)
    (k:∀H' a,Step (fun _=>False) H H'→K (chk N n e) a H'):Q7.call N p n c E H K:=rcheckA he fun H' a s _=>k H' a s
end
end Go.Mz
