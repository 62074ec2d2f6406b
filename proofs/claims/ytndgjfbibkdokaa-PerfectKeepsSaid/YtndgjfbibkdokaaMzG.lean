/-
  The shape of an operation is sound: all operations. It proves nothing of the program by itself.
-/
import Derived.Test.YtndgjfbibkdokaaMzF
set_option linter.unusedSimpArgs false
set_option linter.unusedVariables false
namespace Go.Mz
open Go.RowKit
section
variable {P:Program} {T:Tab} {K E:VP} {w:World}
theorem sat_binInt {op:BinOp} {t:TypeId} {k:IntKind} {a b:Int} (hop:op≠.shl∧op≠.shr) (h:(binInt op k a b).run P T K E (hp w)) :
    SatN P K E w (((binOp op t (.int k a) (.int k b)).run P w).andThen fun v w'=>.ok (.value v) w'):=by
  cases op<;>simp only [binInt] at h<;>first
    | exact h.elim
    | exact absurd rfl hop.1
    | exact absurd rfl hop.2
    | (refine satV ?_ (show K _ (hp w) from h.2); simp [binOp,Op.intDiv,h.1]; done)
    | (refine satV ?_ (show K _ (hp w) from h); simp [binOp,Op.intArith,Op.intBits,Op.intCmp]; done)
    | (refine satV ?_ (show K _ (hp w) from h); simp [binOp,Op.intArith,Op.intBits,Op.intCmp,bne]; rfl)
theorem sat_shift {op:BinOp} {t:TypeId} {k k':IntKind} {a b:Int} (hop:op=.shl∨op=.shr) (h:(shiftInt op k a b).run P T K E (hp w)) :
    SatN P K E w (((binOp op t (.int k a) (.int k' b)).run P w).andThen fun v w'=>.ok (.value v) w'):=by
  rcases hop with rfl | rfl<;>simp only [shiftInt] at h<;>refine satV ?_ (show K _ (hp w) from h.2)<;>simp [binOp,Op.shift,show ¬b<0 from by have:=h.1; omega]
theorem fld_run (d:Nat):∀(fs:List Field) (k:Nat) (xs ys:List Value) (X Y:Array Value) (r:Bool),fldOk P k fs=true→eqCells xs ys=some r→xs.length=fs.length→
    (∀j,xs[j]?=X[k+j]?)→(∀j,ys[j]?=Y[k+j]?)→(Op.eqFields (d+1) X Y fs).run P w=.ok r w
  | [],k,xs,ys,X,Y,r,_,he,hl,_,_=>by
    cases xs with
    | nil=>cases ys with
      | nil=>simp [eqCells] at he; subst he; simp [Op.eqFields]
      | cons _ _=>simp [eqCells] at he
    | cons _ _=>simp at hl
  | f :: fs,k,xs,ys,X,Y,r,hf,he,hl,hx,hy=>by
    unfold fldOk at hf
    simp only [Bool.and_eq_true] at hf
    obtain ⟨⟨⟨hn,ho⟩,hu⟩,hf⟩:=hf
    cases xs with
    | nil=>simp at hl
    | cons x xs=>
      cases ys with
      | nil=>simp [eqCells] at he
      | cons y ys=>
        cases x<;>cases y<;>simp only [eqCells] at he<;>first | (cases he; done) | skip
        rename_i k1 a k2 b
        split at he
        · rename_i r' hk hr'
          simp at he
          have ekk:=kEq_eq hk
          subst ekk
          have ho':f.offset=k:=by simpa using ho
          have hx0:X[k]?=some (.int k1 a):=by have:=hx 0; simpa using this.symm
          have hy0:Y[k]?=some (.int k1 b):=by have:=hy 0; simpa using this.symm
          split at hu
          · rename_i ki hui
            have hpa:∀(Z:Array Value) v,Z[f.offset]?=some v→(part f.type Z f.offset).run P w=.ok v w:=by
              intro Z v hz; simp [part,isAgg,underlying,hui,hz]
            have ih:=fld_run d fs (k+1) xs ys X Y r' hf hr' (by simpa using hl) (fun j=>by have:=hx (j+1); simpa [Nat.add_assoc,Nat.add_comm 1 j] using this)
              (fun j=>by have:=hy (j+1); simpa [Nat.add_assoc,Nat.add_comm 1 j] using this)
            have hn' : f.name ≠ "_" := by simpa using hn
            rw [Op.eqFields]
            simp only [if_pos hn',Sem.run_bind,hpa X _ (by rw [ho']; exact hx0),hpa Y _ (by rw [ho']; exact hy0),Result.andThen_ok,run_equalIn_int (P:=P) w d f.type k1 ki a b hui]
            by_cases hab:a=b
            · subst hab; simp [ih] at he ⊢; exact he
            · simp [hab] at he ⊢; exact he
          · cases hu
        · cases he
theorem sat_eqAgg (hT:TabOk P T) {op:BinOp} {t:TypeId} {xs ys:Array Value} {r:Bool} {ox oy:Operand} (heq:eqCells xs.toList ys.toList=some r) (ht:hasN T.eqs t=true)
    (hlen:xs.toList.length=(T.find t).kinds.length) (hty:TyOk P t (T.find t))
    (hop:op=.eql∨op=.neq) {v:Bool} (hv:v=(if op=.eql then r else !r)) (hk:K (.bool v) (hp w)) :
    SatN P K E w (((do eqGuard op t ox oy (.agg xs) (.agg ys); binOp op t (.agg xs) (.agg ys):Sem Value).run P w).andThen fun v w'=>.ok (.value v) w'):=by
  have h:=hT.eqt t ht
  unfold eqOk at h
  simp only [Bool.and_eq_true,Bool.not_eq_true'] at h
  obtain ⟨⟨h1,h2⟩,h3⟩:=h
  split at h1
  · rename_i fs i hfs hi
    have hfo:P.fieldsOf t=fs:=by simp [Program.fieldsOf,hfs]
    simp only [Bool.and_eq_true,beq_iff_eq] at h1
    obtain ⟨h1,hsz⟩:=h1
    obtain ⟨i',hi',hs',_⟩:=hty.info
    rw [hi] at hi'; cases hi'
    have hrun:=fld_run (P:=P) (w:=w) 9998 fs.toList 0 xs.toList ys.toList xs ys r h1 heq (by omega) (fun j=>by simp) (fun j=>by simp)
    have hst:=run_equalIn_struct (P:=P) w 9999 t xs ys (by rw [hfo]; exact hfs) h2
    rw [hfo,hrun] at hst
    have hg:=run_eqGuard_agg (P:=P) w op t ox oy xs ys h3
    refine satV (v:=.bool v) ?_ hk
    rcases hop with rfl | rfl
    · simp only [Sem.run_bind,hg,Result.andThen_ok]
      rw [run_eql_struct,hst]; simp [hv]
    · simp only [Sem.run_bind,hg,Result.andThen_ok]
      rw [run_neq_struct,hst]; simp [hv]
  · cases h1
theorem eq_ptr_nil (d:Nat) {t e:TypeId} (hu:P.underlying t=some (.pointer e)) (p:OA):(Op.equalIn (d+1) t (.pointer p) (.pointer none)).run P w=.ok p.isNone w:=by
  unfold Op.equalIn
  have hu':(underlying t).run P w=.ok (.pointer e) w:=by simp [underlying,hu]
  cases p<;>simp only [Sem.run_bind,hu',Result.andThen_ok]<;>rfl
theorem eq_bool (d:Nat) {t:TypeId} (hu:P.underlying t=some .bool) (a b:Bool):(Op.equalIn (d+1) t (.bool a) (.bool b)).run P w=.ok (a == b) w:=by
  unfold Op.equalIn
  have hu':(underlying t).run P w=.ok .bool w:=by simp [underlying,hu]
  simp only [Sem.run_bind,hu',Result.andThen_ok]; rfl
theorem run_bin_eql {t:TypeId} {x y:Value} (hx:(∃p,x=.pointer p∧y=.pointer none)∨∃a b,x=.bool a∧y=.bool b):(binOp .eql t x y).run P w=((Op.equalIn (9999+1) t x y).run P w).andThen fun b w'=>.ok (.bool b) w':=by
  rcases hx with ⟨p,rfl,rfl⟩ | ⟨a,b,rfl,rfl⟩
  · show ((Op.equal t _ _ >>= fun b=>pure (Value.bool b)):Sem Value).run P w=_
    rw [Sem.run_bind]; rfl
  · show ((Op.equal t _ _ >>= fun b=>pure (Value.bool b)):Sem Value).run P w=_
    rw [Sem.run_bind]; rfl
theorem run_bin_neq {t:TypeId} {x y:Value} (hx:(∃p,x=.pointer p∧y=.pointer none)∨∃a b,x=.bool a∧y=.bool b):(binOp .neq t x y).run P w=((Op.equalIn (9999+1) t x y).run P w).andThen fun b w'=>.ok (.bool (!b)) w':=by
  rcases hx with ⟨p,rfl,rfl⟩ | ⟨a,b,rfl,rfl⟩
  · show ((Op.equal t _ _ >>= fun b=>pure (Value.bool (!b))):Sem Value).run P w=_
    rw [Sem.run_bind]; rfl
  · show ((Op.equal t _ _ >>= fun b=>pure (Value.bool (!b))):Sem Value).run P w=_
    rw [Sem.run_bind]; rfl
theorem sat_bin (hT:TabOk P T) {op:BinOp} {t:TypeId} {x y:Value} {ox oy:Operand} (h:(shpBin T op t x y).run P T K E (hp w)) :
    SatN P K E w (((do eqGuard op t ox oy x y; binOp op t x y:Sem Value).run P w).andThen fun v w'=>.ok (.value v) w'):=by
  unfold shpBin at h
  split at h
  · rename_i k a k' b
    have hg:(eqGuard op t ox oy (.int k a) (.int k' b)).run P w=.ok () w:=by
      simp only [eqGuard]; split<;>simp
    simp only [Sem.run_bind,hg,Result.andThen_ok]
    split at h
    · exact sat_shift (.inl rfl) h
    · exact sat_shift (.inr rfl) h
    · rename_i h1 h2
      split at h
      · rename_i hk
        have:=kEq_eq hk; subst this
        exact sat_binInt ⟨fun e=>h1 e,fun e=>h2 e⟩ h
      · exact h.elim
  · rename_i p
    have hg:(eqGuard op t ox oy (.pointer p) (.pointer none)).run P w=.ok () w:=by
      simp only [eqGuard]; split<;>simp
    split at h
    · rename_i hd
      have ht:=hT.of_d (t:=t) (by rw [hd]; simp)
      obtain ⟨d,hu,hde,_⟩:=ht.und
      rw [hd] at hde
      obtain ⟨e,rfl⟩:=dOf_ptr hde
      have hq:=eq_ptr_nil (w:=w) 9999 hu p
      split at h
      · refine satV ?_ h; rw [Sem.run_bind,hg,Result.andThen_ok,run_bin_eql (.inl ⟨p,rfl,rfl⟩),hq]; rfl
      · refine satV ?_ h; rw [Sem.run_bind,hg,Result.andThen_ok,run_bin_neq (.inl ⟨p,rfl,rfl⟩),hq]; rfl
      · exact h.elim
    · exact h.elim
  · rename_i a b
    have hg:(eqGuard op t ox oy (.bool a) (.bool b)).run P w=.ok () w:=by
      simp only [eqGuard]; split<;>simp
    split at h
    · rename_i hd
      have ht:=hT.of_d (t:=t) (by rw [hd]; simp)
      obtain ⟨d,hu,hde,_⟩:=ht.und
      rw [hd] at hde
      have:=dOf_bool hde; subst this
      have hq:=eq_bool (w:=w) 9999 hu a b
      split at h
      · refine satV ?_ h; rw [Sem.run_bind,hg,Result.andThen_ok,run_bin_eql (.inr ⟨a,b,rfl,rfl⟩),hq]; rfl
      · refine satV ?_ h; rw [Sem.run_bind,hg,Result.andThen_ok,run_bin_neq (.inr ⟨a,b,rfl,rfl⟩),hq]; rfl
      · exact h.elim
    · exact h.elim
  · rename_i xs ys
    split at h
    · rename_i r offs hr ht hd
      have hty:=hT.of_d (t:=t) (by rw [hd]; simp)
      split at h
      · obtain ⟨_,h,hl,_⟩:=fitN h
        obtain ⟨_,h,_,_⟩:=fitN h
        exact sat_eqAgg hT hr ht hl hty (.inl rfl) rfl h
      · obtain ⟨_,h,hl,_⟩:=fitN h
        obtain ⟨_,h,_,_⟩:=fitN h
        exact sat_eqAgg hT hr ht hl hty (.inr rfl) rfl h
      · exact h.elim
    · exact h.elim
  · exact h.elim
end
end Go.Mz
