/-
  The shape of an operation is sound: all operations in one. It proves nothing of the program by itself.
-/
import Derived.Test.YtndgjfbibkdokaaMzG
set_option linter.unusedSimpArgs false
set_option linter.unusedVariables false
namespace Go.Mz
open Go.RowKit
section
variable {P:Program} {T:Tab} {K E:VP} {w:World}
theorem eqv {ρ ρ':Operand→Value} (hρ:∀x,ρ x=undef∨ρ x=ρ' x) {x:Operand} {v:Value} (h:ρ x=v) (hv:v≠undef):ρ' x=v:=by
  rcases hρ x with h1 | h1
  · exact absurd (h.symm.trans h1) hv
  · rw [←h1,h]
theorem eqmap {ρ ρ':Operand→Value} (hρ:∀x,ρ x=undef∨ρ x=ρ' x) {l:List Operand} (h:∀v∈l.map ρ,v≠undef):l.map ρ'=l.map ρ:=by
  apply List.map_congr_left
  intro x hx
  exact eqv hρ rfl (h _ (List.mem_map.2 ⟨x,hx,rfl⟩))
theorem fitAll_spec {H:Hp} {s:Shp}:∀{ts:List TypeId} {vs:List Value},(fitAll T ts vs s).run P T K E H→(∀v∈vs,v≠undef)∧s.run P T K E H
  | [],[],h=>⟨by simp,h⟩
  | [],_ :: _,h=>h.elim
  | _ :: _,[],h=>h.elim
  | t :: ts,v :: vs,h=>by
    have key:∃agg ks,(Shp.fit agg ks v (fitAll T ts vs s)).run P T K E H:=by
      unfold fitAll at h
      split at h
      · exact ⟨_,_,h⟩
      · exact ⟨_,_,h⟩
    obtain ⟨_,_,h⟩:=key
    obtain ⟨hu,h,_,_⟩:=fitN h
    obtain ⟨hus,h⟩:=fitAll_spec h
    exact ⟨fun x hx=>by cases hx with
      | head=>exact hu
      | tail _ hx=>exact hus x hx,h⟩
theorem run_callFunc (hT:TabOk P T) {f:Nat} (hf:T.fok f=true) (args:Array Value):(callFunc f args).run P w=.ok (.enter f args) w:=by
  obtain ⟨fn,hfn,hb,hn⟩:=hT.fn f hf
  have hn' : ¬ (fn.name == "runtime.NumGoroutine") = true := by simp [hn]
  simp only [callFunc,Sem.run_bind,run_program,Result.andThen_ok,hfn,hn',hb,Bool.false_eq_true,if_false,Sem.run_pure]
theorem cap_spec {H:Hp} {v:Value}:∀{l:List Value},(l.foldr (fun v s=>Shp.fit false [.ptr] v s) (.val v)).run P T K E H→(∀x∈l,x≠undef)∧K v H
  | [],h=>⟨by simp,h⟩
  | x :: l,h=>by
    obtain ⟨hu,h,_,_⟩:=fitN (show (Shp.fit false [.ptr] x _).run P T K E H from h)
    obtain ⟨hus,h⟩:=cap_spec h
    exact ⟨fun y hy=>by cases hy with
      | head=>exact hu
      | tail _ hy=>exact hus y hy,h⟩
theorem andThen_val {r:Result Value}:(r.andThen fun v w'=>(Result.ok (Next.value v) w':Result Next))=r.andThen fun v w'=>.ok (.value v) w':=rfl
theorem run_vv (s:Sem Value):((do pure (Next.value (←s))):Sem Next).run P w=(s.run P w).andThen fun v w'=>.ok (.value v) w':=by
  simp [Sem.run_bind]
theorem run_uu (s:Sem Unit):((do s; pure Next.skip):Sem Next).run P w=(s.run P w).andThen fun _ w'=>.ok .skip w':=by
  simp [Sem.run_bind]
theorem parts_eq {ρ ρ':Operand→Value} (hρ:∀x,ρ x=undef∨ρ x=ρ' x) {ps:List (Nat × Operand)} (h:∀p∈ps.map (fun p=>(p.1,ρ p.2)),p.2≠undef) :
    ps.map (fun p=>(p.1,ρ' p.2))=ps.map (fun p=>(p.1,ρ p.2)):=by
  apply List.map_congr_left
  intro p hp
  rw [eqv hρ rfl (h _ (List.mem_map.2 ⟨p,hp,rfl⟩))]
theorem omap_eq {ρ ρ':Operand→Value} (hρ:∀x,ρ x=undef∨ρ x=ρ' x) {o:Option Operand} (h:∀v,o.map ρ=some v→v≠undef):o.map ρ'=o.map ρ:=by
  cases o with
  | none=>rfl
  | some x=>simp only [Option.map_some] at *; rw [eqv hρ rfl (h _ rfl)]
theorem bnd_def {x:Option Value} {y d:Nat} {G:Nat→Shp} {H:Hp} (h:(bnd x y d G).run P T K E H):∀v,x=some v→v≠undef:=by
  intro v hv
  subst hv
  unfold bnd at h
  split at h
  · rename_i e; cases e
  · rename_i k i e; cases e; simp [undef]
  · exact h.elim
theorem shpSlice_def {t:TypeId} {x:Value} {lo hi mx:Option Value} {H:Hp} (h:(shpSlice T t x lo hi mx).run P T K E H) :
    x≠undef∧(∀v,lo=some v→v≠undef)∧(∀v,hi=some v→v≠undef)∧mx=none:=by
  unfold shpSlice at h
  split at h
  · split at h
    · exact h.elim
    · have h1:=bnd_def h
      obtain ⟨m,_,h2⟩:=bnd_spec h
      exact ⟨by simp [undef],bnd_def h2,h1,rfl⟩
  · exact h.elim
theorem shpBin_def {op:BinOp} {t:TypeId} {x y:Value} {H:Hp} (h:(shpBin T op t x y).run P T K E H):x≠undef∧y≠undef:=by
  unfold shpBin at h
  split at h<;>first | exact h.elim | exact ⟨by simp [undef],by simp [undef]⟩
theorem shpUn_def {op:UnOp} {x:Value} {H:Hp} (h:(shpUn op x).run P T K E H):x≠undef:=by
  unfold shpUn at h
  split at h<;>first | exact h.elim | simp [undef]
theorem shpIA_def {t:TypeId} {x y:Value} {H:Hp} (h:(shpIndexAddr T t x y).run P T K E H):x≠undef∧y≠undef:=by
  unfold shpIndexAddr at h
  split at h<;>first | exact h.elim | exact ⟨by simp [undef],by simp [undef]⟩
theorem shpIx_def {t:TypeId} {x y:Value} {H:Hp} (h:(shpIndex T t x y).run P T K E H):x≠undef∧y≠undef:=by
  unfold shpIndex at h
  split at h<;>first | exact h.elim | exact ⟨by simp [undef],by simp [undef]⟩
theorem shpFA_def {t:TypeId} {x:Value} {f:Nat} {H:Hp} (h:(shpFieldAddr T t x f).run P T K E H):x≠undef:=by
  unfold shpFieldAddr at h
  split at h<;>first | exact h.elim | simp [undef]
theorem shpF_def {t:TypeId} {x:Value} {f:Nat} {H:Hp} (h:(shpField T t x f).run P T K E H):x≠undef:=by
  unfold shpField at h
  split at h<;>first | exact h.elim | simp [undef]
theorem shpMS_def {t:TypeId} {x y:Value} {H:Hp} (h:(shpMakeSlice T t x y).run P T K E H):x≠undef∧y≠undef:=by
  unfold shpMakeSlice at h
  split at h<;>first | exact h.elim | exact ⟨by simp [undef],by simp [undef]⟩
theorem sat_un {op:UnOp} {x:Value} (h:(shpUn op x).run P T K E (hp w)):SatN P K E w (((Op.unary op x).run P w).andThen fun v w'=>.ok (.value v) w'):=by
  unfold shpUn at h
  split at h
  · exact satV (by rfl) h
  · exact satV (by rfl) h
  · exact h.elim
theorem builtin_def {b:Builtin} {ats:List TypeId} {args:List Value} {H:Hp} (h:(shpBuiltin T b ats args).run P T K E H):∀v∈args,v≠undef:=by
  unfold shpBuiltin at h
  split at h<;>first | exact h.elim | (intro v hv; simp only [List.mem_cons,List.not_mem_nil,or_false] at hv; rcases hv with rfl | rfl<;>simp [undef]; done) | (intro v hv; simp only [List.mem_cons,List.not_mem_nil,or_false] at hv; subst hv; simp [undef])
theorem sat_builtin (hT:TabOk P T) {b:Builtin} {ty:TypeId} {ats:List TypeId} {args:List Value} {cs:Array Bool} (h:(shpBuiltin T b ats args).run P T K E (hp w)) :
    SatN P K E w ((builtin b ⟨ats⟩ ty cs ⟨args⟩).run P w):=by
  unfold shpBuiltin at h
  split at h
  · rename_i t p n c
    split at h
    · rename_i e hd
      have ht:=hT.of_d (t:=t) (by rw [hd]; simp)
      obtain ⟨d,hu,hde,_⟩:=ht.run_und
      rw [hd] at hde
      have:=dOf_sl hde; subst this
      simp only [builtin,run_vv]
      refine satV ?_ h
      simp [Builtin.len_,hu,goInt]
    · exact h.elim
  · rename_i k x k' y
    simp only [builtin,run_vv]
    refine satV ?_ h
    simp [Builtin.min_,Builtin.min2,List.foldlM]
  · rename_i k x k' y
    simp only [builtin,run_vv]
    refine satV ?_ h
    simp [Builtin.max_,Builtin.max2,List.foldlM]
  · rename_i t t2 p n c p2 m c2
    split at h
    · rename_i e e2 hd hd2
      simp only at h
      split at h
      · rename_i hk hb
        simp only [builtin,run_vv]
        exact sat_append hT rfl hd hd2 (by rw [hk]; simp) (by rw [hb]; simp) h
      · exact h.elim
    · exact h.elim
  · rename_i t t2 p n c p2 m c2
    split at h
    · rename_i e hd
      simp only at h
      split at h
      · rename_i hk
        simp only [builtin,run_vv]
        exact sat_cpy hT hd (by rw [hk]; simp) h
      · exact h.elim
    · exact h.elim
  · rename_i t p n c
    split at h
    · rename_i e hd
      simp only at h
      split at h
      · rename_i hk
        simp only [builtin,run_vv]
        exact sat_clr hT hd (by rw [hk]; simp) h
      · exact h.elim
    · exact h.elim
  · exact h.elim
end
end Go.Mz
