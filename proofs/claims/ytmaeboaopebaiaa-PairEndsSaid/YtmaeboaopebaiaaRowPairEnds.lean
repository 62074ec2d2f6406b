/-
  The row of PairEnds: for every input the law answers true, and each argument reads afterwards as it read before.
  There is no condition but the row's own.
-/
import Derived.Test.YtmaeboaopebaiaaRows
import Derived.Test.YtmaeboaopebaiaaMzW
import Derived.Test.YtmaeboaopebaiaaLPaE
import Derived.Carry
set_option linter.unusedVariables false
set_option linter.unusedSimpArgs false
namespace Go.Proofs.Ytmaeboaopebaiaa.pairEnds
open Go.ChangeShapes Go.WideShapes Go.ChangeAt Go.RowKit Go.Mz
theorem own : ownKnob Try.prog.godebug = none := by kernel_rfl
theorem laidOut : laidOutB Try.prog = true := by kernel_rfl
set_option maxRecDepth 100000 in
theorem lifted (os : Os) (started : os.Started) (H : Type) (enc : TypeId × Value → H) :
    ReturnsInHanded {} Try.checked os 10 .any (Rows.pairEndsSpec.pre6 enc Try.prog Try.f10 Rows.pairEndsRow.domain false) (Rows.pairEndsSpec.post enc Try.prog Try.f10 false true false false) := by
  refine returnsInHanded_of_change_sized (C := Try.checked) own started (by kernel_rfl) Try.func10
    (ChangeSpec.witness6 (enc := enc) (C := Try.checked) false ⟨#[], #[.int .i64 0, .int .i64 0], []⟩ 8 (by kernel_rfl) (by kernel_rfl) (by kernel_rfl) (by kernel_rfl)) ?_
  intro W base args ds gs before hval0 hW hcnd hsz0 _
  have hval : ∀ (j : Nat) t v, Try.f10.params[j]? = some t → args[j]? = some v → Value.okWide Try.prog W .any base t v := hval0
  have hW' := hW
  obtain ⟨p, q, hA0, hV, rfl, hfz, hnd⟩ := hW
  have hA : DataW.TrodAll enc Try.prog W 0 (fun _ => true) true Try.f10.params.toList args.toList ds p := hA0
  rw [Try.params10] at hA hval
  obtain ⟨v0, vs0, d0, ds0, p0, x0, hargs, rfl, rfl, h0, r0⟩ := trodAll_cons hA
  obtain ⟨v1, vs1, d1, ds1, p1, x1, rfl, rfl, rfl, h1, r1⟩ := trodAll_cons r0
  obtain ⟨rfl, rfl, rfl⟩ := trodAll_nil r1
  obtain rfl : args = #[v0, v1] := by cases args; simp_all
  obtain ⟨rfl, rfl⟩ := trodVars_none hV
  have k0 := h0
  have lt0 : ∀ x ∈ p0, x.block < W.heap.size := by obtain ⟨m, hm⟩ := k0; exact DataW.trod_lt m _ _ _ hm
  obtain ⟨a0, rfl⟩ := okWide_int Try.underlying3 (hval 0 3 v0 rfl rfl)
  obtain ⟨b0, e0, w0⟩ := (TyR.int Try.underlying3 (by kernel_rfl)).one h0
  simp [Value.cells, El.enc] at e0
  subst e0
  have k1 := h1
  have lt1 : ∀ x ∈ p1, x.block < W.heap.size := by obtain ⟨m, hm⟩ := k1; exact DataW.trod_lt m _ _ _ hm
  obtain ⟨a1, rfl⟩ := okWide_int Try.underlying3 (hval 1 3 v1 rfl rfl)
  obtain ⟨b1, e1, w1⟩ := (TyR.int Try.underlying3 (by kernel_rfl)).one h1
  simp [Value.cells, El.enc] at e1
  subst e1
  clear hA0 hval0 hsz0
  refine (calls_true (P := Try.prog) (f := 10) (args := [.int .i64 a0, .int .i64 a1]) (w := W) ?_).mono fun e W' ⟨he, bel⟩ => ?_
  · show compasslaw15_PairEnds.call a0 a1 (fun _ _ => False) (hp W) (fun b H => b = true ∧ Step (fun _ => False) (hp W) H)
    exact by
        exact lpends fun H' hs => ⟨rfl, hs⟩
  · subst he
    exact ⟨_, rfl, _, _, _, [], _, [], hW', trodAll_mk1 (shut_bool Try.underlying4 _), (trodAll_cons_mk (Below.trod laidOut (by kernel_rfl) (of_decide_eq_true (by kernel_rfl)) k0 bel lt0) (trodAll_cons_mk (Below.trod laidOut (by kernel_rfl) (of_decide_eq_true (by kernel_rfl)) k1 bel lt1) trodAll_mk0)), rfl, bel.frame _, fun h => by cases h⟩
theorem over : Rows.pairEndsRow.holds Try.pinned (OpenSpec.ofChange Rows.pairEndsSpec) :=
  OpenClaim.holds_of_wide 10 Try.f10 rfl rfl rfl rfl rfl rfl rfl ⟨rfl, rfl, rfl, rfl, rfl⟩ rfl rfl rfl rfl rfl (by kernel_rfl) Try.func10 (by kernel_rfl)
    (of_decide_eq_true (by kernel_rfl)) (by unfold Func.isWrapper; first | (rw [if_pos (by decide +kernel)]; kernel_rfl) | (rw [if_neg (by decide +kernel)]; exact ⟨rfl, rfl⟩))
    (fun os started H enc _ => lifted os started H enc)
end Go.Proofs.Ytmaeboaopebaiaa.pairEnds
namespace Go.Proofs.Ytmaeboaopebaiaa
/-- The row, under a short name, for the claim. -/
theorem pairEnds_holds : Rows.PairEndsSaid := pairEnds.over
#print axioms pairEnds_holds
end Go.Proofs.Ytmaeboaopebaiaa

