/-
  The row of PerfectAlike: for every input the law answers true, and each argument reads afterwards as it read before.
  There is no condition but the row's own.
-/
import Derived.Test.YtndgjfbibkdokaaRows
import Derived.Test.YtndgjfbibkdokaaMzW
import Derived.Test.YtndgjfbibkdokaaLPeL
import Derived.Test.YtndgjfbibkdokaaTbW
import Derived.Test.YtndgjfbibkdokaaMzS
import Derived.Test.YtndgjfbibkdokaaMzZ
import Derived.Carry
set_option linter.unusedVariables false
set_option linter.unusedSimpArgs false
namespace Go.Proofs.Ytndgjfbibkdokaa.perfectAlike
open Go.ChangeShapes Go.WideShapes Go.ChangeAt Go.RowKit Go.Mz
theorem own : ownKnob Try.prog.godebug = none := by kernel_rfl
theorem laidOut : laidOutB Try.prog = true := by kernel_rfl
set_option maxRecDepth 100000 in
theorem lifted (os : Os) (started : os.Started) (H : Type) (enc : TypeId × Value → H) :
    ReturnsInHanded {} Try.checked os 8 .any (Rows.perfectAlikeSpec.pre6 enc Try.prog Try.f8 Rows.perfectAlikeRow.domain false) (Rows.perfectAlikeSpec.post enc Try.prog Try.f8 false true false false) := by
  refine returnsInHanded_of_change_sized (C := Try.checked) own started (by kernel_rfl) Try.func8
    (ChangeSpec.witness6 (enc := enc) (C := Try.checked) false ⟨#[], #[.slice none 0 0], []⟩ 8 (by kernel_rfl) (by kernel_rfl) (by kernel_rfl) (by kernel_rfl)) ?_
  intro W base args ds gs before hval0 hW hcnd hsz0 _
  have hval : ∀ (j : Nat) t v, Try.f8.params[j]? = some t → args[j]? = some v → Value.okWide Try.prog W .any base t v := hval0
  have hW' := hW
  obtain ⟨p, q, hA0, hV, rfl, hfz, hnd⟩ := hW
  have hA : DataW.TrodAll enc Try.prog W 0 (fun _ => true) true Try.f8.params.toList args.toList ds p := hA0
  rw [Try.params8] at hA hval
  obtain ⟨v0, vs0, d0, ds0, p0, x0, hargs, rfl, rfl, h0, r0⟩ := trodAll_cons hA
  obtain ⟨rfl, rfl, rfl⟩ := trodAll_nil r0
  obtain rfl : args = #[v0] := by cases args; simp_all
  obtain ⟨rfl, rfl⟩ := trodVars_none hV
  have k0 := h0
  have lt0 : ∀ x ∈ p0, x.block < W.heap.size := by obtain ⟨m, hm⟩ := k0; exact DataW.trod_lt m _ _ _ hm
  obtain ⟨a0, len0, cap0, rfl⟩ := okWide_slice Try.underlying55 (hval 0 55 v0 rfl rfl)
  obtain ⟨⟨b0, m0, c0⟩, e0, q0⟩ := (TyR.slice Try.underlying55 (by kernel_rfl) (TyR.slice Try.underlying27 (by kernel_rfl) (TyR.int Try.underlying2 (by kernel_rfl)))).one h0
  simp [Value.cells, El.enc] at e0
  obtain ⟨rfl, rfl, rfl⟩ := e0
  clear hA0 hval0 hsz0
  refine (calls_true (P := Try.prog) (f := 8) (args := [.slice a0 len0 cap0]) (w := W) ?_).mono fun e W' ⟨he, bel⟩ => ?_
  · show Q0.call a0 len0 cap0 (fun _ _ => False) (hp W) (fun b H => b = true ∧ Step (fun _ => False) (hp W) H)
    exact by
        obtain ⟨hdn, dl, row, hds⟩ := tab_of q0
        exact lpalike hds hdn fun H' hs => ⟨rfl, hs⟩
  · subst he
    exact ⟨_, rfl, _, _, _, [], _, [], hW', trodAll_mk1 (shut_bool Try.underlying4 _), (trodAll_cons_mk (Below.trod laidOut (by kernel_rfl) (of_decide_eq_true (by kernel_rfl)) k0 bel lt0) trodAll_mk0), rfl, bel.frame _, fun h => by cases h⟩
theorem over : Rows.perfectAlikeRow.holds Try.pinned (OpenSpec.ofChange Rows.perfectAlikeSpec) :=
  OpenClaim.holds_of_wide 8 Try.f8 rfl rfl rfl rfl rfl rfl rfl ⟨rfl, rfl, rfl, rfl, rfl⟩ rfl rfl rfl rfl rfl (by kernel_rfl) Try.func8 (by kernel_rfl)
    (of_decide_eq_true (by kernel_rfl)) (by unfold Func.isWrapper; first | (rw [if_pos (by decide +kernel)]; kernel_rfl) | (rw [if_neg (by decide +kernel)]; exact ⟨rfl, rfl⟩))
    (fun os started H enc _ => lifted os started H enc)
end Go.Proofs.Ytndgjfbibkdokaa.perfectAlike
namespace Go.Proofs.Ytndgjfbibkdokaa
theorem perfectAlike_holds : Rows.PerfectAlikeSaid := perfectAlike.over
#print axioms perfectAlike_holds
end Go.Proofs.Ytndgjfbibkdokaa
