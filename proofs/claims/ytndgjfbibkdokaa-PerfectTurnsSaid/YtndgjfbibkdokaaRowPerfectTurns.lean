/-
  The row of PerfectTurns: for every input the law answers true, and each argument reads afterwards as it read before.
  There is no condition but the row's own.
-/
import Derived.Test.YtndgjfbibkdokaaRows
import Derived.Test.YtndgjfbibkdokaaMzW
import Derived.Test.YtndgjfbibkdokaaLPeT
import Derived.Test.YtndgjfbibkdokaaMzS
import Derived.Test.YtndgjfbibkdokaaMzZ
import Derived.Carry
set_option linter.unusedVariables false
set_option linter.unusedSimpArgs false
namespace Go.Proofs.Ytndgjfbibkdokaa.perfectTurns
open Go.ChangeShapes Go.WideShapes Go.ChangeAt Go.RowKit Go.Mz
theorem own : ownKnob Try.prog.godebug = none := by kernel_rfl
theorem laidOut : laidOutB Try.prog = true := by kernel_rfl
set_option maxRecDepth 100000 in
theorem lifted (os : Os) (started : os.Started) (H : Type) (enc : TypeId × Value → H) :
    ReturnsInHanded {} Try.checked os 5 .any (Rows.perfectTurnsSpec.pre6 enc Try.prog Try.f5 Rows.perfectTurnsRow.domain false) (Rows.perfectTurnsSpec.post enc Try.prog Try.f5 false true false false) := by
  refine returnsInHanded_of_change_sized (C := Try.checked) own started (by kernel_rfl) Try.func5
    (ChangeSpec.witness6 (enc := enc) (C := Try.checked) false ⟨#[], #[.agg #[.int .i64 0, .slice none 0 0], .int .i64 0, .int .i64 0], []⟩ 8 (by kernel_rfl) (by kernel_rfl) (by kernel_rfl) (by kernel_rfl)) ?_
  intro W base args ds gs before hval0 hW hcnd hsz0 _
  have hval : ∀ (j : Nat) t v, Try.f5.params[j]? = some t → args[j]? = some v → Value.okWide Try.prog W .any base t v := hval0
  have hW' := hW
  obtain ⟨p, q, hA0, hV, rfl, hfz, hnd⟩ := hW
  have hA : DataW.TrodAll enc Try.prog W 0 (fun _ => true) true Try.f5.params.toList args.toList ds p := hA0
  rw [Try.params5] at hA hval
  obtain ⟨v0, vs0, d0, ds0, p0, x0, hargs, rfl, rfl, h0, r0⟩ := trodAll_cons hA
  obtain ⟨v1, vs1, d1, ds1, p1, x1, rfl, rfl, rfl, h1, r1⟩ := trodAll_cons r0
  obtain ⟨v2, vs2, d2, ds2, p2, x2, rfl, rfl, rfl, h2, r2⟩ := trodAll_cons r1
  obtain ⟨rfl, rfl, rfl⟩ := trodAll_nil r2
  obtain rfl : args = #[v0, v1, v2] := by cases args; simp_all
  obtain ⟨rfl, rfl⟩ := trodVars_none hV
  have k0 := h0
  have lt0 : ∀ x ∈ p0, x.block < W.heap.size := by obtain ⟨m, hm⟩ := k0; exact DataW.trod_lt m _ _ _ hm
  obtain ⟨cs0, rfl, _⟩ := okWide_struct Try.underlying24 (hval 0 24 v0 rfl rfl)
  obtain ⟨⟨a0_0, ⟨a0_1, len0_1, cap0_1⟩⟩, e0, q0⟩ := (TyR.struct Try.underlying24 (by kernel_rfl) (FldR.cons rfl (TyR.int Try.underlying3 (by kernel_rfl)) (FldR.one rfl (TyR.slice Try.underlying22 (by kernel_rfl) (TyR.struct Try.underlying49 (by kernel_rfl) (FldR.cons rfl (TyR.int Try.underlying3 (by kernel_rfl)) (FldR.cons rfl (TyR.int Try.underlying3 (by kernel_rfl)) (FldR.cons rfl (TyR.int Try.underlying2 (by kernel_rfl)) (FldR.one rfl (TyR.int Try.underlying2 (by kernel_rfl))))))))))).one h0
  obtain rfl : cs0 = ⟨[.int .i64 a0_0, .slice a0_1 len0_1 cap0_1]⟩ := by cases cs0; simpa [Value.cells, El.enc] using e0
  have k1 := h1
  have lt1 : ∀ x ∈ p1, x.block < W.heap.size := by obtain ⟨m, hm⟩ := k1; exact DataW.trod_lt m _ _ _ hm
  obtain ⟨a1, rfl⟩ := okWide_int Try.underlying3 (hval 1 3 v1 rfl rfl)
  obtain ⟨b1, e1, w1⟩ := (TyR.int Try.underlying3 (by kernel_rfl)).one h1
  simp [Value.cells, El.enc] at e1
  subst e1
  have k2 := h2
  have lt2 : ∀ x ∈ p2, x.block < W.heap.size := by obtain ⟨m, hm⟩ := k2; exact DataW.trod_lt m _ _ _ hm
  obtain ⟨a2, rfl⟩ := okWide_int Try.underlying2 (hval 2 2 v2 rfl rfl)
  obtain ⟨b2, e2, w2⟩ := (TyR.int Try.underlying2 (by kernel_rfl)).one h2
  simp [Value.cells, El.enc] at e2
  subst e2
  have wt0_1 : len0_1 * Program.bytesOf Try.prog 49 ≤ reachBytes := TW.sl (a := a0_1) (c := cap0_1) Try.underlying22 (TW.fld (i := 1) Try.underlying24 rfl (TW.of h0 (wE (i := 0) (t := 24) (d := d0) (by kernel_rfl) rfl hsz0)))
  rw [show Program.bytesOf Try.prog 49 = 32 from by kernel_rfl] at wt0_1
  clear hA0 hval0 hsz0
  refine (calls_true (P := Try.prog) (f := 5) (args := [.agg ⟨[.int .i64 a0_0, .slice a0_1 len0_1 cap0_1]⟩, .int .i64 a1, .int .i64 a2]) (w := W) ?_).mono fun e W' ⟨he, bel⟩ => ?_
  · show Q0.call a0_0 a0_1 len0_1 cap0_1 a1 a2 (fun _ _ => False) (hp W) (fun b H => b = true ∧ Step (fun _ => False) (hp W) H)
    exact by
        obtain ⟨hn, e, he⟩ := sl_of' q0.2
        have hb : reachBytes = 140737488351232 := rfl
        exact lpturns he (by omega) fun H' hs => ⟨rfl, hs⟩
  · subst he
    exact ⟨_, rfl, _, _, _, [], _, [], hW', trodAll_mk1 (shut_bool Try.underlying4 _), (trodAll_cons_mk (Below.trod laidOut (by kernel_rfl) (of_decide_eq_true (by kernel_rfl)) k0 bel lt0) (trodAll_cons_mk (Below.trod laidOut (by kernel_rfl) (of_decide_eq_true (by kernel_rfl)) k1 bel lt1) (trodAll_cons_mk (Below.trod laidOut (by kernel_rfl) (of_decide_eq_true (by kernel_rfl)) k2 bel lt2) trodAll_mk0))), rfl, bel.frame _, fun h => by cases h⟩
theorem over : Rows.perfectTurnsRow.holds Try.pinned (OpenSpec.ofChange Rows.perfectTurnsSpec) :=
  OpenClaim.holds_of_wide 5 Try.f5 rfl rfl rfl rfl rfl rfl rfl ⟨rfl, rfl, rfl, rfl, rfl⟩ rfl rfl rfl rfl rfl (by kernel_rfl) Try.func5 (by kernel_rfl)
    (of_decide_eq_true (by kernel_rfl)) (by unfold Func.isWrapper; first | (rw [if_pos (by decide +kernel)]; kernel_rfl) | (rw [if_neg (by decide +kernel)]; exact ⟨rfl, rfl⟩))
    (fun os started H enc _ => lifted os started H enc)
end Go.Proofs.Ytndgjfbibkdokaa.perfectTurns
namespace Go.Proofs.Ytndgjfbibkdokaa
theorem perfectTurns_holds : Rows.PerfectTurnsSaid := perfectTurns.over
#print axioms perfectTurns_holds
end Go.Proofs.Ytndgjfbibkdokaa
