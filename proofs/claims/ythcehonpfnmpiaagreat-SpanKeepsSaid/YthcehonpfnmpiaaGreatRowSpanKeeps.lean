/-
  The row of SpanKeeps: for every input the law answers true, and each argument reads afterwards as it read before.
  There is no condition but the row's own.
-/
import Derived.Test.YthcehonpfnmpiaaGreatRows
import Derived.Test.YthcehonpfnmpiaaGreatMzW
import Derived.Test.YthcehonpfnmpiaaGreatLSpK
import Derived.Test.YthcehonpfnmpiaaGreatMzS
import Derived.Test.YthcehonpfnmpiaaGreatMzZ
import Derived.Carry
set_option linter.unusedVariables false
set_option linter.unusedSimpArgs false
namespace Go.Proofs.YthcehonpfnmpiaaGreat.spanKeeps
open Go.ChangeShapes Go.WideShapes Go.ChangeAt Go.RowKit Go.Mz
theorem own : ownKnob Tryz.prog.godebug = none := by kernel_rfl
theorem laidOut : laidOutB Tryz.prog = true := by kernel_rfl
set_option maxRecDepth 100000 in
theorem lifted (os : Os) (started : os.Started) (H : Type) (enc : TypeId × Value → H) :
    ReturnsInHanded {} Tryz.checked os 6 .any (Rows.spanKeepsSpec.pre6 enc Tryz.prog Tryz.f6 Rows.spanKeepsRow.domain false) (Rows.spanKeepsSpec.post enc Tryz.prog Tryz.f6 false true false false) := by
  refine returnsInHanded_of_change_sized (C := Tryz.checked) own started (by kernel_rfl) Tryz.func6
    (ChangeSpec.witness6 (enc := enc) (C := Tryz.checked) false ⟨#[], #[.agg #[.int .i64 0, .slice none 0 0], .int .i64 0], []⟩ 8 (by kernel_rfl) (by kernel_rfl) (by kernel_rfl) (by kernel_rfl)) ?_
  intro W base args ds gs before hval0 hW hcnd hsz0 _
  have hval : ∀ (j : Nat) t v, Tryz.f6.params[j]? = some t → args[j]? = some v → Value.okWide Tryz.prog W .any base t v := hval0
  have hW' := hW
  obtain ⟨p, q, hA0, hV, rfl, hfz, hnd⟩ := hW
  have hA : DataW.TrodAll enc Tryz.prog W 0 (fun _ => true) true Tryz.f6.params.toList args.toList ds p := hA0
  rw [Tryz.params6] at hA hval
  obtain ⟨v0, vs0, d0, ds0, p0, x0, hargs, rfl, rfl, h0, r0⟩ := trodAll_cons hA
  obtain ⟨v1, vs1, d1, ds1, p1, x1, rfl, rfl, rfl, h1, r1⟩ := trodAll_cons r0
  obtain ⟨rfl, rfl, rfl⟩ := trodAll_nil r1
  obtain rfl : args = #[v0, v1] := by cases args; simp_all
  obtain ⟨rfl, rfl⟩ := trodVars_none hV
  have k0 := h0
  have lt0 : ∀ x ∈ p0, x.block < W.heap.size := by obtain ⟨m, hm⟩ := k0; exact DataW.trod_lt m _ _ _ hm
  obtain ⟨cs0, rfl, _⟩ := okWide_struct Tryz.underlying24 (hval 0 24 v0 rfl rfl)
  obtain ⟨⟨a0_0, ⟨a0_1, len0_1, cap0_1⟩⟩, e0, q0⟩ := (TyR.struct Tryz.underlying24 (by kernel_rfl) (FldR.cons rfl (TyR.int Tryz.underlying3 (by kernel_rfl)) (FldR.one rfl (TyR.slice Tryz.underlying22 (by kernel_rfl) (TyR.struct Tryz.underlying44 (by kernel_rfl) (FldR.cons rfl (TyR.int Tryz.underlying3 (by kernel_rfl)) (FldR.cons rfl (TyR.int Tryz.underlying3 (by kernel_rfl)) (FldR.cons rfl (TyR.int Tryz.underlying2 (by kernel_rfl)) (FldR.one rfl (TyR.int Tryz.underlying2 (by kernel_rfl))))))))))).one h0
  obtain rfl : cs0 = ⟨[.int .i64 a0_0, .slice a0_1 len0_1 cap0_1]⟩ := by cases cs0; simpa [Value.cells, El.enc] using e0
  have k1 := h1
  have lt1 : ∀ x ∈ p1, x.block < W.heap.size := by obtain ⟨m, hm⟩ := k1; exact DataW.trod_lt m _ _ _ hm
  obtain ⟨a1, rfl⟩ := okWide_int Tryz.underlying3 (hval 1 3 v1 rfl rfl)
  obtain ⟨b1, e1, w1⟩ := (TyR.int Tryz.underlying3 (by kernel_rfl)).one h1
  simp [Value.cells, El.enc] at e1
  subst e1
  have wt0_1 : len0_1 * Program.bytesOf Tryz.prog 44 ≤ reachBytes := TW.sl (a := a0_1) (c := cap0_1) Tryz.underlying22 (TW.fld (i := 1) Tryz.underlying24 rfl (TW.of h0 (wE (i := 0) (t := 24) (d := d0) (by kernel_rfl) rfl hsz0)))
  rw [show Program.bytesOf Tryz.prog 44 = 32 from by kernel_rfl] at wt0_1
  clear hA0 hval0 hsz0
  refine (calls_true (P := Tryz.prog) (f := 6) (args := [.agg ⟨[.int .i64 a0_0, .slice a0_1 len0_1 cap0_1]⟩, .int .i64 a1]) (w := W) ?_).mono fun e W' ⟨he, bel⟩ => ?_
  · show compasslaw10_SpanKeeps.call a0_0 a0_1 len0_1 cap0_1 a1 (fun _ _ => False) (hp W) (fun b H => b = true ∧ Step (fun _ => False) (hp W) H)
    exact by
        obtain ⟨hn, e, he⟩ := sl_of' q0.2
        have hb : reachBytes = 140737488351232 := rfl
        exact lkeeps10 he (by omega) fun H' hs => ⟨rfl, hs⟩
  · subst he
    exact ⟨_, rfl, _, _, _, [], _, [], hW', trodAll_mk1 (shut_bool Tryz.underlying4 _), (trodAll_cons_mk (Below.trod laidOut (by kernel_rfl) (of_decide_eq_true (by kernel_rfl)) k0 bel lt0) (trodAll_cons_mk (Below.trod laidOut (by kernel_rfl) (of_decide_eq_true (by kernel_rfl)) k1 bel lt1) trodAll_mk0)), rfl, bel.frame _, fun h => by cases h⟩
theorem over : Rows.spanKeepsRow.holds Tryz.pinned (OpenSpec.ofChange Rows.spanKeepsSpec) :=
  OpenClaim.holds_of_wide 6 Tryz.f6 rfl rfl rfl rfl rfl rfl rfl ⟨rfl, rfl, rfl, rfl, rfl⟩ rfl rfl rfl rfl rfl (by kernel_rfl) Tryz.func6 (by kernel_rfl)
    (of_decide_eq_true (by kernel_rfl)) (by unfold Func.isWrapper; first | (rw [if_pos (by decide +kernel)]; kernel_rfl) | (rw [if_neg (by decide +kernel)]; exact ⟨rfl, rfl⟩))
    (fun os started H enc _ => lifted os started H enc)
end Go.Proofs.YthcehonpfnmpiaaGreat.spanKeeps
namespace Go.Proofs.YthcehonpfnmpiaaGreat
/-- The row, under a short name, for the claim. -/
theorem spanKeeps_holds : Rows.SpanKeepsSaid := spanKeeps.over
#print axioms spanKeeps_holds
end Go.Proofs.YthcehonpfnmpiaaGreat

