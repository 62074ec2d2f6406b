/-
  The row of PerfectKeeps: for every input the law answers true, and each argument reads afterwards as it read before.
  There is no condition but the row's own.
-/
import Derived.Test.YtndgjfbibkdokaaRows
import Derived.Test.YtndgjfbibkdokaaMzW
import Derived.Test.YtndgjfbibkdokaaLPeK
import Derived.Test.YtndgjfbibkdokaaTbK
import Derived.Test.YtndgjfbibkdokaaMzS
import Derived.Test.YtndgjfbibkdokaaMzZ
import Derived.Carry
set_option linter.unusedVariables false
set_option linter.unusedSimpArgs false
namespace Go.Proofs.Ytndgjfbibkdokaa.perfectKeeps
open Go.ChangeShapes Go.WideShapes Go.ChangeAt Go.RowKit Go.Mz
theorem own : ownKnob Try.prog.godebug = none := by kernel_rfl
theorem laidOut : laidOutB Try.prog = true := by kernel_rfl
set_option maxRecDepth 100000 in
theorem lifted (os : Os) (started : os.Started) (H : Type) (enc : TypeId × Value → H) :
    ReturnsInHanded {} Try.checked os 9 .any (Rows.perfectKeepsSpec.pre6 enc Try.prog Try.f9 Rows.perfectKeepsRow.domain false) (Rows.perfectKeepsSpec.post enc Try.prog Try.f9 false true false false) := by
  refine returnsInHanded_of_change_sized (C := Try.checked) own started (by kernel_rfl) Try.func9
    (ChangeSpec.witness6 (enc := enc) (C := Try.checked) false ⟨#[], #[.agg #[.int .i64 0, .slice none 0 0], .slice none 0 0], []⟩ 8 (by kernel_rfl) (by kernel_rfl) (by kernel_rfl) (by kernel_rfl)) ?_
  intro W base args ds gs before hval0 hW hcnd hsz0 _
  have hval : ∀ (j : Nat) t v, Try.f9.params[j]? = some t → args[j]? = some v → Value.okWide Try.prog W .any base t v := hval0
  have hW' := hW
  obtain ⟨p, q, hA0, hV, rfl, hfz, hnd⟩ := hW
  have hA : DataW.TrodAll enc Try.prog W 0 (fun _ => true) true Try.f9.params.toList args.toList ds p := hA0
  rw [Try.params9] at hA hval
  obtain ⟨v0, vs0, d0, ds0, p0, x0, hargs, rfl, rfl, h0, r0⟩ := trodAll_cons hA
  obtain ⟨v1, vs1, d1, ds1, p1, x1, rfl, rfl, rfl, h1, r1⟩ := trodAll_cons r0
  obtain ⟨rfl, rfl, rfl⟩ := trodAll_nil r1
  obtain rfl : args = #[v0, v1] := by cases args; simp_all
  obtain ⟨rfl, rfl⟩ := trodVars_none hV
  have k0 := h0
  have lt0 : ∀ x ∈ p0, x.block < W.heap.size := by obtain ⟨m, hm⟩ := k0; exact DataW.trod_lt m _ _ _ hm
  obtain ⟨cs0, rfl, _⟩ := okWide_struct Try.underlying24 (hval 0 24 v0 rfl rfl)
  obtain ⟨⟨a0_0, ⟨a0_1, len0_1, cap0_1⟩⟩, e0, q0⟩ := (TyR.struct Try.underlying24 (by kernel_rfl) (FldR.cons rfl (TyR.int Try.underlying3 (by kernel_rfl)) (FldR.one rfl (TyR.slice Try.underlying22 (by kernel_rfl) (TyR.struct Try.underlying49 (by kernel_rfl) (FldR.cons rfl (TyR.int Try.underlying3 (by kernel_rfl)) (FldR.cons rfl (TyR.int Try.underlying3 (by kernel_rfl)) (FldR.cons rfl (TyR.int Try.underlying2 (by kernel_rfl)) (FldR.one rfl (TyR.int Try.underlying2 (by kernel_rfl))))))))))).one h0
  obtain rfl : cs0 = ⟨[.int .i64 a0_0, .slice a0_1 len0_1 cap0_1]⟩ := by cases cs0; simpa [Value.cells, El.enc] using e0
  have k1 := h1
  have lt1 : ∀ x ∈ p1, x.block < W.heap.size := by obtain ⟨m, hm⟩ := k1; exact DataW.trod_lt m _ _ _ hm
  obtain ⟨a1, len1, cap1, rfl⟩ := okWide_slice Try.underlying55 (hval 1 55 v1 rfl rfl)
  obtain ⟨⟨b1, m1, c1⟩, e1, q1⟩ := (TyR.slice Try.underlying55 (by kernel_rfl) (TyR.slice Try.underlying27 (by kernel_rfl) (TyR.int Try.underlying2 (by kernel_rfl)))).one h1
  simp [Value.cells, El.enc] at e1
  obtain ⟨rfl, rfl, rfl⟩ := e1
  have wt0_1 : len0_1 * Program.bytesOf Try.prog 49 ≤ reachBytes := TW.sl (a := a0_1) (c := cap0_1) Try.underlying22 (TW.fld (i := 1) Try.underlying24 rfl (TW.of h0 (wE (i := 0) (t := 24) (d := d0) (by kernel_rfl) rfl hsz0)))
  rw [show Program.bytesOf Try.prog 49 = 32 from by kernel_rfl] at wt0_1
  have wt1 : len1 * Program.bytesOf Try.prog 27 ≤ reachBytes := TW.sl (a := a1) (c := cap1) Try.underlying55 (TW.of h1 (wE (i := 1) (t := 55) (d := d1) (by kernel_rfl) rfl hsz0))
  rw [show Program.bytesOf Try.prog 27 = 24 from by kernel_rfl] at wt1
  have hmore : ∀ dl : Nat → Sl, Rdr (hp W) a1 len1 dl → ∀ i, i < len1 → (dl i).n * 8 ≤ reachBytes := fun dl hR i hi => by
    have h3 := tab_more Try.underlying55 Try.underlying27 (by kernel_rfl) h1 (wE (i := 1) (t := 55) (d := d1) (by kernel_rfl) rfl hsz0) hR i hi
    rwa [show Program.bytesOf Try.prog 2 = 8 from by kernel_rfl] at h3
  clear hA0 hval0 hsz0
  refine (calls_true (P := Try.prog) (f := 9) (args := [.agg ⟨[.int .i64 a0_0, .slice a0_1 len0_1 cap0_1]⟩, .slice a1 len1 cap1]) (w := W) ?_).mono fun e W' ⟨he, bel⟩ => ?_
  · show Q0.call a0_0 a0_1 len0_1 cap0_1 a1 len1 cap1 (fun _ _ => False) (hp W) (fun b H => b = true ∧ Step (fun _ => False) (hp W) H)
    exact by
        obtain ⟨hn, e, he⟩ := sl_of' q0.2
        obtain ⟨hdn, dl, row, hds⟩ := tab_of q1
        have hb : reachBytes = 140737488351232 := rfl
        exact lpkeeps he (by omega) hds (by omega) (fun i hi => by have := hmore dl hds.d i hi; omega) fun H' hs => ⟨rfl, hs⟩
  · subst he
    exact ⟨_, rfl, _, _, _, [], _, [], hW', trodAll_mk1 (shut_bool Try.underlying4 _), (trodAll_cons_mk (Below.trod laidOut (by kernel_rfl) (of_decide_eq_true (by kernel_rfl)) k0 bel lt0) (trodAll_cons_mk (Below.trod laidOut (by kernel_rfl) (of_decide_eq_true (by kernel_rfl)) k1 bel lt1) trodAll_mk0)), rfl, bel.frame _, fun h => by cases h⟩
theorem over : Rows.perfectKeepsRow.holds Try.pinned (OpenSpec.ofChange Rows.perfectKeepsSpec) :=
  OpenClaim.holds_of_wide 9 Try.f9 rfl rfl rfl rfl rfl rfl rfl ⟨rfl, rfl, rfl, rfl, rfl⟩ rfl rfl rfl rfl rfl (by kernel_rfl) Try.func9 (by kernel_rfl)
    (of_decide_eq_true (by kernel_rfl)) (by unfold Func.isWrapper; first | (rw [if_pos (by decide +kernel)]; kernel_rfl) | (rw [if_neg (by decide +kernel)]; exact ⟨rfl, rfl⟩))
    (fun os started H enc _ => lifted os started H enc)
end Go.Proofs.Ytndgjfbibkdokaa.perfectKeeps
namespace Go.Proofs.Ytndgjfbibkdokaa
theorem perfectKeeps_holds : Rows.PerfectKeepsSaid := perfectKeeps.over
#print axioms perfectKeeps_holds
end Go.Proofs.Ytndgjfbibkdokaa
