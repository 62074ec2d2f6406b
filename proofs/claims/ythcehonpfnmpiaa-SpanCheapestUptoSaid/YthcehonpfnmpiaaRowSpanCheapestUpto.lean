/-
  The row of SpanCheapestUpto: for every input the law answers true, and each argument reads afterwards as it read before.
  There is no condition but the row's own.
-/
import Derived.Test.YthcehonpfnmpiaaRows
import Derived.Test.YthcehonpfnmpiaaMzW
import Derived.Test.YthcehonpfnmpiaaLSpC
import Derived.Test.YthcehonpfnmpiaaMzS
import Derived.Test.YthcehonpfnmpiaaMzZ
import Derived.Carry
import Derived.Deep.CondSized
set_option linter.unusedVariables false
set_option linter.unusedSimpArgs false
namespace Go.Proofs.Ythcehonpfnmpiaa.spanCheapestUpto
open Go.ChangeShapes Go.WideShapes Go.ChangeAt Go.RowKit Go.Mz
theorem own : ownKnob Try.prog.godebug = none := by kernel_rfl
theorem laidOut : laidOutB Try.prog = true := by kernel_rfl
theorem lenAll {H : Type} (l : List (DataW H)) : l.length ≤ Rows.uptoBulkAll l := by
  induction l with
  | nil => simp [Rows.uptoBulkAll]
  | cons x r ih =>
    have : 1 ≤ Rows.uptoBulk x := by
      cases x with
      | lit l => cases l <;> simp [Rows.uptoBulk]
      | _ => simp [Rows.uptoBulk]
    simp only [Rows.uptoBulkAll, List.length_cons]
    omega
theorem upLen {P : Program} {t e : TypeId} (ht : P.underlying t = some (.slice e)) {H : Type} {enc : TypeId × Value → H} {w : World} {base : Nat} {sp : Nat → Bool} {held : Bool} {a : Option Addr} {l c : Nat} {d : DataW H} {ps : List MemPlace}
    (hd : DataW.Trod enc P w base sp held t (.slice a l c) d ps) : l ≤ Rows.uptoBulk d := by
  obtain ⟨fuel, hx⟩ := hd
  have hx : DataW.trod enc P w base sp held fuel t [.slice a l c] = some (d, ps) := hx
  rcases DataW.trod_slice ht hx with ⟨h, _⟩ | ⟨a1, len, cap, elems, rest, n, _, h, hxx, _, _, _, hlen, _⟩
  · simp at h
    rw [h.2.1]
    exact Nat.zero_le _
  · simp at h
    have hd1 : d = .slice (elems.map (·.1)) (rest.map (·.1)) := congrArg Prod.fst hxx
    have h1 := lenAll (elems.map (·.1))
    rw [List.length_map] at h1
    rw [hd1]
    simp only [Rows.uptoBulk]
    omega
set_option maxRecDepth 100000 in
theorem lifted (os : Os) (started : os.Started) (H : Type) (enc : TypeId × Value → H) (F : Stop.Interp) :
    ReturnsInHanded {} Try.checked os 4 .any ((Rows.OpenSpec.upto Rows.spanCheapestSpec).pre6 enc Try.prog Try.f4 Rows.spanCheapestUptoRow.domain false) (((Rows.OpenSpec.upto Rows.spanCheapestSpec).at F).post enc Try.prog Try.f4 false true false false) := by
  refine returnsInHanded_of_cond_sized (C := Try.checked) (s := Rows.OpenSpec.upto Rows.spanCheapestSpec) (k := Rows.uptoSmall) rfl own started (by kernel_rfl) Try.func4
    (OpenSpec.witness (enc := enc) (C := Try.checked) (s := Rows.OpenSpec.upto Rows.spanCheapestSpec) (k := Rows.uptoSmall) rfl false ⟨#[], #[.agg #[.int .i64 0, .slice none 0 0], .slice none 0 0], []⟩ 8 (by kernel_rfl) (by kernel_rfl) (by kernel_rfl)
      (x := ([.agg [.lit (.int .i64 0), .nil], .nil], [], [])) (by kernel_rfl) rfl (by kernel_rfl)) ?_
  intro W base args ds gs before hval0 hW hcnd hk0 hsz0 _
  show Calls Try.prog 4 args W fun e W' => ∃ v, e = .returned v ∧ Rows.spanCheapestSpec.post enc Try.prog Try.f4 false true false false W args v W'
  have hbulk : Rows.uptoBulkAll (ds ++ gs) ≤ 1048576 := of_decide_eq_true hk0
  have hval : ∀ (j : Nat) t v, Try.f4.params[j]? = some t → args[j]? = some v → Value.okWide Try.prog W .any base t v := hval0
  have hW' := hW
  obtain ⟨p, q, hA0, hV, rfl, hfz, hnd⟩ := hW
  have hA : DataW.TrodAll enc Try.prog W 0 (fun _ => true) true Try.f4.params.toList args.toList ds p := hA0
  rw [Try.params4] at hA hval
  obtain ⟨v0, vs0, d0, ds0, p0, x0, hargs, rfl, rfl, h0, r0⟩ := trodAll_cons hA
  obtain ⟨v1, vs1, d1, ds1, p1, x1, rfl, rfl, rfl, h1, r1⟩ := trodAll_cons r0
  obtain ⟨rfl, rfl, rfl⟩ := trodAll_nil r1
  obtain rfl : args = #[v0, v1] := by cases args; simp_all
  obtain ⟨rfl, rfl⟩ := trodVars_none hV
  have k0 := h0
  have lt0 : ∀ x ∈ p0, x.block < W.heap.size := by obtain ⟨m, hm⟩ := k0; exact DataW.trod_lt m _ _ _ hm
  obtain ⟨cs0, rfl, _⟩ := okWide_struct Try.underlying24 (hval 0 24 v0 rfl rfl)
  obtain ⟨⟨a0_0, ⟨a0_1, len0_1, cap0_1⟩⟩, e0, q0⟩ := (TyR.struct Try.underlying24 (by kernel_rfl) (FldR.cons rfl (TyR.int Try.underlying3 (by kernel_rfl)) (FldR.one rfl (TyR.slice Try.underlying22 (by kernel_rfl) (TyR.struct Try.underlying35 (by kernel_rfl) (FldR.cons rfl (TyR.int Try.underlying3 (by kernel_rfl)) (FldR.cons rfl (TyR.int Try.underlying3 (by kernel_rfl)) (FldR.cons rfl (TyR.int Try.underlying2 (by kernel_rfl)) (FldR.one rfl (TyR.int Try.underlying2 (by kernel_rfl))))))))))).one h0
  obtain rfl : cs0 = ⟨[.int .i64 a0_0, .slice a0_1 len0_1 cap0_1]⟩ := by cases cs0; simpa [Value.cells, El.enc] using e0
  have k1 := h1
  have lt1 : ∀ x ∈ p1, x.block < W.heap.size := by obtain ⟨m, hm⟩ := k1; exact DataW.trod_lt m _ _ _ hm
  obtain ⟨a1, len1, cap1, rfl⟩ := okWide_slice Try.underlying26 (hval 1 26 v1 rfl rfl)
  obtain ⟨⟨b1, m1, c1⟩, e1, q1⟩ := (TyR.slice Try.underlying26 (by kernel_rfl) (TyR.int Try.underlying3 (by kernel_rfl))).one h1
  simp [Value.cells, El.enc] at e1
  obtain ⟨rfl, rfl, rfl⟩ := e1
  have wt0_1 : len0_1 * Program.bytesOf Try.prog 35 ≤ reachBytes := TW.sl (a := a0_1) (c := cap0_1) Try.underlying22 (TW.fld (i := 1) Try.underlying24 rfl (TW.of h0 (wE (i := 0) (t := 24) (d := d0) (by kernel_rfl) rfl hsz0)))
  rw [show Program.bytesOf Try.prog 35 = 32 from by kernel_rfl] at wt0_1
  clear hA0 hval0 hsz0
  refine (calls_true (P := Try.prog) (f := 4) (args := [.agg ⟨[.int .i64 a0_0, .slice a0_1 len0_1 cap0_1]⟩, .slice a1 len1 cap1]) (w := W) ?_).mono fun e W' ⟨he, bel⟩ => ?_
  · show compasslaw10_SpanCheapest.call a0_0 a0_1 len0_1 cap0_1 a1 len1 cap1 (fun _ _ => False) (hp W) (fun b H => b = true ∧ Step (fun _ => False) (hp W) H)
    exact by
        obtain ⟨hn, e, he⟩ := sl_of' q0.2
        obtain ⟨hm, f, ho⟩ := sl_of' q1
        have hb : reachBytes = 140737488351232 := rfl
        have h1 := upLen Try.underlying26 h1
        simp only [List.append_nil, List.nil_append, List.cons_append, Rows.uptoBulkAll] at hbulk
        exact lcheap he (by omega) ho (by omega) fun H' hs => ⟨rfl, hs⟩
  · subst he
    exact ⟨_, rfl, _, _, _, [], _, [], hW', trodAll_mk1 (shut_bool Try.underlying4 _), (trodAll_cons_mk (Below.trod laidOut (by kernel_rfl) (of_decide_eq_true (by kernel_rfl)) k0 bel lt0) (trodAll_cons_mk (Below.trod laidOut (by kernel_rfl) (of_decide_eq_true (by kernel_rfl)) k1 bel lt1) trodAll_mk0)), rfl, bel.frame _, fun h => by cases h⟩
theorem over : Rows.spanCheapestUptoRow.holds Try.pinned (Rows.OpenSpec.upto Rows.spanCheapestSpec) :=
  OpenClaim.holds_of_cond 4 Try.f4 rfl rfl rfl rfl rfl rfl rfl ⟨rfl, rfl, rfl, rfl, rfl⟩ rfl rfl rfl rfl rfl (by kernel_rfl) Try.func4 (by kernel_rfl)
    (of_decide_eq_true (by kernel_rfl)) (by unfold Func.isWrapper; first | (rw [if_pos (by decide +kernel)]; kernel_rfl) | (rw [if_neg (by decide +kernel)]; exact ⟨rfl, rfl⟩))
    (fun os started H enc _ F => lifted os started H enc F)
end Go.Proofs.Ythcehonpfnmpiaa.spanCheapestUpto
namespace Go.Proofs.Ythcehonpfnmpiaa
/-- The row, under a short name, for the claim. -/
theorem spanCheapestUpto_holds : Rows.SpanCheapestUptoSaid := spanCheapestUpto.over
#print axioms spanCheapestUpto_holds
end Go.Proofs.Ythcehonpfnmpiaa

