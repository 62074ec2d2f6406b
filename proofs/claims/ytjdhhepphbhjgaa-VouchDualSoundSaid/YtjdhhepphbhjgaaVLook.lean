/-
  look of the package vouch: it runs a function and answers the code that this gives up with by panic, or OK. Told of plain heaps; by the kit's laws of deferred calls.
-/
import Derived.Test.YtjdhhepphbhjgaaTab
import Derived.Test.YtjdhhepphbhjgaaMzU
import Derived.Tactics
import Derived.Tactics2
import Derived.Defers
import Derived.Recover
import Derived.Laws.Pointers
set_option linter.unusedSimpArgs false
set_option linter.unusedVariables false
namespace Go.Mz
open Go.Proofs

theorem und123 (w : World) : ∃ fs, (underlying 123).run P0 w = .ok (.struct fs) w := by
  obtain ⟨d, hd, e, _⟩ := (T0_ok.of_kinds (t := 123) (fun e => by cases e)).run_und
  obtain ⟨fs, rfl, _⟩ := dOf_st (d := d) (l := [(0, 27)]) (by rw [e]; rfl)
  exact ⟨fs, hd w⟩

theorem ta_hit (c : Int) (w : World) : (Instr.typeAssert (.iface 123 (.agg #[.int .i64 c])) 20 123 true).run P0 w = .ok (.tuple #[.agg #[.int .i64 c], .bool true]) w := by
  obtain ⟨fs, h⟩ := und123 w
  simp [Instr.typeAssert, h]

theorem zero123 (w : World) : (zeroValue 123).run P0 w = .ok (.agg #[.int .i64 0]) w := by
  simp [go_sem]

theorem ta_nil (w : World) : (Instr.typeAssert .nilIface 20 123 true).run P0 w = .ok (.tuple #[.agg #[.int .i64 0], .bool false]) w := by
  obtain ⟨fs, h⟩ := und123 w
  simp [Instr.typeAssert, h, zero123]

theorem hp_alloc (w : World) (c : Array Value) (e : TypeId) : hp (w.alloc (.cells c e)) = (hp w).upd w.heap.size ⟨c.toList, e⟩ := hp_push w c e

theorem catch_pan {b : Nat} {x c : Int} {w : World} (hb : hp w b = some ⟨[.int .i64 x], 27⟩) :
    CallsD P0 88 #[.pointer (some ⟨b, 0, none⟩)] (.panicking [{ v := .iface 123 (.agg #[.int .i64 c]), recovered := false }]) w fun e u' w' =>
      e = .returned (.tuple #[]) ∧ u' = .panicking [{ v := .iface 123 (.agg #[.int .i64 c]), recovered := true }] ∧ Rest w w' ∧ hp w' b = some ⟨[.int .i64 c], 27⟩ ∧ Step (· = b) (hp w) (hp w') := by
  have hne : b ≠ w.heap.size := fun e => by have := hp_lt hb; omega
  have h1 : hp (w.alloc (.cells #[.int .i64 0] 123)) w.heap.size = some ⟨[.int .i64 0], 123⟩ := by rw [hp_alloc]; exact upd_same
  have h1b : hp (w.alloc (.cells #[.int .i64 0] 123)) b = some ⟨[.int .i64 x], 27⟩ := by rw [hp_alloc, upd_ne hne]; exact hb
  have h2 := hp_setCell (o := 0) h1 (.int .i64 c)
  have h2b : hp ((w.alloc (.cells #[.int .i64 0] 123)).setCell ⟨w.heap.size, 0, none⟩ (.int .i64 c)) b = some ⟨[.int .i64 x], 27⟩ := by rw [h2, upd_ne hne]; exact h1b
  have h3 := hp_setCell (o := 0) h2b (.int .i64 c)
  have hc := cell_of_hp (w := (w.alloc (.cells #[.int .i64 0] 123)).setCell ⟨w.heap.size, 0, none⟩ (.int .i64 c)) (b := b) (o := 0) (v := .int .i64 x) (by rw [Hp.get_of h2b]; rfl)
  have hz := frozen_of_hp (o := 0) h1b rfl
  refine CallsD.mono (R := fun e u' w' => e = .returned (.tuple #[]) ∧ u' = .panicking [{ v := .iface 123 (.agg #[.int .i64 c]), recovered := true }] ∧ w' = ((w.alloc (.cells #[.int .i64 0] 123)).setCell ⟨w.heap.size, 0, none⟩ (.int .i64 c)).setCell ⟨b, 0, none⟩ (.int .i64 c)) ?_ ?_
  · refine callsD_of_wpS Try.func88 rfl fun c₀ cs hu => ?_
    apply wpS_seq
    apply wpS_region
    simp [wpOpsS, go_sem, recoverD, hu, Try.ntmps88, Exit.thenS, ta_hit]
    apply wpS_seq
    apply wpS_region
    simp [wpOpsS, go_sem, Exit.thenS]
    refine wpS_cond (t := true) (by simp [Act.eval, Array.replicate]) ?_
    simp only [if_true]
    apply wpS_region
    simp [wpOpsS, go_sem, hc, hz, bodyPostS, results, Try.results88]
  · rintro e u' w' ⟨rfl, rfl, rfl⟩
    refine ⟨rfl, rfl, ((rest_push w _).trans (rest_setCell h1 _)).trans (rest_setCell h2b _), by rw [h3, upd_same]; rfl, ?_⟩
    rw [h3]
    have s1 : Step (fun _ => False) (hp w) (hp (w.alloc (.cells #[.int .i64 0] 123))) := by rw [hp_alloc]; exact Step.new (hp_size w)
    have s2 : Step (· = w.heap.size) (hp (w.alloc (.cells #[.int .i64 0] 123))) (hp ((w.alloc (.cells #[.int .i64 0] 123)).setCell ⟨w.heap.size, 0, none⟩ (.int .i64 c))) := by rw [h2]; exact Step.wr h1 rfl
    exact ((s1.weak fun _ h => h.elim).trans s2 fun b' hb' => .inr (hb' ▸ hp_size w)).trans (Step.wr (F := (· = b)) h2b rfl) fun _ h => .inl h

theorem catch_idle (p : Addr) (w : World) :
    CallsD P0 88 #[.pointer (some p)] .returning w fun e u' w' => e = .returned (.tuple #[]) ∧ u' = .returning ∧ Rest w w' ∧ Step (fun _ => False) (hp w) (hp w') := by
  refine CallsD.mono (R := fun e u' w' => e = .returned (.tuple #[]) ∧ u' = .returning ∧ w' = (w.alloc (.cells #[.int .i64 0] 123)).setCell ⟨w.heap.size, 0, none⟩ (.int .i64 0)) ?_ ?_
  · refine callsD_of_wpS Try.func88 rfl fun c₀ cs hu => ?_
    apply wpS_seq
    apply wpS_region
    simp [wpOpsS, go_sem, recoverD, hu, Try.ntmps88, Exit.thenS, ta_nil]
    apply wpS_seq
    apply wpS_region
    simp [wpOpsS, go_sem, Exit.thenS]
    refine wpS_cond (t := false) (by simp [Act.eval, Array.replicate]) ?_
    simp only [Bool.false_eq_true, if_false]
    refine wpS_of_wp (wp_skip ?_)
    cases c₀
    simp_all [bodyPostS, results, Try.results88]
  · rintro e u' w' ⟨rfl, rfl, rfl⟩
    have h1 : hp (w.alloc (.cells #[.int .i64 0] 123)) w.heap.size = some ⟨[.int .i64 0], 123⟩ := by rw [hp_alloc]; exact upd_same
    refine ⟨rfl, rfl, (rest_push w _).trans (rest_setCell h1 _), ?_⟩
    have s1 : Step (fun _ => False) (hp w) (hp (w.alloc (.cells #[.int .i64 0] 123))) := by rw [hp_alloc]; exact Step.new (hp_size w)
    have s2 : Step (· = w.heap.size) (hp (w.alloc (.cells #[.int .i64 0] 123))) (hp ((w.alloc (.cells #[.int .i64 0] 123)).setCell ⟨w.heap.size, 0, none⟩ (.int .i64 0))) := by rw [hp_setCell h1]; exact Step.wr h1 rfl
    exact (s1.weak fun _ h => h.elim).trans s2 fun b' hb' => .inr (hb' ▸ hp_size w)

/-- what a look answers: its function's own code, or OK -/
theorem vlook {g : Nat} {k : List Value} {E : Value → Hp → Prop} {H : Hp} {K : Int → Hp → Prop} (hg : T0.fok g = true)
    (h : ∀ b H1, H b = none → H1 b = some ⟨[.int .i64 0], 27⟩ → Step (fun _ => False) H H1 →
      callW P0 g k (fun _ H2 => H2 b = some ⟨[.int .i64 0], 27⟩ ∧ ∀ H3, Step (· = b) H2 H3 → K 0 H3)
        (fun v H2 => ∃ c, v = .iface 123 (.agg #[.int .i64 c]) ∧ H2 b = some ⟨[.int .i64 0], 27⟩ ∧ ∀ H3, Step (· = b) H2 H3 → K c H3) H1) :
    vouch_look.call g k E H K := by
  intro w hw
  subst hw
  have hmf : ∀ (fn : Fn) (first cap : Array Value) (w : World), (Instr.makeFunc fn first cap).run P0 w = .ok (.func fn first cap) w := fun _ _ _ _ => rfl
  refine calls_of_wp_defers Try.func47 rfl ?_
  apply wp_seq
  apply wp_region
  simp [wpOps, go_sem, Try.ntmps47, hmf]
  left
  apply wp_seq
  apply wp_region
  simp [wpOps, go_sem, Try.ntmps47, hmf, Exit.then]
  left
  left
  apply wp_seq
  apply wp_region
  simp [wpOps, go_sem, Try.ntmps47, hmf, Exit.then]
  left
  left
  rw [run_callFunc T0_ok hg]
  simp only [Oper.upon]
  have hs := hp_size w
  have e1 : hp (w.alloc (.cells #[.int .i64 0] 27)) w.heap.size = some ⟨[.int .i64 0], 27⟩ := by rw [hp_alloc]; exact upd_same
  have s1 : Step (fun _ => False) (hp w) (hp (w.alloc (.cells #[.int .i64 0] 27))) := by rw [hp_alloc]; exact Step.new hs
  have r1 : Rest w (w.alloc (.cells #[.int .i64 0] 27)) := rest_push w _
  refine (h _ _ hs e1 s1 _ rfl).mono ?_
  rintro e w2 ⟨r2, he⟩
  split at he
  · obtain ⟨e2, hk⟩ := he
    simp only [Oper.upon]
    have hc := cell_of_hp (w := w2) (b := w.heap.size) (o := 0) (v := .int .i64 0) (by rw [Hp.get_of e2]; rfl)
    have hz := frozen_of_hp (o := 0) e2 rfl
    have h3 := hp_setCell (o := 0) e2 (.int .i64 0)
    have e3 : hp (w2.setCell ⟨w.heap.size, 0, none⟩ (.int .i64 0)) w.heap.size = some ⟨[.int .i64 0], 27⟩ := by rw [h3, upd_same]; rfl
    have s3 : Step (· = w.heap.size) (hp w2) (hp (w2.setCell ⟨w.heap.size, 0, none⟩ (.int .i64 0))) := by rw [h3]; exact Step.wr e2 rfl
    apply wp_seq
    apply wp_region
    simp [wpOps, go_sem, Exit.then, hc, hz]
    left
    apply wp_ret
    simp only [bodyPostD]
    refine leaves_cons (f := 88) (args := #[.pointer (some ⟨w.heap.size, 0, none⟩)]) (by simp) (by simp [invoke, run_callFunc T0_ok (f := 88) rfl]) ?_
    refine (catch_idle ⟨w.heap.size, 0, none⟩ _).mono ?_
    rintro e u' w4 ⟨rfl, rfl, r4, s4⟩
    have e4 := s4.keep _ _ e3 fun h => h
    have hl := cell_of_hp (w := w4) (b := w.heap.size) (o := 0) (v := .int .i64 0) (by rw [Hp.get_of e4]; rfl)
    have hk' := hk _ (s3.trans (s4.weak fun _ h => h.elim) fun _ h => .inl h)
    have rr := ((r1.trans r2).trans (rest_setCell (o := 0) e2 (.int .i64 0))).trans r4
    simp [Leaves, settle, results, Try.results47, go_sem, hl]
    exact ⟨rr, hk'⟩
  · obtain ⟨hr, hgo, c, hv, e2, hk⟩ := he
    rename_i c0
    obtain ⟨v0, rec0, go0⟩ := c0
    simp only at hr hgo hv
    subst hr hgo hv
    simp only [Oper.upon, Exit.then, bodyPostD]
    refine leaves_cons (f := 88) (args := #[.pointer (some ⟨w.heap.size, 0, none⟩)]) (by simp) (by simp [invoke, run_callFunc T0_ok (f := 88) rfl]) ?_
    refine (catch_pan e2).mono ?_
    rintro e u' w4 ⟨rfl, rfl, r4, e4, s4⟩
    have hl := cell_of_hp (w := w4) (b := w.heap.size) (o := 0) (v := .int .i64 c) (by rw [Hp.get_of e4]; rfl)
    have hk' := hk _ s4
    have rr := (r1.trans r2).trans r4
    simp [Leaves, settle, results, Try.results47, go_sem, hl]
    exact ⟨rr, hk'⟩
  · exact he.elim
end Go.Mz
