/-
  Joined: VLook, VouA, VouB, VouC, VouD, VouE.
-/
import Derived.Test.YtbocpfdlfnodfaaTab
import Derived.Test.YtbocpfdlfnodfaaMzU
import Derived.Tactics
import Derived.Tactics2
import Derived.Defers
import Derived.Recover
import Derived.Laws.Pointers
import Derived.Test.YtbocpfdlfnodfaaPkM
import Derived.Test.YtbocpfdlfnodfaaGGra
import Derived.Test.YtbocpfdlfnodfaaGVoa
import Derived.Test.YtbocpfdlfnodfaaGVob
set_option linter.unusedSimpArgs false
set_option linter.unusedVariables false
/-
  look of the package vouch: it runs a function and answers the code that this gives up with by panic, or OK. Told of plain heaps; by the kit's laws of deferred calls.
-/
namespace Go.Mz
open Go.Proofs

theorem undR (w : World) : ∃ fs, (underlying 81).run P0 w = .ok (.struct fs) w := by
  obtain ⟨d, hd, e, _⟩ := (T0_ok.of_kinds (t := 81) (fun e => by cases e)).run_und
  obtain ⟨fs, rfl, _⟩ := dOf_st (d := d) (l := [(0, 27)]) (by rw [e]; rfl)
  exact ⟨fs, hd w⟩

theorem ta_hit (c : Int) (w : World) : (Instr.typeAssert (.iface 81 (.agg #[.int .i64 c])) 20 81 true).run P0 w = .ok (.tuple #[.agg #[.int .i64 c], .bool true]) w := by
  obtain ⟨fs, h⟩ := undR w
  simp [Instr.typeAssert, h]

theorem zeroR (w : World) : (zeroValue 81).run P0 w = .ok (.agg #[.int .i64 0]) w := by
  simp [go_sem]

theorem ta_nil (w : World) : (Instr.typeAssert .nilIface 20 81 true).run P0 w = .ok (.tuple #[.agg #[.int .i64 0], .bool false]) w := by
  obtain ⟨fs, h⟩ := undR w
  simp [Instr.typeAssert, h, zeroR]

theorem hp_alloc (w : World) (c : Array Value) (e : TypeId) : hp (w.alloc (.cells c e)) = (hp w).upd w.heap.size ⟨c.toList, e⟩ := hp_push w c e

theorem catch_pan {b : Nat} {x c : Int} {w : World} (hb : hp w b = some ⟨[.int .i64 x], 27⟩) :
    CallsD P0 49 #[.pointer (some ⟨b, 0, none⟩)] (.panicking [{ v := .iface 81 (.agg #[.int .i64 c]), recovered := false }]) w fun e u' w' =>
      e = .returned (.tuple #[]) ∧ u' = .panicking [{ v := .iface 81 (.agg #[.int .i64 c]), recovered := true }] ∧ Rest w w' ∧ hp w' b = some ⟨[.int .i64 c], 27⟩ ∧ Step (· = b) (hp w) (hp w') := by
  have hne : b ≠ w.heap.size := fun e => by have := hp_lt hb; omega
  have h1 : hp (w.alloc (.cells #[.int .i64 0] 81)) w.heap.size = some ⟨[.int .i64 0], 81⟩ := by rw [hp_alloc]; exact upd_same
  have h1b : hp (w.alloc (.cells #[.int .i64 0] 81)) b = some ⟨[.int .i64 x], 27⟩ := by rw [hp_alloc, upd_ne hne]; exact hb
  have h2 := hp_setCell (o := 0) h1 (.int .i64 c)
  have h2b : hp ((w.alloc (.cells #[.int .i64 0] 81)).setCell ⟨w.heap.size, 0, none⟩ (.int .i64 c)) b = some ⟨[.int .i64 x], 27⟩ := by rw [h2, upd_ne hne]; exact h1b
  have h3 := hp_setCell (o := 0) h2b (.int .i64 c)
  have hc := cell_of_hp (w := (w.alloc (.cells #[.int .i64 0] 81)).setCell ⟨w.heap.size, 0, none⟩ (.int .i64 c)) (b := b) (o := 0) (v := .int .i64 x) (by rw [Hp.get_of h2b]; rfl)
  have hz := frozen_of_hp (o := 0) h1b rfl
  refine CallsD.mono (R := fun e u' w' => e = .returned (.tuple #[]) ∧ u' = .panicking [{ v := .iface 81 (.agg #[.int .i64 c]), recovered := true }] ∧ w' = ((w.alloc (.cells #[.int .i64 0] 81)).setCell ⟨w.heap.size, 0, none⟩ (.int .i64 c)).setCell ⟨b, 0, none⟩ (.int .i64 c)) ?_ ?_
  · refine callsD_of_wpS Try.func49 rfl fun c₀ cs hu => ?_
    apply wpS_seq
    apply wpS_region
    simp [wpOpsS, go_sem, recoverD, hu, Try.ntmps49, Exit.thenS, ta_hit]
    apply wpS_seq
    apply wpS_region
    simp [wpOpsS, go_sem, Exit.thenS]
    refine wpS_cond (t := true) (by simp [Act.eval, Array.replicate]) ?_
    simp only [if_true]
    apply wpS_region
    simp [wpOpsS, go_sem, hc, hz, bodyPostS, results, Try.results49]
  · rintro e u' w' ⟨rfl, rfl, rfl⟩
    refine ⟨rfl, rfl, ((rest_push w _).trans (rest_setCell h1 _)).trans (rest_setCell h2b _), by rw [h3, upd_same]; rfl, ?_⟩
    rw [h3]
    have s1 : Step (fun _ => False) (hp w) (hp (w.alloc (.cells #[.int .i64 0] 81))) := by rw [hp_alloc]; exact Step.new (hp_size w)
    have s2 : Step (· = w.heap.size) (hp (w.alloc (.cells #[.int .i64 0] 81))) (hp ((w.alloc (.cells #[.int .i64 0] 81)).setCell ⟨w.heap.size, 0, none⟩ (.int .i64 c))) := by rw [h2]; exact Step.wr h1 rfl
    exact ((s1.weak fun _ h => h.elim).trans s2 fun b' hb' => .inr (hb' ▸ hp_size w)).trans (Step.wr (F := (· = b)) h2b rfl) fun _ h => .inl h

theorem catch_idle (p : Addr) (w : World) :
    CallsD P0 49 #[.pointer (some p)] .returning w fun e u' w' => e = .returned (.tuple #[]) ∧ u' = .returning ∧ Rest w w' ∧ Step (fun _ => False) (hp w) (hp w') := by
  refine CallsD.mono (R := fun e u' w' => e = .returned (.tuple #[]) ∧ u' = .returning ∧ w' = (w.alloc (.cells #[.int .i64 0] 81)).setCell ⟨w.heap.size, 0, none⟩ (.int .i64 0)) ?_ ?_
  · refine callsD_of_wpS Try.func49 rfl fun c₀ cs hu => ?_
    apply wpS_seq
    apply wpS_region
    simp [wpOpsS, go_sem, recoverD, hu, Try.ntmps49, Exit.thenS, ta_nil]
    apply wpS_seq
    apply wpS_region
    simp [wpOpsS, go_sem, Exit.thenS]
    refine wpS_cond (t := false) (by simp [Act.eval, Array.replicate]) ?_
    simp only [Bool.false_eq_true, if_false]
    refine wpS_of_wp (wp_skip ?_)
    cases c₀
    simp_all [bodyPostS, results, Try.results49]
  · rintro e u' w' ⟨rfl, rfl, rfl⟩
    have h1 : hp (w.alloc (.cells #[.int .i64 0] 81)) w.heap.size = some ⟨[.int .i64 0], 81⟩ := by rw [hp_alloc]; exact upd_same
    refine ⟨rfl, rfl, (rest_push w _).trans (rest_setCell h1 _), ?_⟩
    have s1 : Step (fun _ => False) (hp w) (hp (w.alloc (.cells #[.int .i64 0] 81))) := by rw [hp_alloc]; exact Step.new (hp_size w)
    have s2 : Step (· = w.heap.size) (hp (w.alloc (.cells #[.int .i64 0] 81))) (hp ((w.alloc (.cells #[.int .i64 0] 81)).setCell ⟨w.heap.size, 0, none⟩ (.int .i64 0))) := by rw [hp_setCell h1]; exact Step.wr h1 rfl
    exact (s1.weak fun _ h => h.elim).trans s2 fun b' hb' => .inr (hb' ▸ hp_size w)

/-- what a look answers: its function's own code, or OK -/
theorem vlook {g : Nat} {k : List Value} {E : Value → Hp → Prop} {H : Hp} {K : Int → Hp → Prop} (hg : T0.fok g = true)
    (h : ∀ b H1, H b = none → H1 b = some ⟨[.int .i64 0], 27⟩ → Step (fun _ => False) H H1 →
      callW P0 g k (fun _ H2 => H2 b = some ⟨[.int .i64 0], 27⟩ ∧ ∀ H3, Step (· = b) H2 H3 → K 0 H3)
        (fun v H2 => ∃ c, v = .iface 81 (.agg #[.int .i64 c]) ∧ H2 b = some ⟨[.int .i64 0], 27⟩ ∧ ∀ H3, Step (· = b) H2 H3 → K c H3) H1) :
    vouch_look.call g k E H K := by
  intro w hw
  subst hw
  have hmf : ∀ (fn : Fn) (first cap : Array Value) (w : World), (Instr.makeFunc fn first cap).run P0 w = .ok (.func fn first cap) w := fun _ _ _ _ => rfl
  refine calls_of_wp_defers Try.func28 rfl ?_
  apply wp_seq
  apply wp_region
  simp [wpOps, go_sem, Try.ntmps28, hmf]
  left
  apply wp_seq
  apply wp_region
  simp [wpOps, go_sem, Try.ntmps28, hmf, Exit.then]
  left
  left
  apply wp_seq
  apply wp_region
  simp [wpOps, go_sem, Try.ntmps28, hmf, Exit.then]
  left
  left
  rw [run_callFunc T0_ok hg]
  simp only [Oper.upon]
  have hs := hp_size w
  have e1 : hp (w.alloc (.cells #[.int .i64 0] 27)) w.heap.size = some ⟨[.int .i64 0], 27⟩ := by rw [hp_alloc]; exact upd_same
  have s1 : Step (fun _ => False) (hp w) (hp (w.alloc (.cells #[.int .i64 0] 27))) := by rw [hp_alloc]; exact Step.new hs
  have r1 : Rest w (w.alloc (.cells #[.int .i64 0] 27)) := rest_push w _
  refine (h _ _ hs e1 s1 _ rfl).mono ?_
  rintro e w2 ⟨r2, he⟩
  split at he
  · obtain ⟨e2, hk⟩ := he
    simp only [Oper.upon]
    have hc := cell_of_hp (w := w2) (b := w.heap.size) (o := 0) (v := .int .i64 0) (by rw [Hp.get_of e2]; rfl)
    have hz := frozen_of_hp (o := 0) e2 rfl
    have h3 := hp_setCell (o := 0) e2 (.int .i64 0)
    have e3 : hp (w2.setCell ⟨w.heap.size, 0, none⟩ (.int .i64 0)) w.heap.size = some ⟨[.int .i64 0], 27⟩ := by rw [h3, upd_same]; rfl
    have s3 : Step (· = w.heap.size) (hp w2) (hp (w2.setCell ⟨w.heap.size, 0, none⟩ (.int .i64 0))) := by rw [h3]; exact Step.wr e2 rfl
    apply wp_seq
    apply wp_region
    simp [wpOps, go_sem, Exit.then, hc, hz]
    left
    apply wp_ret
    simp only [bodyPostD]
    refine leaves_cons (f := 49) (args := #[.pointer (some ⟨w.heap.size, 0, none⟩)]) (by simp) (by simp [invoke, run_callFunc T0_ok (f := 49) rfl]) ?_
    refine (catch_idle ⟨w.heap.size, 0, none⟩ _).mono ?_
    rintro e u' w4 ⟨rfl, rfl, r4, s4⟩
    have e4 := s4.keep _ _ e3 fun h => h
    have hl := cell_of_hp (w := w4) (b := w.heap.size) (o := 0) (v := .int .i64 0) (by rw [Hp.get_of e4]; rfl)
    have hk' := hk _ (s3.trans (s4.weak fun _ h => h.elim) fun _ h => .inl h)
    have rr := ((r1.trans r2).trans (rest_setCell (o := 0) e2 (.int .i64 0))).trans r4
    simp [Leaves, settle, results, Try.results28, go_sem, hl]
    exact ⟨rr, hk'⟩
  · obtain ⟨hr, hgo, c, hv, e2, hk⟩ := he
    rename_i c0
    obtain ⟨v0, rec0, go0⟩ := c0
    simp only at hr hgo hv
    subst hr hgo hv
    simp only [Oper.upon, Exit.then, bodyPostD]
    refine leaves_cons (f := 49) (args := #[.pointer (some ⟨w.heap.size, 0, none⟩)]) (by simp) (by simp [invoke, run_callFunc T0_ok (f := 49) rfl]) ?_
    refine (catch_pan e2).mono ?_
    rintro e u' w4 ⟨rfl, rfl, r4, e4, s4⟩
    have hl := cell_of_hp (w := w4) (b := w.heap.size) (o := 0) (v := .int .i64 c) (by rw [Hp.get_of e4]; rfl)
    have hk' := hk _ s4
    have rr := (r1.trans r2).trans r4
    simp [Leaves, settle, results, Try.results28, go_sem, hl]
    exact ⟨rr, hk'⟩
  · exact he.elim
end Go.Mz

/-
  Walks of layer 12, the first: Check, need, right, rising, loop, one, cost, marked.
-/
namespace Go.Mz
section
variable {E : Value → Hp → Prop}

theorem glabel {a b c d : Int} {H : Hp} {K : Bool → Hp → Prop} (k : ∀ H', Step (fun _ => False) H H' → K (decide (0 ≤ c ∧ c ≤ 1048576 ∧ -1048576 ≤ d ∧ d ≤ 1048576)) H') : graph_label.call a b c d E H K := by
  refine graph_label.of (graph_label.run_eq ?_)
  unfold graph_label.run_t
  refine nwk fun b1 H1 hb1 e1 s1 => ?_
  simp only [get_at e1, List.getElem?_cons_zero, List.getElem?_cons_succ, ldI_mk]
  have k := k H1 s1
  refine bc (fun h0 => ?_) fun h0 => ?_
  · refine bc (fun h1 => ?_) fun h1 => ?_
    · refine bc (fun h2 => ?_) fun h2 => ?_
      · by_cases h3 : d ≤ 1048576
        · rw [decide_eq_true h3]; rwa [decide_eq_true (by omega)] at k
        · rw [decide_eq_false h3]; rwa [decide_eq_false (by omega)] at k
      · rwa [decide_eq_false (by omega)] at k
    · rwa [decide_eq_false (by omega)] at k
  · rwa [decide_eq_false (by omega)] at k

theorem gcheckA {N : Int} {p : Option Addr} {n c : Nat} {e : Nat → Edg} {H : Hp} {K : Int → Int → Hp → Prop} (he : Rdr H p n e) (hn : n < 2 ^ 63)
    (k : ∀ H' a, Step (fun _ => False) H H' → ChkAt N n e a → K (chk N n e) a H') : graph_Check.call N p n c E H K := by
  refine graph_Check.of (graph_Check.run_eq ?_)
  unfold graph_Check.run_t
  refine nwk fun b1 H1 hb1 e1 s1 => ?_
  refine nwk fun b2 H2 hb2 e2 s2 => ?_
  have e1 := s2.keep _ _ e1 fun h => h
  have s02 := s1.trans s2 fun _ h => .inl h
  have f2 : H b2 = none := s1.mono _ hb2
  simp only [get_at e1, List.getElem?_cons_zero, List.getElem?_cons_succ, ldI_mk, ldS_mk]
  have bad : (N < 0 ∨ 1024 < N ∨ 4096 < n) → graph_Check.j1 b2 E H2 K := fun hs => by
    have hc : 3 = chk N n e := by unfold chk; rw [if_pos hs]
    refine graph_Check.j1_eq ?_
    unfold graph_Check.j1_t
    refine stk e2 rfl rfl fun H3 e3 s3 => ?_
    simp only [get_at e3, List.getElem?_cons_zero, List.getElem?_cons_succ, ldI_mk]
    rw [hc]
    exact k _ _ (s02.own s3 fun b hb => hb ▸ f2) (ChkAt.none (.inl hs))
  refine bc (fun h => bad (by omega)) fun h1 => ?_
  refine bc (fun h => bad (by omega)) fun h2 => ?_
  refine bc (fun h => bad (by omega)) fun h3 => ?_
  have hc : chk N n e = chkE N e n := by unfold chk; rw [if_neg (by omega)]
  refine graph_Check.l1_rule (fun g1 t2 tp tn tc t22 t23 H' => b1 = g1 ∧ b2 = t2 ∧ p = tp ∧ n = tn ∧ t22 = n ∧ ∃ i : Nat, t23 = i ∧ i ≤ n ∧ chkE N e i = 0 ∧ Step (fun _ => False) H H' ∧ H' b1 = some ⟨[.int .i64 N, .slice p n c], 24⟩ ∧ H' b2 = some ⟨[.int .i64 0, .int .i64 0], 65⟩)
    (fun g1 t2 tp tn tc t22 t23 H' => n - t23.toNat) ?_ ⟨rfl, rfl, rfl, rfl, rfl, 0, rfl, by omega, rfl, s02, e1, e2⟩
  clear e1 e2 s1 s2 s02 bad hb2
  rintro g1 t2 tp tn tc t22 t23 H3 ⟨rfl, rfl, rfl, rfl, rfl, i, rfl, hi, hz, s3, e1, e2⟩ X hX
  refine graph_Check.b1_eq ?_
  unfold graph_Check.b1_t
  refine bc (fun hlt => ?_) fun hge => ?_
  · refine (he.keep s3 fun _ _ _ h => h).edge (by omega) (by omega) ?_
    simp only [Int.toNat_natCast]
    refine nwst rfl rfl fun b4 H4 hb4 e4 s4 => ?_
    have e1 := s4.keep _ _ e1 fun h => h
    have e2 := s4.keep _ _ e2 fun h => h
    have s04 := s3.trans s4 fun _ h => .inl h
    simp only [get_at e4, get_at e1, List.getElem?_cons_zero, List.getElem?_cons_succ, ldI_mk, ldS_mk]
    have fin : ∀ d : Nat, n = i + 1 + d → ∀ z, badE N (e i) = z → z ≠ 0 → chk N n e = z := fun d hd z hb hz' => by
      have h1 : chkE N e (i + 1) = z := by
        show (if chkE N e i = 0 then badE N (e i) else chkE N e i) = z
        rw [if_pos hz, hb]
      rw [hc, hd, chkE_stay (by rw [h1]; exact hz'), h1]
    have bad : ((e i).fr < 0 ∨ N ≤ (e i).fr ∨ (e i).to < 0 ∨ N ≤ (e i).to) → graph_Check.j2 b2 (i : Int) X E H4 K := fun hb => by
      refine graph_Check.j2_eq ?_
      unfold graph_Check.j2_t
      refine stk e2 rfl rfl fun H5 e5 s5 => ?_
      simp only [get_at e5, List.getElem?_cons_zero, List.getElem?_cons_succ, ldI_mk]
      have := k H5 i (s04.own s5 fun b hb => hb ▸ f2) (ChkAt.here (by omega) (by omega) hz (by unfold badE; rw [if_pos hb]; decide))
      rwa [fin (n - (i + 1)) (by omega) 30 (by unfold badE; rw [if_pos hb]) (by decide)] at this
    refine bc (fun h => bad (.inl h)) fun c1 => ?_
    refine bc (fun h => bad (.inr (.inl h))) fun c2 => ?_
    refine bc (fun h => bad (.inr (.inr (.inl h)))) fun c3 => ?_
    refine bc (fun h => bad (.inr (.inr (.inr h)))) fun c4 => ?_
    refine glabel fun H5 s5 => ?_
    have e2 := s5.keep _ _ e2 fun h => h
    have e1 := s5.keep _ _ e1 fun h => h
    have s05 := s04.trans s5 fun _ h => .inl h
    refine bcn (fun hl => ?_) fun hl => ?_
    · refine stk e2 rfl rfl fun H6 e6 s6 => ?_
      simp only [get_at e6, List.getElem?_cons_zero, List.getElem?_cons_succ, ldI_mk]
      have := k H6 i (s05.own s6 fun b hb => hb ▸ f2) (ChkAt.here (by omega) (by omega) hz (by unfold badE; rw [if_neg (by omega), if_neg hl]; decide))
      rwa [fin (n - (i + 1)) (by omega) 31 (by unfold badE; rw [if_neg (by omega), if_neg hl]) (by decide)] at this
    · rw [i64w (by omega) (by omega)]
      refine hX _ _ _ _ _ _ _ _ ⟨rfl, rfl, rfl, rfl, rfl, i + 1, by omega, by omega, ?_, s05, e1, e2⟩ (by omega)
      show (if chkE N e i = 0 then badE N (e i) else chkE N e i) = 0
      rw [if_pos hz]; unfold badE; rw [if_neg (by omega), if_pos hl]
  · refine graph_Check.j3_eq ?_
    unfold graph_Check.j3_t
    have : i = n := by omega
    subst this
    refine stk e2 rfl rfl fun H5 e5 s5 => ?_
    simp only [get_at e5, List.getElem?_cons_zero, List.getElem?_cons_succ, ldI_mk]
    have := k H5 0 (s3.own s5 fun b hb => hb ▸ f2) (ChkAt.none (.inr hz))
    rwa [hc, hz] at this

theorem gcheck {N : Int} {p : Option Addr} {n c : Nat} {e : Nat → Edg} {H : Hp} {K : Int → Int → Hp → Prop} (he : Rdr H p n e) (hn : n < 2 ^ 63)
    (k : ∀ H' a, Step (fun _ => False) H H' → K (chk N n e) a H') : graph_Check.call N p n c E H K := gcheckA he hn fun H' a s _ => k H' a s

/-- what a refusal panics with -/
def pv (c : Int) : Value := .iface 81 (.agg ⟨[.int .i64 c]⟩)

theorem vneed {ok : Bool} {c : Int} {H : Hp} {K : Hp → Prop} (k : ok = true → K H) (e : ok = false → E (pv c) H) : vouch_need.call ok c E H K := by
  refine vouch_need.of (vouch_need.run_eq ?_)
  unfold vouch_need.run_t
  cases ok with
  | true => exact k rfl
  | false => exact e rfl

theorem vneedD {p : Prop} [Decidable p] {c : Int} {H : Hp} {K : Hp → Prop} (k : p → K H) (e : ¬ p → E (pv c) H) : vouch_need.call (decide p) c E H K :=
  vneed (fun h => k (of_decide_eq_true h)) fun h => e (of_decide_eq_false h)

theorem vright {N : Int} {p : Option Addr} {n c : Nat} {e : Nat → Edg} {H : Hp} {K : Hp → Prop} (he : Rdr H p n e) (hn : n < 2 ^ 63)
    (k : ∀ H', Step (fun _ => False) H H' → Right N n e → K H') (b : ∀ H', Step (fun _ => False) H H' → chk N n e ≠ 0 → E (pv (chk N n e)) H') : vouch_right.call N p n c E H K := by
  refine vouch_right.of (vouch_right.run_eq ?_)
  unfold vouch_right.run_t
  refine nwk fun b1 H1 hb1 e1 s1 => ?_
  simp only [get_at e1, List.getElem?_cons_zero, List.getElem?_cons_succ, ldI_mk, ldS_mk]
  refine gcheck (he.keep s1 fun _ _ _ h => h) hn fun H2 a s2 => ?_
  refine nwst rfl rfl fun b3 H3 hb3 e3 s3 => ?_
  simp only [get_at e3, List.getElem?_cons_zero, List.getElem?_cons_succ, ldI_mk, ldS_mk]
  have s03 := (s1.trans s2 fun _ h => .inl h).trans s3 fun _ h => .inl h
  exact vneedD (fun h => k _ s03 (chk_zero.1 h)) fun h => b _ s03 h

theorem vrising {p : Option Addr} {k c : Nat} {n : Int} {m : Nat → Int} {H : Hp} {K : Hp → Prop} (hm : Rdr H p k m) (hk : k < 2 ^ 63)
    (kk : Ris m k n → K H) (b : ¬ Ris m k n → E (pv 221) H) : vouch_rising.call p k c n E H K := by
  refine vouch_rising.of (vouch_rising.run_eq ?_)
  unfold vouch_rising.run_t
  refine vouch_rising.l1_rule (fun n1 last tp tn tc t8 t9 H' => n = n1 ∧ p = tp ∧ k = tn ∧ t8 = k ∧ H = H' ∧ ∃ i : Nat, t9 = i ∧ i ≤ k ∧ Ris m i n ∧ last = if i = 0 then -1 else m (i - 1))
    (fun n1 last tp tn tc t8 t9 H' => k - t9.toNat) ?_ ⟨rfl, rfl, rfl, rfl, rfl, 0, rfl, by omega, fun i hi => by omega, rfl⟩
  rintro n1 last tp tn tc t8 t9 H' ⟨rfl, rfl, rfl, rfl, rfl, i, rfl, hi, hr, rfl⟩ X hX
  refine vouch_rising.b1_eq ?_
  unfold vouch_rising.b1_t
  refine bc (fun hlt => ?_) fun hge => ?_
  · refine hm.ixI (by omega) (by omega) ?_
    simp only [Int.toNat_natCast]
    refine bc (fun h1 => ?_) fun h1 => ?_
    · refine vneedD (fun h2 => ?_) fun h2 => b fun hh => h2 (hh i (by omega)).2.1
      refine vouch_rising.j1_eq ?_
      unfold vouch_rising.j1_t
      rw [i64w (by omega) (by omega)]
      refine hX _ _ _ _ _ _ _ _ ⟨rfl, rfl, rfl, rfl, rfl, i + 1, by omega, by omega, fun j hj => ?_, by simp⟩ (by omega)
      by_cases e : j = i
      · subst e
        split at h1
        · rename_i e0; subst e0; exact ⟨by omega, h2, fun h => by omega⟩
        · have := (hr (j - 1) (by omega)).1
          exact ⟨by omega, h2, fun _ => h1⟩
      · exact hr j (by omega)
    · refine vneed (fun h => by cases h) fun _ => b fun hh => h1 ?_
      have := hh i (by omega)
      split
      · omega
      · exact this.2.2 (by omega)
  · have : i = k := by omega
    subst this
    exact kk hr

theorem vloop {a b c d : Int} {H : Hp} {K : Bool → Hp → Prop} (k : ∀ H', Step (fun _ => False) H H' → K (decide (a = b)) H') : vouch_loop.call a b c d E H K := by
  refine vouch_loop.of (vouch_loop.run_eq ?_)
  unfold vouch_loop.run_t
  refine nwk fun b1 H1 hb1 e1 s1 => ?_
  simp only [get_at e1, List.getElem?_cons_zero, List.getElem?_cons_succ, ldI_mk]
  exact k _ s1

open Classical in
theorem vmarked {p : Option Addr} {k c : Nat} {n : Int} {m : Nat → Int} {H : Hp} {K : Option Addr → Nat → Nat → Hp → Prop} (hm : Rdr H p k m) (hk : k < 2 ^ 63) (h0 : 0 ≤ n) (h1 : n ≤ 1048576)
    (kk : ∀ b H', Ris m k n → Step (fun _ => False) H H' → H b = none → Row H' (some ⟨b, 0, none⟩) n.toNat n.toNat (fun v => decide (In m k v)) → K (some ⟨b, 0, none⟩) n.toNat n.toNat H')
    (bad : ¬ Ris m k n → E (pv 221) H) : vouch_marked.call p k c n E H K := by
  refine vouch_marked.of (vouch_marked.run_eq ?_)
  unfold vouch_marked.run_t
  refine vrising hm hk (fun hr => ?_) bad
  refine Row.mkB h0 h1 fun b H1 hb r1 s1 => ?_
  refine vouch_marked.l1_rule (fun ip inn ic tp tn tc t14 t15 H' => ip = some ⟨b, 0, none⟩ ∧ inn = n.toNat ∧ ic = n.toNat ∧ p = tp ∧ k = tn ∧ t14 = k ∧ ∃ i : Nat, t15 = i ∧ i ≤ k ∧ Step (fun _ => False) H H' ∧ Row H' (some ⟨b, 0, none⟩) n.toNat n.toNat (fun v => decide (In m i v)))
    (fun ip inn ic tp tn tc t14 t15 H' => k - t15.toNat) ?_ ⟨rfl, rfl, rfl, rfl, rfl, rfl, 0, rfl, by omega, s1, r1.congr fun v _ => by simp [In]⟩
  clear r1 s1
  rintro ip inn ic tp tn tc t14 t15 H2 ⟨rfl, rfl, rfl, rfl, rfl, rfl, i, rfl, hi, s2, r2⟩ X hX
  refine vouch_marked.b1_eq ?_
  unfold vouch_marked.b1_t
  refine bc (fun hlt => ?_) fun hge => ?_
  · refine (hm.keep s2 fun _ _ _ h => h).ixI (by omega) (by omega) ?_
    simp only [Int.toNat_natCast]
    have hmi := hr i (by omega)
    refine r2.stB (by omega) (by omega) true fun H3 r3 s3 => ?_
    rw [i64w (by omega) (by omega)]
    refine hX _ _ _ _ _ _ _ _ _ ⟨rfl, rfl, rfl, rfl, rfl, rfl, i + 1, by omega, by omega, s2.own s3 fun b' hb' => by rw [fpS_mk] at hb'; exact hb' ▸ hb, r3.congr fun v hv => ?_⟩ (by omega)
    by_cases e : v = (m i).toNat
    · subst e
      rw [upf_same]
      exact (decide_eq_true ⟨i, by omega, by omega⟩).symm
    · rw [upf_ne e]
      refine decide_eq_decide.2 ⟨fun ⟨j, hj, h⟩ => ⟨j, by omega, h⟩, fun ⟨j, hj, h⟩ => ?_⟩
      by_cases ej : j = i
      · subst ej; omega
      · exact ⟨j, by omega, h⟩
  · have : i = k := by omega
    subst this
    exact kk _ _ hr s2 hb r2

end
end Go.Mz

/-
  Walks of layer 12, more: matched.
-/
namespace Go.Mz
section
variable {E : Value → Hp → Prop}

/-- a function of nodes, called as a value: it answers most and turns nothing -/
def Fun1 (E : Value → Hp → Prop) (H : Hp) (g : Nat) (gk : List Value) (N : Int) (most : Int → Int) : Prop :=
  T0.fok g = true ∧ ∀ (v : Int) (H1 : Hp) (K : Value → Hp → Prop), 0 ≤ v → v < N → Step (fun _ => False) H H1 → (∀ H2, Step (fun _ => False) H1 H2 → K (.int .i64 (most v)) H2) → callW P0 g (.int .i64 v :: gk) K E H1

theorem ldR_int {x : Int} {K : Value → Prop} (k : K (.int .i64 x)) : ldR (.one false [.i .i64]) (.int .i64 x) K := k

theorem asR_int {r : Value} {K : Int → Prop} (h : ldR (.one false [.i .i64]) r fun u => K (asI u)) : ∃ n, r = .int .i64 n ∧ K n := by
  have h' : ldI .i64 (some r) (fun n => K (asI (.int .i64 n))) := h
  obtain ⟨n, e, hk⟩ := ldI_spec h'
  cases e
  exact ⟨n, rfl, hk⟩

def dgs (e : Nat → Edg) (m : Nat → Int) (i : Nat) (t : Int) (v : Int) : Nat :=
  dg e m i v + (if 1 ≤ t ∧ (e (m i).toNat).fr = v then 1 else 0) + (if 2 ≤ t ∧ (e (m i).toNat).to = v then 1 else 0)

theorem dgs_le {e : Nat → Edg} {m : Nat → Int} {i : Nat} {t v : Int} : dgs e m i t v ≤ dg e m (i + 1) v := by
  show dgs e m i t v ≤ dg e m i v + _ + _
  unfold dgs
  split <;> split <;> split <;> split <;> simp_all <;> omega

theorem dgs_bound {e : Nat → Edg} {m : Nat → Int} {i : Nat} {t v : Int} : dgs e m i t v ≤ 2 * (i + 1) := Nat.le_trans dgs_le (dg_le (i + 1))

theorem vmatched {N : Int} {ep : Option Addr} {n ec : Nat} {e : Nat → Edg} {p : Option Addr} {k c : Nat} {m : Nat → Int} {mg : Nat} {mk : List Value} {most : Int → Int} {H : Hp} {K : Hp → Prop}
    (he : Rdr H ep n e) (hr : Right N n e) (hm : Rdr H p k m) (hk : k < 2 ^ 63) (hf : Fun1 E H mg mk N most)
    (kk : ∀ H', Step (fun _ => False) H H' → Tkn N n e m k most → K H') (bad : ∀ H', Step (fun _ => False) H H' → ¬ Tkn N n e m k most → E (pv 221) H') :
    vouch_matched.call N ep n ec p k c mg mk E H K := by
  have hN0 := hr.N0
  have hN1 := hr.N1
  have hn1 := hr.n1
  refine vouch_matched.of (vouch_matched.run_eq ?_)
  unfold vouch_matched.run_t
  refine nwk fun b1 H1 hb1 e1 s1 => ?_
  simp only [get_at e1, List.getElem?_cons_zero, List.getElem?_cons_succ, ldS_mk]
  refine vrising (hm.keep s1 fun _ _ _ h => h) hk (fun hs => ?_) fun hb => bad _ s1 fun h => hb h.ris
  have hl := hs.len
  simp only [get_at e1, List.getElem?_cons_zero, List.getElem?_cons_succ, ldI_mk]
  refine Row.mkI hN0 (by omega) fun b2 H2 hb2 r2 s2 => ?_
  have e12 := s2.keep _ _ e1 fun h => h
  have ne : b1 ≠ b2 := ne_of_live hb2 (by rw [e1]; exact fun h => by cases h)
  have f2 : H b2 = none := s1.mono _ hb2
  have fp2 : ∀ b, fpS (some ⟨b2, 0, none⟩) b → H b = none := fun b hb => by rw [fpS_mk] at hb; exact hb ▸ f2
  refine vouch_matched.l1_rule (fun g mk' g3 ap an ac tp tn tc t21 t22 H' => mg = g ∧ mk = mk' ∧ b1 = g3 ∧ ap = some ⟨b2, 0, none⟩ ∧ an = N.toNat ∧ ac = N.toNat ∧ p = tp ∧ k = tn ∧ t21 = k ∧
      ∃ i : Nat, t22 = i ∧ i ≤ k ∧ Step (fun _ => False) H H' ∧ H' b1 = some ⟨[.int .i64 N, .slice ep n ec], 24⟩ ∧ Row H' (some ⟨b2, 0, none⟩) N.toNat N.toNat (fun v => (dg e m i v : Int)) ∧ Tkn N n e m i most)
    (fun g mk' g3 ap an ac tp tn tc t21 t22 H' => k - t22.toNat) ?_ ⟨rfl, rfl, rfl, rfl, rfl, rfl, rfl, rfl, rfl, 0, rfl, by omega, s1.and s2, e12, r2, ⟨hs.cut (by omega), fun i hi => by omega, fun v _ _ h => by cases h⟩⟩
  clear r2 e12 s2 hb2 e1 s1
  rintro g mk' g3 ap an ac tp tn tc t21 t22 H3 ⟨rfl, rfl, rfl, rfl, rfl, rfl, rfl, rfl, rfl, i, rfl, hi, s3, e3, r3, tk⟩ X hX
  refine vouch_matched.b1_eq ?_
  unfold vouch_matched.b1_t
  refine bc (fun hlt => ?_) fun hge => ?_
  · refine (hm.keep s3 fun _ _ _ h => h).ixI (by omega) (by omega) ?_
    simp only [Int.toNat_natCast, get_at e3, List.getElem?_cons_zero, List.getElem?_cons_succ, ldI_mk, ldS_mk]
    have hmi := hs i (by omega)
    refine (he.keep s3 fun _ _ _ h => h).edge (by omega) (by omega) ?_
    refine nwst rfl rfl fun b4 H4 hb4 e4 s4 => ?_
    simp only [get_at e4, List.getElem?_cons_zero, List.getElem?_cons_succ, ldI_mk]
    refine vloop fun H5 s5 => ?_
    have s35 := s4.and s5
    refine vneed (fun hno => ?_) fun hyes => bad _ (s3.and s35) fun h => h.nl i (by omega) (by show (e (m i).toNat).fr = (e (m i).toNat).to; simpa using hyes)
    have hnl : ¬ lp (e (m i).toNat) := by show ¬ (e (m i).toNat).fr = (e (m i).toNat).to; simpa using hno
    have e45 := s5.keep _ _ e4 fun h => h
    simp only [get_at e45, List.getElem?_cons_zero, List.getElem?_cons_succ, ldI_mk]
    have hx := hr.ed (m i).toNat (by omega)
    have hf0 := hx.f0; have hf1 := hx.f1; have ht0 := hx.t0; have ht1 := hx.t1
    generalize hfr : (e (m i).toNat).fr = fr at *
    generalize hto : (e (m i).toNat).to = to at *
    refine vouch_matched.l2_rule (fun g mk' g3 ap an ac tp tn tc t21 t22 y0 y1 t40 H' => mg = g ∧ mk = mk' ∧ b1 = g3 ∧ ap = some ⟨b2, 0, none⟩ ∧ an = N.toNat ∧ ac = N.toNat ∧ p = tp ∧ k = tn ∧ t21 = k ∧ t22 = i ∧ fr = y0 ∧ to = y1 ∧
        ∃ t : Nat, t40 = t ∧ t ≤ 2 ∧ Step (fun _ => False) H H' ∧ H' b1 = some ⟨[.int .i64 N, .slice ep n ec], 24⟩ ∧ Row H' (some ⟨b2, 0, none⟩) N.toNat N.toNat (fun v => (dgs e m i t v : Int)) ∧ (1 ≤ t → (dgs e m i t fr : Int) ≤ most fr) ∧ (2 ≤ t → (dgs e m i t to : Int) ≤ most to))
      (fun g mk' g3 ap an ac tp tn tc t21 t22 y0 y1 t40 H' => 2 - t40.toNat) ?_ ⟨rfl, rfl, rfl, rfl, rfl, rfl, rfl, rfl, rfl, rfl, rfl, rfl, 0, rfl, by omega, s3.and s35, s35.keep _ _ e3 fun h => h, (r3.keep s35 fun _ _ h => h).congr fun v hv => by simp [dgs], fun h => by omega, fun h => by omega⟩
    clear r3 e3 e4 e45 s35 s4 s5 hb4
    rintro g mk' g3 ap an ac tp tn tc t21 t22 y0 y1 t40 H6 ⟨rfl, rfl, rfl, rfl, rfl, rfl, rfl, rfl, rfl, rfl, rfl, rfl, t, rfl, ht, s6, e6, r6, q1, q2⟩ Y hY
    refine vouch_matched.b2_eq ?_
    unfold vouch_matched.b2_t
    refine bc (fun hlt2 => ?_) fun hge2 => ?_
    · refine ⟨⟨by omega, by omega⟩, ?_⟩
      -- the end at hand
      obtain ⟨y, hy, y0', y1', hyd⟩ : ∃ y, [Value.int .i64 fr, Value.int .i64 to][(t : Int).toNat]? = some (.int .i64 y) ∧ 0 ≤ y ∧ y < N ∧ ((t = 0 ∧ y = fr) ∨ (t = 1 ∧ y = to)) := by
        have : t = 0 ∨ t = 1 := by omega
        rcases this with rfl | rfl
        · exact ⟨fr, rfl, hf0, hf1, .inl ⟨rfl, rfl⟩⟩
        · exact ⟨to, rfl, ht0, ht1, .inr ⟨rfl, rfl⟩⟩
      rw [hy]
      simp only [ldI_mk]
      refine r6.ixI (by omega) (by omega) ?_
      have hb := dgs_bound (e := e) (m := m) (i := i) (t := t) (v := (y.toNat : Int))
      rw [i64w (by omega) (by omega)]
      refine r6.stI (by omega) (by omega) _ fun H7 r7 s7 => ?_
      have hst : ∀ v : Nat, (upf (fun v : Nat => (dgs e m i t v : Int)) y.toNat ((dgs e m i t (y.toNat : Int) : Int) + 1)) v = (dgs e m i ((t + 1 : Nat) : Int) v : Int) := by
        intro v
        have hyv : (v = y.toNat) ↔ (y = (v : Int)) := by omega
        unfold upf
        rcases hyd with ⟨rfl, rfl⟩ | ⟨rfl, rfl⟩
        · by_cases h : v = y.toNat
          · subst h
            rw [if_pos rfl]
            unfold dgs
            rw [hfr, hto]
            simp [show (y.toNat : Int) = y by omega]
          · rw [if_neg h]
            unfold dgs
            rw [hfr, hto]
            have : ¬ y = (v : Int) := fun h' => h (hyv.2 h')
            simp [this]
        · by_cases h : v = y.toNat
          · subst h
            rw [if_pos rfl]
            unfold dgs
            rw [hfr, hto]
            simp [show (y.toNat : Int) = y by omega]
          · rw [if_neg h]
            unfold dgs
            rw [hfr, hto]
            have : ¬ y = (v : Int) := fun h' => h (hyv.2 h')
            simp [this]
      have r7 := r7.congr fun v _ => hst v
      have s07 := s6.own s7 fp2
      have e7 := s7.keep _ _ e6 (by rw [fpS_mk]; exact ne)
      have ey : ((y.toNat : Nat) : Int) = y := by omega
      refine r7.ix (α := Int) (by omega) (by omega) fun b o hbo hg => ?_
      have g0 := hg 0 (by decide)
      simp only [El.enc, Nat.add_zero] at g0
      simp only [List.getElem?_cons_zero] at g0
      rw [g0]
      simp only [ldI_mk]
      refine ⟨hf.1, hf.2 y H7 _ y0' y1' s07 fun H8 s8 => ldR_int ?_⟩
      show (ldI .i64 (H8.get b o) _) ∧ _
      rw [s8.get g0 fun h => h]
      refine ⟨rfl, ?_⟩
      refine vneedD (fun hle => ?_) fun hgt => bad _ (s07.and s8) fun h => hgt ?_
      · rw [i64w (by omega) (by omega)]
        rw [ey] at hle
        refine hY _ _ _ _ _ _ _ _ _ _ _ _ _ _ _ ⟨rfl, rfl, rfl, rfl, rfl, rfl, rfl, rfl, rfl, rfl, rfl, rfl, t + 1, by omega, by omega, s07.and s8, s8.keep _ _ e7 fun h => h, r7.keep s8 fun _ _ h => h, fun _ => ?_, fun h2 => ?_⟩ (by omega)
        · rcases hyd with ⟨rfl, rfl⟩ | ⟨rfl, rfl⟩
          · exact hle
          · have := q1 (by omega)
            have hne : ¬ y = fr := fun h => hnl (show (e (m i).toNat).fr = (e (m i).toNat).to by rw [hfr, hto, h])
            have : dgs e m i ((1 + 1 : Nat) : Int) fr = dgs e m i ((1 : Nat) : Int) fr := by unfold dgs; rw [hfr, hto]; simp [hne]
            rw [this]; assumption
        · rcases hyd with ⟨rfl, rfl⟩ | ⟨rfl, rfl⟩
          · omega
          · exact hle
      · -- so many are at most what is let in
        have h1 : dgs e m i ((t + 1 : Nat) : Int) (y.toNat : Int) ≤ dg e m k (y.toNat : Int) := Nat.le_trans dgs_le (dg_mono (by omega))
        rw [ey] at h1
        have hpos : 0 < dgs e m i ((t + 1 : Nat) : Int) y := by
          have := hst y.toNat
          rw [upf_same, ey] at this
          omega
        have := h.mst y y0' y1' (by omega)
        show (dgs e m i ((t + 1 : Nat) : Int) (y.toNat : Int) : Int) ≤ most y
        rw [ey]; omega
    · have : t = 2 := by omega
      subst this
      refine vouch_matched.j1_eq ?_
      unfold vouch_matched.j1_t
      rw [i64w (by omega) (by omega)]
      have hd : ∀ v : Int, dgs e m i ((2 : Nat) : Int) v = dg e m (i + 1) v := fun v => by
        unfold dgs
        simp only [show (1 : Int) ≤ ((2 : Nat) : Int) from by decide, show (2 : Int) ≤ ((2 : Nat) : Int) from by decide, true_and]
        rfl
      refine hX _ _ _ _ _ _ _ _ _ _ _ _ ⟨rfl, rfl, rfl, rfl, rfl, rfl, rfl, rfl, rfl, i + 1, by omega, by omega, s6, e6, r6.congr fun v _ => by rw [hd], hs.cut (by omega), fun j hj => ?_, fun v v0 v1 hv => ?_⟩ (by omega)
      · by_cases e' : j = i
        · subst e'; exact hnl
        · exact tk.nl j (by omega)
      · by_cases h1 : v = fr
        · have := q1 (by omega); rw [hd] at this; rw [h1]; exact this
        · by_cases h2 : v = to
          · have := q2 (by omega); rw [hd] at this; rw [h2]; exact this
          · have : dg e m (i + 1) v = dg e m i v := by
              show dg e m i v + _ + _ = _
              rw [hfr, hto, if_neg (fun h => h1 h.symm), if_neg (fun h => h2 h.symm)]; rfl
            rw [this] at hv ⊢
            exact tk.mst v v0 v1 hv
  · have : i = k := by omega
    subst this
    exact kk _ s3 tk
end
end Go.Mz

/-
  Walks of layer 12, more: near, uneven; what a call that looks answers; Matching, Covered.
-/
namespace Go.Mz
section
variable {E : Value → Hp → Prop}

/-- what a call that looks answers: 0, if the graph is right and P; what is wrong with the graph; or 221 -/
def Out (N : Int) (n : Nat) (e : Nat → Edg) (P : Prop) (c : Int) : Prop :=
  (c = 0 ∧ Right N n e ∧ P) ∨ (c = chk N n e ∧ c ≠ 0) ∨ (c = 221 ∧ Right N n e ∧ ¬ P)

theorem Out.det {N : Int} {n : Nat} {e : Nat → Edg} {P P' : Prop} {c c' : Int} (h : Out N n e P c) (h' : Out N n e P' c') (hp : Right N n e → (P ↔ P')) : c = c' := by
  have hz : chk N n e = 0 ↔ Right N n e := chk_zero
  rcases h with ⟨rfl, h1, h2⟩ | ⟨rfl, h1⟩ | ⟨rfl, h1, h2⟩ <;> rcases h' with ⟨rfl, h1', h2'⟩ | ⟨rfl, h1'⟩ | ⟨rfl, h1', h2'⟩
  · rfl
  · exact absurd (hz.2 h1) h1'
  · exact absurd ((hp h1).1 h2) h2'
  · exact absurd (hz.2 h1') h1
  · rfl
  · exact absurd (hz.2 h1') h1
  · exact absurd ((hp h1).2 h2') h2
  · exact absurd (hz.2 h1) h1'
  · rfl

theorem Out.ok {N : Int} {n : Nat} {e : Nat → Edg} {P : Prop} {c : Int} (h : Out N n e P c) (hc : c = 0) : Right N n e ∧ P := by
  rcases h with ⟨_, h1, h2⟩ | ⟨h1, h2⟩ | ⟨h1, _⟩
  · exact ⟨h1, h2⟩
  · exact absurd hc h2
  · omega

theorem Out.bad {N : Int} {n : Nat} {e : Nat → Edg} {P : Prop} {c : Int} (h : Out N n e P c) (hr : ¬ Right N n e) : c = chk N n e ∧ c ≠ 0 := by
  rcases h with ⟨_, h1, h2⟩ | h | ⟨_, h1, _⟩
  · exact absurd h1 hr
  · exact h
  · exact absurd h1 hr

theorem and1 {x : Int} (h0 : 0 ≤ x) (h1 : x < 2 ^ 63) : IntKind.wrap .i64 (((BitVec.ofInt (IntKind.bits .i64) x &&& BitVec.ofInt (IntKind.bits .i64) 1).toNat : Int)) = x % 2 := by
  have hx : (BitVec.ofInt (IntKind.bits .i64) x).toNat = x.toNat := by
    show (BitVec.ofInt 64 x).toNat = x.toNat
    rw [BitVec.toNat_ofInt, Int.emod_eq_of_lt h0 (by omega)]
  have h2 : (BitVec.ofInt (IntKind.bits .i64) x &&& BitVec.ofInt (IntKind.bits .i64) 1).toNat = x.toNat % 2 := by
    rw [BitVec.toNat_and, hx]
    show x.toNat &&& 1 = x.toNat % 2
    exact Nat.and_one_is_mod _
  rw [h2, i64w (by omega) (by omega)]
  omega

end
end Go.Mz

/-
  Walks of layer 12, more: Matching, Covered, Heaviest.
-/
namespace Go.Mz
section
variable {E : Value → Hp → Prop}

end
end Go.Mz

/-
  Walks of layer 12, more: Heaviest.
-/
namespace Go.Mz
section
variable {E : Value → Hp → Prop}

/-- the sum of the first numbers -/
def psum (f : Nat → Int) : Nat → Int
  | 0 => 0
  | i + 1 => psum f i + f i

theorem psum_bound {f : Nat → Int} {a b : Int} : ∀ {i : Nat}, (∀ v, v < i → a ≤ f v ∧ f v ≤ b) → a * (i : Int) ≤ psum f i ∧ psum f i ≤ b * (i : Int) := by
  intro i
  induction i with
  | zero => intro _; simp [psum]
  | succ i ih =>
    intro h
    have h1 := ih fun v hv => h v (by omega)
    have h2 := h i (by omega)
    show _ ≤ psum f i + f i ∧ psum f i + f i ≤ _
    have e1 : a * ((i + 1 : Nat) : Int) = a * (i : Int) + a := by rw [Int.natCast_add, Int.mul_add]; simp
    have e2 : b * ((i + 1 : Nat) : Int) = b * (i : Int) + b := by rw [Int.natCast_add, Int.mul_add]; simp
    rw [e1, e2]
    omega

end
end Go.Mz
