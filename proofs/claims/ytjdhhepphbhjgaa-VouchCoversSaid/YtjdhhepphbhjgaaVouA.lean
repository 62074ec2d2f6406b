/-
  Walks of layer 12, the first: Check, need, right, rising, loop, one, cost, marked.
-/
import Derived.Test.YtjdhhepphbhjgaaVouP
import Derived.Test.YtjdhhepphbhjgaaVLook
import Derived.Test.YtjdhhepphbhjgaaGGra
import Derived.Test.YtjdhhepphbhjgaaGVoa
import Derived.Test.YtjdhhepphbhjgaaGVob
set_option linter.unusedSimpArgs false
set_option linter.unusedVariables false
namespace Go.Mz
section
variable {E : Value → Hp → Prop}

theorem glabel {a b c d : Int} {H : Hp} {K : Bool → Hp → Prop} (k : ∀ H', Step (fun _ => False) H H' → K (decide (0 ≤ c ∧ c ≤ 1048576 ∧ -1048576 ≤ d ∧ d ≤ 1048576)) H') : graph_label.call a b c d E H K := by
  refine graph_label.of (graph_label.run_eq ?_)
  unfold graph_label.run_t
  refine nwk fun b1 H1 hb1 e1 s1 => ?_
  simp only [get_at e1, List.getElem?_cons_zero, List.getElem?_cons_succ, ldI_mk]
  have k := k H1 s1
  refine bc (fun h0 => ?_) fun h0 => ?_
  · refine bc (fun h1 => ?_) fun h1 => ?_
    · refine bc (fun h2 => ?_) fun h2 => ?_
      · by_cases h3 : d ≤ 1048576
        · rw [decide_eq_true h3]; rwa [decide_eq_true (by omega)] at k
        · rw [decide_eq_false h3]; rwa [decide_eq_false (by omega)] at k
      · rwa [decide_eq_false (by omega)] at k
    · rwa [decide_eq_false (by omega)] at k
  · rwa [decide_eq_false (by omega)] at k

theorem gcheck {N : Int} {p : Option Addr} {n c : Nat} {e : Nat → Edg} {H : Hp} {K : Int → Int → Hp → Prop} (he : Rdr H p n e) (hn : n < 2 ^ 63)
    (k : ∀ H' a, Step (fun _ => False) H H' → K (chk N n e) a H') : graph_Check.call N p n c E H K := by
  refine graph_Check.of (graph_Check.run_eq ?_)
  unfold graph_Check.run_t
  refine nwk fun b1 H1 hb1 e1 s1 => ?_
  refine nwk fun b2 H2 hb2 e2 s2 => ?_
  have e1 := s2.keep _ _ e1 fun h => h
  have s02 := s1.trans s2 fun _ h => .inl h
  have f2 : H b2 = none := s1.mono _ hb2
  simp only [get_at e1, List.getElem?_cons_zero, List.getElem?_cons_succ, ldI_mk, ldS_mk]
  have bad : 3 = chk N n e → graph_Check.j1 b2 E H2 K := fun hc => by
    refine graph_Check.j1_eq ?_
    unfold graph_Check.j1_t
    refine stk e2 rfl rfl fun H3 e3 s3 => ?_
    simp only [get_at e3, List.getElem?_cons_zero, List.getElem?_cons_succ, ldI_mk]
    rw [hc]
    exact k _ _ (s02.own s3 fun b hb => hb ▸ f2)
  refine bc (fun h => bad (by unfold chk; rw [if_pos (by omega)])) fun h1 => ?_
  refine bc (fun h => bad (by unfold chk; rw [if_pos (by omega)])) fun h2 => ?_
  refine bc (fun h => bad (by unfold chk; rw [if_pos (by omega)])) fun h3 => ?_
  have hc : chk N n e = chkE N e n := by unfold chk; rw [if_neg (by omega)]
  refine graph_Check.l1_rule (fun g1 t2 tp tn tc t22 t23 H' => b1 = g1 ∧ b2 = t2 ∧ p = tp ∧ n = tn ∧ t22 = n ∧ ∃ i : Nat, t23 = i ∧ i ≤ n ∧ chkE N e i = 0 ∧ Step (fun _ => False) H H' ∧ H' b1 = some ⟨[.int .i64 N, .slice p n c], 24⟩ ∧ H' b2 = some ⟨[.int .i64 0, .int .i64 0], 126⟩)
    (fun g1 t2 tp tn tc t22 t23 H' => n - t23.toNat) ?_ ⟨rfl, rfl, rfl, rfl, rfl, 0, rfl, by omega, rfl, s02, e1, e2⟩
  clear e1 e2 s1 s2 s02 bad hb2
  rintro g1 t2 tp tn tc t22 t23 H3 ⟨rfl, rfl, rfl, rfl, rfl, i, rfl, hi, hz, s3, e1, e2⟩ X hX
  refine graph_Check.b1_eq ?_
  unfold graph_Check.b1_t
  refine bc (fun hlt => ?_) fun hge => ?_
  · refine (he.keep s3 fun _ _ _ h => h).edge (by omega) (by omega) ?_
    simp only [Int.toNat_natCast]
    refine nwst rfl rfl fun b4 H4 hb4 e4 s4 => ?_
    have e1 := s4.keep _ _ e1 fun h => h
    have e2 := s4.keep _ _ e2 fun h => h
    have s04 := s3.trans s4 fun _ h => .inl h
    simp only [get_at e4, get_at e1, List.getElem?_cons_zero, List.getElem?_cons_succ, ldI_mk, ldS_mk]
    have fin : ∀ d : Nat, n = i + 1 + d → ∀ z, badE N (e i) = z → z ≠ 0 → chk N n e = z := fun d hd z hb hz' => by
      have h1 : chkE N e (i + 1) = z := by
        show (if chkE N e i = 0 then badE N (e i) else chkE N e i) = z
        rw [if_pos hz, hb]
      rw [hc, hd, chkE_stay (by rw [h1]; exact hz'), h1]
    have bad : ((e i).fr < 0 ∨ N ≤ (e i).fr ∨ (e i).to < 0 ∨ N ≤ (e i).to) → graph_Check.j2 b2 (i : Int) X E H4 K := fun hb => by
      refine graph_Check.j2_eq ?_
      unfold graph_Check.j2_t
      refine stk e2 rfl rfl fun H5 e5 s5 => ?_
      simp only [get_at e5, List.getElem?_cons_zero, List.getElem?_cons_succ, ldI_mk]
      have := k H5 i (s04.own s5 fun b hb => hb ▸ f2)
      rwa [fin (n - (i + 1)) (by omega) 30 (by unfold badE; rw [if_pos hb]) (by decide)] at this
    refine bc (fun h => bad (.inl h)) fun c1 => ?_
    refine bc (fun h => bad (.inr (.inl h))) fun c2 => ?_
    refine bc (fun h => bad (.inr (.inr (.inl h)))) fun c3 => ?_
    refine bc (fun h => bad (.inr (.inr (.inr h)))) fun c4 => ?_
    refine glabel fun H5 s5 => ?_
    have e2 := s5.keep _ _ e2 fun h => h
    have e1 := s5.keep _ _ e1 fun h => h
    have s05 := s04.trans s5 fun _ h => .inl h
    refine bcn (fun hl => ?_) fun hl => ?_
    · refine stk e2 rfl rfl fun H6 e6 s6 => ?_
      simp only [get_at e6, List.getElem?_cons_zero, List.getElem?_cons_succ, ldI_mk]
      have := k H6 i (s05.own s6 fun b hb => hb ▸ f2)
      rwa [fin (n - (i + 1)) (by omega) 31 (by unfold badE; rw [if_neg (by omega), if_neg hl]) (by decide)] at this
    · rw [i64w (by omega) (by omega)]
      refine hX _ _ _ _ _ _ _ _ ⟨rfl, rfl, rfl, rfl, rfl, i + 1, by omega, by omega, ?_, s05, e1, e2⟩ (by omega)
      show (if chkE N e i = 0 then badE N (e i) else chkE N e i) = 0
      rw [if_pos hz]; unfold badE; rw [if_neg (by omega), if_pos hl]
  · refine graph_Check.j3_eq ?_
    unfold graph_Check.j3_t
    have : i = n := by omega
    subst this
    refine stk e2 rfl rfl fun H5 e5 s5 => ?_
    simp only [get_at e5, List.getElem?_cons_zero, List.getElem?_cons_succ, ldI_mk]
    have := k H5 0 (s3.own s5 fun b hb => hb ▸ f2)
    rwa [hc, hz] at this

/-- what a refusal panics with -/
def pv (c : Int) : Value := .iface 123 (.agg ⟨[.int .i64 c]⟩)

theorem vneed {ok : Bool} {c : Int} {H : Hp} {K : Hp → Prop} (k : ok = true → K H) (e : ok = false → E (pv c) H) : vouch_need.call ok c E H K := by
  refine vouch_need.of (vouch_need.run_eq ?_)
  unfold vouch_need.run_t
  cases ok with
  | true => exact k rfl
  | false => exact e rfl

theorem vneedD {p : Prop} [Decidable p] {c : Int} {H : Hp} {K : Hp → Prop} (k : p → K H) (e : ¬ p → E (pv c) H) : vouch_need.call (decide p) c E H K :=
  vneed (fun h => k (of_decide_eq_true h)) fun h => e (of_decide_eq_false h)

theorem vright {N : Int} {p : Option Addr} {n c : Nat} {e : Nat → Edg} {H : Hp} {K : Hp → Prop} (he : Rdr H p n e) (hn : n < 2 ^ 63)
    (k : ∀ H', Step (fun _ => False) H H' → Right N n e → K H') (b : ∀ H', Step (fun _ => False) H H' → chk N n e ≠ 0 → E (pv (chk N n e)) H') : vouch_right.call N p n c E H K := by
  refine vouch_right.of (vouch_right.run_eq ?_)
  unfold vouch_right.run_t
  refine nwk fun b1 H1 hb1 e1 s1 => ?_
  simp only [get_at e1, List.getElem?_cons_zero, List.getElem?_cons_succ, ldI_mk, ldS_mk]
  refine gcheck (he.keep s1 fun _ _ _ h => h) hn fun H2 a s2 => ?_
  refine nwst rfl rfl fun b3 H3 hb3 e3 s3 => ?_
  simp only [get_at e3, List.getElem?_cons_zero, List.getElem?_cons_succ, ldI_mk, ldS_mk]
  have s03 := (s1.trans s2 fun _ h => .inl h).trans s3 fun _ h => .inl h
  exact vneedD (fun h => k _ s03 (chk_zero.1 h)) fun h => b _ s03 h

theorem vrising {p : Option Addr} {k c : Nat} {n : Int} {m : Nat → Int} {H : Hp} {K : Hp → Prop} (hm : Rdr H p k m) (hk : k < 2 ^ 63)
    (kk : Ris m k n → K H) (b : ¬ Ris m k n → E (pv 221) H) : vouch_rising.call p k c n E H K := by
  refine vouch_rising.of (vouch_rising.run_eq ?_)
  unfold vouch_rising.run_t
  refine vouch_rising.l1_rule (fun n1 last tp tn tc t8 t9 H' => n = n1 ∧ p = tp ∧ k = tn ∧ t8 = k ∧ H = H' ∧ ∃ i : Nat, t9 = i ∧ i ≤ k ∧ Ris m i n ∧ last = if i = 0 then -1 else m (i - 1))
    (fun n1 last tp tn tc t8 t9 H' => k - t9.toNat) ?_ ⟨rfl, rfl, rfl, rfl, rfl, 0, rfl, by omega, fun i hi => by omega, rfl⟩
  rintro n1 last tp tn tc t8 t9 H' ⟨rfl, rfl, rfl, rfl, rfl, i, rfl, hi, hr, rfl⟩ X hX
  refine vouch_rising.b1_eq ?_
  unfold vouch_rising.b1_t
  refine bc (fun hlt => ?_) fun hge => ?_
  · refine hm.ixI (by omega) (by omega) ?_
    simp only [Int.toNat_natCast]
    refine bc (fun h1 => ?_) fun h1 => ?_
    · refine vneedD (fun h2 => ?_) fun h2 => b fun hh => h2 (hh i (by omega)).2.1
      refine vouch_rising.j1_eq ?_
      unfold vouch_rising.j1_t
      rw [i64w (by omega) (by omega)]
      refine hX _ _ _ _ _ _ _ _ ⟨rfl, rfl, rfl, rfl, rfl, i + 1, by omega, by omega, fun j hj => ?_, by simp⟩ (by omega)
      by_cases e : j = i
      · subst e
        split at h1
        · rename_i e0; subst e0; exact ⟨by omega, h2, fun h => by omega⟩
        · have := (hr (j - 1) (by omega)).1
          exact ⟨by omega, h2, fun _ => h1⟩
      · exact hr j (by omega)
    · refine vneed (fun h => by cases h) fun _ => b fun hh => h1 ?_
      have := hh i (by omega)
      split
      · omega
      · exact this.2.2 (by omega)
  · have : i = k := by omega
    subst this
    exact kk hr

theorem vloop {a b c d : Int} {H : Hp} {K : Bool → Hp → Prop} (k : ∀ H', Step (fun _ => False) H H' → K (decide (a = b)) H') : vouch_loop.call a b c d E H K := by
  refine vouch_loop.of (vouch_loop.run_eq ?_)
  unfold vouch_loop.run_t
  refine nwk fun b1 H1 hb1 e1 s1 => ?_
  simp only [get_at e1, List.getElem?_cons_zero, List.getElem?_cons_succ, ldI_mk]
  exact k _ s1

theorem vcost {N : Int} {ep : Option Addr} {n ec : Nat} {e : Nat → Edg} {p : Option Addr} {k c : Nat} {m : Nat → Int} {H : Hp} {K : Int → Hp → Prop} (he : Rdr H ep n e) (hr : Right N n e) (hm : Rdr H p k m) (hs : Ris m k n)
    (kk : ∀ H', Step (fun _ => False) H H' → K (cst e m k) H') : vouch_cost.call N ep n ec p k c E H K := by
  have hl := hs.len
  have hn := hr.n1
  refine vouch_cost.of (vouch_cost.run_eq ?_)
  unfold vouch_cost.run_t
  refine nwk fun b1 H1 hb1 e1 s1 => ?_
  refine vouch_cost.l1_rule (fun g2 n5 tp tn tc t9 t10 H' => b1 = g2 ∧ p = tp ∧ k = tn ∧ t9 = k ∧ H1 = H' ∧ ∃ i : Nat, t10 = i ∧ i ≤ k ∧ n5 = cst e m i)
    (fun g2 n5 tp tn tc t9 t10 H' => k - t10.toNat) ?_ ⟨rfl, rfl, rfl, rfl, rfl, 0, rfl, by omega, rfl⟩
  rintro g2 n5 tp tn tc t9 t10 H' ⟨rfl, rfl, rfl, rfl, rfl, i, rfl, hi, rfl⟩ X hX
  refine vouch_cost.b1_eq ?_
  unfold vouch_cost.b1_t
  refine bc (fun hlt => ?_) fun hge => ?_
  · refine (hm.keep s1 fun _ _ _ h => h).ixI (by omega) (by omega) ?_
    simp only [Int.toNat_natCast, get_at e1, List.getElem?_cons_zero, List.getElem?_cons_succ, ldI_mk, ldS_mk]
    have hmi := hs i (by omega)
    refine (he.keep s1 fun _ _ _ h => h).edgeC (by omega) (by omega) ?_
    have h1 := cst_bound hr (hs.cut (j := i) (by omega))
    have h2 := cst_bound hr (hs.cut (j := i + 1) (by omega))
    have h3 : cst e m (i + 1) = cst e m i + (e (m i).toNat).co := rfl
    rw [i64w (by omega) (by omega), i64w (by omega) (by omega)]
    exact hX _ _ _ _ _ _ _ _ ⟨rfl, rfl, rfl, rfl, rfl, i + 1, by omega, by omega, h3.symm⟩ (by omega)
  · have : i = k := by omega
    subst this
    exact kk _ s1

open Classical in
theorem vmarked {p : Option Addr} {k c : Nat} {n : Int} {m : Nat → Int} {H : Hp} {K : Option Addr → Nat → Nat → Hp → Prop} (hm : Rdr H p k m) (hk : k < 2 ^ 63) (h0 : 0 ≤ n) (h1 : n ≤ 1048576)
    (kk : ∀ b H', Ris m k n → Step (fun _ => False) H H' → H b = none → Row H' (some ⟨b, 0, none⟩) n.toNat n.toNat (fun v => decide (In m k v)) → K (some ⟨b, 0, none⟩) n.toNat n.toNat H')
    (bad : ¬ Ris m k n → E (pv 221) H) : vouch_marked.call p k c n E H K := by
  refine vouch_marked.of (vouch_marked.run_eq ?_)
  unfold vouch_marked.run_t
  refine vrising hm hk (fun hr => ?_) bad
  refine Row.mkB h0 h1 fun b H1 hb r1 s1 => ?_
  refine vouch_marked.l1_rule (fun ip inn ic tp tn tc t14 t15 H' => ip = some ⟨b, 0, none⟩ ∧ inn = n.toNat ∧ ic = n.toNat ∧ p = tp ∧ k = tn ∧ t14 = k ∧ ∃ i : Nat, t15 = i ∧ i ≤ k ∧ Step (fun _ => False) H H' ∧ Row H' (some ⟨b, 0, none⟩) n.toNat n.toNat (fun v => decide (In m i v)))
    (fun ip inn ic tp tn tc t14 t15 H' => k - t15.toNat) ?_ ⟨rfl, rfl, rfl, rfl, rfl, rfl, 0, rfl, by omega, s1, r1.congr fun v _ => by simp [In]⟩
  clear r1 s1
  rintro ip inn ic tp tn tc t14 t15 H2 ⟨rfl, rfl, rfl, rfl, rfl, rfl, i, rfl, hi, s2, r2⟩ X hX
  refine vouch_marked.b1_eq ?_
  unfold vouch_marked.b1_t
  refine bc (fun hlt => ?_) fun hge => ?_
  · refine (hm.keep s2 fun _ _ _ h => h).ixI (by omega) (by omega) ?_
    simp only [Int.toNat_natCast]
    have hmi := hr i (by omega)
    refine r2.stB (by omega) (by omega) true fun H3 r3 s3 => ?_
    rw [i64w (by omega) (by omega)]
    refine hX _ _ _ _ _ _ _ _ _ ⟨rfl, rfl, rfl, rfl, rfl, rfl, i + 1, by omega, by omega, s2.own s3 fun b' hb' => by rw [fpS_mk] at hb'; exact hb' ▸ hb, r3.congr fun v hv => ?_⟩ (by omega)
    by_cases e : v = (m i).toNat
    · subst e
      rw [upf_same]
      exact (decide_eq_true ⟨i, by omega, by omega⟩).symm
    · rw [upf_ne e]
      refine decide_eq_decide.2 ⟨fun ⟨j, hj, h⟩ => ⟨j, by omega, h⟩, fun ⟨j, hj, h⟩ => ?_⟩
      by_cases ej : j = i
      · subst ej; omega
      · exact ⟨j, by omega, h⟩
  · have : i = k := by omega
    subst this
    exact kk _ _ hr s2 hb r2

theorem vone {v : Int} {H : Hp} {K : Int → Hp → Prop} (k : K 1 H) : vouch_one.call v E H K := by
  refine vouch_one.of (vouch_one.run_eq ?_)
  unfold vouch_one.run_t
  exact k
end
end Go.Mz
