/-
  Plain law: a set of nodes that proves a matching largest can always be given; and, with two sides, as few nodes as cover all edges. No program in sight.
-/
import Derived.Test.YtjdhhepphbhjgaaVouX3
set_option linter.unusedSimpArgs false
set_option linter.unusedVariables false
namespace Go.Mz

theorem cnt_or {W : Nat → Bool} {n v : Nat} (hv : v < n) (hW : W v = false) : cnt (fun i => W i || decide (i = v)) n = cnt W n + 1 := cnt_less hv (by simp) hW fun i _ hne => by simp [hne]

section
variable {N : Int} {n : Nat} {e : Nat → Edg} {W : Nat → Bool}

/-- where each node may be left out, nodes that hang together are never left out together -/
theorem not_two (hr : Right N n e) (hfree : ∀ v, v < N.toNat → W v = false → ∃ T, Mxw e n W T ∧ tdeg e T n (v : Int) = 0) {u v : Nat} (h : Cn (Adj e n W) u v) : u < N.toNat → W u = false → u = v ∨ ¬ Two e n W u v := by
  have hN0 := hr.N0
  have inN : ∀ a b, Adj e n W a b → a < N.toNat ∧ b < N.toNat := fun a b ⟨j, hj, _, hab⟩ => by
    have hx := hr.ed j hj
    have hf0 := hx.f0; have hf1 := hx.f1; have ht0 := hx.t0; have ht1 := hx.t1
    rcases hab with ⟨rfl, rfl⟩ | ⟨rfl, rfl⟩ <;> omega
  have comm : ∀ a b, Two e n W a b → Two e n W b a := fun a b ⟨T, h1, h2, h3⟩ => ⟨T, h1, h3, h2⟩
  induction h with
  | refl u => exact fun _ _ => .inl rfl
  | @edge a b hab =>
    intro ha hWa
    by_cases eab : a = b
    · exact .inl eab
    · refine .inr fun ⟨T, hT, ta, tb⟩ => ?_
      obtain ⟨j, hj, hok, hab⟩ := hab
      have hx := hr.ed j hj
      have hf0 := hx.f0; have ht0 := hx.t0
      have q : (e j).fr ≠ (e j).to ∧ tdeg e T n (e j).fr = 0 ∧ tdeg e T n (e j).to = 0 := by
        rcases hab with ⟨h1, h2⟩ | ⟨h1, h2⟩
        · rw [show (e j).fr = (a : Int) by omega, show (e j).to = (b : Int) by omega]; exact ⟨by omega, ta, tb⟩
        · rw [show (e j).fr = (b : Int) by omega, show (e j).to = (a : Int) by omega]; exact ⟨by omega, tb, ta⟩
      obtain ⟨T', hT', hc⟩ := mtw_add hT.1 hj hok q.1 q.2.1 q.2.2
      have := hT.2 T' hT'
      omega
  | @symm a b h ih =>
    intro hb hWb
    have hWa : W a = false := (cn_W h).trans hWb
    by_cases hab : a = b
    · exact .inl hab.symm
    · have ha : a < N.toNat := by
        have key : ∀ x y, Cn (Adj e n W) x y → x ≠ y → x < N.toNat ∧ y < N.toNat := by
          intro x y hxy
          induction hxy with
          | refl x => exact fun h => absurd rfl h
          | edge h => exact fun _ => inN _ _ h
          | symm h ih => exact fun hh => (ih fun q => hh q.symm).symm
          | @trans x y z h1 h2 i1 i2 =>
            intro hh
            by_cases q1 : x = y
            · subst q1; exact i2 hh
            · by_cases q2 : y = z
              · subst q2; exact i1 hh
              · exact ⟨(i1 q1).1, (i2 q2).2⟩
        exact (key _ _ h hab).1
      rcases ih ha hWa with h' | h'
      · exact .inl h'.symm
      · exact .inr fun hh => h' (comm _ _ hh)
  | @trans a b c h1 h2 i1 i2 =>
    intro ha hWa
    have hWb : W b = false := (cn_W h1).symm.trans hWa
    by_cases hac : a = c
    · exact .inl hac
    by_cases hab : a = b
    · subst hab; exact i2 ha hWa
    have hb : b < N.toNat := by
      have key : ∀ x y, Cn (Adj e n W) x y → x ≠ y → x < N.toNat ∧ y < N.toNat := by
        intro x y hxy
        induction hxy with
        | refl x => exact fun h => absurd rfl h
        | edge h => exact fun _ => inN _ _ h
        | symm h ih => exact fun hh => (ih fun q => hh q.symm).symm
        | @trans x y z h1 h2 i1 i2 =>
          intro hh
          by_cases q1 : x = y
          · subst q1; exact i2 hh
          · by_cases q2 : y = z
            · subst q2; exact i1 hh
            · exact ⟨(i1 q1).1, (i2 q2).2⟩
      exact (key _ _ h1 hab).2
    by_cases hbc : b = c
    · subst hbc; exact i1 ha hWa
    have hc : c < N.toNat := by
      have key : ∀ x y, Cn (Adj e n W) x y → x ≠ y → x < N.toNat ∧ y < N.toNat := by
        intro x y hxy
        induction hxy with
        | refl x => exact fun h => absurd rfl h
        | edge h => exact fun _ => inN _ _ h
        | symm h ih => exact fun hh => (ih fun q => hh q.symm).symm
        | @trans x y z h1 h2 i1 i2 =>
          intro hh
          by_cases q1 : x = y
          · subst q1; exact i2 hh
          · by_cases q2 : y = z
            · subst q2; exact i1 hh
            · exact ⟨(i1 q1).1, (i2 q2).2⟩
      exact (key _ _ h2 hbc).2
    refine .inr fun hh => ?_
    rcases gallai hr ha hc hac (hfree b hb hWb) hh with q | q
    · rcases i1 ha hWa with q' | q'
      · exact hab q'
      · exact q' q
    · rcases i2 hb hWb with q' | q'
      · exact hbc q'
      · exact q' q

theorem fst_ex {v : Nat} (hv : W v = false) : ∃ s, s ≤ v ∧ Fst (Adj e n W) W s ∧ Cn (Adj e n W) s v := by
  induction v using Nat.strongRecOn with
  | ind v ih =>
    by_cases h : ∃ u, u < v ∧ Cn (Adj e n W) u v
    · obtain ⟨u, hu, hc⟩ := h
      obtain ⟨s, h1, h2, h3⟩ := ih u hu ((cn_W hc).trans hv)
      exact ⟨s, by omega, h2, h3.trans hc⟩
    · exact ⟨v, Nat.le_refl _, ⟨hv, fun u hu hc => h ⟨u, hu, hc⟩⟩, .refl _⟩

open Classical in
theorem oddB_sm {R : Nat → Nat → Prop} {P : Nat} : ∀ {s : Nat}, oddB R W P s = sm (fun s => if Fst R W s then csz R P s % 2 else 0) s
  | 0 => rfl
  | s + 1 => by
    show oddB R W P s + _ = _ + _
    rw [oddB_sm]

open Classical in
/-- in such a case as many nodes are left out as there are odd parts -/
theorem left_out (hr : Right N n e) (hfree : ∀ v, v < N.toNat → W v = false → ∃ T, Mxw e n W T ∧ tdeg e T n (v : Int) = 0) {T : Nat → Bool} (hT : Mxw e n W T) : 2 * cnt T n + oddN N n e W + cnt W N.toNat = N.toNat := by
  have hN0 := hr.N0
  have hd1 := hT.1.1
  have hR : ∀ s v, Cn (Adj e n W) s v → W s = W v := fun s v h => cn_W h
  -- of one part
  have hpart : ∀ s, s < N.toNat → Fst (Adj e n W) W s → csz (Adj e n W) N.toNat s % 2 = sm (fun v => if Cn (Adj e n W) s v then 1 - tdeg e T n (v : Int) else 0) N.toNat := fun s hs hf => by
    have hsz : csz (Adj e n W) N.toNat s = sm (fun v => if Cn (Adj e n W) s v then 1 - tdeg e T n (v : Int) else 0) N.toNat + sm (fun v => if Cn (Adj e n W) s v then tdeg e T n (v : Int) else 0) N.toNat := by
      show cnt _ _ = _
      rw [cnt_sm, ← sm_add]
      refine sm_congr fun v hv => ?_
      have := hd1 (v : Int)
      by_cases h : Cn (Adj e n W) s v
      · simp [h]; omega
      · simp [h]
    have hev : ∀ k, k ≤ n → sm (fun v => if Cn (Adj e n W) s v then tdeg e T k (v : Int) else 0) N.toNat % 2 = 0 := by
      intro k
      induction k with
      | zero => intro _; rw [sm_zero fun v _ => by split <;> rfl]
      | succ k ih =>
        intro hk
        have ih := ih (by omega)
        cases hTk : T k with
        | false =>
          rw [sm_congr (g := fun v => if Cn (Adj e n W) s v then tdeg e T k (v : Int) else 0) fun v _ => by
            show (if Cn (Adj e n W) s v then tdeg e T k (v : Int) + (if T k then _ else 0) else 0) = _
            rw [hTk]; rfl]
          exact ih
        | true =>
          have hx := hr.ed k (by omega)
          have hf0 := hx.f0; have hf1 := hx.f1; have ht0 := hx.t0; have ht1 := hx.t1
          have one : ∀ a : Int, 0 ≤ a → a < N → sm (fun v => if Cn (Adj e n W) s v then (if a = (v : Int) then 1 else 0) else 0) N.toNat = if Cn (Adj e n W) s a.toNat then 1 else 0 := fun a a0 a1 => by
            rw [← sm_pick (g := fun v => if Cn (Adj e n W) s v then 1 else 0) a0 (by omega : a < (N.toNat : Int))]
            refine sm_congr fun v _ => ?_
            split <;> split <;> rfl
          have hadj : Adj e n W (e k).fr.toNat (e k).to.toNat := ⟨k, by omega, hT.1.2 k (by omega) hTk, .inl ⟨rfl, rfl⟩⟩
          have hiff : Cn (Adj e n W) s (e k).fr.toNat ↔ Cn (Adj e n W) s (e k).to.toNat := ⟨fun h => h.trans (.edge hadj), fun h => h.trans (.symm (.edge hadj))⟩
          have : sm (fun v => if Cn (Adj e n W) s v then tdeg e T (k + 1) (v : Int) else 0) N.toNat = sm (fun v => if Cn (Adj e n W) s v then tdeg e T k (v : Int) else 0) N.toNat + ((if Cn (Adj e n W) s (e k).fr.toNat then 1 else 0) + (if Cn (Adj e n W) s (e k).to.toNat then 1 else 0)) := by
            rw [← one _ hf0 hf1, ← one _ ht0 ht1, ← sm_add, ← sm_add]
            refine sm_congr fun v _ => ?_
            show (if Cn (Adj e n W) s v then tdeg e T k (v : Int) + (if T k then (if (e k).fr = (v : Int) then 1 else 0) + (if (e k).to = (v : Int) then 1 else 0) else 0) else 0) = _
            rw [hTk, if_pos rfl]
            split <;> omega
          rw [this]
          by_cases h : Cn (Adj e n W) s (e k).fr.toNat
          · rw [if_pos h, if_pos (hiff.1 h)]; omega
          · rw [if_neg h, if_neg (fun h' => h (hiff.2 h'))]; omega
    have hle : sm (fun v => if Cn (Adj e n W) s v then 1 - tdeg e T n (v : Int) else 0) N.toNat ≤ 1 := by
      rw [sm_congr (g := fun v => if Cn (Adj e n W) s v ∧ tdeg e T n (v : Int) = 0 then 1 else 0) fun v _ => by
        have := hd1 (v : Int)
        by_cases h : Cn (Adj e n W) s v
        · by_cases h0 : tdeg e T n (v : Int) = 0
          · simp [h, h0]
          · simp [h, h0]; omega
        · simp [h]]
      refine sm_uniq fun a b ha hb pa pb => ?_
      have hWa : W a = false := (hR _ _ pa.1).symm.trans hf.1
      rcases not_two hr hfree (pa.1.symm.trans pb.1) ha hWa with q | q
      · exact q
      · exact (q ⟨T, hT, pa.2, pb.2⟩).elim
    have := hev n (Nat.le_refl _)
    omega
  have h1 : oddN N n e W = sm (fun v => if W v then 0 else 1 - tdeg e T n (v : Int)) N.toNat := by
    show oddB _ _ _ _ = _
    rw [oddB_sm, sm_congr (g := fun s => sm (fun v => if Fst (Adj e n W) W s ∧ Cn (Adj e n W) s v then 1 - tdeg e T n (v : Int) else 0) N.toNat) fun s hs => by
      by_cases hf : Fst (Adj e n W) W s
      · rw [if_pos hf, hpart s hs hf]
        exact sm_congr fun v _ => by by_cases h : Cn (Adj e n W) s v <;> simp [hf, h]
      · rw [if_neg hf]
        exact (sm_zero fun v _ => by simp [hf]).symm, sm_swap]
    refine sm_congr fun v hv => ?_
    by_cases hW : W v = true
    · rw [if_pos hW]
      refine sm_zero fun s _ => if_neg fun ⟨hf, hc⟩ => ?_
      have := (hR _ _ hc).symm.trans hf.1
      rw [hW] at this; cases this
    · rw [if_neg hW]
      have hW' : W v = false := by simpa using hW
      obtain ⟨s, hs, hf, hc⟩ := fst_ex (e := e) (n := n) hW'
      have h0 := sm_one (f := fun s => if Fst (Adj e n W) W s ∧ Cn (Adj e n W) s v then 1 - tdeg e T n (v : Int) else 0) (g := fun _ => 0) (n := N.toNat) (b := s) (by omega) fun i _ hne => if_neg fun ⟨h1, h2⟩ => hne (fst_uniq h1 hf h2 hc)
      rw [sm_zero (f := fun _ => 0) fun _ _ => rfl, if_pos ⟨hf, hc⟩] at h0
      omega
  have hW0 : ∀ v : Nat, v < N.toNat → W v = true → tdeg e T n (v : Int) = 0 := fun v hv hW => by
    by_cases h0 : tdeg e T n (v : Int) = 0
    · exact h0
    · obtain ⟨k, hk, hTk, hend⟩ := tdeg_ex (e := e) (T := T) (v := (v : Int)) (n := n) (by omega)
      have hok := hT.1.2 k hk hTk
      simp only [okE, Bool.and_eq_true, Bool.not_eq_true'] at hok
      rcases hend with h | h
      · rw [h, Int.toNat_natCast, hW] at hok; cases hok.1
      · rw [h, Int.toNat_natCast, hW] at hok; cases hok.2
  have h2 := tdeg_sum (T := T) hr (Nat.le_refl n)
  have h3 : sm (fun v => if W v then 0 else 1 - tdeg e T n (v : Int)) N.toNat + sm (fun v => tdeg e T n (v : Int)) N.toNat + cnt W N.toNat = N.toNat := by
    have hone : ∀ M, sm (fun _ => 1) M = M := by
      intro M
      induction M with
      | zero => rfl
      | succ M ih => show sm _ M + 1 = _; rw [ih]
    rw [cnt_sm, ← sm_add, ← sm_add]
    refine Eq.trans (sm_congr (g := fun _ => 1) fun v hv => ?_) (hone _)
    have := hd1 (v : Int)
    by_cases hW : W v = true
    · rw [if_pos hW, if_pos hW, hW0 v hv hW]
    · rw [if_neg hW, if_neg hW]; omega
  omega
end

/-- a set that proves a matching largest -/
theorem berge {N : Int} {n : Nat} {e : Nat → Edg} (hr : Right N n e) : ∀ (d : Nat) (W : Nat → Bool), N.toNat - cnt W N.toNat = d → ∀ T, Mxw e n W T →
    ∃ U : Nat → Bool, (∀ v, v < N.toNat → W v = true → U v = true) ∧ 2 * cnt T n + oddN N n e U + 2 * cnt W N.toNat = N.toNat + cnt U N.toNat := by
  intro d
  induction d using Nat.strongRecOn with
  | ind d ih =>
  intro W hd T hT
  by_cases hfree : ∀ v, v < N.toNat → W v = false → ∃ T, Mxw e n W T ∧ tdeg e T n (v : Int) = 0
  · have := left_out hr hfree hT
    exact ⟨W, fun _ _ h => h, by omega⟩
  · obtain ⟨v, hv, hWv, hno⟩ : ∃ v, v < N.toNat ∧ W v = false ∧ ¬ ∃ T, Mxw e n W T ∧ tdeg e T n (v : Int) = 0 := by
      by_cases hh : ∃ v, v < N.toNat ∧ W v = false ∧ ¬ ∃ T, Mxw e n W T ∧ tdeg e T n (v : Int) = 0
      · exact hh
      · exact (hfree fun v hv hW => by
          by_cases hq : ∃ T, Mxw e n W T ∧ tdeg e T n (v : Int) = 0
          · exact hq
          · exact (hh ⟨v, hv, hW, hq⟩).elim).elim
    have hcw := cnt_or hv hWv
    have hcl := cnt_le (fun i => W i || decide (i = v)) N.toNat
    obtain ⟨T1, hT1⟩ := mxw_ex (e := e) (n := n) (W := fun i => W i || decide (i = v))
    -- it has one edge less
    have hpos : 0 < tdeg e T n (v : Int) := by
      by_cases h0 : tdeg e T n (v : Int) = 0
      · exact (hno ⟨T, hT, h0⟩).elim
      · omega
    obtain ⟨k, hk, hTk, hend⟩ := tdeg_ex hpos
    obtain ⟨T2, hT2, hc2, hd2, _, _⟩ := mtw_sub hT.1 hk hTk
    have hz : tdeg e T2 n (v : Int) = 0 := by
      have h1 := hd2 (v : Int)
      have h2 := hT.1.1 (v : Int)
      have h3 : 1 ≤ en (e k) (v : Int) := by
        unfold en
        rcases hend with h | h
        · rw [if_pos h]; omega
        · rw [if_pos h]; omega
      omega
    have hT2' : Mtw e n (fun i => W i || decide (i = v)) T2 := by
      refine ⟨hT2.1, fun j hj hTj => ?_⟩
      have hok := hT2.2 j hj hTj
      have hx := hr.ed j hj
      have hf0 := hx.f0; have ht0 := hx.t0
      have hat := tdeg_at (e := e) (v := (v : Int)) hTj hj
      simp only [okE, Bool.and_eq_true, Bool.not_eq_true', Bool.or_eq_false_iff, decide_eq_false_iff_not] at hok ⊢
      refine ⟨⟨hok.1, fun h => ?_⟩, hok.2, fun h => ?_⟩
      · rw [if_pos (show (e j).fr = (v : Int) by omega)] at hat; omega
      · rw [if_pos (show (e j).to = (v : Int) by omega)] at hat; omega
    have hle1 := hT1.2 T2 hT2'
    have hT1W : Mtw e n W T1 := ⟨hT1.1.1, fun j hj hTj => by
      have hok := hT1.1.2 j hj hTj
      simp only [okE, Bool.and_eq_true, Bool.not_eq_true', Bool.or_eq_false_iff, decide_eq_false_iff_not] at hok ⊢
      exact ⟨hok.1.1, hok.2.1⟩⟩
    have hz1 : tdeg e T1 n (v : Int) = 0 := by
      by_cases h0 : tdeg e T1 n (v : Int) = 0
      · exact h0
      · obtain ⟨j, hj, hTj, hend⟩ := tdeg_ex (e := e) (T := T1) (v := (v : Int)) (n := n) (by omega)
        have hok := hT1.1.2 j hj hTj
        simp only [okE, Bool.and_eq_true, Bool.not_eq_true', Bool.or_eq_false_iff, decide_eq_false_iff_not] at hok
        rcases hend with h | h
        · exact (hok.1.2 (by rw [h, Int.toNat_natCast])).elim
        · exact (hok.2.2 (by rw [h, Int.toNat_natCast])).elim
    have hlt : cnt T1 n < cnt T n := by
      have h1 := hT.2 T1 hT1W
      by_cases h2 : cnt T1 n = cnt T n
      · exact (hno ⟨T1, ⟨hT1W, fun T' hT' => by rw [h2]; exact hT.2 T' hT'⟩, hz1⟩).elim
      · omega
    obtain ⟨U, hU, hEq⟩ := ih (N.toNat - cnt (fun i => W i || decide (i = v)) N.toNat) (by omega) (fun i => W i || decide (i = v)) rfl T1 hT1
    refine ⟨U, fun w hw hWw => hU w hw (by simp [hWw]), ?_⟩
    omega
end Go.Mz
