/-
  The document's functions of layer 12, walked, more: Most, which calls itself.
-/
import Derived.Test.YtmaeboaopebaiaaRefJ
set_option linter.unusedSimpArgs false
set_option linter.unusedVariables false
namespace Go.Mz
section
variable {E : Value → Hp → Prop}

theorem rmost : ∀ (n : Nat), n ≤ 4096 → ∀ {N : Int} {ep : Option Addr} {ec : Nat} {e : Nat → Edg} {H : Hp} {K : Option Addr → Nat → Nat → Hp → Prop}, Rdr H ep n e →
    (∀ H' p c M, Step (fun _ => False) H H' → Mst e n M → Row H' p M.length c (lsF M) → K p M.length c H') → compassref12_Most.call N ep n ec E H K := by
  intro n
  induction n using Nat.strongRecOn with
  | ind n ih =>
  intro hn N ep ec e H K he kk
  refine compassref12_Most.of (compassref12_Most.run_eq ?_)
  unfold compassref12_Most.run_t
  refine nwk fun b1 H1 hb1 e1 s1 => ?_
  refine compassref12_Most.l1_rule (fun g1 bp bn bk i4 H' => b1 = g1 ∧ ∃ i : Nat, i4 = i ∧ i ≤ n ∧ Step (fun _ => False) H H' ∧ H' b1 = some ⟨[.int .i64 N, .slice ep n ec], 24⟩ ∧
      ∃ B, B.length = bn ∧ Row H' bp B.length bk (lsF B) ∧ Mtc e n B ∧ ∀ T, (∀ v, tdeg e T n v ≤ 1) → (∃ k, k < i ∧ T k = true) → cnt T n ≤ B.length)
    (fun g1 bp bn bk i4 H' => n - i4.toNat) ?_ ⟨rfl, 0, rfl, by omega, s1, e1, [], rfl, Row.nil, ⟨fun j hj => (by cases hj), fun v => Nat.zero_le _⟩, fun T _ h => (by obtain ⟨k, hk, _⟩ := h; omega)⟩
  clear e1 hb1 s1
  rintro g1 bp bn bk i4 H2 ⟨rfl, i, rfl, hi, s2, e2, B, rfl, rb, hB, hopt⟩ X hX
  have hBl := hB.1.len
  refine compassref12_Most.b1_eq ?_
  unfold compassref12_Most.b1_t
  simp only [get_at e2, List.getElem?_cons_zero, List.getElem?_cons_succ, ldI_mk, ldS_mk]
  refine bc (fun hlt => ?_) fun hge => ?_
  · have hin : i < n := by omega
    have he2 := he.keep s2 fun _ _ _ h => h
    refine he2.edgeF (by omega) (by omega) ?_
    try simp only [get_at e2, List.getElem?_cons_zero, List.getElem?_cons_succ, ldI_mk, ldS_mk]
    refine he2.edgeT (by omega) (by omega) ?_
    simp only [Int.toNat_natCast]
    have next : ∀ H' bp' bk' (B' : List Nat), Step (fun _ => False) H H' → H' b1 = some ⟨[.int .i64 N, .slice ep n ec], 24⟩ → Row H' bp' B'.length bk' (lsF B') → Mtc e n B' → (∀ T, (∀ v, tdeg e T n v ≤ 1) → (∃ k, k < i + 1 ∧ T k = true) → cnt T n ≤ B'.length) →
        compassref12_Most.j1 b1 bp' B'.length bk' (i : Int) X E H' K := fun H' bp' bk' B' s' e' r' m' o' => by
      refine compassref12_Most.j1_eq ?_
      unfold compassref12_Most.j1_t
      rw [i64w (by omega) (by omega)]
      exact hX _ _ _ _ _ _ ⟨rfl, i + 1, by omega, by omega, s', e', B', rfl, r', m', o'⟩ (by omega)
    -- the first that is marked
    have first : ∀ (T : Nat → Bool), (∃ k, k < i + 1 ∧ T k = true) → (∃ k, k < i ∧ T k = true) ∨ (T i = true ∧ ∀ k, k < i → T k = false) := fun T ⟨k, hk, hT⟩ => by
      by_cases h : ∃ k, k < i ∧ T k = true
      · exact .inl h
      · right
        have hno : ∀ k, k < i → T k = false := fun k hk => by
          cases hh : T k with
          | false => rfl
          | true => exact (h ⟨k, hk, hh⟩).elim
        refine ⟨?_, hno⟩
        by_cases hki : k = i
        · subst hki; exact hT
        · rw [hno k (by omega)] at hT; cases hT
    refine bc (fun hl => ?_) fun hl => ?_
    · refine next _ _ _ _ s2 e2 rb hB fun T hT hk => ?_
      rcases first T hk with h | ⟨h, _⟩
      · exact hopt T hT h
      · have h1 := tdeg_at (e := e) (v := (e i).fr) h hin
        rw [if_pos rfl, if_pos hl.symm] at h1
        have := hT (e i).fr
        omega
    · try simp only [get_at e2, List.getElem?_cons_zero, List.getElem?_cons_succ, ldI_mk, ldS_mk]
      refine rwithout he2 hn hin fun H3 op oc wp wc s3 ro rw' => ?_
      refine nwst rfl rfl fun b4 H4 hb4 e4 s4 => ?_
      simp only [get_at e4, List.getElem?_cons_zero, List.getElem?_cons_succ, ldI_mk, ldS_mk]
      have hw1 : (whl e i n).length < n := by
        have h1 : (whl e i n).length = cnt (fun k => decide (i < k) && apart (e k) (e i)) n := pk_len
        have h2 : cnt (fun k => decide (i < k) && apart (e k) (e i)) n + 1 ≤ cnt (fun _ => true) n := by
          have h3 := cnt_mono (p := fun k => decide (i < k) && apart (e k) (e i)) (q := fun k => !decide (k = i)) (n := n) fun k _ h => by
            simp at h ⊢; omega
          have h4 := cnt_less (p := fun _ => true) (q := fun k => !decide (k = i)) (n := n) (b := i) hin rfl (by simp) fun k _ hne => by simp [hne]
          omega
        have h3 := cnt_le (fun _ => true) n
        omega
      refine ih _ hw1 (by omega) (ro.keep s4 fun _ _ h => h).rdr fun H5 mp mc M s5 hM rm => ?_
      have s25 := (s3.and s4).and s5
      have e25 := s25.keep _ _ e2 fun h => h
      have hMl := hM.1.1.len
      rw [i64w (n := (M.length : Int) + 1) (by omega) (by omega)]
      have hfirst : ∀ T, (∀ v, tdeg e T n v ≤ 1) → T i = true → (∀ k, k < i → T k = false) → cnt T n ≤ M.length + 1 := fun T hT h1 h2 => most_first hin hT h1 h2 hM
      refine bc (fun hbet => ?_) fun hnb => ?_
      · have hl' : ¬ lp (e i) := hl
        have hcons := mtc_cons hin hl' hM.1
        have hcl : (consW (whl e i n) i M).length = M.length + 1 := by simp [consW]
        intro b6 hb6
        have s6 : Step (fun _ => False) H5 (H5.upd b6 ⟨[.int .i64 i], 3⟩) := Step.new hb6
        have r6 : Row (H5.upd b6 ⟨[.int .i64 i], 3⟩) (some ⟨b6, 0, none⟩) 1 1 (lsF (consW (whl e i n) i M)) :=
          ⟨Nat.le_refl _, by decide, .inr ⟨b6, 0, _, rfl, upd_same, ⟨Nat.le_refl _, rfl⟩, fun j hj l hl => by
            have ej : j = 0 := by omega
            subst ej
            have el : l = 0 := by have : El.w Int = 1 := rfl; omega
            subst el
            rfl⟩⟩
        refine compassref12_Most.l2_rule (fun g1 bp bn bk i4 wp' wn wc' mp' mn mc' k8 H' => b1 = g1 ∧ i4 = i ∧ wp = wp' ∧ (whl e i n).length = wn ∧ mp = mp' ∧ M.length = mn ∧ ∃ k : Nat, k8 = k ∧ k ≤ M.length ∧ k + 1 = bn ∧ Step (fun _ => False) H5 H' ∧ Row H' bp (k + 1) bk (lsF (consW (whl e i n) i M)) ∧ ∀ y, fpS bp y → H5 y = none)
          (fun g1 bp bn bk i4 wp' wn wc' mp' mn mc' k8 H' => M.length - k8.toNat) ?_ ⟨rfl, rfl, rfl, rfl, rfl, rfl, 0, rfl, by omega, rfl, s6, r6, fun y hy => by rw [fpS_mk] at hy; exact hy ▸ hb6⟩
        clear r6 s6 hb6 b6
        rintro g1 bp' bn bk' i4 wp' wn wc' mp' mn mc' k8 H6 ⟨rfl, rfl, rfl, rfl, rfl, rfl, k, rfl, hk, rfl, s6, r6, f6⟩ Z hZ
        have s06 := (s2.and s25).and s6
        refine compassref12_Most.b2_eq ?_
        unfold compassref12_Most.b2_t
        refine bc (fun hlt2 => ?_) fun hge2 => ?_
        · obtain ⟨y, hy, hyl⟩ : ∃ y : Nat, lsF M k = y ∧ y < (whl e i n).length := by
            have := hM.1.1 k (by omega)
            exact ⟨(lsF M k).toNat, by omega, by omega⟩
          refine (rm.keep s6 fun _ _ h => h).ixI (by omega) (by omega) ?_
          simp only [Int.toNat_natCast, hy]
          refine (rw'.keep ((s4.and s5).and s6) fun _ _ h => h).ixI (by omega) (by omega) ?_
          simp only [Int.toNat_natCast]
          refine r6.app (α := Int) (lsF (whl e i n) y) rfl (by omega) (by decide) fun p7 c7 H7 r7 s7 g7 => ?_
          rw [i64w (by omega) (by omega)]
          refine hZ _ _ _ _ _ _ _ _ _ _ _ _ _ ⟨rfl, rfl, rfl, rfl, rfl, rfl, k + 1, by omega, by omega, rfl, s6.own s7 fun y hy => f6 y hy, r7.congr fun j hj => ?_, fun z hz => ?_⟩ (by omega)
          · by_cases ej : j = k + 1
            · subst ej
              obtain ⟨x, hx, _⟩ := whl_at hyl
              rw [upf_same, lsF_consW (by omega), hy, Int.toNat_natCast, hx, Int.toNat_natCast]
            · rw [upf_ne ej]
          · rcases g7 z hz with h | h
            · exact f6 z h
            · exact s6.mono _ h
        · have : k = M.length := by omega
          subst this
          rw [← hcl]
          refine next _ _ _ _ s06 (s6.keep _ _ e25 fun h => h) (by rw [hcl]; exact r6) hcons fun T hT hk => ?_
          rw [hcl]
          rcases first T hk with h | ⟨h1, h2⟩
          · have := hopt T hT h; omega
          · exact hfirst T hT h1 h2
      · refine next _ _ _ _ (s2.and s25) e25 (rb.keep s25 fun _ _ h => h) hB fun T hT hk => ?_
        rcases first T hk with h | ⟨h1, h2⟩
        · exact hopt T hT h
        · have := hfirst T hT h1 h2; omega
  · have : i = n := by omega
    subst this
    refine kk _ _ _ _ s2 ⟨hB, fun T hT => ?_⟩ rb
    by_cases h : ∃ k, k < i ∧ T k = true
    · exact hopt T hT h
    · rw [cnt_none fun k hk => by
        cases hh : T k with
        | false => rfl
        | true => exact (h ⟨k, hk, hh⟩).elim]
      exact Nat.zero_le _
end
end Go.Mz
