/-
  HeapLowers, walked: whatever the kind, the keys and the handle, it answers true and leaves what was there as it was.
-/
import Derived.Test.YtajgpmohnbjpcaaHpL
import Derived.Test.YtajgpmohnbjpcaaGLawW
set_option linter.unusedSimpArgs false
set_option linter.unusedVariables false
namespace Go.Mz
section
variable {E : Value → Hp → Prop}

theorem llowers {kind h : Int} {kp : Option Addr} {n kc : Nat} {keys : Nat → Int} {H : Hp} {K : Bool → Hp → Prop} (hk : Rdr H kp n keys) (hn : n < 2 ^ 63) (hr : ∀ i, i < n → rng64 (keys i))
    (kk : ∀ H', Step (fun _ => False) H H' → K true H') : compasslaw05_HeapLowers.call kind kp n kc h E H K := by
  refine compasslaw05_HeapLowers.of (compasslaw05_HeapLowers.run_eq ?_)
  unfold compasslaw05_HeapLowers.run_t
  refine lawake5 fun H1 s1 => ?_
  refine bcb (fun h => by cases h) fun _ => ?_
  refine qnewK (fun h0 => ?_) fun _ hk1 hk4 hn0 hn1 g H2 q FP hq s2 f2 => ?_
  · refine bcb (fun _ => ?_) fun h => by cases h
    rw [show (!decide (newC kind (n : Int) = 0)) = true by rw [decide_eq_false h0]; rfl]
    exact kk H1 s1
  refine bcb (fun h => by cases h) fun _ => ?_
  simp only [Int.toNat_natCast] at hq ⊢
  have o2 : QO g H1 H2 q n kind (fun _ => 0) 0 (fun _ => false) FP := ⟨hq, s2, f2⟩
  refine compasslaw05_HeapLowers.l1_rule (fun kind' h2 q7 least t35p t35n t35c t36 t37 H' => kind' = kind ∧ h2 = h ∧ q7 = some ⟨q, 0, none⟩ ∧ t35p = kp ∧ t35n = n ∧ t36 = (n : Int) ∧
      ∃ (t : Nat) (key : Nat → Int) (S : Nat → Bool) (FP' : Nat → Prop), t37 = t ∧ t ≤ n ∧ QO g H1 H' q n kind key 0 S FP' ∧ (∀ v, S v = true → key v = keys v) ∧ (∀ v, t ≤ v → S v = false) ∧ (∀ v, S v = true → least ≤ key v) ∧ (kind = 4 → 0 ≤ least) ∧ -9223372036854775808 ≤ least ∧ least ≤ 9223372036854775807)
    (fun kind' h2 q7 least t35p t35n t35c t36 t37 H' => n - t37.toNat) ?_ ⟨rfl, rfl, rfl, rfl, rfl, rfl, 0, _, _, FP, rfl, Nat.zero_le _, o2, fun v hv => (by cases hv), fun v _ => rfl, fun v hv => (by cases hv), fun _ => by decide, by decide, by decide⟩
  rintro kind' h2 q7 least t35p t35n t35c t36 t37 H4 ⟨rfl, rfl, rfl, rfl, rfl, rfl, t, key, S, FP', rfl, ht, o4, hkey, hSt, hle, hl4, hlo, hhi⟩ X hX
  have hk4' : Rdr H4 t35p t35n keys := (hk.keep s1 fun _ _ _ h => h).keep o4.st fun _ _ _ h => h
  refine compasslaw05_HeapLowers.b1_eq ?_
  unfold compasslaw05_HeapLowers.b1_t
  refine bc (fun hlt => ?_) fun hge => ?_
  · have htn : t < t35n := by omega
    refine hk4'.ixI (by omega) (by omega) ?_
    rw [Int.toNat_natCast]
    have hrt := hr t htn
    unfold rng64 at hrt
    have next : ∀ {H5 : Hp} {key5 : Nat → Int} {S5 : Nat → Bool} {FP5 : Nat → Prop} {least5 : Int}, QO g H1 H5 q t35n kind' key5 0 S5 FP5 → (∀ v, S5 v = true → key5 v = keys v) → (∀ v, t + 1 ≤ v → S5 v = false) → (∀ v, S5 v = true → least5 ≤ key5 v) → (kind' = 4 → 0 ≤ least5) → -9223372036854775808 ≤ least5 → least5 ≤ 9223372036854775807 →
        compasslaw05_HeapLowers.j1 kind' h2 (some ⟨q, 0, none⟩) least5 t35p t35n t35c (t35n : Int) (t : Int) X E H5 K := by
      intro H5 key5 S5 FP5 least5 o5 hk5 hS5 g1 g2 g3 g4
      refine compasslaw05_HeapLowers.j1_eq ?_
      unfold compasslaw05_HeapLowers.j1_t
      rw [i64w (by omega) (by omega)]
      exact hX _ _ _ _ _ _ _ _ _ _ ⟨rfl, rfl, rfl, rfl, rfl, rfl, t + 1, key5, S5, FP5, by omega, by omega, o5, hk5, hS5, g1, g2, g3, g4⟩ (by omega)
    have hpc : pushC t35n kind' S 0 (t : Int) (keys t) = if kind' = 4 ∧ keys t < 0 then 80 else 0 := by
      unfold pushC
      rw [if_neg (by omega), Int.toNat_natCast, hSt t (Nat.le_refl _), if_neg (by decide)]
    refine qpush hrt.2 o4.qu (fun hb' => ?_) fun h0 H5 FP5 q5 s5 f5 => ?_
    · exact bc (fun h => (hb' h).elim) fun _ => next o4 hkey (fun v hv => hSt v (by omega)) hle hl4 hlo hhi
    · have o5 := o4.next q5 s5 f5
      simp only [Int.toNat_natCast] at o5
      refine bc (fun _ => ?_) fun h => (h rfl).elim
      have hpos : kind' = 4 → 0 ≤ keys t := fun hk => by
        rw [hpc] at h0
        refine Int.not_lt.1 fun hlt => ?_
        rw [if_pos ⟨hk, hlt⟩] at h0; cases h0
      have hkey5 : ∀ v, upf S t true v = true → upf key t (keys t) v = keys v := fun v hv => by
        by_cases ev : v = t
        · subst ev; rw [upf_same]
        · rw [upf_ne ev] at hv ⊢; exact hkey v hv
      have hS5 : ∀ v, t + 1 ≤ v → upf S t true v = false := fun v hv => by rw [upf_ne (by omega)]; exact hSt v (by omega)
      refine bc (fun hlow => next o5 hkey5 hS5 (fun v hv => ?_) hpos (by omega) (by omega)) fun hnl => next o5 hkey5 hS5 (fun v hv => ?_) hl4 hlo hhi
      · by_cases ev : v = t
        · subst ev; rw [upf_same]; exact Int.le_refl _
        · rw [upf_ne ev] at hv ⊢; have := hle v hv; omega
      · by_cases ev : v = t
        · subst ev; rw [upf_same]; omega
        · rw [upf_ne ev] at hv ⊢; exact hle v hv
  · clear hX
    have s04 := s1.and o4.st
    refine compasslaw05_HeapLowers.j2_eq ?_
    unfold compasslaw05_HeapLowers.j2_t
    refine qkey o4.qu ?_
    refine bcn (fun hc => ?_) fun hc => ?_
    · rw [if_neg hc]
      refine bc (fun _ => ?_) fun h => (h rfl).elim
      have hlc : lowerC t35n kind' key S 0 h2 0 = keyC t35n S h2 := by
        rw [lowerC_high (Int.le_refl _)]
        unfold keyC at hc ⊢
        by_cases h1 : h2 < 0 ∨ (t35n : Int) ≤ h2
        · rw [if_pos h1, if_pos h1]
        · rw [if_neg h1] at hc
          rw [if_neg h1, if_neg h1]
          cases hS : S h2.toNat with
          | true => rw [hS] at hc; exact (hc rfl).elim
          | false => rfl
      refine qlower o4.qu (fun h1 => ?_) fun h1 => by rw [hlc] at h1; exact (hc h1).elim
      rw [hlc, decide_eq_true rfl]
      exact kk H4 s04
    · have hin : ¬ (h2 < 0 ∨ (t35n : Int) ≤ h2) := fun h => by unfold keyC at hc; rw [if_pos h] at hc; cases hc
      have hS : S h2.toNat = true := by
        cases hS : S h2.toNat with
        | true => rfl
        | false => unfold keyC at hc; rw [if_neg hin, hS] at hc; cases hc
      rw [if_pos hc]
      have hkr := hr h2.toNat (o4.qu.sub _ hS)
      rw [← hkey _ hS] at hkr
      unfold rng64 at hkr
      have hlh := hle _ hS
      have j4 : (kind' = 4 → least ≠ 0) → least ≠ -9223372036854775808 → compasslaw05_HeapLowers.j4 h2 (some ⟨q, 0, none⟩) least E H4 K := by
        intro hm4 hmin
        refine compasslaw05_HeapLowers.j4_eq ?_
        unfold compasslaw05_HeapLowers.j4_t
        rw [i64w (by omega) (by omega)]
        have hlc : lowerC t35n kind' key S 0 h2 (least - 1) = 0 := by
          unfold lowerC
          rw [if_neg hin, hS, if_neg (by decide), if_neg (by omega), if_neg]
          rintro ⟨h4, hlt⟩
          have := hm4 h4; have := hl4 h4
          omega
        refine qlower o4.qu (fun h => (h hlc).elim) fun _ H5 FP5 q5 s5 f5 => ?_
        have o5 := o4.next q5 s5 f5
        refine bcn (fun h => (h rfl).elim) fun _ => ?_
        have uniq : ∀ w : Nat, S w = true → (∀ u, S u = true → ¬ lk (upf key h2.toNat (least - 1)) u w) → w = h2.toNat := by
          intro w hw hl
          refine Classical.byContradiction fun hne => ?_
          have h1 := hl h2.toNat hS
          have h2' := hle w hw
          unfold lk at h1
          rw [upf_same, upf_ne hne] at h1
          omega
        refine qtop o5.qu (fun h0 => by rw [h0 _] at hS; cases hS) fun w H6 s6 hw hl => ?_
        have ew := uniq w hw hl
        subst ew
        have o6 := o5.keep s6 (fun _ h => h.elim) fun _ _ h => h
        refine qpop o6.qu (fun h0 => by rw [h0 _] at hS; cases hS) fun w H7 FP7 hw' hl' q7 s7 f7 => ?_
        have ew := uniq w hw' hl'
        subst ew
        have o7 := o6.next q7 s7 f7
        refine qkey o7.qu ?_
        have hc2 : keyC t35n (upf S h2.toNat false) h2 = 2 := by
          unfold keyC
          rw [if_neg hin, upf_same, if_neg (by decide)]
        rw [hc2, upf_same]
        refine bc (fun _ => ?_) fun h => by omega
        refine bc (fun _ => ?_) fun h => (h rfl).elim
        refine bc (fun _ => ?_) fun h => (h rfl).elim
        refine bc (fun _ => ?_) fun h => by omega
        refine bc (fun _ => ?_) fun h => (h rfl).elim
        refine bc (fun _ => ?_) fun h => (h rfl).elim
        exact kk H7 (s1.and o7.st)
      have j3 : compasslaw05_HeapLowers.j3 kind' h2 (some ⟨q, 0, none⟩) least E H4 K := by
        refine compasslaw05_HeapLowers.j3_eq ?_
        unfold compasslaw05_HeapLowers.j3_t
        refine bc (fun h4 => ?_) fun h4 => ?_
        · refine bc (fun _ => kk H4 s04) fun hz => ?_
          exact bc (fun _ => kk H4 s04) fun hm => j4 (fun _ => hz) hm
        · exact bc (fun _ => kk H4 s04) fun hm => j4 (fun h => (h4 h).elim) hm
      refine bc (fun hlt => ?_) fun _ => j3
      rw [i64w (by omega) (by omega)]
      have hlc : lowerC t35n kind' key S 0 h2 (key h2.toNat + 1) = 52 := by
        unfold lowerC
        rw [if_neg hin, hS, if_neg (by decide), if_pos (by omega)]
      refine qlower o4.qu (fun _ => ?_) fun h => by rw [hlc] at h; cases h
      rw [hlc]
      exact bcn (fun h => (h rfl).elim) fun _ => j3
end
end Go.Mz
