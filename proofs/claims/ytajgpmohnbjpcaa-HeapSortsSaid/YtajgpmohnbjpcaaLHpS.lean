/-
  HeapSorts, walked: whatever the kind and the keys, it answers true and leaves what was there as it was.
-/
import Derived.Test.YtajgpmohnbjpcaaHpL
import Derived.Test.YtajgpmohnbjpcaaGLawS
set_option linter.unusedSimpArgs false
set_option linter.unusedVariables false
namespace Go.Mz
section
variable {E : Value → Hp → Prop}

theorem lsorts {kind : Int} {kp : Option Addr} {n kc : Nat} {keys : Nat → Int} {H : Hp} {K : Bool → Hp → Prop} (hk : Rdr H kp n keys) (hn : n < 2 ^ 63) (hr : ∀ i, i < n → rng64 (keys i))
    (kk : ∀ H', Step (fun _ => False) H H' → K true H') : compasslaw05_HeapSorts.call kind kp n kc E H K := by
  refine compasslaw05_HeapSorts.of (compasslaw05_HeapSorts.run_eq ?_)
  unfold compasslaw05_HeapSorts.run_t
  refine lawake5 fun H1 s1 => ?_
  refine bcb (fun h => by cases h) fun _ => ?_
  refine qnewK (fun h0 => ?_) fun _ hk1 hk4 hn0 hn1 g H2 q FP hq s2 f2 => ?_
  · refine bcb (fun _ => ?_) fun h => by cases h
    rw [show (!decide (newC kind (n : Int) = 0)) = true by rw [decide_eq_false h0]; rfl]
    exact kk H1 s1
  refine bcb (fun h => by cases h) fun _ => ?_
  refine Row.mkB (by omega) (by omega) fun hb H3 hhb rh s3 => ?_
  simp only [Int.toNat_natCast] at hq rh ⊢
  have s03 := (s1.and s2).and s3
  have o3 : QO g H1 H3 q n kind (fun _ => 0) 0 (fun _ => false) FP := ⟨hq.keep s3 fun _ _ h => h, s2.and s3, f2⟩
  have fhb : H1 hb = none := s2.mono _ hhb
  refine compasslaw05_HeapSorts.l1_rule (fun kind' k1p k1n k1c q5 pushed hp hn' hc t37p t37n t37c t38 t39 H' => kind' = kind ∧ k1p = kp ∧ k1n = n ∧ k1c = kc ∧ q5 = some ⟨q, 0, none⟩ ∧ hp = some ⟨hb, 0, none⟩ ∧ hn' = n ∧ hc = n ∧ t37p = kp ∧ t37n = n ∧ t38 = (n : Int) ∧
      ∃ (t : Nat) (key : Nat → Int) (S : Nat → Bool) (FP' : Nat → Prop), t39 = t ∧ t ≤ n ∧ QO g H1 H' q n kind key 0 S FP' ∧ ¬ FP' hb ∧ Row H' (some ⟨hb, 0, none⟩) n n S ∧ (∀ v, S v = true → key v = keys v) ∧ (∀ v, t ≤ v → S v = false) ∧ pushed = (cnt S n : Int))
    (fun kind' k1p k1n k1c q5 pushed hp hn' hc t37p t37n t37c t38 t39 H' => n - t39.toNat) ?_ ⟨rfl, rfl, rfl, rfl, rfl, rfl, rfl, rfl, rfl, rfl, rfl, 0, _, _, FP, rfl, Nat.zero_le _, o3, fun h => hq.live hb h hhb, rh, fun v hv => (by cases hv), fun v _ => rfl, by rw [cnt_none fun _ _ => rfl]; rfl⟩
  rintro kind' k1p k1n k1c q5 pushed hp hn' hc t37p t37n t37c t38 t39 H4 ⟨rfl, rfl, rfl, rfl, rfl, rfl, rfl, rfl, rfl, rfl, rfl, t, key, S, FP', rfl, ht, o4, nhb, rS, hkey, hSt, rfl⟩ X hX
  have hk4' : Rdr H4 t37p t37n keys := (hk.keep s1 fun _ _ _ h => h).keep o4.st fun _ _ _ h => h
  refine compasslaw05_HeapSorts.b1_eq ?_
  unfold compasslaw05_HeapSorts.b1_t
  refine bc (fun hlt => ?_) fun hge => ?_
  · have htn : t < t37n := by omega
    refine hk4'.ixI (by omega) (by omega) ?_
    rw [Int.toNat_natCast]
    have hrt := hr t htn
    unfold rng64 at hrt
    have next : ∀ {H5 : Hp} {key5 : Nat → Int} {S5 : Nat → Bool} {FP5 : Nat → Prop}, QO g H1 H5 q t37n kind' key5 0 S5 FP5 → ¬ FP5 hb → Row H5 (some ⟨hb, 0, none⟩) t37n t37n S5 → (∀ v, S5 v = true → key5 v = keys v) → (∀ v, t + 1 ≤ v → S5 v = false) →
        compasslaw05_HeapSorts.j1 kind' t37p t37n k1c (some ⟨q, 0, none⟩) (cnt S5 t37n : Int) (some ⟨hb, 0, none⟩) t37n t37n t37p t37n t37c (t37n : Int) (t : Int) X E H5 K := by
      intro H5 key5 S5 FP5 o5 n5 r5 hk5 hS5
      refine compasslaw05_HeapSorts.j1_eq ?_
      unfold compasslaw05_HeapSorts.j1_t
      rw [i64w (by omega) (by omega)]
      exact hX _ _ _ _ _ _ _ _ _ _ _ _ _ _ _ ⟨rfl, rfl, rfl, rfl, rfl, rfl, rfl, rfl, rfl, rfl, rfl, t + 1, key5, S5, FP5, by omega, by omega, o5, n5, r5, hk5, hS5, rfl⟩ (by omega)
    have hpc : pushC t37n kind' S 0 (t : Int) (keys t) = if kind' = 4 ∧ keys t < 0 then 80 else 0 := by
      unfold pushC
      rw [if_neg (by omega), Int.toNat_natCast, hSt t (Nat.le_refl _), if_neg (by decide)]
    refine qpush hrt.2 o4.qu (fun hb' => ?_) fun h0 H5 FP5 q5 s5 f5 => ?_
    · rw [hpc] at hb' ⊢
      by_cases hm : kind' = 4 ∧ keys t < 0
      · rw [if_pos hm]
        refine bc (fun h => by cases h) fun _ => ?_
        refine bcn (fun h => (h rfl).elim) fun _ => ?_
        refine bcn (fun h => (h hm.1).elim) fun _ => ?_
        refine bc (fun h => by omega) fun _ => ?_
        exact next o4 nhb rS hkey fun v hv => hSt v (by omega)
      · rw [if_neg hm] at hb'; exact (hb' rfl).elim
    · have o5 := o4.next q5 s5 f5
      have rS5 := rS.keep s5 fun y hy h => by rw [fpS_mk] at hy; exact nhb (hy ▸ h)
      refine bc (fun _ => ?_) fun h => (h rfl).elim
      refine rS5.stB (by omega) (by omega) _ fun H6 r6 s6 => ?_
      simp only [Int.toNat_natCast] at r6 o5
      have n5 : ¬ FP5 hb := fun h => (f5 _ h).elim nhb (rS.live ⟨0, rfl⟩)
      have o6 := o5.keep s6 (fun y hy => by rw [fpS_mk] at hy; exact hy ▸ fhb) fun y hy h => by rw [fpS_mk] at h; exact n5 (h ▸ hy)
      have hcn := cnt_less (p := upf S t true) (q := S) (n := t37n) htn upf_same (hSt t (Nat.le_refl _)) fun i _ hne => upf_ne hne
      have hcl := cnt_le S t37n
      have e : IntKind.wrap .i64 ((cnt S t37n : Int) + 1) = (cnt (upf S t true) t37n : Int) := by rw [i64w (by omega) (by omega)]; omega
      rw [e]
      refine next o6 n5 r6 (fun v hv => ?_) fun v hv => ?_
      · by_cases ev : v = t
        · subst ev; rw [upf_same]
        · rw [upf_ne ev] at hv ⊢; exact hkey v hv
      · rw [upf_ne (by omega)]; exact hSt v (by omega)
  · clear hX
    refine compasslaw05_HeapSorts.j2_eq ?_
    unfold compasslaw05_HeapSorts.j2_t
    obtain ⟨tot, htot⟩ : ∃ tot, cnt S t37n = tot := ⟨_, rfl⟩
    rw [htot]
    have htl := cnt_le S t37n
    refine compasslaw05_HeapSorts.l2_rule (fun k1p k1n k1c' q5 pushed hp hn' hc last12 from13 i14 H' => k1p = t37p ∧ k1n = t37n ∧ q5 = some ⟨q, 0, none⟩ ∧ pushed = (tot : Int) ∧ hp = some ⟨hb, 0, none⟩ ∧ hn' = t37n ∧ hc = t37n ∧
        ∃ (i : Nat) (last : Int) (S : Nat → Bool) (FP' : Nat → Prop), i14 = i ∧ i + cnt S t37n = tot ∧ QO g H1 H' q t37n kind' key last S FP' ∧ ¬ FP' hb ∧ Row H' (some ⟨hb, 0, none⟩) t37n t37n S ∧ (∀ v, S v = true → key v = keys v) ∧ (∀ v, S v = true → last12 < key v ∨ (last12 = key v ∧ from13 ≤ (v : Int))))
      (fun k1p k1n k1c' q5 pushed hp hn' hc last12 from13 i14 H' => tot - i14.toNat) ?_ ⟨rfl, rfl, rfl, rfl, rfl, rfl, rfl, 0, 0, S, FP', rfl, by omega, o4, nhb, rS, hkey, fun v hv => ?_⟩
    · rintro k1p k1n k1c' q5 pushed hp hn' hc last12 from13 i14 H5 ⟨rfl, rfl, rfl, rfl, rfl, rfl, rfl, i, last, S5, FP5, rfl, hi, o5, n5, r5, hkey5, hls⟩ X2 hX2
      have s05 := s1.and o5.st
      have hk5' : Rdr H5 k1p hc keys := (hk.keep s1 fun _ _ _ h => h).keep o5.st fun _ _ _ h => h
      refine compasslaw05_HeapSorts.b2_eq ?_
      unfold compasslaw05_HeapSorts.b2_t
      refine bc (fun hlt2 => ?_) fun hge2 => ?_
      · refine qpop o5.qu (fun h0 => ?_) fun w H6 FP6 hw hl q6 s6 f6 => ?_
        · rw [cnt_none fun v _ => h0 v] at hi
          omega
        · have o6 := o5.next q6 s6 f6
          have r6 := r5.keep s6 fun y hy h => by rw [fpS_mk] at hy; exact n5 (hy ▸ h)
          have n6 : ¬ FP6 hb := fun h => (f6 _ h).elim n5 (r5.live ⟨0, rfl⟩)
          have hwn := o5.qu.sub w hw
          have hk6' : Rdr H6 k1p hc keys := (hk.keep s1 fun _ _ _ h => h).keep o6.st fun _ _ _ h => h
          have hlw := hls w hw
          refine bcn (fun h => (h rfl).elim) fun _ => ?_
          refine bc (fun h => by omega) fun _ => ?_
          refine bc (fun h => by omega) fun _ => ?_
          refine r6.rdr.ixB (by omega) (by omega) ?_
          rw [Int.toNat_natCast, hw]
          refine bcb (fun h => by cases h) fun _ => ?_
          refine hk6'.ixI (by omega) (by omega) ?_
          rw [Int.toNat_natCast]
          refine bcn (fun h => (h (hkey5 w hw).symm).elim) fun _ => ?_
          refine bc (fun h => by omega) fun _ => ?_
          have hcn := cnt_less (p := S5) (q := upf S5 w false) (n := hc) hwn hw upf_same fun i _ hne => (upf_ne hne).symm
          have fin : compasslaw05_HeapSorts.j3 k1p hc k1c' (some ⟨q, 0, none⟩) (tot : Int) (some ⟨hb, 0, none⟩) hc hc (i : Int) (w : Int) (key w) X2 E H6 K := by
            refine compasslaw05_HeapSorts.j3_eq ?_
            unfold compasslaw05_HeapSorts.j3_t
            refine r6.stB (by omega) (by omega) _ fun H7 r7 s7 => ?_
            rw [Int.toNat_natCast] at r7
            have o7 := o6.keep s7 (fun y hy => by rw [fpS_mk] at hy; exact hy ▸ fhb) fun y hy h => by rw [fpS_mk] at h; exact n6 (h ▸ hy)
            rw [i64w (by omega) (by omega)]
            refine hX2 _ _ _ _ _ _ _ _ _ _ _ _ ⟨rfl, rfl, rfl, rfl, rfl, rfl, rfl, i + 1, key w, upf S5 w false, FP6, by omega, by omega, o7, n6, r7, fun v hv => ?_, fun v hv => ?_⟩ (by omega)
            · by_cases ev : v = w
              · subst ev; rw [upf_same] at hv; cases hv
              · rw [upf_ne ev] at hv; exact hkey5 v hv
            · by_cases ev : v = w
              · subst ev; rw [upf_same] at hv; cases hv
              · rw [upf_ne ev] at hv
                have := hl v hv
                unfold lk at this
                omega
          refine bc (fun he => ?_) fun _ => fin
          exact bc (fun h => by omega) fun _ => fin
      · have hc0 : cnt S5 hc = 0 := by omega
        have hno : ∀ v, S5 v = false := fun v => by
          cases hS : S5 v with
          | false => rfl
          | true => have := cnt_pos (p := S5) (o5.qu.sub v hS) hS; omega
        refine compasslaw05_HeapSorts.j4_eq ?_
        unfold compasslaw05_HeapSorts.j4_t
        refine qpop o5.qu (fun _ => ?_) fun w H6 FP6 hw => by rw [hno w] at hw; cases hw
        refine bc (fun _ => ?_) fun h => (h rfl).elim
        refine qlen o5.qu ?_
        rw [hc0]
        exact kk H5 s05
    · have h1 := hr v (o4.qu.sub v hv)
      have h2 := hkey v hv
      unfold rng64 at h1
      omega
end
end Go.Mz
