/-
  The document's functions of layer 12, walked, more: subset, Barrier, Cover; and sorted, of the laws, on what is sorted already.
-/
import Derived.Test.YtjdhhepphbhjgaaRefB
import Derived.Test.YtjdhhepphbhjgaaRefC
import Derived.Test.YtjdhhepphbhjgaaRefK
import Derived.Test.YtjdhhepphbhjgaaVouX5
import Derived.Test.YtjdhhepphbhjgaaPkN
import Derived.Test.YtjdhhepphbhjgaaGLawX
set_option linter.unusedSimpArgs false
set_option linter.unusedVariables false
namespace Go.Mz

/-- the bits of a number -/
def btF (B t : Nat) : Bool := decide (B / 2 ^ t % 2 = 1)

theorem bitsF_of : ∀ (n : Nat) (T : Nat → Bool), ∃ B, B < 2 ^ n ∧ ∀ t, t < n → btF B t = T t
  | 0, _ => ⟨0, by decide, fun t ht => by omega⟩
  | n + 1, T => by
    obtain ⟨B, h1, h2⟩ := bitsF_of n fun t => T (t + 1)
    refine ⟨(if T 0 then 1 else 0) + 2 * B, by rw [Nat.pow_succ]; split <;> omega, fun t ht => ?_⟩
    rcases t with _ | t
    · unfold btF
      rw [Nat.pow_zero, Nat.div_one]
      cases T 0
      · simp
      · simp
    · have := h2 t (by omega)
      rw [← this]
      unfold btF
      rw [Nat.pow_succ, Nat.mul_comm (2 ^ t) 2, ← Nat.div_div_eq_div_mul]
      have hb : ((if T 0 = true then 1 else 0) + 2 * B) / 2 = B := by split <;> omega
      rw [hb]

theorem btF_all {n t : Nat} (ht : t < n) : btF (2 ^ n - 1) t = true := by
  have h := Nat.testBit_two_pow_sub_one n t
  rw [Nat.testBit_eq_decide_div_mod_eq] at h
  unfold btF
  rw [h]
  exact decide_eq_true ht

theorem bitF_at {B t : Nat} (ht : t < 64) : Int.tmod (Int.fdiv (B : Int) (2 ^ (min ((t : Int)).toNat (IntKind.bits .i64)))) 2 = ((B / 2 ^ t % 2 : Nat) : Int) := by
  have h64 : IntKind.bits .i64 = 64 := rfl
  have hm : min ((t : Int)).toNat (IntKind.bits .i64) = t := by rw [Int.toNat_natCast, h64]; omega
  have hd : Int.fdiv (B : Int) (2 ^ t) = ((B / 2 ^ t : Nat) : Int) := by
    rw [Int.fdiv_eq_ediv_of_nonneg _ (by exact_mod_cast Nat.zero_le (2 ^ t))]
    norm_cast
  rw [hm, hd]
  generalize B / 2 ^ t = q at *
  rw [Int.tmod_eq_emod_of_nonneg (by omega)]
  omega

section
variable {E : Value → Hp → Prop}

theorem rsubset {B n : Nat} {H : Hp} {K : Option Addr → Nat → Nat → Hp → Prop} (hn : n ≤ 60)
    (kk : ∀ p c H', Step (fun _ => False) H H' → Row H' p (pk (btF B) n).length c (lsF (pk (btF B) n)) → K p (pk (btF B) n).length c H') : compassref12_subset.call (B : Int) (n : Int) E H K := by
  refine compassref12_subset.of (compassref12_subset.run_eq ?_)
  unfold compassref12_subset.run_t
  refine compassref12_subset.l1_rule (fun bits n1 op on oc v6 H' => bits = B ∧ n1 = n ∧ ∃ t : Nat, v6 = t ∧ t ≤ n ∧ (pk (btF B) t).length = on ∧ Step (fun _ => False) H H' ∧ Row H' op (pk (btF B) t).length oc (lsF (pk (btF B) t)) ∧ ∀ y, fpS op y → H y = none)
    (fun bits n1 op on oc v6 H' => n - v6.toNat) ?_ ⟨rfl, rfl, 0, rfl, by omega, rfl, .refl, Row.nil, fun y hy => (by rw [fpS_none] at hy; exact hy.elim)⟩
  rintro bits n1 op on oc v6 H1 ⟨rfl, rfl, t, rfl, ht, rfl, s1, ro, fo⟩ X hX
  have hpl : (pk (btF B) t).length ≤ 60 := by rw [pk_len]; have := cnt_le (btF B) t; omega
  refine compassref12_subset.b1_eq ?_
  unfold compassref12_subset.b1_t
  refine bc (fun hlt => ?_) fun hge => ?_
  · refine ⟨by omega, by decide, ?_⟩
    rw [bitF_at (by omega)]
    have next : ∀ H' p' ln' c', ln' = (pk (btF B) (t + 1)).length → Step (fun _ => False) H H' → Row H' p' (pk (btF B) (t + 1)).length c' (lsF (pk (btF B) (t + 1))) → (∀ y, fpS p' y → H y = none) →
        compassref12_subset.j1 (B : Int) (n : Int) p' ln' c' (t : Int) X E H' K := fun H' p' ln' c' hl s r f => by
      refine compassref12_subset.j1_eq ?_
      unfold compassref12_subset.j1_t
      rw [i64w (by omega) (by omega)]
      exact hX _ _ _ _ _ _ _ ⟨rfl, rfl, t + 1, by omega, by omega, hl.symm, s, r, f⟩ (by omega)
    refine bc (fun h1 => ?_) fun h1 => ?_
    · have hp : pk (btF B) (t + 1) = pk (btF B) t ++ [t] := by rw [pk_succ, if_pos (by unfold btF; exact decide_eq_true (by omega))]
      refine ro.app (α := Int) (t : Int) rfl (by omega) (by decide) fun p' c' H7 r7 s7 f7 => ?_
      refine next _ _ _ _ (by rw [hp]; simp) (s1.own s7 fun y hy => fo y hy) ?_ fun y hy => ?_
      · rw [hp, ← lsF_app]; simpa using r7
      · rcases f7 y hy with h | h
        · exact fo y h
        · exact s1.mono _ h
    · have hp : pk (btF B) (t + 1) = pk (btF B) t := by rw [pk_succ, if_neg (by unfold btF; rw [decide_eq_true_eq]; omega)]
      exact next _ _ _ _ (by rw [hp]) s1 (by rw [hp]; exact ro) fo
  · have : t = n := by omega
    subst this
    exact kk _ _ _ s1 ro

theorem pow2_at {n : Nat} (hn : n ≤ 60) : IntKind.wrap .i64 (1 * 2 ^ (min ((n : Int)).toNat (IntKind.bits .i64))) = ((2 ^ n : Nat) : Int) := by
  have h64 : IntKind.bits .i64 = 64 := rfl
  have hmin : min ((n : Int)).toNat (IntKind.bits .i64) = n := by rw [Int.toNat_natCast, h64]; omega
  have hpw : (1 : Int) * 2 ^ n = ((2 ^ n : Nat) : Int) := by rw [Int.one_mul]; norm_cast
  have hle : 2 ^ n ≤ 2 ^ 60 := Nat.pow_le_pow_right (by decide) hn
  rw [hmin, hpw]
  generalize 2 ^ n = q at *
  rw [i64w (by omega) (by omega)]

theorem rsubsetI {B : Nat} {N : Int} {H : Hp} {K : Option Addr → Nat → Nat → Hp → Prop} (h0 : 0 ≤ N) (hn : N ≤ 60)
    (kk : ∀ p c H', Step (fun _ => False) H H' → Row H' p (pk (btF B) N.toNat).length c (lsF (pk (btF B) N.toNat)) → K p (pk (btF B) N.toNat).length c H') : compassref12_subset.call (B : Int) N E H K := by
  obtain ⟨n, rfl⟩ : ∃ n : Nat, N = n := ⟨N.toNat, by omega⟩
  rw [Int.toNat_natCast] at kk
  exact rsubset (by omega) kk

theorem pow2_atI {N : Int} (h0 : 0 ≤ N) (hn : N ≤ 60) : IntKind.wrap .i64 (1 * 2 ^ (min N.toNat (IntKind.bits .i64))) = ((2 ^ N.toNat : Nat) : Int) := by
  have := pow2_at (n := N.toNat) (by omega)
  rwa [Int.toNat_natCast] at this

open Classical in
theorem oddS_pk {N : Int} {n : Nat} {e : Nat → Edg} {P : Nat → Bool} (hr : Right N n e) : oddS N n e (lsF (pk P N.toNat)) (pk P N.toNat).length = oddN N n e P :=
  oddN_cg hr fun v hv => by
    by_cases h : P v = true
    · rw [h]; exact decide_eq_true (in_pk.2 ⟨hv, h⟩)
    · have hP : P v = false := by simpa using h
      rw [hP]; exact decide_eq_false fun hh => h (in_pk.1 hh).2

theorem rbarrier {N : Int} {ep : Option Addr} {n ec : Nat} {e : Nat → Edg} {p : Option Addr} {k c : Nat} {H : Hp} {K : Option Addr → Nat → Nat → Bool → Hp → Prop} (he : Rdr H ep n e) (hr : Right N n e) (hN : N ≤ 8) (hk : k ≤ 4096)
    (hex : ∃ U : Nat → Bool, 2 * k + oddN N n e U = N.toNat + cnt U N.toNat)
    (kk : ∀ p' c' H' (P : Nat → Bool), Step (fun _ => False) H H' → Row H' p' (pk P N.toNat).length c' (lsF (pk P N.toNat)) → 2 * k + oddN N n e P = N.toNat + (pk P N.toNat).length → K p' (pk P N.toNat).length c' true H') :
    compassref12_Barrier.call N ep n ec p k c E H K := by
  have hN0 := hr.N0; have hn1 := hr.n1
  obtain ⟨U, hU⟩ := hex
  obtain ⟨B0, hB0, hbits⟩ := bitsF_of N.toNat U
  have hB0e : 2 * k + oddN N n e (btF B0) = N.toNat + cnt (btF B0) N.toNat := by
    rw [oddN_cg hr hbits, cnt_congr hbits]; exact hU
  have hpw : 2 ^ N.toNat ≤ 2 ^ 8 := Nat.pow_le_pow_right (by decide) (by omega)
  refine compassref12_Barrier.of (compassref12_Barrier.run_eq ?_)
  unfold compassref12_Barrier.run_t
  refine nwk fun b1 H1 hb1 e1 s1 => ?_
  refine compassref12_Barrier.l1_rule (fun mp mn mc g2 bits H' => p = mp ∧ k = mn ∧ b1 = g2 ∧ ∃ B : Nat, bits = B ∧ B ≤ B0 ∧ Step (fun _ => False) H1 H')
    (fun mp mn mc g2 bits H' => B0 + 1 - bits.toNat) ?_ ⟨rfl, rfl, rfl, 0, rfl, by omega, .refl⟩
  rintro mp mn mc g2 bits H2 ⟨rfl, rfl, rfl, B, rfl, hB, s2⟩ X hX
  have e2 := s2.keep _ _ e1 fun h => h
  have s02 := s1.and s2
  refine compassref12_Barrier.b1_eq ?_
  unfold compassref12_Barrier.b1_t
  simp only [get_at e2, List.getElem?_cons_zero, List.getElem?_cons_succ, ldI_mk, ldS_mk]
  refine ⟨hN0, ?_⟩
  rw [pow2_atI hN0 (by omega)]
  refine bct (by omega) ?_
  try simp only [get_at e2, List.getElem?_cons_zero, List.getElem?_cons_succ, ldI_mk, ldS_mk]
  · refine rsubsetI hN0 (by omega) fun p3 c3 H3 s3 r3 => ?_
    have e3 := s3.keep _ _ e2 fun h => h
    have s03 := s02.and s3
    have hpl : (pk (btF B) N.toNat).length ≤ 8 := by rw [pk_len]; have := cnt_le (btF B) N.toNat; omega
    simp only [get_at e3, List.getElem?_cons_zero, List.getElem?_cons_succ, ldI_mk, ldS_mk]
    refine rodd (he.keep s03 fun _ _ _ h => h) hr r3.rdr (by omega) fun H4 s4 => ?_
    have e4 := s4.keep _ _ e3 fun h => h
    simp only [get_at e4, List.getElem?_cons_zero, List.getElem?_cons_succ, ldI_mk, ldS_mk, true_and]
    rw [oddS_pk hr]
    have hol : oddN N n e (btF B) ≤ N.toNat := oddB_le _
    rw [i64w (n := 2 * (k : Int)) (by omega) (by omega), i64w (n := N + _) (by omega) (by omega), i64w (by omega) (by omega)]
    refine bc (fun h => ?_) fun h => ?_
    · exact kk _ _ _ (btF B) (s03.and s4) (r3.keep s4 fun _ _ h => h) (by omega)
    · have hne : B ≠ B0 := fun hh => h (by rw [hh, pk_len]; omega)
      rw [i64w (by omega) (by omega)]
      exact hX _ _ _ _ _ _ ⟨rfl, rfl, rfl, B + 1, by omega, by omega, (s2.and s3).and s4⟩ (by omega)
end
end Go.Mz
