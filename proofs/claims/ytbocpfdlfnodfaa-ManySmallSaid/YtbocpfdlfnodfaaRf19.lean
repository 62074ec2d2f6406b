/-
  The document's function of layer 19, walked: Most, by trying all lists.
-/
import Derived.Test.YtbocpfdlfnodfaaRefA
import Derived.Test.YtbocpfdlfnodfaaPkQ
import Derived.Test.YtbocpfdlfnodfaaPkM
import Derived.Test.YtbocpfdlfnodfaaGR19
set_option linter.unusedSimpArgs false
set_option linter.unusedVariables false
namespace Go.Mz

/-- the edges that a number's bits name -/
def bitT (x : Nat) (i : Nat) : Bool := decide (x / 2 ^ i % 2 = 1)

/-- each list of marks is named by a number -/
theorem bit_all (T : Nat → Bool) : ∀ n, ∃ x, x < 2 ^ n ∧ ∀ i, i < n → bitT x i = T i
  | 0 => ⟨0, by decide, fun i hi => by omega⟩
  | n + 1 => by
    obtain ⟨x, hx, h⟩ := bit_all T n
    have h2 : 2 ^ (n + 1) = 2 * 2 ^ n := by rw [Nat.pow_succ]; omega
    cases hT : T n
    · refine ⟨x, by omega, fun i hi => ?_⟩
      by_cases ei : i = n
      · subst ei
        rw [hT]
        refine decide_eq_false ?_
        rw [Nat.div_eq_of_lt hx]; decide
      · exact h i (by omega)
    · refine ⟨x + 2 ^ n, by omega, fun i hi => ?_⟩
      by_cases ei : i = n
      · subst ei
        rw [hT]
        refine decide_eq_true ?_
        rw [Nat.add_div_right _ (Nat.pos_of_ne_zero (by simp)), Nat.div_eq_of_lt hx]
      · rw [← h i (by omega)]
        unfold bitT
        rw [decide_eq_decide]
        have e1 : 2 ^ n = 2 ^ i * (2 * 2 ^ (n - i - 1)) := by
          rw [← Nat.mul_assoc, ← Nat.pow_succ, ← Nat.pow_add]; congr 1; omega
        rw [e1, Nat.add_mul_div_left _ _ (Nat.pos_of_ne_zero (by simp)), Nat.add_mul_mod_self_left]

/-- a rising list is named by a number -/
theorem pk_congr {P Q : Nat → Bool} : ∀ {n : Nat}, (∀ i, i < n → P i = Q i) → pk P n = pk Q n
  | 0, _ => rfl
  | n + 1, h => by rw [pk_succ, pk_succ, h n (by omega), pk_congr fun i hi => h i (by omega)]

section
variable {N : Int} {n : Nat} {e : Nat → Edg} {b : Nat → Int}

open Classical in
/-- a rising list is that of the marks that it makes -/
theorem pk_in {o : Nat → Int} {ko : Nat} (h : Ris o ko n) : (pk (fun i => decide (In o ko (i : Int))) n).length = ko := by
  rw [pk_len, rise_cnt h]

open Classical in
theorem tkn_pk {o : Nat → Int} {ko : Nat} (h : Tkn N n e o ko fun v => b v.toNat) (h0 : ∀ v : Nat, v < N.toNat → 0 ≤ b v) : Tkn N n e (lsF (pk (fun i => decide (In o ko (i : Int))) n)) (pk (fun i => decide (In o ko (i : Int))) n).length fun v => b v.toNat := by
  refine marks_tkn (fun i hi ht => ?_) fun v hv => ?_
  · obtain ⟨j, hj, ej⟩ := of_decide_eq_true ht
    have := h.nl j hj
    rwa [ej, Int.toNat_natCast] at this
  · rw [rise_deg h.ris]
    have h1 := h.mst (v : Int) (by omega) (by omega)
    rw [Int.toNat_natCast] at h1
    have h2 := h0 v hv
    by_cases hz : 0 < dg e o ko (v : Int)
    · exact h1 hz
    · omega
end

/-- the best among the lists before a number -/
structure BestB (N : Int) (n : Nat) (e : Nat → Edg) (b : Nat → Int) (x : Nat) (best : Nat) : Prop where
  got : best = 0 ∨ ∃ o, Tkn N n e o best fun v => b v.toNat
  all : ∀ y, y < x → Tkn N n e (lsF (pk (bitT y) n)) (pk (bitT y) n).length (fun v => b v.toNat) → (pk (bitT y) n).length ≤ best

section
variable {E : Value → Hp → Prop}

theorem rmost19 {N : Int} {n ec : Nat} {e : Nat → Edg} {ep : Option Addr} {bp : Option Addr} {bn bk : Nat} {b : Nat → Int} {H : Hp} {K : Int → Hp → Prop} (he : Rdr H ep n e) (hr : Right N n e) (hb : Rdr H bp bn b) (hbd : Bnd N b bn) (hn : n ≤ 10)
    (kk : ∀ H' best : _, Step (fun _ => False) H H' → (best = 0 ∨ ∃ o, Tkn N n e o best fun v => b v.toNat) → (∀ o ko, Tkn N n e o ko (fun v => b v.toNat) → ko ≤ best) → K ((best : Nat) : Int) H') : compassref19_Most.call N ep n ec bp bn bk E H K := by
  have hN0 := hr.N0
  have hbl := hbd.len
  have h0 : ∀ v : Nat, v < N.toNat → 0 ≤ b v := fun v hv => (hbd.bnd v (by omega)).1
  have hpw : 2 ^ n ≤ 1024 := Nat.le_trans (Nat.pow_le_pow_right (by decide) hn) (by decide)
  have hpos : 0 < 2 ^ n := Nat.pos_of_ne_zero (by simp)
  refine compassref19_Most.of (compassref19_Most.run_eq ?_)
  unfold compassref19_Most.run_t
  refine nwk fun b1 H1 hb1 e1 s1 => ?_
  refine compassref19_Most.l1_rule (fun bp' bn' bk' g2 best5 bits6 H' => bp' = bp ∧ bn' = bn ∧ bk' = bk ∧ g2 = b1 ∧ ∃ x best : Nat, bits6 = x ∧ best5 = best ∧ x ≤ 2 ^ n ∧ best ≤ n ∧ BestB N n e b x best ∧ Step (fun _ => False) H1 H')
    (fun bp' bn' bk' g2 best5 bits6 H' => 2 ^ n - bits6.toNat) ?_ ⟨rfl, rfl, rfl, rfl, 0, 0, rfl, rfl, Nat.zero_le _, Nat.zero_le _, ⟨.inl rfl, fun y hy => by omega⟩, .refl⟩
  rintro bp' bn' bk' g2 best5 bits6 H2 ⟨rfl, rfl, rfl, rfl, x, best, rfl, rfl, hx, hbn, hB, s2⟩ X hX
  have e12 := s2.keep _ _ e1 fun h => h
  have s02 := s1.and s2
  refine compassref19_Most.b1_eq ?_
  unfold compassref19_Most.b1_t
  simp only [get_at e12, List.getElem?_cons_zero, List.getElem?_cons_succ, ldI_mk, ldS_mk]
  refine ⟨by omega, ?_⟩
  have e2n : IntKind.wrap .i64 (1 * 2 ^ (min (n : Int).toNat (IntKind.bits .i64))) = ((2 ^ n : Nat) : Int) := by
    rw [Int.toNat_natCast, Nat.min_eq_left (show n ≤ IntKind.bits .i64 by show n ≤ 64; omega), Int.one_mul, i64w]
    · rw [Int.natCast_pow]; rfl
    · have : ((2 ^ n : Nat) : Int) = 2 ^ n := by rw [Int.natCast_pow]; rfl
      omega
    · have : ((2 ^ n : Nat) : Int) = 2 ^ n := by rw [Int.natCast_pow]; rfl
      omega
  rw [e2n]
  refine bc (fun hlt => ?_) fun hge => ?_
  · have hlen : ∀ v, (pk (bitT x) v).length ≤ v := fun v => by rw [pk_len]; exact cnt_le _ _
    refine compassref19_Most.l2_rule (fun p' n' c' g2' best5 bits6 lp ln lc i8 H' => p' = bp' ∧ n' = bn' ∧ c' = bk' ∧ g2' = g2 ∧ best5 = best ∧ bits6 = x ∧ ∃ i : Nat, i8 = i ∧ i ≤ n ∧ ln = (pk (bitT x) i).length ∧ Step (fun _ => False) H2 H' ∧ Row H' lp ln lc (lsF (pk (bitT x) i)) ∧ (∀ y, fpS lp y → H2 y = none))
      (fun p' n' c' g2' best5 bits6 lp ln lc i8 H' => n - i8.toNat) ?_ ⟨rfl, rfl, rfl, rfl, rfl, rfl, 0, rfl, Nat.zero_le _, rfl, .refl, Row.nil, fun y h => by rw [fpS_none] at h; exact h.elim⟩
    rintro p' n' c' g2' best5 bits6 lp ln lc i8 H3 ⟨rfl, rfl, rfl, rfl, rfl, rfl, i, rfl, hi, rfl, s3, rl, fl⟩ Y hY
    have e13 := s3.keep _ _ e12 fun h => h
    have s03 := s02.and s3
    refine compassref19_Most.b2_eq ?_
    unfold compassref19_Most.b2_t
    simp only [get_at e13, List.getElem?_cons_zero, List.getElem?_cons_succ, ldI_mk, ldS_mk]
    refine bc (fun hlt2 => ?_) fun hge2 => ?_
    · have hin : i < n := by omega
      refine ⟨by omega, by decide, ?_⟩
      have ebit : Int.tmod (Int.fdiv (x : Int) (2 ^ (min (i : Int).toNat (IntKind.bits .i64)))) 2 = ((x / 2 ^ i % 2 : Nat) : Int) := by
        rw [Int.toNat_natCast, Nat.min_eq_left (show i ≤ IntKind.bits .i64 by show i ≤ 64; omega)]
        have e3 : (2 : Int) ^ i = ((2 ^ i : Nat) : Int) := by rw [Int.natCast_pow]; rfl
        rw [e3, Int.fdiv_eq_ediv_of_nonneg _ (Int.natCast_nonneg _), ← Int.natCast_ediv, Int.tmod_eq_emod_of_nonneg (Int.natCast_nonneg _)]
        rfl
      rw [ebit]
      have next : ∀ {H5 : Hp} {lp5 : Option Addr} {lc5 : Nat}, Step (fun _ => False) H2 H5 → Row H5 lp5 (pk (bitT x) (i + 1)).length lc5 (lsF (pk (bitT x) (i + 1))) → (∀ y, fpS lp5 y → H2 y = none) → compassref19_Most.j1 p' n' c' g2' (best : Int) (x : Int) lp5 (pk (bitT x) (i + 1)).length lc5 (i : Int) X Y E H5 K := by
        intro H5 lp5 lc5 s5 r5 f5
        refine compassref19_Most.j1_eq ?_
        unfold compassref19_Most.j1_t
        rw [i64w (by omega) (by omega)]
        exact hY _ _ _ _ _ _ _ _ _ _ _ ⟨rfl, rfl, rfl, rfl, rfl, rfl, i + 1, by omega, by omega, rfl, s5, r5, f5⟩ (by omega)
      refine bc (fun h1 => ?_) fun h1 => ?_
      · have hb1 : bitT x i = true := decide_eq_true (by omega)
        have e5 : pk (bitT x) (i + 1) = pk (bitT x) i ++ [i] := by rw [pk_succ, if_pos hb1]
        have hl1 : (pk (bitT x) i).length + 1 = (pk (bitT x) (i + 1)).length := by rw [e5]; simp
        have := hlen i
        refine rl.appI _ (by omega) fun p5 c5 H5 r5 s5 f5 => ?_
        rw [hl1] at r5 ⊢
        refine next (s3.trans s5 fun y hy => .inr (fl y hy)) (r5.congr fun z hz => ?_) fun y hy => (f5 y hy).elim (fl y) (s3.mono y)
        rw [e5]
        by_cases ez : z = (pk (bitT x) i).length
        · rw [ez, upf_same, lsF_last]
        · rw [upf_ne ez, lsF_left (by omega)]
      · have hb1 : ¬ bitT x i = true := fun h => h1 (by have := of_decide_eq_true h; omega)
        have e5 : pk (bitT x) (i + 1) = pk (bitT x) i := by rw [pk_succ, if_neg hb1]
        have := next (lp5 := lp) (lc5 := lc) s3 (by rw [e5]; exact rl) fl
        rwa [e5] at this
    · clear hY
      have hin : i = n := by omega
      subst hin
      have next : ∀ {H5 : Hp} {best' : Nat}, best' ≤ i → BestB N i e b (x + 1) best' → Step (fun _ => False) H2 H5 → compassref19_Most.j3 p' n' c' g2' (best' : Int) (x : Int) X E H5 K := by
        intro H5 best' hb5 hB5 s5
        refine compassref19_Most.j3_eq ?_
        unfold compassref19_Most.j3_t
        rw [i64w (by omega) (by omega)]
        exact hX _ _ _ _ _ _ _ ⟨rfl, rfl, rfl, rfl, x + 1, best', by omega, rfl, by omega, hb5, hB5, s2.and s5⟩ (by omega)
      have stay : ∀ {H5 : Hp}, (Tkn N i e (lsF (pk (bitT x) i)) (pk (bitT x) i).length (fun v => b v.toNat) → (pk (bitT x) i).length ≤ best) → Step (fun _ => False) H2 H5 → compassref19_Most.j3 p' n' c' g2' (best : Int) (x : Int) X E H5 K := fun h s5 => next hbn ⟨hB.got, fun y hy ht => by
        by_cases ey : y = x
        · subst ey; exact h ht
        · exact hB.all y (by omega) ht⟩ s5
      have := hlen i
      refine compassref19_Most.j2_eq ?_
      unfold compassref19_Most.j2_t
      refine bc (fun hb1 => ?_) fun hb1 => stay (fun _ => by omega) s3
      simp only [get_at e13, List.getElem?_cons_zero, List.getElem?_cons_succ, ldI_mk, ldS_mk]
      refine rtaken (he.keep s03 fun _ _ _ h => h) hr rl.rdr (by omega) (hb.keep s03 fun _ _ _ h => h) (by omega) h0 (fun H4 s4 ht => ?_) fun H4 s4 ht => ?_
      · refine bcb (fun _ => ?_) fun h => by cases h
        exact next (hlen i) ⟨.inr ⟨_, ht⟩, fun y hy hty => by
          by_cases ey : y = x
          · subst ey; omega
          · have := hB.all y (by omega) hty
            omega⟩ (s3.and s4)
      · refine bcb (fun h => by cases h) fun _ => ?_
        exact stay (fun h => (ht h).elim) (s3.and s4)
  · clear hX
    have hxe : x = 2 ^ n := by omega
    subst hxe
    refine kk H2 best s02 hB.got fun o ko ho => ?_
    classical
    obtain ⟨y, hy, hty⟩ := bit_all (fun i => decide (In o ko (i : Int))) n
    have h1 := hB.all y hy
    rw [pk_congr hty] at h1
    have h2 := h1 (tkn_pk ho h0)
    rw [pk_in ho.ris] at h2
    exact h2
end
end Go.Mz
