/-
  VouchGadgetFits, walked: whatever the graph and the numbers, it answers true and leaves what was there as it was.
-/
import Derived.Test.YtjdhhepphbhjgaaRefA
import Derived.Test.YtjdhhepphbhjgaaRefK
import Derived.Test.YtjdhhepphbhjgaaVouX2
import Derived.Test.YtjdhhepphbhjgaaPkN
import Derived.Test.YtjdhhepphbhjgaaGLawX
set_option linter.unusedSimpArgs false
set_option linter.unusedVariables false
namespace Go.Mz

/-- the bits of a number -/
def btT (B t : Nat) : Bool := decide (B / 2 ^ t % 2 = 1)

theorem bits_of : ∀ (n : Nat) (T : Nat → Bool), ∃ B, B < 2 ^ n ∧ ∀ t, t < n → btT B t = T t
  | 0, _ => ⟨0, by decide, fun t ht => by omega⟩
  | n + 1, T => by
    obtain ⟨B, h1, h2⟩ := bits_of n fun t => T (t + 1)
    refine ⟨(if T 0 then 1 else 0) + 2 * B, by rw [Nat.pow_succ]; split <;> omega, fun t ht => ?_⟩
    rcases t with _ | t
    · unfold btT
      rw [Nat.pow_zero, Nat.div_one]
      cases T 0
      · simp
      · simp
    · have := h2 t (by omega)
      rw [← this]
      unfold btT
      rw [Nat.pow_succ, Nat.mul_comm (2 ^ t) 2, ← Nat.div_div_eq_div_mul]
      have hb : ((if T 0 = true then 1 else 0) + 2 * B) / 2 = B := by split <;> omega
      rw [hb]

theorem bit_at {B t : Nat} (ht : t < 64) (hB : B < 2 ^ 62) : IntKind.wrap .i64 (((BitVec.ofInt (IntKind.bits .i64) (Int.fdiv (B : Int) (2 ^ (min ((t : Int)).toNat (IntKind.bits .i64)))) &&& BitVec.ofInt (IntKind.bits .i64) 1).toNat : Int)) = ((B / 2 ^ t % 2 : Nat) : Int) := by
  have h64 : IntKind.bits .i64 = 64 := rfl
  have hm : min ((t : Int)).toNat (IntKind.bits .i64) = t := by rw [Int.toNat_natCast, h64]; omega
  have hd : Int.fdiv (B : Int) (2 ^ t) = ((B / 2 ^ t : Nat) : Int) := by
    rw [Int.fdiv_eq_ediv_of_nonneg _ (by exact_mod_cast Nat.zero_le (2 ^ t))]
    norm_cast
  have hle : B / 2 ^ t ≤ B := Nat.div_le_self _ _
  rw [hm, hd]
  generalize B / 2 ^ t = q at *
  rw [and1 (by omega) (by omega)]
  omega

theorem pk_dg {e : Nat → Edg} {P : Nat → Bool} {v : Int} : ∀ {n : Nat}, dg e (lsF (pk P n)) (pk P n).length v = tdeg e P n v
  | 0 => rfl
  | n + 1 => by
    have ih := pk_dg (e := e) (P := P) (v := v) (n := n)
    show _ = tdeg e P n v + _
    rw [pk_succ, ← ih]
    by_cases h : P n = true
    · simp only [h, if_true, List.length_append, List.length_singleton]
      rw [dg_succ, lsF_last, Int.toNat_natCast, dg_congr (m' := lsF (pk P n)) fun j hj => lsF_left hj]
      omega
    · simp [h]

/-- the marked edges can be taken -/
def TkT (N : Int) (n : Nat) (e : Nat → Edg) (b : Nat → Int) (T : Nat → Bool) : Prop := (∀ i, i < n → T i = true → ¬ lp (e i)) ∧ ∀ v : Nat, v < N.toNat → (tdeg e T n (v : Int) : Int) ≤ b v

theorem tkn_pk {N : Int} {n : Nat} {e : Nat → Edg} {b : Nat → Int} {P : Nat → Bool} (hN0 : 0 ≤ N) (hb : ∀ v, v < N.toNat → 0 ≤ b v) : Tkn N n e (lsF (pk P n)) (pk P n).length (fun v => b v.toNat) ↔ TkT N n e b P := by
  constructor
  · rintro ⟨h1, h2, h3⟩
    refine ⟨fun i hi hP => ?_, fun v hv => ?_⟩
    · obtain ⟨j, hj, he⟩ := List.getElem_of_mem (pk_mem.2 ⟨hi, hP⟩)
      have := h2 j hj
      rwa [lsF_get hj, he, Int.toNat_natCast] at this
    · have := h3 (v : Int) (by omega) (by omega)
      rw [pk_dg, Int.toNat_natCast] at this
      by_cases h0 : 0 < tdeg e P n (v : Int)
      · exact this h0
      · have := hb v hv; omega
  · rintro ⟨h1, h2⟩
    refine ⟨pk_ris, fun i hi => ?_, fun v v0 v1 _ => ?_⟩
    · have := pk_mem.1 (List.getElem_mem hi)
      rw [lsF_get hi, Int.toNat_natCast]
      exact h1 _ this.1 this.2
    · obtain ⟨w, rfl⟩ : ∃ w : Nat, v = w := ⟨v.toNat, by omega⟩
      rw [pk_dg, Int.toNat_natCast]
      exact h2 w (by omega)

theorem tkt_cg {N : Int} {n : Nat} {e : Nat → Edg} {b : Nat → Int} {P Q : Nat → Bool} (h : ∀ t, t < n → P t = Q t) (hP : TkT N n e b P) : TkT N n e b Q :=
  ⟨fun i hi hQ => hP.1 i hi ((h i hi).trans hQ), fun v hv => by
    have := hP.2 v hv
    rwa [tdeg_cg fun j hj => ⟨rfl, h j hj⟩] at this⟩

section
variable {E : Value → Hp → Prop}

theorem lfits {N : Int} {ep : Option Addr} {n ec : Nat} {e : Nat → Edg} {bp : Option Addr} {bn bk : Nat} {b : Nat → Int} {H : Hp} {K : Bool → Hp → Prop}
    (he : Rdr H ep n e) (hn : n < 2 ^ 63) (hb : Rdr H bp bn b) (hbn : bn < 2 ^ 63)
    (kk : ∀ H', Step (fun _ => False) H H' → K true H') : compasslaw12_VouchGadgetFits.call N ep n ec bp bn bk E H K := by
  refine compasslaw12_VouchGadgetFits.of (compasslaw12_VouchGadgetFits.run_eq ?_)
  unfold compasslaw12_VouchGadgetFits.run_t
  refine nwk fun b1 H1 hb1 e1 s1 => ?_
  refine lawake12 fun H2 s2 => ?_
  refine bcb (fun h => by cases h) fun _ => ?_
  have s02 := s1.and s2
  have e12 := s2.keep _ _ e1 fun h => h
  simp only [get_at e12, List.getElem?_cons_zero, List.getElem?_cons_succ, ldI_mk, ldS_mk]
  have out : ∀ (H' : Hp) (g : Nat) (c : Int) (x : Int) (yp : Option Addr) (yn yc : Nat), Step (fun _ => False) H H' → H' g = some ⟨[.int .i64 x, .slice yp yn yc], 24⟩ → (c ≠ 0 → x = 0 ∧ yn = 0) → compasslaw12_VouchGadgetFits.j1 g c E H' K := fun H' g c x yp yn yc s hg h => by
    refine compasslaw12_VouchGadgetFits.j1_eq ?_
    unfold compasslaw12_VouchGadgetFits.j1_t
    refine bc (fun _ => kk _ s) fun hc => ?_
    obtain ⟨rfl, rfl⟩ := h hc
    simp only [get_at hg, List.getElem?_cons_zero, List.getElem?_cons_succ, ldI_mk, ldS_mk]
    refine bct trivial ?_
    try simp only [get_at hg, List.getElem?_cons_zero, List.getElem?_cons_succ, ldI_mk, ldS_mk]
    exact kk _ s
  refine vGadget (he.keep s02 fun _ _ _ h => h) hn (hb.keep s02 fun _ _ _ h => h) hbn (fun H3 op oc s3 hr hbd hsz ro hnew => ?_) fun H3 c s3 hg => ?_
  · refine nwst rfl rfl fun b3 H4 hb3 e3 s4 => ?_
    have s04 := (s02.and s3).and s4
    have e14 := (s3.and s4).keep _ _ e12 fun h => h
    refine bcn (fun h => (h rfl).elim) fun _ => ?_
    simp only [get_at e14, get_at e3, List.getElem?_cons_zero, List.getElem?_cons_succ, ldI_mk, ldS_mk]
    have o1 := out _ b3 0 _ _ _ _ s04 e3 fun h => (h rfl).elim
    refine bc (fun _ => o1) fun h3 => ?_
    try simp only [get_at e14, get_at e3, List.getElem?_cons_zero, List.getElem?_cons_succ, ldI_mk, ldS_mk]
    refine bc (fun _ => o1) fun h14 => ?_
    clear o1 out
    have hN0 := hr.N0; have hN1 := hr.N1; have hn1 := hr.n1
    have hbl := hbd.len
    have hb0 : ∀ v, v < N.toNat → 0 ≤ b v := fun v hv => (hbd.bnd v (by omega)).1
    have hn3 : n ≤ 3 := by omega
    have h2n : 2 ^ n ≤ 8 := by
      have := Nat.pow_le_pow_right (n := 2) (by decide) hn3
      omega
    have ro4 := ro.keep s4 fun _ _ h => h
    refine compasslaw12_VouchGadgetFits.l1_rule (fun mp mn mc g2 h5 best ct bits H' => bp = mp ∧ bn = mn ∧ b1 = g2 ∧ b3 = h5 ∧ ct = 0 ∧ ∃ B x : Nat, bits = B ∧ best = x ∧ B ≤ 2 ^ n ∧ x ≤ 3 ∧ Step (fun _ => False) H4 H' ∧ (∃ T, TkT N n e b T ∧ cnt T n = x) ∧ ∀ B', B' < B → TkT N n e b (btT B') → cnt (btT B') n ≤ x)
      (fun mp mn mc g2 h5 best ct bits H' => 2 ^ n - bits.toNat) ?_ ⟨rfl, rfl, rfl, rfl, rfl, 0, 0, rfl, rfl, Nat.zero_le _, by decide, .refl, ⟨fun _ => false, ⟨fun i _ h => (by cases h), fun v hv => by rw [tdeg_none fun _ _ => rfl]; exact hb0 v hv⟩, cnt_none fun _ _ => rfl⟩, fun B' h => by omega⟩
    rintro mp mn mc g2 h5 best ct bits H5 ⟨rfl, rfl, rfl, rfl, rfl, B, x, rfl, rfl, hB, hx3, s5, hat, hup⟩ X hX
    have s05 := s04.and s5
    have e15 := s5.keep _ _ e14 fun h => h
    have e35 := s5.keep _ _ e3 fun h => h
    refine compasslaw12_VouchGadgetFits.b1_eq ?_
    unfold compasslaw12_VouchGadgetFits.b1_t
    simp only [get_at e15, List.getElem?_cons_zero, List.getElem?_cons_succ, ldI_mk, ldS_mk]
    refine ⟨by omega, ?_⟩
    have h64 : IntKind.bits .i64 = 64 := rfl
    have hmin : min ((n : Int)).toNat (IntKind.bits .i64) = n := by rw [Int.toNat_natCast, h64]; omega
    have hpw : (1 : Int) * 2 ^ n = ((2 ^ n : Nat) : Int) := by rw [Int.one_mul]; norm_cast
    rw [hmin, hpw, i64w (by omega) (by omega)]
    refine bc (fun hlt => ?_) fun hge => ?_
    · try simp only [get_at e15, List.getElem?_cons_zero, List.getElem?_cons_succ, ldI_mk, ldS_mk]
      refine compasslaw12_VouchGadgetFits.l2_rule (fun mp mn mc g2 h5 best ct bits lp' ln lc t59 t60 H' => bp = mp ∧ bn = mn ∧ b1 = g2 ∧ b3 = h5 ∧ ct = 0 ∧ bits = B ∧ best = x ∧ t59 = n ∧ ∃ t : Nat, t60 = t ∧ t ≤ n ∧ (pk (btT B) t).length = ln ∧ Step (fun _ => False) H5 H' ∧ Row H' lp' (pk (btT B) t).length lc (lsF (pk (btT B) t)) ∧ ∀ y, fpS lp' y → H5 y = none)
        (fun mp mn mc g2 h5 best ct bits lp' ln lc t59 t60 H' => n - t60.toNat) ?_ ⟨rfl, rfl, rfl, rfl, rfl, rfl, rfl, rfl, 0, rfl, by omega, rfl, .refl, Row.nil, fun y hy => (by rw [fpS_none] at hy; exact hy.elim)⟩
      rintro mp mn mc g2 h5 best ct bits lp' ln lc t59 t60 H6 ⟨rfl, rfl, rfl, rfl, rfl, rfl, rfl, rfl, t, rfl, ht, rfl, s6, rl, fl⟩ Z hZ
      have hpl : (pk (btT B) t).length ≤ 3 := by rw [pk_len]; have := cnt_le (btT B) t; omega
      refine compasslaw12_VouchGadgetFits.b2_eq ?_
      unfold compasslaw12_VouchGadgetFits.b2_t
      refine bc (fun hlt2 => ?_) fun hge2 => ?_
      · refine ⟨by omega, ?_⟩
        rw [bit_at (by omega) (by omega)]
        have next : ∀ H' p' ln' c', ln' = (pk (btT B) (t + 1)).length → Step (fun _ => False) H5 H' → Row H' p' (pk (btT B) (t + 1)).length c' (lsF (pk (btT B) (t + 1))) → (∀ y, fpS p' y → H5 y = none) →
            compasslaw12_VouchGadgetFits.j2 bp bn mc b1 b3 (x : Int) 0 (B : Int) p' ln' c' (n : Int) (t : Int) X Z E H' K := fun H' p' ln' c' hl s r f => by
          refine compasslaw12_VouchGadgetFits.j2_eq ?_
          unfold compasslaw12_VouchGadgetFits.j2_t
          rw [i64w (by omega) (by omega)]
          exact hZ _ _ _ _ _ _ _ _ _ _ _ _ _ _ ⟨rfl, rfl, rfl, rfl, rfl, rfl, rfl, rfl, t + 1, by omega, by omega, hl.symm, s, r, f⟩ (by omega)
        refine bc (fun h1 => ?_) fun h1 => ?_
        · have hp : pk (btT B) (t + 1) = pk (btT B) t ++ [t] := by rw [pk_succ, if_pos (by unfold btT; exact decide_eq_true (by omega))]
          refine rl.app (α := Int) (t : Int) rfl (by omega) (by decide) fun p' c' H7 r7 s7 f7 => ?_
          refine next _ _ _ _ (by rw [hp]; simp) (s6.own s7 fun y hy => fl y hy) ?_ fun y hy => ?_
          · rw [hp, ← lsF_app]; simpa using r7
          · rcases f7 y hy with h | h
            · exact fl y h
            · exact s6.mono _ h
        · have hp : pk (btT B) (t + 1) = pk (btT B) t := by rw [pk_succ, if_neg (by unfold btT; rw [decide_eq_true_eq]; omega)]
          exact next _ _ _ _ (by rw [hp]) s6 (by rw [hp]; exact rl) fl
      · have : t = n := by omega
        subst this
        clear hZ
        refine compasslaw12_VouchGadgetFits.j3_eq ?_
        unfold compasslaw12_VouchGadgetFits.j3_t
        have e16 := s6.keep _ _ e15 fun h => h
        have s06 := s05.and s6
        simp only [get_at e16, List.getElem?_cons_zero, List.getElem?_cons_succ, ldI_mk, ldS_mk]
        have next : ∀ (H' : Hp) (x' : Nat), x' ≤ 3 → Step (fun _ => False) H5 H' → (∃ T, TkT N t e b T ∧ cnt T t = x') → (∀ B', B' < B + 1 → TkT N t e b (btT B') → cnt (btT B') t ≤ x') → compasslaw12_VouchGadgetFits.j4 bp bn mc b1 b3 (x' : Int) 0 (B : Int) X E H' K := fun H' x' hx s ha hu => by
          refine compasslaw12_VouchGadgetFits.j4_eq ?_
          unfold compasslaw12_VouchGadgetFits.j4_t
          rw [i64w (by omega) (by omega)]
          exact hX _ _ _ _ _ _ _ _ _ ⟨rfl, rfl, rfl, rfl, rfl, B + 1, x', by omega, rfl, by omega, hx, s5.and s, ha, hu⟩ (by omega)
        have hiff := tkn_pk (n := t) (e := e) (P := btT B) hN0 hb0
        refine rtaken (he.keep s06 fun _ _ _ h => h) hr rl.rdr (by omega) (hb.keep s06 fun _ _ _ h => h) (by omega) hb0 (fun H7 s7 ht => ?_) fun H7 s7 ht => ?_
        · refine bcb (fun _ => ?_) fun h => by cases h
          have hT := hiff.1 ht
          have hlc := pk_len (P := btT B) (n := t)
          have hmax : (if (x : Int) < ((pk (btT B) t).length : Int) then ((pk (btT B) t).length : Int) else (x : Int)) = ((max x (pk (btT B) t).length : Nat) : Int) := by split <;> omega
          rw [hmax]
          refine next _ _ (by omega) (s6.and s7) ?_ fun B' hB' hT' => ?_
          · by_cases h : x < (pk (btT B) t).length
            · exact ⟨btT B, hT, by omega⟩
            · obtain ⟨T, h1, h2⟩ := hat
              exact ⟨T, h1, by omega⟩
          · by_cases eB : B' = B
            · subst eB; omega
            · have := hup B' (by omega) hT'; omega
        · refine bcb (fun h => by cases h) fun _ => ?_
          refine next _ _ hx3 (s6.and s7) hat fun B' hB' hT' => ?_
          by_cases eB : B' = B
          · subst eB; exact (ht (hiff.2 hT')).elim
          · exact hup B' (by omega) hT'
    · have hBn : B = 2 ^ n := by omega
      subst hBn
      clear hX
      refine compasslaw12_VouchGadgetFits.j5_eq ?_
      unfold compasslaw12_VouchGadgetFits.j5_t
      simp only [get_at e15, List.getElem?_cons_zero, List.getElem?_cons_succ, ldI_mk, ldS_mk]
      refine compasslaw12_VouchGadgetFits.l3_rule (fun h5 best ct tp tn tc t83 t84 H' => b3 = h5 ∧ best = x ∧ ep = tp ∧ n = tn ∧ t83 = n ∧ ∃ i : Nat, t84 = i ∧ i ≤ n ∧ ct = (nol e i : Int) ∧ Step (fun _ => False) H5 H')
        (fun h5 best ct tp tn tc t83 t84 H' => n - t84.toNat) ?_ ⟨rfl, rfl, rfl, rfl, rfl, 0, rfl, by omega, rfl, .refl⟩
      rintro h5 best ct tp tn tc t83 t84 H6 ⟨rfl, rfl, rfl, rfl, rfl, i, rfl, hi, rfl, s6⟩ X hX
      have hni := nol_le (e := e) i
      have s06 := s05.and s6
      refine compasslaw12_VouchGadgetFits.b3_eq ?_
      unfold compasslaw12_VouchGadgetFits.b3_t
      refine bc (fun hlt => ?_) fun hge => ?_
      · refine (he.keep s06 fun _ _ _ h => h).edge (by omega) (by omega) ?_
        simp only [Int.toNat_natCast]
        refine nwst rfl rfl fun b7 H7 hb7 e7 s7 => ?_
        simp only [get_at e7, List.getElem?_cons_zero, List.getElem?_cons_succ, ldI_mk]
        have next : ∀ c : Int, c = (nol e (i + 1) : Int) → compasslaw12_VouchGadgetFits.j6 b3 (x : Int) c ep n tc (n : Int) (i : Int) X E H7 K := fun c hc => by
          refine compasslaw12_VouchGadgetFits.j6_eq ?_
          unfold compasslaw12_VouchGadgetFits.j6_t
          rw [i64w (by omega) (by omega)]
          exact hX _ _ _ _ _ _ _ _ _ ⟨rfl, rfl, rfl, rfl, rfl, i + 1, by omega, by omega, hc, s6.and s7⟩ (by omega)
        have hstep : nol e (i + 1) = nol e i + if lp (e i) then 0 else 1 := rfl
        refine bcn (fun hl => ?_) fun hl => ?_
        · rw [i64w (by omega) (by omega)]
          refine next _ ?_
          rw [hstep, if_neg (show ¬ lp (e i) from hl)]; omega
        · refine next _ ?_
          rw [hstep, if_pos (show lp (e i) from hl)]; omega
      · have : i = n := by omega
        subst this
        clear hX
        refine compasslaw12_VouchGadgetFits.j7_eq ?_
        unfold compasslaw12_VouchGadgetFits.j7_t
        have e36 := s6.keep _ _ e35 fun h => h
        simp only [get_at e36, List.getElem?_cons_zero, List.getElem?_cons_succ, ldI_mk, ldS_mk]
        refine rmost _ hsz.2 (ro4.keep (s5.and s6) fun _ _ h => h).rdr fun H7 p7 c7 M s7 hM r7 => ?_
        have hfit := gad_fits hr hbd hsz hM (x := x) (by
          obtain ⟨T, h1, h2⟩ := hat
          exact ⟨T, h1.1, h1.2, h2⟩) fun T h1 h2 => by
            obtain ⟨B, hB, hT⟩ := bits_of i T
            have h3 := hup B hB (tkt_cg (fun t ht => (hT t ht).symm) ⟨h1, h2⟩)
            rwa [cnt_congr hT] at h3
        rw [i64w (by omega) (by omega), decide_eq_true (by omega)]
        exact kk _ (s06.and s7)
  · refine nwst rfl rfl fun b3 H4 hb3 e3 s4 => ?_
    refine bcn (fun _ => ?_) fun h => (hg.ne h).elim
    exact out _ b3 c _ _ _ _ ((s02.and s3).and s4) e3 fun _ => ⟨rfl, rfl⟩
end
end Go.Mz
