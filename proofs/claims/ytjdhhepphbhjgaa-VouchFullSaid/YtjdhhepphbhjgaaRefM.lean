/-
  The document's Cover, of layer 12, walked; and sorted, of the laws, on what is sorted already.
-/
import Derived.Test.YtjdhhepphbhjgaaRefL
set_option linter.unusedSimpArgs false
set_option linter.unusedVariables false
namespace Go.Mz
section
variable {E : Value → Hp → Prop}

/-- the marked nodes cover all edges -/
def CvT (e : Nat → Edg) (n : Nat) (P : Nat → Bool) : Prop := ∀ i, i < n → lp (e i) ∨ P (e i).fr.toNat = true ∨ P (e i).to.toNat = true

theorem cvr_pk {N : Int} {n : Nat} {e : Nat → Edg} {P : Nat → Bool} (hr : Right N n e) : Cvr e n (lsF (pk P N.toNat)) (pk P N.toNat).length ↔ CvT e n P := by
  have key : ∀ i, i < n → (In (lsF (pk P N.toNat)) (pk P N.toNat).length (e i).fr ↔ P (e i).fr.toNat = true) ∧ (In (lsF (pk P N.toNat)) (pk P N.toNat).length (e i).to ↔ P (e i).to.toNat = true) := fun i hi => by
    have hx := hr.ed i hi
    have hf0 := hx.f0; have hf1 := hx.f1; have ht0 := hx.t0; have ht1 := hx.t1
    obtain ⟨a, ha⟩ : ∃ a : Nat, (e i).fr = a := ⟨(e i).fr.toNat, by omega⟩
    obtain ⟨d, hd⟩ : ∃ d : Nat, (e i).to = d := ⟨(e i).to.toNat, by omega⟩
    rw [ha, hd, in_pk, in_pk, Int.toNat_natCast, Int.toNat_natCast]
    exact ⟨⟨fun h => h.2, fun h => ⟨by omega, h⟩⟩, ⟨fun h => h.2, fun h => ⟨by omega, h⟩⟩⟩
  constructor
  · intro h i hi
    have := h i hi
    rwa [(key i hi).1, (key i hi).2] at this
  · intro h i hi
    rw [(key i hi).1, (key i hi).2]
    exact h i hi

theorem rcover {N : Int} {ep : Option Addr} {n ec : Nat} {e : Nat → Edg} {H : Hp} {K : Option Addr → Nat → Nat → Hp → Prop} (he : Rdr H ep n e) (hr : Right N n e) (hN : N ≤ 8)
    (kk : ∀ p' c' H' (P : Nat → Bool), Step (fun _ => False) H H' → Row H' p' (pk P N.toNat).length c' (lsF (pk P N.toNat)) → CvT e n P → (∀ C, CvT e n C → (pk P N.toNat).length ≤ cnt C N.toNat) → K p' (pk P N.toNat).length c' H') :
    compassref12_Cover.call N ep n ec E H K := by
  have hN0 := hr.N0; have hn1 := hr.n1
  have hpw : 2 ^ N.toNat ≤ 2 ^ 8 := Nat.pow_le_pow_right (by decide) (by omega)
  have hpos : 0 < 2 ^ N.toNat := Nat.pow_pos (by decide)
  have hNlt : ∀ i, i < n → (e i).fr.toNat < N.toNat ∧ (e i).to.toNat < N.toNat := fun i hi => by
    have hx := hr.ed i hi
    have hf0 := hx.f0; have hf1 := hx.f1; have ht0 := hx.t0; have ht1 := hx.t1
    omega
  have cg : ∀ P Q : Nat → Bool, (∀ t, t < N.toNat → P t = Q t) → CvT e n P → CvT e n Q := fun P Q h hP i hi => by
    have := hP i hi
    rwa [h _ (hNlt i hi).1, h _ (hNlt i hi).2] at this
  have hlen : ∀ P, (pk P N.toNat).length ≤ 8 := fun P => by rw [pk_len]; have := cnt_le P N.toNat; omega
  refine compassref12_Cover.of (compassref12_Cover.run_eq ?_)
  unfold compassref12_Cover.run_t
  refine nwk fun b1 H1 hb1 e1 s1 => ?_
  simp only [get_at e1, List.getElem?_cons_zero, List.getElem?_cons_succ, ldI_mk, ldS_mk]
  refine ⟨hN0, ?_⟩
  have hB : IntKind.wrap .i64 (IntKind.wrap .i64 (1 * 2 ^ (min N.toNat (IntKind.bits .i64))) - 1) = ((2 ^ N.toNat - 1 : Nat) : Int) := by
    rw [pow2_atI hN0 (by omega), i64w (by omega) (by omega)]; omega
  rw [hB]
  refine rsubsetI hN0 (by omega) fun p2 c2 H2 s2 r2 => ?_
  have e2 := s2.keep _ _ e1 fun h => h
  have s02 := s1.and s2
  refine compassref12_Cover.l1_rule (fun g1 bp bn bk bits H' => b1 = g1 ∧ ∃ (B : Nat) (P : Nat → Bool), bits = B ∧ B ≤ 2 ^ N.toNat ∧ (pk P N.toNat).length = bn ∧ Step (fun _ => False) H2 H' ∧ Row H' bp (pk P N.toNat).length bk (lsF (pk P N.toNat)) ∧ CvT e n P ∧ ∀ B', B' < B → CvT e n (btF B') → (pk P N.toNat).length ≤ cnt (btF B') N.toNat)
    (fun g1 bp bn bk bits H' => 2 ^ N.toNat - bits.toNat) ?_ ⟨rfl, 0, _, rfl, Nat.zero_le _, rfl, .refl, r2, fun i hi => .inr (.inl (btF_all (hNlt i hi).1)), fun B' h => by omega⟩
  clear r2
  rintro g1 bp bn bk bits H3 ⟨rfl, B, P, rfl, hB, rfl, s3, rP, hP, hopt⟩ X hX
  have e3 := s3.keep _ _ e2 fun h => h
  have s03 := s02.and s3
  have hl1 := hlen P
  refine compassref12_Cover.b1_eq ?_
  unfold compassref12_Cover.b1_t
  simp only [get_at e3, List.getElem?_cons_zero, List.getElem?_cons_succ, ldI_mk, ldS_mk]
  refine ⟨hN0, ?_⟩
  rw [pow2_atI hN0 (by omega)]
  refine bc (fun hlt => ?_) fun hge => ?_
  · try simp only [get_at e3, List.getElem?_cons_zero, List.getElem?_cons_succ, ldI_mk, ldS_mk]
    refine rsubsetI hN0 (by omega) fun p4 c4 H4 s4 r4 => ?_
    have e4 := s4.keep _ _ e3 fun h => h
    have s04 := s03.and s4
    have hl2 := hlen (btF B)
    have next : ∀ (H' : Hp) (bp' : Option Addr) (bk' : Nat) (Q : Nat → Bool), Step (fun _ => False) H2 H' → Row H' bp' (pk Q N.toNat).length bk' (lsF (pk Q N.toNat)) → CvT e n Q → (∀ B', B' < B + 1 → CvT e n (btF B') → (pk Q N.toNat).length ≤ cnt (btF B') N.toNat) →
        compassref12_Cover.j1 b1 bp' (pk Q N.toNat).length bk' (B : Int) X E H' K := fun H' bp' bk' Q s r hQ ho => by
      refine compassref12_Cover.j1_eq ?_
      unfold compassref12_Cover.j1_t
      rw [i64w (by omega) (by omega)]
      exact hX _ _ _ _ _ _ ⟨rfl, B + 1, Q, by omega, by omega, rfl, s, r, hQ, ho⟩ (by omega)
    have keepP : (CvT e n (btF B) → (pk P N.toNat).length ≤ cnt (btF B) N.toNat) → ∀ B', B' < B + 1 → CvT e n (btF B') → (pk P N.toNat).length ≤ cnt (btF B') N.toNat := fun h B' hB' hc => by
      by_cases eB : B' = B
      · subst eB; exact h hc
      · exact hopt B' (by omega) hc
    refine bc (fun hlt2 => ?_) fun hge2 => ?_
    · simp only [get_at e4, List.getElem?_cons_zero, List.getElem?_cons_succ, ldI_mk, ldS_mk]
      refine rcovers (he.keep s04 fun _ _ _ h => h) hn1 r4.rdr (by omega) (fun H5 s5 hc => ?_) fun H5 s5 hc => ?_
      · refine bcb (fun _ => ?_) fun h => by cases h
        refine next _ _ _ _ ((s3.and s4).and s5) (r4.keep s5 fun _ _ h => h) ((cvr_pk hr).1 hc) fun B' hB' hc' => ?_
        by_cases eB : B' = B
        · subst eB; rw [pk_len]; exact Nat.le_refl _
        · have := hopt B' (by omega) hc'; omega
      · refine bcb (fun h => by cases h) fun _ => ?_
        exact next _ _ _ _ ((s3.and s4).and s5) (rP.keep (s4.and s5) fun _ _ h => h) hP (keepP fun h => (hc ((cvr_pk hr).2 h)).elim)
    · exact next _ _ _ _ (s3.and s4) (rP.keep s4 fun _ _ h => h) hP (keepP fun h => by have q1 := pk_len (P := btF B) (n := N.toNat); omega)
  · refine kk _ _ _ P s03 rP hP fun C hC => ?_
    obtain ⟨B', hB', hbits⟩ := bitsF_of N.toNat C
    rw [← cnt_congr hbits]
    exact hopt B' (by omega) (cg _ _ (fun t ht => (hbits t ht).symm) hC)

theorem rsorted {p : Option Addr} {k c : Nat} {f : Nat → Int} {n : Int} {H : Hp} {K : Option Addr → Nat → Nat → Hp → Prop} (hm : Row H p k c f) (hs : Ris f k n) (hk : k ≤ 4096)
    (kk : ∀ p' c' H', Step (fun _ => False) H H' → Row H' p' k c' f → K p' k c' H') : compasslaw12_sorted.call p k c E H K := by
  refine compasslaw12_sorted.of (compasslaw12_sorted.run_eq ?_)
  unfold compasslaw12_sorted.run_t
  intro b1 hb1
  have s1 : Step (fun _ => False) H (H.upd b1 ⟨[], 3⟩) := Step.new hb1
  have r0 : Row (H.upd b1 ⟨[], 3⟩) (some ⟨b1, 0, none⟩) 0 0 f := ⟨Nat.le_refl _, by decide, .inr ⟨b1, 0, _, rfl, upd_same, ⟨by simp, rfl⟩, fun i hi => by omega⟩⟩
  have hm1 := hm.keep s1 fun _ _ h => h
  refine r0.appR (α := Int) hm1 rfl (by omega) (by decide) fun p2 c2 H2 r2 s2 f2 => ?_
  have s02 := s1.own s2 fun y hy => by rw [fpS_mk] at hy; exact hy ▸ hb1
  rw [Nat.zero_add] at r2 ⊢
  have r2' : Row H2 p2 k c2 f := r2.congr fun i hi => by rw [if_neg (by omega)]; rfl
  clear r2 r0
  refine compasslaw12_sorted.l1_rule (fun op on oc t10 t11 H' => p2 = op ∧ k = on ∧ c2 = oc ∧ t10 = k ∧ H2 = H' ∧ ∃ i : Nat, t11 = i ∧ i ≤ k) (fun op on oc t10 t11 H' => k - t11.toNat) ?_ ⟨rfl, rfl, rfl, rfl, rfl, 0, rfl, by omega⟩
  rintro op on oc t10 t11 H' ⟨rfl, rfl, rfl, rfl, rfl, i, rfl, hi⟩ X hX
  refine compasslaw12_sorted.b1_eq ?_
  unfold compasslaw12_sorted.b1_t
  refine bc (fun hlt => ?_) fun hge => kk _ _ _ s02 r2'
  refine compasslaw12_sorted.l2_rule (fun op on oc k5 t10 t11 H' => p2 = op ∧ k = on ∧ c2 = oc ∧ t10 = k ∧ H2 = H' ∧ k5 = i ∧ t11 = i) (fun op on oc k5 t10 t11 H' => 0) ?_ ⟨rfl, rfl, rfl, rfl, rfl, rfl, rfl⟩
  rintro op on oc k5 t10 t11 H' ⟨rfl, rfl, rfl, rfl, rfl, rfl, rfl⟩ Z hZ
  have next : compasslaw12_sorted.j1 p2 k c2 (k : Int) (i : Int) X E H2 K := by
    refine compasslaw12_sorted.j1_eq ?_
    unfold compasslaw12_sorted.j1_t
    rw [i64w (by omega) (by omega)]
    exact hX _ _ _ _ _ _ ⟨rfl, rfl, rfl, rfl, rfl, i + 1, by omega, by omega⟩ (by omega)
  refine compasslaw12_sorted.b2_eq ?_
  unfold compasslaw12_sorted.b2_t
  refine bc (fun h0 => ?_) fun _ => next
  have hri := (hs i (by omega)).2.2 (by omega)
  rw [i64w (n := (i : Int) - 1) (by omega) (by omega)]
  refine r2'.ixI (by omega) (by omega) ?_
  refine r2'.ixI (by omega) (by omega) ?_
  simp only [Int.toNat_natCast]
  rw [show ((i : Int) - 1).toNat = i - 1 by omega]
  exact bc (fun h => by omega) fun _ => next
end
end Go.Mz
