/-
  PairHall, walked: whatever the graph and the set, it answers true and leaves what was there as it was.
-/
import Derived.Test.YtmaeboaopebaiaaLPaB
import Derived.Test.YtmaeboaopebaiaaRisP
import Derived.Test.YtmaeboaopebaiaaGLPH
set_option linter.unusedSimpArgs false
set_option linter.unusedVariables false
namespace Go.Mz

/-- an edge joins these two -/
def jnd (x : Edg) (v w : Int) : Prop := (x.fr = v ∧ x.to = w) ∨ (x.to = v ∧ x.fr = w)

/-- an edge joins a node with one of a list -/
def nbr (e : Nat → Edg) (n : Nat) (f : Nat → Int) (s : Nat) (w : Int) : Prop := ∃ i, i < n ∧ ∃ t, t < s ∧ jnd (e i) (f t) w

open Classical in
/-- how many nodes of the right side -/
noncomputable def nrs (e : Nat → Edg) (n : Nat) (f : Nat → Int) (s L m : Nat) : Nat := cnt (fun j => decide (nbr e n f s ((L + j : Nat) : Int))) m

theorem cnt_not {p : Nat → Bool} : ∀ {n : Nat}, cnt p n + cnt (fun v => !p v) n = n
  | 0 => rfl
  | n + 1 => by
    have := cnt_not (p := p) (n := n)
    simp only [cnt]
    by_cases hp : p n = true
    · rw [if_pos hp, if_neg (by simp [hp])]; omega
    · rw [if_neg hp, if_pos (by simpa using hp)]; omega

open Classical in
/-- the nodes of the left side that don't cover have fewer neighbours than they are, if not all are matched -/
theorem hall_less {M L n k q : Nat} {e : Nat → Edg} {g cv : Nat → Int} (hr : Right (M : Int) n e) (hc : Crs (M : Int) n e (L : Int)) (hC : CovP (M : Int) n e g k cv q) (hk : k < L) :
    nrs e n (lsF (pk (fun v => !decide (In cv q (v : Int))) L)) (pk (fun v => !decide (In cv q (v : Int))) L).length L (M - L) < (pk (fun v => !decide (In cv q (v : Int))) L).length := by
  have hB := hc.bip hr
  have hLM := hB.lm
  have h1 := rise_cnt (n := M) hC.ris
  have h2 : cnt (fun v => decide (In cv q (v : Int))) M = cnt (fun v => decide (In cv q (v : Int))) L + cnt (fun j => decide (In cv q ((L + j : Nat) : Int))) (M - L) := by
    have := cnt_add (p := fun v => decide (In cv q (v : Int))) (m := L) (k := M - L)
    rwa [show L + (M - L) = M by omega] at this
  have h3 := cnt_not (p := fun v => decide (In cv q (v : Int))) (n := L)
  have h4 : nrs e n (lsF (pk (fun v => !decide (In cv q (v : Int))) L)) (pk (fun v => !decide (In cv q (v : Int))) L).length L (M - L) ≤ cnt (fun j => decide (In cv q ((L + j : Nat) : Int))) (M - L) := by
    refine cnt_mono fun j hj h => ?_
    obtain ⟨i, hi, t, ht, hjn⟩ := of_decide_eq_true h
    refine decide_eq_true ?_
    rw [lsF_get ht] at hjn
    have hm := pk_mem.1 (List.getElem_mem ht)
    generalize (pk (fun v => !decide (In cv q (v : Int))) L)[t] = v at hjn hm
    have hv : ¬ In cv q (v : Int) := by simpa using hm.2
    rcases hC.cvr i hi with h | h | h
    · unfold lp at h; unfold jnd at hjn; have := hm.1; omega
    · rcases hjn with ⟨a, b⟩ | ⟨a, b⟩
      · rw [a] at h; exact (hv h).elim
      · rwa [b] at h
    · rcases hjn with ⟨a, b⟩ | ⟨a, b⟩
      · rwa [b] at h
      · rw [a] at h; exact (hv h).elim
  have := hC.eq
  rw [pk_len] at h4 ⊢
  omega

open Classical in
/-- if all are matched, no set of the left side has fewer neighbours than nodes -/
theorem hall_more {M L n k q : Nat} {e : Nat → Edg} {g cv : Nat → Int} {S : Nat → Bool} (hr : Right (M : Int) n e) (hc : Crs (M : Int) n e (L : Int)) (hC : CovP (M : Int) n e g k cv q) (hk : L ≤ k) :
    (pk S L).length ≤ nrs e n (lsF (pk S L)) (pk S L).length L (M - L) := by
  have hB := hc.bip hr
  have hLM := hB.lm
  let nb : Nat → Bool := fun w => decide (nbr e n (lsF (pk S L)) (pk S L).length (w : Int))
  let P : Nat → Bool := fun v => if v < L then !S v else nb v
  have hin : ∀ v, v < M → P v = true → In (lsF (pk P M)) (pk P M).length (v : Int) := fun v hv hp => by
    obtain ⟨t, ht, et⟩ := List.getElem_of_mem (pk_mem.2 ⟨hv, hp⟩)
    exact ⟨t, ht, by rw [lsF_get ht, et]⟩
  have hcov : Cvr e n (lsF (pk P M)) (pk P M).length := fun i hi => by
    obtain ⟨_, h2, h3, hor⟩ := both_ends hr hi
    have hl := hB.lt i hi
    have hg := hB.ge i hi
    right
    have key : In (lsF (pk P M)) (pk P M).length (elo e i : Int) ∨ In (lsF (pk P M)) (pk P M).length (ehi e i : Int) := by
      by_cases hs : S (elo e i) = true
      · right
        refine hin _ h3 ?_
        show (if ehi e i < L then _ else nb (ehi e i)) = true
        rw [if_neg (by omega)]
        obtain ⟨t, ht, et⟩ := List.getElem_of_mem (pk_mem.2 ⟨hl, hs⟩)
        refine decide_eq_true ⟨i, hi, t, ht, ?_⟩
        rw [lsF_get ht, et]
        exact hor.imp id fun h => ⟨h.2, h.1⟩
      · left
        refine hin _ h2 ?_
        show (if elo e i < L then !S (elo e i) else _) = true
        rw [if_pos hl]; simpa using hs
    rcases hor with ⟨a, b⟩ | ⟨a, b⟩
    · rw [a, b]; exact key
    · rw [a, b]; exact key.symm
  have hb := cover_bound hr hC.tk hcov
  have h2 : cnt P M = cnt P L + cnt (fun j => P (L + j)) (M - L) := by
    have := cnt_add (p := P) (m := L) (k := M - L)
    rwa [show L + (M - L) = M by omega] at this
  have h3 : cnt P L = cnt (fun v => !S v) L := cnt_congr fun v hv => by show (if v < L then !S v else nb v) = _; rw [if_pos hv]
  have h4 : cnt (fun j => P (L + j)) (M - L) = nrs e n (lsF (pk S L)) (pk S L).length L (M - L) := cnt_congr fun j _ => by show (if L + j < L then _ else nb (L + j)) = _; rw [if_neg (by omega)]
  have h5 := cnt_not (p := S) (n := L)
  rw [pk_len] at hb
  have h6 := pk_len (P := S) (n := L)
  omega

section
variable {E : Value → Hp → Prop}

open Classical in
theorem lnear {M L n s : Nat} {ep sp : Option Addr} {ec sc : Nat} {e : Nat → Edg} {f : Nat → Int} {H : Hp} {K : Int → Hp → Prop} (he : Rdr H ep n e) (hn : n < 2 ^ 62) (hs : Rdr H sp s f) (hsn : s < 2 ^ 62) (hM : M < 2 ^ 62) (hL : L ≤ M)
    (kk : ∀ H', Step (fun _ => False) H H' → K (nrs e n f s L (M - L) : Nat) H') : compasslaw15_near.call (M : Int) ep n ec (L : Int) sp s sc E H K := by
  refine compasslaw15_near.of (compasslaw15_near.run_eq ?_)
  unfold compasslaw15_near.run_t
  refine nwk fun b1 H1 hb1 e1 s1 => ?_
  refine compasslaw15_near.l1_rule (fun p' n' c' g3 n7 w8 H' => p' = sp ∧ n' = s ∧ g3 = b1 ∧ ∃ j : Nat, w8 = ((L + j : Nat) : Int) ∧ j ≤ M - L ∧ n7 = (nrs e n f s L j : Nat) ∧ Step (fun _ => False) H1 H')
    (fun p' n' c' g3 n7 w8 H' => M - w8.toNat) ?_ ⟨rfl, rfl, rfl, 0, rfl, Nat.zero_le _, rfl, .refl⟩
  rintro p' n' c' g3 n7 w8 H2 ⟨rfl, rfl, rfl, j, rfl, hj, rfl, s2⟩ X hX
  have e12 := s2.keep _ _ e1 fun h => h
  have hcj : nrs e n f n' L j ≤ j := cnt_le _ _
  refine compasslaw15_near.b1_eq ?_
  unfold compasslaw15_near.b1_t
  simp only [get_at e12, List.getElem?_cons_zero, List.getElem?_cons_succ, ldI_mk, ldS_mk]
  refine bc (fun hlt => ?_) fun hge => ?_
  · refine compasslaw15_near.l2_rule (fun q' m' d' g3' n7 w8 jd tp tn tc t23 t24 H' => q' = p' ∧ m' = n' ∧ g3' = g3 ∧ n7 = (nrs e n f n' L j : Nat) ∧ w8 = ((L + j : Nat) : Int) ∧ tp = ep ∧ tn = n ∧ t23 = (n : Int) ∧ ∃ i : Nat, t24 = i ∧ i ≤ n ∧ (jd = true ↔ nbr e i f n' ((L + j : Nat) : Int)) ∧ Step (fun _ => False) H1 H')
      (fun q' m' d' g3' n7 w8 jd tp tn tc t23 t24 H' => n - t24.toNat) ?_ ⟨rfl, rfl, rfl, rfl, rfl, rfl, rfl, rfl, 0, rfl, Nat.zero_le _, ⟨fun h => (by cases h), fun ⟨i, hi, _⟩ => by omega⟩, s2⟩
    rintro q' m' d' g3' n7 w8 jd tp tn tc t23 t24 H3 ⟨rfl, rfl, rfl, rfl, rfl, rfl, rfl, rfl, i, rfl, hi, hjd, s3⟩ X2 hX2
    refine compasslaw15_near.b2_eq ?_
    unfold compasslaw15_near.b2_t
    refine bc (fun hlt2 => ?_) fun hge2 => ?_
    · refine (he.keep (s1.and s3) fun _ _ _ h => h).edge (by omega) (by omega) ?_
      simp only [Int.toNat_natCast]
      refine nwst rfl rfl fun b4 H4 hb4 e4 s4 => ?_
      refine compasslaw15_near.l3_rule (fun q2 m2 d2 g32 n7 w8 jd x11 tp2 tn2 tc2 t23 t24 t28p t28n t28c t29 t30 H' => q2 = q' ∧ m2 = m' ∧ g32 = g3' ∧ n7 = (nrs e tn f m' L j : Nat) ∧ w8 = ((L + j : Nat) : Int) ∧ x11 = b4 ∧ tp2 = tp ∧ tn2 = tn ∧ t23 = (tn : Int) ∧ t24 = (i : Int) ∧ t28p = q' ∧ t28n = m' ∧ t29 = (m' : Int) ∧ H' = H4 ∧ ∃ t : Nat, t30 = t ∧ t ≤ m' ∧ (jd = true ↔ nbr e i f m' ((L + j : Nat) : Int) ∨ ∃ u, u < t ∧ jnd (e i) (f u) ((L + j : Nat) : Int)))
        (fun q2 m2 d2 g32 n7 w8 jd x11 tp2 tn2 tc2 t23 t24 t28p t28n t28c t29 t30 H' => m' - t30.toNat) ?_ ⟨rfl, rfl, rfl, rfl, rfl, rfl, rfl, rfl, rfl, rfl, rfl, rfl, rfl, rfl, 0, rfl, Nat.zero_le _, by rw [hjd]; exact ⟨.inl, fun h => h.elim id fun ⟨u, hu, _⟩ => by omega⟩⟩
      rintro q2 m2 d2 g32 n7 w8 jd2 x11 tp2 tn2 tc2 t23 t24 t28p t28n t28c t29 t30 H5 ⟨rfl, rfl, rfl, rfl, rfl, rfl, rfl, rfl, rfl, rfl, rfl, rfl, rfl, rfl, t, rfl, ht, hjd2⟩ X3 hX3
      refine compasslaw15_near.b3_eq ?_
      unfold compasslaw15_near.b3_t
      refine bc (fun hlt3 => ?_) fun hge3 => ?_
      · refine (hs.keep ((s1.and s3).and s4) fun _ _ _ h => h).ixI (by omega) (by omega) ?_
        rw [Int.toNat_natCast]
        have goon : ∀ jd' : Bool, (jd' = true ↔ nbr e i f t28n ((L + j : Nat) : Int) ∨ ∃ u, u < t + 1 ∧ jnd (e i) (f u) ((L + j : Nat) : Int)) → compasslaw15_near.j1 t28p t28n d2 g32 (nrs e tn2 f t28n L j : Nat) ((L + j : Nat) : Int) jd' x11 tp2 tn2 tc2 (tn2 : Int) (i : Int) t28p t28n t28c (t28n : Int) (t : Int) X X2 X3 E H5 K := fun jd' hjd' => by
          refine compasslaw15_near.j1_eq ?_
          unfold compasslaw15_near.j1_t
          rw [i64w (by omega) (by omega)]
          exact hX3 _ _ _ _ _ _ _ _ _ _ _ _ _ _ _ _ _ _ _ ⟨rfl, rfl, rfl, rfl, rfl, rfl, rfl, rfl, rfl, rfl, rfl, rfl, rfl, rfl, t + 1, by omega, by omega, hjd'⟩ (by omega)
        have ext : ∀ P : Prop, (P ↔ (jd2 = true ∨ jnd (e i) (f t) ((L + j : Nat) : Int))) → (P ↔ nbr e i f t28n ((L + j : Nat) : Int) ∨ ∃ u, u < t + 1 ∧ jnd (e i) (f u) ((L + j : Nat) : Int)) := fun P hP => by
          rw [hP, hjd2]
          constructor
          · rintro ((h | ⟨u, hu, h⟩) | h)
            · exact .inl h
            · exact .inr ⟨u, by omega, h⟩
            · exact .inr ⟨t, by omega, h⟩
          · rintro (h | ⟨u, hu, h⟩)
            · exact .inl (.inl h)
            · by_cases eu : u = t
              · subst eu; exact .inr h
              · exact .inl (.inr ⟨u, by omega, h⟩)
        refine bcb (fun hj1 => goon _ (ext _ ⟨fun _ => .inl hj1, fun _ => rfl⟩)) fun hj0 => ?_
        simp only [get_at e4, List.getElem?_cons_zero, List.getElem?_cons_succ, ldI_mk]
        refine bc (fun c1 => ?_) fun c1 => ?_
        · refine bc (fun c2 => goon _ (ext _ ⟨fun _ => .inr (.inl ⟨c1, c2⟩), fun _ => rfl⟩)) fun c2 => ?_
          refine bc (fun c3 => goon _ (ext _ ?_)) fun c3 => goon _ (ext _ ?_)
          · rw [decide_eq_true_iff, hj0]
            exact ⟨fun h => .inr (.inr ⟨c3, h⟩), fun h => h.elim (fun h => by cases h) fun h => h.elim (fun h => (c2 h.2).elim) fun h => h.2⟩
          · rw [hj0]
            exact ⟨fun h => (by cases h), fun h => h.elim (fun h => by cases h) fun h => h.elim (fun h => (c2 h.2).elim) fun h => (c3 h.1).elim⟩
        · refine bc (fun c3 => goon _ (ext _ ?_)) fun c3 => goon _ (ext _ ?_)
          · rw [decide_eq_true_iff, hj0]
            exact ⟨fun h => .inr (.inr ⟨c3, h⟩), fun h => h.elim (fun h => by cases h) fun h => h.elim (fun h => (c1 h.1).elim) fun h => h.2⟩
          · rw [hj0]
            exact ⟨fun h => (by cases h), fun h => h.elim (fun h => by cases h) fun h => h.elim (fun h => (c1 h.1).elim) fun h => (c3 h.1).elim⟩
      · clear hX3
        refine compasslaw15_near.j2_eq ?_
        unfold compasslaw15_near.j2_t
        rw [i64w (by omega) (by omega)]
        refine hX2 _ _ _ _ _ _ _ _ _ _ _ _ _ ⟨rfl, rfl, rfl, rfl, rfl, rfl, rfl, rfl, i + 1, by omega, by omega, ?_, s3.and s4⟩ (by omega)
        rw [hjd2]
        constructor
        · rintro (⟨i', hi', h⟩ | ⟨u, hu, h⟩)
          · exact ⟨i', by omega, h⟩
          · exact ⟨i, by omega, u, by omega, h⟩
        · rintro ⟨i', hi', u, hu, h⟩
          by_cases ei : i' = i
          · subst ei; exact .inr ⟨u, by omega, h⟩
          · exact .inl ⟨i', by omega, u, hu, h⟩
    · clear hX2
      have hin : i = tn := by omega
      subst hin
      refine compasslaw15_near.j3_eq ?_
      unfold compasslaw15_near.j3_t
      have fin : ∀ x : Nat, x = nrs e i f m' L (j + 1) → compasslaw15_near.j4 q' m' d' g3' (x : Int) ((L + j : Nat) : Int) X E H3 K := fun x hx => by
        refine compasslaw15_near.j4_eq ?_
        unfold compasslaw15_near.j4_t
        rw [i64w (by omega) (by omega)]
        exact hX _ _ _ _ _ _ _ ⟨rfl, rfl, rfl, j + 1, by omega, by omega, by rw [hx], s3⟩ (by omega)
      have hsucc : nrs e i f m' L (j + 1) = nrs e i f m' L j + if jd = true then 1 else 0 := by
        unfold nrs
        simp only [cnt]
        by_cases hb : nbr e i f m' ((L + j : Nat) : Int)
        · rw [if_pos (hjd.2 hb), if_pos (decide_eq_true hb)]
        · rw [if_neg (fun h => hb (hjd.1 h)), if_neg (fun h => hb (of_decide_eq_true h))]
      refine bcb (fun hj1 => ?_) fun hj0 => ?_
      · rw [i64w (by omega) (by omega)]
        exact fin _ (by rw [hsucc, if_pos hj1])
      · exact fin _ (by rw [hsucc, if_neg (by rw [hj0]; decide)]; rfl)
  · have : j = M - L := by omega
    rw [this]
    exact kk H2 (s1.and s2)

open Classical in
theorem lphall {N left : Int} {ep : Option Addr} {n ec : Nat} {e : Nat → Edg} {sp : Option Addr} {s sc : Nat} {f : Nat → Int} {H : Hp} {K : Bool → Hp → Prop} (he : Rdr H ep n e) (hn : n < 2 ^ 62) (hs : Rdr H sp s f) (hsn : s < 2 ^ 62)
    (kk : ∀ H', Step (fun _ => False) H H' → K true H') : compasslaw15_PairHall.call N ep n ec left sp s sc E H K := by
  refine compasslaw15_PairHall.of (compasslaw15_PairHall.run_eq ?_)
  unfold compasslaw15_PairHall.run_t
  refine nwk fun b1 H1 hb1 e1 s1 => ?_
  refine lawake15 fun H2 s2 => ?_
  have e12 := s2.keep _ _ e1 fun h => h
  have s02 := s1.and s2
  refine bcb (fun h => by cases h) fun _ => ?_
  simp only [get_at e12, List.getElem?_cons_zero, List.getElem?_cons_succ, ldI_mk, ldS_mk]
  refine sPair (he.keep s02 fun _ _ _ h => h) (by omega) fun H3 mp mn mc g cp cn cc cv s3 r1 r2 f1 f2 f12 l1 l2 hF => ?_
  have e13 := s3.keep _ _ e12 fun h => h
  have s03 := s02.and s3
  rcases hF with ⟨h0, rfl, rfl⟩ | ⟨h0, hr, hc, hC⟩
  · refine bcn (fun _ => ?_) fun h => (h0 h).elim
    exact kk H3 s03
  · refine bcn (fun h => (h h0).elim) fun _ => ?_
    have hN0 := hr.N0; have hN1 := hr.N1; have hn1 := hr.n1
    obtain ⟨M, rfl⟩ : ∃ M : Nat, N = M := ⟨N.toNat, by omega⟩
    obtain ⟨L, rfl⟩ : ∃ L : Nat, left = L := ⟨left.toNat, by have := hc.1; omega⟩
    have hLM : L ≤ M := by have := hc.2.1; omega
    -- the nodes of the left side that are not among those that cover
    refine compasslaw15_PairHall.l1_rule (fun l1 s2p s2n s2c g3 ap an ac cp' cn' cc' op on oc v11 H' => l1 = (L : Int) ∧ s2p = sp ∧ s2n = s ∧ g3 = b1 ∧ an = mn ∧ cp' = cp ∧ cn' = cn ∧ ∃ v : Nat, v11 = v ∧ v ≤ L ∧ on = (pk (fun v => !decide (In cv cn (v : Int))) v).length ∧ Step (fun _ => False) H3 H' ∧ Row H' op on oc (lsF (pk (fun v => !decide (In cv cn (v : Int))) v)) ∧ ∀ y, fpS op y → H3 y = none)
      (fun l1 s2p s2n s2c g3 ap an ac cp' cn' cc' op on oc v11 H' => L - v11.toNat) ?_ ⟨rfl, rfl, rfl, rfl, rfl, rfl, rfl, 0, rfl, Nat.zero_le _, rfl, .refl, Row.nil, fun y h => by rw [fpS_none] at h; exact h.elim⟩
    rintro l1 s2p s2n s2c g3 ap an ac cp' cn' cc' op on oc v11 H4 ⟨rfl, rfl, rfl, rfl, rfl, rfl, rfl, v, rfl, hv, rfl, s4, ro, fo⟩ X hX
    have hpl : (pk (fun v => !decide (In cv cn' (v : Int))) v).length ≤ v := by rw [pk_len]; exact cnt_le _ _
    refine compasslaw15_PairHall.b1_eq ?_
    unfold compasslaw15_PairHall.b1_t
    refine bc (fun hlt => ?_) fun hge => ?_
    · refine compasslaw15_PairHall.l2_rule (fun l1 s2p' s2n' s2c' g3' ap' an' ac' cp2 cn2 cc2 op' on' oc' v11 in12 tp tn tc t39 t40 H' => l1 = (L : Int) ∧ s2p' = s2p ∧ s2n' = s2n ∧ g3' = g3 ∧ an' = an ∧ cp2 = cp' ∧ cn2 = cn' ∧ op' = op ∧ on' = (pk (fun v => !decide (In cv cn' (v : Int))) v).length ∧ oc' = oc ∧ v11 = (v : Int) ∧ tp = cp' ∧ tn = cn' ∧ t39 = (cn' : Int) ∧ H' = H4 ∧ ∃ t : Nat, t40 = t ∧ t ≤ cn' ∧ (in12 = true ↔ In cv t (v : Int)))
        (fun l1 s2p' s2n' s2c' g3' ap' an' ac' cp2 cn2 cc2 op' on' oc' v11 in12 tp tn tc t39 t40 H' => cn' - t40.toNat) ?_ ⟨rfl, rfl, rfl, rfl, rfl, rfl, rfl, rfl, rfl, rfl, rfl, rfl, rfl, rfl, rfl, 0, rfl, Nat.zero_le _, ⟨fun h => (by cases h), fun ⟨i, hi, _⟩ => by omega⟩⟩
      rintro l1 s2p' s2n' s2c' g3' ap' an' ac' cp2 cn2 cc2 op' on' oc' v11 in12 tp tn tc t39 t40 H5 ⟨rfl, rfl, rfl, rfl, rfl, rfl, rfl, rfl, rfl, rfl, rfl, rfl, rfl, rfl, rfl, t, rfl, ht, hin⟩ X2 hX2
      refine compasslaw15_PairHall.b2_eq ?_
      unfold compasslaw15_PairHall.b2_t
      refine bc (fun hlt2 => ?_) fun hge2 => ?_
      · refine (r2.keep s4 fun _ _ h => h).ixI (by omega) (by omega) ?_
        rw [Int.toNat_natCast]
        have goon : ∀ b : Bool, (b = true ↔ In cv (t + 1) (v : Int)) → compasslaw15_PairHall.j1 (L : Int) s2p' s2n' s2c' g3' ap' an' ac' tp tn cc2 op' (pk (fun v => !decide (In cv tn (v : Int))) v).length oc' (v : Int) b tp tn tc (tn : Int) (t : Int) X X2 E H5 K := fun b hb => by
          refine compasslaw15_PairHall.j1_eq ?_
          unfold compasslaw15_PairHall.j1_t
          rw [i64w (by omega) (by omega)]
          exact hX2 _ _ _ _ _ _ _ _ _ _ _ _ _ _ _ _ _ _ _ _ _ _ ⟨rfl, rfl, rfl, rfl, rfl, rfl, rfl, rfl, rfl, rfl, rfl, rfl, rfl, rfl, rfl, t + 1, by omega, by omega, hb⟩ (by omega)
        refine bcb (fun hb => goon _ ⟨fun _ => ?_, fun _ => rfl⟩) fun hb => goon _ ?_
        · obtain ⟨u, hu, eu⟩ := hin.1 hb
          exact ⟨u, by omega, eu⟩
        · rw [decide_eq_true_iff]
          refine ⟨fun h => ⟨t, by omega, h⟩, fun ⟨u, hu, eu⟩ => ?_⟩
          by_cases e' : u = t
          · rw [← e']; exact eu
          · have := hin.2 ⟨u, by omega, eu⟩
            rw [hb] at this; cases this
      · clear hX2
        have htn : t = tn := by omega
        rw [htn] at hin
        refine compasslaw15_PairHall.j2_eq ?_
        unfold compasslaw15_PairHall.j2_t
        have goon : ∀ (H6 : Hp) (op2 : Option Addr) (oc2 : Nat), Step (fun _ => False) H3 H6 → Row H6 op2 (pk (fun v => !decide (In cv tn (v : Int))) (v + 1)).length oc2 (lsF (pk (fun v => !decide (In cv tn (v : Int))) (v + 1))) → (∀ y, fpS op2 y → H3 y = none) → compasslaw15_PairHall.j3 (L : Int) s2p' s2n' s2c' g3' ap' an' ac' tp tn cc2 op2 (pk (fun v => !decide (In cv tn (v : Int))) (v + 1)).length oc2 (v : Int) X E H6 K := fun H6 op2 oc2 s6 r6 f6 => by
          refine compasslaw15_PairHall.j3_eq ?_
          unfold compasslaw15_PairHall.j3_t
          rw [i64w (by omega) (by omega)]
          exact hX _ _ _ _ _ _ _ _ _ _ _ _ _ _ _ _ ⟨rfl, rfl, rfl, rfl, rfl, rfl, rfl, v + 1, by omega, by omega, rfl, s6, r6, f6⟩ (by omega)
        refine bcb (fun hb => ?_) fun hb => ?_
        · have e1' : pk (fun v => !decide (In cv tn (v : Int))) (v + 1) = pk (fun v => !decide (In cv tn (v : Int))) v ++ [v] := by
            rw [pk_succ, if_pos]
            have : ¬ In cv tn (v : Int) := fun h => by rw [hin.2 h] at hb; cases hb
            simpa using this
          have hl1 : (pk (fun v => !decide (In cv tn (v : Int))) v).length + 1 = (pk (fun v => !decide (In cv tn (v : Int))) (v + 1)).length := by rw [e1']; simp
          refine ro.appI _ (by omega) fun p6 c6 H6 r6 s6 f6 => ?_
          rw [lsF_app, ← e1'] at r6
          rw [hl1] at r6 ⊢
          exact goon H6 p6 c6 (s4.own s6 fo) r6 fun y hy => (f6 y hy).elim (fo y) (s4.mono y)
        · have e1' : pk (fun v => !decide (In cv tn (v : Int))) (v + 1) = pk (fun v => !decide (In cv tn (v : Int))) v := by
            rw [pk_succ, if_neg]
            have : In cv tn (v : Int) := hin.1 (by simpa using hb)
            simpa using this
          have := goon H5 op' oc' s4 (by rw [e1']; exact ro) fo
          rwa [e1'] at this
    · clear hX
      have hvL : v = L := by omega
      subst hvL
      have s04 := s03.and s4
      have e14 := s4.keep _ _ e13 fun h => h
      refine compasslaw15_PairHall.j4_eq ?_
      unfold compasslaw15_PairHall.j4_t
      -- the second half
      have rest : ∀ H5, Step (fun _ => False) H4 H5 → compasslaw15_PairHall.j5 (v : Int) s2p s2n s2c g3 ap an ac E H5 K := fun H5 s5 => by
        have e15 := s5.keep _ _ e14 fun h => h
        have s05 := s04.and s5
        refine compasslaw15_PairHall.j5_eq ?_
        unfold compasslaw15_PairHall.j5_t
        refine compasslaw15_PairHall.l3_rule (fun l1 s2p' s2n' s2c' g3' ap' an' ac' op on oc v16 H' => l1 = (v : Int) ∧ s2p' = s2p ∧ s2n' = s2n ∧ g3' = g3 ∧ an' = an ∧ ∃ u : Nat, v16 = u ∧ u ≤ v ∧ on = (pk (fun u => decide (In f s2n (u : Int))) u).length ∧ Step (fun _ => False) H5 H' ∧ Row H' op on oc (lsF (pk (fun u => decide (In f s2n (u : Int))) u)) ∧ ∀ y, fpS op y → H5 y = none)
          (fun l1 s2p' s2n' s2c' g3' ap' an' ac' op on oc v16 H' => v - v16.toNat) ?_ ⟨rfl, rfl, rfl, rfl, rfl, 0, rfl, Nat.zero_le _, rfl, .refl, Row.nil, fun y h => by rw [fpS_none] at h; exact h.elim⟩
        rintro l1 s2p' s2n' s2c' g3' ap' an' ac' op on oc v16 H6 ⟨rfl, rfl, rfl, rfl, rfl, u, rfl, hu, rfl, s6, ro2, fo2⟩ X hX
        have hpl : (pk (fun u => decide (In f s2n' (u : Int))) u).length ≤ u := by rw [pk_len]; exact cnt_le _ _
        refine compasslaw15_PairHall.b3_eq ?_
        unfold compasslaw15_PairHall.b3_t
        refine bc (fun hlt => ?_) fun hge => ?_
        · have goon : ∀ (H7 : Hp) (op2 : Option Addr) (oc2 : Nat) (ap2 : Option Addr) (ac2 s2c2 : Nat), Step (fun _ => False) H5 H7 → Row H7 op2 (pk (fun u => decide (In f s2n' (u : Int))) (u + 1)).length oc2 (lsF (pk (fun u => decide (In f s2n' (u : Int))) (u + 1))) → (∀ y, fpS op2 y → H5 y = none) → compasslaw15_PairHall.j6 (v : Int) s2p' s2n' s2c2 g3' ap2 an' ac2 op2 (pk (fun u => decide (In f s2n' (u : Int))) (u + 1)).length oc2 (u : Int) X E H7 K := fun H7 op2 oc2 ap2 ac2 s2c2 s7 r7 f7 => by
            refine compasslaw15_PairHall.j6_eq ?_
            unfold compasslaw15_PairHall.j6_t
            rw [i64w (by omega) (by omega)]
            exact hX _ _ _ _ _ _ _ _ _ _ _ _ _ ⟨rfl, rfl, rfl, rfl, rfl, u + 1, by omega, by omega, rfl, s7, r7, f7⟩ (by omega)
          refine compasslaw15_PairHall.l4_rule (fun l1 s2p2 s2n2 s2c2 g32 ap2 an2 ac2 op2 on2 oc2 v16 tp tn tc t76 t77 H' => l1 = (v : Int) ∧ s2p2 = s2p' ∧ s2n2 = s2n' ∧ g32 = g3' ∧ an2 = an' ∧ op2 = op ∧ on2 = (pk (fun u => decide (In f s2n' (u : Int))) u).length ∧ oc2 = oc ∧ v16 = (u : Int) ∧ tp = s2p' ∧ tn = s2n' ∧ t76 = (s2n' : Int) ∧ H' = H6 ∧ ∃ t : Nat, t77 = t ∧ t ≤ s2n' ∧ ¬ In f t (u : Int))
            (fun l1 s2p2 s2n2 s2c2 g32 ap2 an2 ac2 op2 on2 oc2 v16 tp tn tc t76 t77 H' => s2n' - t77.toNat) ?_ ⟨rfl, rfl, rfl, rfl, rfl, rfl, rfl, rfl, rfl, rfl, rfl, rfl, rfl, 0, rfl, Nat.zero_le _, fun ⟨i, hi, _⟩ => by omega⟩
          rintro l1 s2p2 s2n2 s2c2 g32 ap2 an2 ac2 op2 on2 oc2 v16 tp tn tc t76 t77 H7 ⟨rfl, rfl, rfl, rfl, rfl, rfl, rfl, rfl, rfl, rfl, rfl, rfl, rfl, t, rfl, ht, hno⟩ X2 hX2
          refine compasslaw15_PairHall.b4_eq ?_
          unfold compasslaw15_PairHall.b4_t
          refine bc (fun hlt2 => ?_) fun hge2 => ?_
          · refine (hs.keep ((s05.and s6)) fun _ _ _ h => h).ixI (by omega) (by omega) ?_
            rw [Int.toNat_natCast]
            refine bc (fun he' => ?_) fun hne => ?_
            · have e1' : pk (fun u => decide (In f tn (u : Int))) (u + 1) = pk (fun u => decide (In f tn (u : Int))) u ++ [u] := by
                rw [pk_succ, if_pos]
                exact decide_eq_true ⟨t, by omega, he'⟩
              have hl1 : (pk (fun u => decide (In f tn (u : Int))) u).length + 1 = (pk (fun u => decide (In f tn (u : Int))) (u + 1)).length := by rw [e1']; simp
              refine ro2.appI _ (by omega) fun p6 c6 H8 r6 s8 f6 => ?_
              rw [lsF_app, ← e1'] at r6
              rw [hl1] at r6 ⊢
              exact goon H8 p6 c6 _ _ _ (s6.own s8 fo2) r6 fun y hy => (f6 y hy).elim (fo2 y) (s6.mono y)
            · rw [i64w (by omega) (by omega)]
              refine hX2 _ _ _ _ _ _ _ _ _ _ _ _ _ _ _ _ _ _ ⟨rfl, rfl, rfl, rfl, rfl, rfl, rfl, rfl, rfl, rfl, rfl, rfl, rfl, t + 1, by omega, by omega, fun ⟨i, hi, ei⟩ => ?_⟩ (by omega)
              by_cases e' : i = t
              · rw [e'] at ei; exact hne ei
              · exact hno ⟨i, by omega, ei⟩
          · have htn : t = tn := by omega
            rw [htn] at hno
            have e1' : pk (fun u => decide (In f tn (u : Int))) (u + 1) = pk (fun u => decide (In f tn (u : Int))) u := by
              rw [pk_succ, if_neg]
              simpa using hno
            have := goon H7 op2 oc2 ap2 ac2 s2c2 s6 (by rw [e1']; exact ro2) fo2
            rwa [e1'] at this
        · clear hX
          have huv : u = v := by omega
          subst huv
          have s06 := s05.and s6
          have e16 := s6.keep _ _ e15 fun h => h
          refine compasslaw15_PairHall.j7_eq ?_
          unfold compasslaw15_PairHall.j7_t
          refine bc (fun _ => kk H6 s06) fun hge => ?_
          simp only [get_at e16, List.getElem?_cons_zero, List.getElem?_cons_succ, ldI_mk, ldS_mk]
          refine lnear (he.keep s06 fun _ _ _ h => h) hn ro2.rdr (by omega) (by omega) hLM fun H7 s7 => ?_
          have hm := hall_more (S := fun u => decide (In f s2n' (u : Int))) hr hc hC (by omega)
          rw [decide_eq_true (by omega)]
          exact kk H7 (s06.and s7)
      refine bc (fun hlt => ?_) fun _ => rest H4 .refl
      simp only [get_at e14, List.getElem?_cons_zero, List.getElem?_cons_succ, ldI_mk, ldS_mk]
      refine lnear (he.keep s04 fun _ _ _ h => h) hn ro.rdr (by omega) (by omega) hLM fun H5 s5 => ?_
      have hl := hall_less hr hc hC (by omega)
      refine bc (fun h => ?_) fun _ => rest H5 s5
      omega
end
end Go.Mz
