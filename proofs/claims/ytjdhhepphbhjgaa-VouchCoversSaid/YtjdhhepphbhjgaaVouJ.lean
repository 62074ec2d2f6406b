/-
  Walks of layer 12, more: copies.
-/
import Derived.Test.YtjdhhepphbhjgaaVouQ
import Derived.Test.YtjdhhepphbhjgaaVouI
import Derived.Test.YtjdhhepphbhjgaaVouG
set_option linter.unusedSimpArgs false
set_option linter.unusedVariables false
namespace Go.Mz
section
variable {E : Value → Hp → Prop}

theorem vcopies {N : Int} {ep : Option Addr} {n ec : Nat} {e : Nat → Edg} {bp : Option Addr} {bn bk : Nat} {b : Nat → Int} {H : Hp} {K : Option Addr → Nat → Nat → Hp → Prop}
    (he : Rdr H ep n e) (hr : Right N n e) (hb : Rdr H bp bn b) (hbn : bn < 2 ^ 63)
    (kk : ∀ x H', Step (fun _ => False) H H' → Bnd N b bn → H x = none → Row H' (some ⟨x, 0, none⟩) N.toNat N.toNat (cps e n b) → K (some ⟨x, 0, none⟩) N.toNat N.toNat H')
    (bad : ∀ H', Step (fun _ => False) H H' → ¬ Bnd N b bn → E (pv 130) H') : vouch_copies.call N ep n ec bp bn bk E H K := by
  have hN0 := hr.N0; have hN1 := hr.N1; have hn1 := hr.n1
  refine vouch_copies.of (vouch_copies.run_eq ?_)
  unfold vouch_copies.run_t
  refine nwk fun b1 H1 hb1 e1 s1 => ?_
  simp only [get_at e1, List.getElem?_cons_zero, List.getElem?_cons_succ, ldI_mk, ldS_mk]
  refine vneedD (fun hlen => ?_) fun h => bad _ s1 fun hh => h hh.len
  try simp only [get_at e1, List.getElem?_cons_zero, List.getElem?_cons_succ, ldI_mk, ldS_mk]
  refine Row.mkI hN0 (by omega) fun b2 H2 hb2 r2 s2 => ?_
  have e12 := s2.keep _ _ e1 fun h => h
  simp only [get_at e12, List.getElem?_cons_zero, List.getElem?_cons_succ, ldS_mk]
  have f2 : H b2 = none := s1.mono _ hb2
  have fp2 : ∀ y, fpS (some ⟨b2, 0, none⟩) y → H y = none := fun y hy => by rw [fpS_mk] at hy; exact hy ▸ f2
  refine vouch_copies.l1_rule (fun bp' bn' bc' cp cn cc tp tn tc t21 t22 H' => bp = bp' ∧ bn = bn' ∧ cp = some ⟨b2, 0, none⟩ ∧ cn = N.toNat ∧ cc = N.toNat ∧ ep = tp ∧ n = tn ∧ t21 = n ∧
      ∃ i : Nat, t22 = i ∧ i ≤ n ∧ Step (fun _ => False) H H' ∧ Row H' (some ⟨b2, 0, none⟩) N.toNat N.toNat (fun v => (ends e i v : Int)))
    (fun bp' bn' bc' cp cn cc tp tn tc t21 t22 H' => n - t22.toNat) ?_ ⟨rfl, rfl, rfl, rfl, rfl, rfl, rfl, rfl, 0, rfl, by omega, s1.and s2, r2⟩
  clear r2 e12 s2 hb2 e1
  rintro bp' bn' bc' cp cn cc tp tn tc t21 t22 H3 ⟨rfl, rfl, rfl, rfl, rfl, rfl, rfl, rfl, i, rfl, hi, s3, r3⟩ X hX
  refine vouch_copies.b1_eq ?_
  unfold vouch_copies.b1_t
  refine bc (fun hlt => ?_) fun hge => ?_
  · refine (he.keep s3 fun _ _ _ h => h).edge (by omega) (by omega) ?_
    simp only [Int.toNat_natCast]
    refine nwst rfl rfl fun b4 H4 hb4 e4 s4 => ?_
    have hx := hr.ed i (by omega)
    have hf0 := hx.f0; have hf1 := hx.f1; have ht0 := hx.t0; have ht1 := hx.t1
    obtain ⟨a, ha⟩ : ∃ a : Nat, (e i).fr = a := ⟨(e i).fr.toNat, by omega⟩
    obtain ⟨d, hd⟩ : ∃ d : Nat, (e i).to = d := ⟨(e i).to.toNat, by omega⟩
    rw [ha, hd] at e4
    simp only [get_at e4, List.getElem?_cons_zero, List.getElem?_cons_succ, ldI_mk]
    refine vloop fun H5 s5 => ?_
    have e5 := s5.keep _ _ e4 fun h => h
    have s35 := s3.and (s4.and s5)
    have r5 := r3.keep (s4.and s5) fun _ _ h => h
    have next : ∀ H', Step (fun _ => False) H H' → Row H' (some ⟨b2, 0, none⟩) N.toNat N.toNat (fun v => (ends e (i + 1) v : Int)) → vouch_copies.j1 bp bn bc' (some ⟨b2, 0, none⟩) N.toNat N.toNat ep n tc (n : Int) (i : Int) X E H' K := fun H' s' r' => by
      refine vouch_copies.j1_eq ?_
      unfold vouch_copies.j1_t
      rw [i64w (by omega) (by omega)]
      exact hX _ _ _ _ _ _ _ _ _ _ _ _ ⟨rfl, rfl, rfl, rfl, rfl, rfl, rfl, rfl, i + 1, by omega, by omega, s', r'⟩ (by omega)
    have hes : ∀ v : Int, (ends e (i + 1) v : Int) = (ends e i v : Int) + if lp (e i) then 0 else (if (a : Int) = v then 1 else 0) + (if (d : Int) = v then 1 else 0) := fun v => by
      show ((ends e i v + (if lp (e i) then 0 else (if (e i).fr = v then 1 else 0) + (if (e i).to = v then 1 else 0)) : Nat) : Int) = _
      rw [ha, hd]
      split <;> (try split) <;> (try split) <;> simp
    refine bcn (fun hl => ?_) fun hl => ?_
    · have hnl : ¬ lp (e i) := fun h => hl (by have h' : (e i).fr = (e i).to := h; rw [ha, hd] at h'; exact h')
      simp only [get_at e5, List.getElem?_cons_zero, List.getElem?_cons_succ, ldI_mk]
      refine r5.ixI (by omega) (by omega) ?_
      simp only [Int.toNat_natCast]
      have hba := ends_le (e := e) (v := (a : Int)) i
      have hbd := ends_le (e := e) (v := (d : Int)) i
      rw [i64w (n := (ends e i (a : Int) : Int) + 1) (by omega) (by omega)]
      refine r5.stI (by omega) (by omega) _ fun H6 r6 s6 => ?_
      simp only [Int.toNat_natCast] at r6
      have e6 := s6.keep _ _ e5 fun h => by rw [fpS_mk] at h; exact r3.live (b := b2) ⟨_, rfl⟩ (h ▸ hb4)
      simp only [get_at e6, List.getElem?_cons_zero, List.getElem?_cons_succ, ldI_mk]
      refine r6.ixI (by omega) (by omega) ?_
      simp only [Int.toNat_natCast]
      have hv : -1 ≤ upf (fun v : Nat => (ends e i (v : Int) : Int)) a ((ends e i (a : Int) : Int) + 1) d ∧ upf (fun v : Nat => (ends e i (v : Int) : Int)) a ((ends e i (a : Int) : Int) + 1) d ≤ 8193 := by
        unfold upf; dsimp only; split <;> omega
      rw [i64w (by omega) (by omega)]
      refine r6.stI (by omega) (by omega) _ fun H7 r7 s7 => ?_
      simp only [Int.toNat_natCast] at r7
      refine next _ ((s35.own s6 fp2).own s7 fp2) (r7.congr fun v hv => ?_)
      rw [hes, if_neg hnl]
      unfold upf
      have q1 : (v = d) ↔ ((d : Int) = (v : Int)) := by omega
      have q2 : (v = a) ↔ ((a : Int) = (v : Int)) := by omega
      have q3 : (d = a) ↔ ((d : Int) = (a : Int)) := by omega
      by_cases c1 : v = d
      · subst c1
        by_cases c2 : v = a
        · subst c2; simp; omega
        · have : ¬ (a : Int) = (v : Int) := by omega
          simp [c2, this]
      · by_cases c2 : v = a
        · subst c2
          have : ¬ (d : Int) = (v : Int) := by omega
          simp [c1, this]
        · have h1 : ¬ (d : Int) = (v : Int) := by omega
          have h2 : ¬ (a : Int) = (v : Int) := by omega
          simp [c1, c2, h1, h2]
    · have hlp : lp (e i) := by show (e i).fr = (e i).to; rw [ha, hd]; exact hl
      refine next _ s35 (r5.congr fun v hv => ?_)
      rw [hes, if_pos hlp]; omega
  · have : i = n := by omega
    subst this
    clear hX
    refine vouch_copies.j2_eq ?_
    unfold vouch_copies.j2_t
    refine vouch_copies.l2_rule (fun cp cn cc tp tn tc t45 t46 H' => cp = some ⟨b2, 0, none⟩ ∧ cn = N.toNat ∧ cc = N.toNat ∧ bp = tp ∧ bn = tn ∧ t45 = bn ∧
        ∃ v : Nat, t46 = v ∧ v ≤ bn ∧ Step (fun _ => False) H H' ∧ (∀ u, u < v → 0 ≤ b u ∧ b u ≤ 4096) ∧ Row H' (some ⟨b2, 0, none⟩) N.toNat N.toNat (fun u => if u < v then cps e i b u else (ends e i u : Int)))
      (fun cp cn cc tp tn tc t45 t46 H' => bn - t46.toNat) ?_ ⟨rfl, rfl, rfl, rfl, rfl, rfl, 0, rfl, by omega, s3, fun u hu => by omega, r3.congr fun v _ => by simp⟩
    clear r3 s3
    rintro cp cn cc tp tn tc t45 t46 H4 ⟨rfl, rfl, rfl, rfl, rfl, rfl, v, rfl, hv, s4, hbd, r4⟩ Y hY
    refine vouch_copies.b2_eq ?_
    unfold vouch_copies.b2_t
    refine bc (fun hlt => ?_) fun hge => ?_
    · refine (hb.keep s4 fun _ _ _ h => h).ixI (by omega) (by omega) ?_
      simp only [Int.toNat_natCast]
      refine bc (fun g1 => ?_) fun g1 => vneed (fun h => by cases h) fun _ => bad _ s4 fun hh => g1 (hh.bnd v (by omega)).1
      refine vneedD (fun g2 => ?_) fun g2 => bad _ s4 fun hh => g2 (hh.bnd v (by omega)).2
      refine vouch_copies.j3_eq ?_
      unfold vouch_copies.j3_t
      refine r4.ixI (by omega) (by omega) ?_
      refine r4.stI (by omega) (by omega) _ fun H5 r5 s5 => ?_
      simp only [Int.toNat_natCast, Nat.lt_irrefl, if_false] at r5
      rw [i64w (by omega) (by omega)]
      refine hY _ _ _ _ _ _ _ _ _ ⟨rfl, rfl, rfl, rfl, rfl, rfl, v + 1, by omega, by omega, s4.own s5 fp2, fun u hu => ?_, r5.congr fun u hu => ?_⟩ (by omega)
      · by_cases eu : u = v
        · subst eu; exact ⟨g1, g2⟩
        · exact hbd u (by omega)
      · by_cases eu : u = v
        · subst eu; rw [upf_same, if_pos (Nat.lt_succ_self u)]; rfl
        · rw [upf_ne eu]
          by_cases h : u < v
          · rw [if_pos h, if_pos (by omega)]
          · rw [if_neg h, if_neg (by omega)]
    · have : v = bn := by omega
      subst this
      refine kk b2 H4 s4 ⟨hlen, hbd⟩ f2 (r4.congr fun u hu => by rw [if_pos (by omega)])
end
end Go.Mz
