/-
  VouchRests, walked: whatever the graph and the rest, it answers true and leaves what was there as it was.
-/
import Derived.Test.YtjdhhepphbhjgaaVouT
import Derived.Test.YtjdhhepphbhjgaaRefA
import Derived.Test.YtjdhhepphbhjgaaGLawRs
set_option linter.unusedSimpArgs false
set_option linter.unusedVariables false
namespace Go.Mz
section
variable {E : Value → Hp → Prop}

theorem lrests {N : Int} {ep : Option Addr} {n ec : Nat} {e : Nat → Edg} {p : Option Addr} {k c : Nat} {m : Nat → Int} {vp : Option Addr} {q vc : Nat} {cv : Nat → Int} {wp : Option Addr} {r wc : Nat} {pot : Nat → Int} {H : Hp} {K : Bool → Hp → Prop}
    (he : Rdr H ep n e) (hn : n < 2 ^ 63) (hm : Rdr H p k m) (hk : k < 2 ^ 63) (hv : Rdr H vp q cv) (hq : q < 2 ^ 63) (hw : Rdr H wp r pot) (hwr : r < 2 ^ 63)
    (kk : ∀ H', Step (fun _ => False) H H' → K true H') : compasslaw12_VouchRests.call N ep n ec p k c vp q vc wp r wc E H K := by
  refine compasslaw12_VouchRests.of (compasslaw12_VouchRests.run_eq ?_)
  unfold compasslaw12_VouchRests.run_t
  refine nwk fun b1 H1 hb1 e1 s1 => ?_
  refine nwk fun b2 H2 hb2 e2 s2 => ?_
  refine lawake12 fun H3 s3 => ?_
  refine bcb (fun h => by cases h) fun _ => ?_
  have s03 := (s1.and s2).and s3
  have g1 : ∀ {H'}, Step (fun _ => False) H3 H' → H' b1 = some ⟨[.int .i64 N, .slice ep n ec], 24⟩ := fun s => ((s2.and s3).and s).keep _ _ e1 fun h => h
  have g2 : ∀ {H'}, Step (fun _ => False) H3 H' → H' b2 = some ⟨[.slice p k c, .slice vp q vc, .slice wp r wc], 67⟩ := fun s => (s3.and s).keep _ _ e2 fun h => h
  have K3 : ∀ {H'}, Step (fun _ => False) H3 H' → Step (fun _ => False) H H' := fun s => s03.and s
  simp only [get_at (g1 .refl), get_at (g2 .refl), List.getElem?_cons_zero, List.getElem?_cons_succ, ldI_mk, ldS_mk]
  refine rcheck (he.keep s03 fun _ _ _ h => h) fun H4 a s4 => ?_
  have fe : ∀ {H'}, Step (fun _ => False) H3 H' → Rdr H' ep n e := fun s => he.keep (K3 s) fun _ _ _ h => h
  have fm : ∀ {H'}, Step (fun _ => False) H3 H' → Rdr H' p k m := fun s => hm.keep (K3 s) fun _ _ _ h => h
  have fv : ∀ {H'}, Step (fun _ => False) H3 H' → Rdr H' vp q cv := fun s => hv.keep (K3 s) fun _ _ _ h => h
  have fw : ∀ {H'}, Step (fun _ => False) H3 H' → Rdr H' wp r pot := fun s => hw.keep (K3 s) fun _ _ _ h => h
  refine bc (fun hc => ?_) fun hc => ?_
  · simp only [get_at (g1 s4), List.getElem?_cons_zero, List.getElem?_cons_succ, ldI_mk, ldS_mk]
    have hr := chk_zero.1 hc
    refine rcosts (fe s4) fun H5 c1 s5 h1 => ?_
    have u5 := s4.and s5
    refine bc (fun _ => kk _ (K3 u5)) fun hn0 => ?_
    simp only [get_at (g1 u5), List.getElem?_cons_zero, List.getElem?_cons_succ, ldI_mk, ldS_mk]
    refine rcosts (fe u5) fun H6 c2 s6 h2 => ?_
    have e80 : c2 = 80 := by
      have hp : ¬ Pos n e := fun hp => by
        rcases h1 with ⟨h, h'⟩ | ⟨_, _, h⟩ | ⟨h, _⟩
        · exact h' (h.trans hc)
        · exact h hp
        · exact hn0 h
      rcases h2 with ⟨h, h'⟩ | ⟨h, _⟩ | ⟨_, _, h⟩
      · exact absurd (h.trans hc) h'
      · exact h
      · exact absurd h hp
    rw [decide_eq_true e80]
    exact kk _ (K3 (u5.and s6))
  · have hr : ¬ Right N n e := fun h => hc (chk_zero.2 h)
    simp only [get_at (g1 s4), get_at (g2 s4), List.getElem?_cons_zero, List.getElem?_cons_succ, ldI_mk, ldS_mk]
    refine vCovered (fe s4) hn (fm s4) hk (fv s4) hq fun H5 c1 s5 o1 => ?_
    have u5 := s4.and s5
    simp only [get_at (g1 u5), get_at (g2 u5), List.getElem?_cons_zero, List.getElem?_cons_succ, ldI_mk, ldS_mk]
    refine vHeaviest (fe u5) hn (fm u5) hk (fw u5) hwr fun H6 c2 s6 o2 => ?_
    have u6 := u5.and s6
    simp only [get_at (g1 u6), get_at (g2 u6), List.getElem?_cons_zero, List.getElem?_cons_succ, ldI_mk, ldS_mk]
    refine vLargest (fe u6) hn (fm u6) hk (fv u6) hq fun H7 c3 s7 o3 => ?_
    have u7 := u6.and s7
    simp only [get_at (g1 u7), get_at (g2 u7), List.getElem?_cons_zero, List.getElem?_cons_succ, ldI_mk, ldS_mk]
    refine vCheapest (fe u7) hn (fm u7) hk (dual_none (fw u7)) hwr (by decide) fun H8 c4 s8 o4 => ?_
    have u8 := u7.and s8
    simp only [get_at (g1 u8), get_at (g2 u8), List.getElem?_cons_zero, List.getElem?_cons_succ, ldI_mk, ldS_mk]
    refine vMany (set := z0) (fe u8) hn (fv u8) hq (fm u8) hk rdr0 (by decide) fun H9 c5 s9 o5 => ?_
    have u9 := u8.and s9
    simp only [get_at (g1 u9), get_at (g2 u9), List.getElem?_cons_zero, List.getElem?_cons_succ, ldI_mk, ldS_mk]
    refine vDoubled (Y := z0) (dl := fun _ => ⟨none, 0, 0⟩) (row := fun _ => z0) (fe u9) hn (fm u9) hk ⟨rdr0, fun i hi => by omega⟩ (by decide) (dual_none rdr0) (by decide) (by decide) fun H10 c6 s10 o6 => ?_
    have u10 := u9.and s10
    simp only [get_at (g1 u10), get_at (g2 u10), List.getElem?_cons_zero, List.getElem?_cons_succ, ldI_mk, ldS_mk]
    refine vMatching (fe u10) hn (fm u10) hk fun H11 c7 s11 o7 => ?_
    have u11 := u10.and s11
    simp only [get_at (g1 u11), get_at (g2 u11), List.getElem?_cons_zero, List.getElem?_cons_succ, ldI_mk, ldS_mk, true_and]
    refine vNoPerfect (fe u11) hn (fv u11) hq fun H12 c8 s12 o8 => ?_
    have u12 := u11.and s12
    have q5 : c5 = chk N n e := by
      rcases o5 with ⟨_, h, _⟩ | (⟨h, _⟩ | ⟨_, h, _⟩ | ⟨_, h, _⟩) | ⟨_, h, _⟩
      · exact absurd h hr
      · exact h
      · exact absurd h hr
      · exact absurd h hr
      · exact absurd h hr
    have q6 : c6 = chk N n e := by
      rcases o6 with ⟨_, h, _⟩ | ⟨h, _⟩ | ⟨_, h, _⟩ | ⟨_, h, _⟩
      · exact absurd h hr
      · exact h
      · exact absurd h hr
      · exact absurd h hr
    rw [(o1.bad hr).1, (o2.bad hr).1, (o3.bad hr).1, (o4.bad hr).1, q5, q6, (o7.bad hr).1, (o8.bad hr).1]
    refine nwk fun b3 H13 hb3 e3 s13 => ?_
    have r3 : Row H13 (some ⟨b3, 0, none⟩) 8 8 (fun i => (List.replicate 8 (chk N n e))[i]?.getD 0) := row_ls (l := List.replicate 8 (chk N n e)) e3 rfl (by simp)
    have u13 := u12.and s13
    refine compasslaw12_VouchRests.l1_rule (fun cd tp tn tc t107 t108 H' => cd = chk N n e ∧ tp = some ⟨b3, 0, none⟩ ∧ tn = 8 ∧ t107 = 8 ∧ H13 = H' ∧ ∃ i : Nat, t108 = i ∧ i ≤ 8)
      (fun cd tp tn tc t107 t108 H' => 8 - t108.toNat) ?_ ⟨rfl, rfl, rfl, rfl, rfl, 0, rfl, by omega⟩
    rintro cd tp tn tc t107 t108 H' ⟨rfl, rfl, rfl, rfl, rfl, i, rfl, hi⟩ X hX
    refine compasslaw12_VouchRests.b1_eq ?_
    unfold compasslaw12_VouchRests.b1_t
    refine bc (fun hlt => ?_) fun hge => kk _ (K3 u13)
    refine r3.ixI (by omega) (by omega) ?_
    simp only [Int.toNat_natCast]
    refine bcn (fun h => (h ?_).elim) fun _ => ?_
    · rw [List.getElem?_replicate, if_pos (by omega)]; rfl
    · rw [i64w (by omega) (by omega)]
      exact hX _ _ _ _ _ _ _ ⟨rfl, rfl, rfl, rfl, rfl, i + 1, by omega, by omega⟩ (by omega)
end
end Go.Mz
