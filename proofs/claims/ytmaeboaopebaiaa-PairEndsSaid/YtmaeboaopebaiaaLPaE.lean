/-
  PairEnds, walked: whatever the numbers, it answers true and leaves what was there as it was.
-/
import Derived.Test.YtmaeboaopebaiaaLPaB
import Derived.Test.YtmaeboaopebaiaaRowL
import Derived.Test.YtmaeboaopebaiaaGLPE
set_option linter.unusedSimpArgs false
set_option linter.unusedVariables false
namespace Go.Mz

def noE : Nat → Edg := fun _ => (0, 0, 0, 0)

theorem right_noE {N : Int} : Right N 0 noE ↔ 0 ≤ N ∧ N ≤ 1024 := ⟨fun h => ⟨h.N0, h.N1⟩, fun h => ⟨h.1, h.2, by decide, fun i hi => by omega⟩⟩

theorem sdC_noE {N : Int} : sdC N 0 noE N = 0 ↔ 0 ≤ N ∧ N ≤ 1024 := by
  rw [sdC_zero, right_noE]
  exact ⟨fun h => h.1, fun h => ⟨h, h.1, Int.le_refl _, fun i hi => by omega⟩⟩

theorem prC_noE {N left kind : Int} (hl : left = 0 ∨ left = N) : prC N 0 noE left kind = 0 ↔ 0 ≤ N ∧ N ≤ 1024 ∧ (kind = 1 ∨ kind = 2) := by
  rw [prC_zero, right_noE]
  exact ⟨fun h => ⟨h.1.1, h.1.2, h.2.2⟩, fun h => ⟨⟨h.1, h.2.1⟩, ⟨by omega, by omega, fun i hi => by omega⟩, h.2.2⟩⟩

theorem prF_noE {N left kind : Int} {mn cn : Nat} {g cv : Nat → Int} (h : PrF N 0 noE left kind mn g cn cv) : mn = 0 ∧ cn = 0 := by
  rcases h with ⟨_, h⟩ | ⟨_, _, _, hC⟩
  · exact h
  · have := hC.tk.ris.len
    have := hC.eq
    omega

theorem sdAt_noE {N a : Int} (h : SdAt N 0 noE N a) : a = 0 := by
  by_cases hz : chk N 0 noE = 0
  · by_cases hl : 0 ≤ N ∧ N ≤ N
    · exact h.ok hz ⟨hl.1, hl.2, fun i hi => by omega⟩
    · exact h.off hz hl
  · refine (h.bad hz).big ?_
    refine Classical.byContradiction fun hs => hz ?_
    unfold chk; rw [if_neg hs]; rfl

section
variable {E : Value → Hp → Prop}

theorem lints15 {p q : Option Addr} {n m c1 c2 : Nat} {f g : Nat → Int} {H : Hp} {K : Bool → Hp → Prop} (hp : Rdr H p n f) (hq : Rdr H q m g) (hn : n < 2 ^ 62) (hnm : n = m) (hfg : ∀ i, i < n → f i = g i) (kk : K true H) : compasslaw15_ints.call p n c1 q m c2 E H K := by
  subst hnm
  refine compasslaw15_ints.of (compasslaw15_ints.run_eq ?_)
  unfold compasslaw15_ints.run_t
  refine bcn (fun h => (h rfl).elim) fun _ => ?_
  refine compasslaw15_ints.l1_rule (fun ap an ac bp bn bc t12 t13 H' => ap = p ∧ an = n ∧ bp = q ∧ bn = n ∧ t12 = n ∧ H' = H ∧ ∃ i : Nat, t13 = i ∧ i ≤ n) (fun ap an ac bp bn bc t12 t13 H' => n - t13.toNat) ?_ ⟨rfl, rfl, rfl, rfl, rfl, rfl, 0, rfl, Nat.zero_le _⟩
  rintro ap an ac bp bn bc' t12 t13 H' ⟨rfl, rfl, rfl, rfl, rfl, rfl, i, rfl, hi⟩ X hX
  refine compasslaw15_ints.b1_eq ?_
  unfold compasslaw15_ints.b1_t
  refine bc (fun hlt => ?_) fun hge => kk
  refine hp.ixI (by omega) (by omega) ?_
  refine hq.ixI (by omega) (by omega) ?_
  refine bcn (fun h => (h (hfg _ (by omega))).elim) fun _ => ?_
  rw [i64w (by omega) (by omega)]
  exact hX _ _ _ _ _ _ _ _ _ ⟨rfl, rfl, rfl, rfl, rfl, rfl, i + 1, by omega, by omega⟩ (by omega)

theorem lpends {N kind : Int} {H : Hp} {K : Bool → Hp → Prop} (kk : ∀ H', Step (fun _ => False) H H' → K true H') : compasslaw15_PairEnds.call N kind E H K := by
  refine compasslaw15_PairEnds.of (compasslaw15_PairEnds.run_eq ?_)
  unfold compasslaw15_PairEnds.run_t
  refine lawake15 fun H1 s1 => ?_
  refine bcb (fun h => by cases h) fun _ => ?_
  refine nwst rfl rfl fun b1 H3 hb1 e1 s3 => ?_
  refine nwk fun b2 H4 hb2 e2 s4 => ?_
  have e14 := s4.keep _ _ e1 fun h => h
  have s04 := (s1.and s3).and s4
  have r2 : Rdr H4 (some ⟨b2, 0, none⟩) 2 (fun i => ([0, N] : List Int)[i]?.getD 0) := (row_ls (l := [0, N]) e2 rfl (by simp)).rdr
  refine compasslaw15_PairEnds.l1_rule (fun N' k' g5 tp tn tc t18 t19 H' => N' = N ∧ k' = kind ∧ g5 = b1 ∧ tp = some ⟨b2, 0, none⟩ ∧ tn = 2 ∧ t18 = 2 ∧ ∃ i : Nat, t19 = i ∧ i ≤ 2 ∧ Step (fun _ => False) H4 H')
    (fun N' k' g5 tp tn tc t18 t19 H' => 2 - t19.toNat) ?_ ⟨rfl, rfl, rfl, rfl, rfl, rfl, 0, rfl, by decide, .refl⟩
  rintro N' k' g5 tp tn tc t18 t19 H5 ⟨rfl, rfl, rfl, rfl, rfl, rfl, i, rfl, hi, s5⟩ X hX
  have e15 := s5.keep _ _ e14 fun h => h
  have s05 := s04.and s5
  refine compasslaw15_PairEnds.b1_eq ?_
  unfold compasslaw15_PairEnds.b1_t
  refine bc (fun hlt => ?_) fun hge => ?_
  · refine (r2.keep s5 fun _ _ _ h => h).ixI (by omega) (by omega) ?_
    have hl : ([0, N'] : List Int)[(i : Int).toNat]?.getD 0 = 0 ∨ ([0, N'] : List Int)[(i : Int).toNat]?.getD 0 = N' := by
      have : i = 0 ∨ i = 1 := by omega
      rcases this with rfl | rfl
      · exact .inl rfl
      · exact .inr rfl
    generalize ([0, N'] : List Int)[(i : Int).toNat]?.getD 0 = left at hl
    simp only [get_at e15, List.getElem?_cons_zero, List.getElem?_cons_succ, ldI_mk, ldS_mk]
    refine sPair (e := noE) (fun i hi => by omega) (by decide) fun H6 mp mn mc g cp cn cc cv s6 r1 r2 f1 f2 f12 l1 l2 hF => ?_
    obtain ⟨rfl, rfl⟩ := prF_noE hF
    have hz := prC_noE (N := N') (kind := k') hl
    have next : compasslaw15_PairEnds.j1 N' k' g5 (some ⟨b2, 0, none⟩) 2 tc 2 (i : Int) X E H6 K := by
      refine compasslaw15_PairEnds.j1_eq ?_
      unfold compasslaw15_PairEnds.j1_t
      rw [i64w (by omega) (by omega)]
      exact hX _ _ _ _ _ _ _ _ _ ⟨rfl, rfl, rfl, rfl, rfl, rfl, i + 1, by omega, by omega, s5.and s6⟩ (by omega)
    have no : ¬ (0 ≤ N' ∧ N' ≤ 1024 ∧ (k' = 1 ∨ k' = 2)) → decide (prC N' 0 noE left k' = 0) = false := fun h => decide_eq_false fun h' => h (hz.1 h')
    refine bcn (fun h => (h rfl).elim) fun _ => ?_
    refine bcn (fun h => (h rfl).elim) fun _ => ?_
    refine bc (fun h1 => ?_) fun h1 => ?_
    · refine bc (fun h2 => ?_) fun h2 => ?_
      · refine bc (fun h3 => ?_) fun h3 => ?_
        · have e : decide (prC N' 0 noE left k' = 0) = decide (k' ≤ 2) := by rw [decide_eq_decide, hz]; omega
          refine bcb (fun h => ?_) fun _ => next
          rw [e] at h; simp at h
        · refine bcb (fun h => ?_) fun _ => next
          rw [no (by omega)] at h; cases h
      · refine bcb (fun h => ?_) fun _ => next
        rw [no (by omega)] at h; cases h
    · refine bcb (fun h => ?_) fun _ => next
      rw [no (by omega)] at h; cases h
  · clear hX
    refine compasslaw15_PairEnds.j2_eq ?_
    unfold compasslaw15_PairEnds.j2_t
    simp only [get_at e15, List.getElem?_cons_zero, List.getElem?_cons_succ, ldI_mk, ldS_mk]
    refine bsides (e := noE) (fun i hi => by omega) (by decide) fun H6 a s6 ha => ?_
    obtain rfl := sdAt_noE ha
    refine nwst rfl rfl fun b3 H8 hb3 e3 s8 => ?_
    have hz := sdC_noE (N := N')
    simp only [get_at e3, List.getElem?_cons_zero, List.getElem?_cons_succ, ldI_mk]
    have last : nw H8 ⟨[.int .i64 0], 3⟩ fun b_2 H_4 => nw H_4 ⟨[.int .i64 0], 3⟩ fun b_3 H_5 => compasslaw15_ints.call (some ⟨b_2, 0, none⟩) 1 1 (some ⟨b_3, 0, none⟩) 1 1 E H_5 fun r_2 H_6 => K r_2 H_6 := by
      refine nwk fun b5 H9 hb5 e5 s9 => ?_
      refine nwk fun b6 H10 hb6 e6 s10 => ?_
      have e5' := s10.keep _ _ e5 fun h => h
      exact lints15 (row_ls (l := [0]) e5' rfl (by decide)).rdr (row_ls (l := [0]) e6 rfl (by decide)).rdr (by decide) rfl (fun i hi => rfl) (kk H10 ((((s05.and s6).and s8).and s9).and s10))
    refine bc (fun h1 => ?_) fun h1 => ?_
    · refine bcb (fun _ => last) fun h => ?_
      have e : decide (sdC N' 0 noE N' = 0) = decide (N' ≤ 1024) := by rw [decide_eq_decide, hz]; omega
      rw [e] at h; simp at h
    · refine bcb (fun _ => last) fun h => ?_
      have e : decide (sdC N' 0 noE N' = 0) = false := decide_eq_false fun h' => h1 (hz.1 h').1
      rw [e] at h; cases h
end
end Go.Mz
