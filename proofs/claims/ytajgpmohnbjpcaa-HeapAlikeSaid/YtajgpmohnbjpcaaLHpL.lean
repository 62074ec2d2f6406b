/-
  HeapAlike, walked: whatever the kinds and the script, it answers true and leaves what was there as it was.
-/
import Derived.Test.YtajgpmohnbjpcaaHpL
import Derived.Test.YtajgpmohnbjpcaaDjP
import Derived.Test.YtajgpmohnbjpcaaGLawL
set_option linter.unusedSimpArgs false
set_option linter.unusedVariables false
namespace Go.Mz

/-- three numbers, read whole -/
theorem Rdr.op3 {H : Hp} {p : Option Addr} {n : Nat} {f : Nat → Int × Int × Int} (h : Rdr H p n f) {i : Int} (h0 : 0 ≤ i) (h1 : i < (n : Int)) {G : Int → Int → Int → Prop}
    (k : G (f i.toNat).1 (f i.toNat).2.1 (f i.toNat).2.2) :
    Mz.ix p n i 3 fun b o => ldI .i64 (H.get b o) fun x1 => ldI .i64 (H.get b (o + 1)) fun x2 => ldI .i64 (H.get b (o + 2)) fun x3 => G x1 x2 x3 := by
  refine h.ix (α := Int × Int × Int) h0 h1 fun b o _ hg => ?_
  have g0 : H.get b o = some (.int .i64 (f i.toNat).1) := hg 0 (by decide)
  have g1 : H.get b (o + 1) = some (.int .i64 (f i.toNat).2.1) := hg 1 (by decide)
  have g2 : H.get b (o + 2) = some (.int .i64 (f i.toNat).2.2) := hg 2 (by decide)
  rw [g0, g1, g2]
  exact k

section
variable {E : Value → Hp → Prop}

/-- two queues that hold the same -/
structure Two (g1 g2 : Engine E) (H0 H : Hp) (p q n : Nat) (a b : Int) (key : Nat → Int) (last : Int) (S : Nat → Bool) (FP FQ : Nat → Prop) : Prop where
  o1 : QO g1 H0 H p n a key last S FP
  o2 : QO g2 H0 H q n b key last S FQ
  d : ∀ y, FP y → ¬ FQ y

variable {g1 g2 : Engine E} {H0 H : Hp} {p q n : Nat} {a b : Int} {key : Nat → Int} {last : Int} {S : Nat → Bool} {FP FQ : Nat → Prop}

theorem Two.new {H' : Hp} (h : Two g1 g2 H0 H p q n a b key last S FP FQ) (s : Step (fun _ => False) H H') : Two g1 g2 H0 H' p q n a b key last S FP FQ :=
  ⟨h.o1.keep s (fun _ h => h.elim) fun _ _ h => h, h.o2.keep s (fun _ h => h.elim) fun _ _ h => h, h.d⟩

/-- the first of two has moved -/
theorem Two.fst {H5 : Hp} {key' : Nat → Int} {last' : Int} {S' : Nat → Bool} {FP5 : Nat → Prop} (h : Two g1 g2 H0 H p q n a b key last S FP FQ) (q5 : Qu g1 H5 p n a key' last' S' FP5) (s5 : Step FP H H5) (f5 : ∀ y, FP5 y → FP y ∨ H y = none) :
    QO g1 H0 H5 p n a key' last' S' FP5 ∧ QO g2 H0 H5 q n b key last S FQ ∧ ∀ y, FP5 y → ¬ FQ y :=
  ⟨h.o1.next q5 s5 f5, h.o2.keep s5 h.o1.fr fun y hy h' => h.d y h' hy, fun y hy h' => (f5 y hy).elim (fun h'' => h.d y h'' h') (h.o2.qu.live y h')⟩

/-- and the second -/
theorem Two.snd {H6 : Hp} {key' : Nat → Int} {last' : Int} {S' : Nat → Bool} {FP5 FQ6 : Nat → Prop} (o1 : QO g1 H0 H p n a key' last' S' FP5) (o2 : QO g2 H0 H q n b key last S FQ) (d : ∀ y, FP5 y → ¬ FQ y) (q6 : Qu g2 H6 q n b key' last' S' FQ6) (s6 : Step FQ H H6) (f6 : ∀ y, FQ6 y → FQ y ∨ H y = none) :
    Two g1 g2 H0 H6 p q n a b key' last' S' FP5 FQ6 :=
  ⟨o1.keep s6 o2.fr fun y hy h' => d y hy h', o2.next q6 s6 f6, fun y hy h' => (f6 y h').elim (fun h'' => d y hy h'') (o1.qu.live y hy)⟩

/-- how many they hold -/
def TwoJ (g1 g2 : Engine E) (H0 H : Hp) (p q n : Nat) (a b : Int) (p7 q9 : Option Addr) (k : Nat) : Prop :=
  p7 = some ⟨p, 0, none⟩ ∧ q9 = some ⟨q, 0, none⟩ ∧ ∃ key last S FP FQ, Two g1 g2 H0 H p q n a b key last S FP FQ ∧ cnt S n = k

theorem lalike5 {a b : Int} {sp : Option Addr} {n sc : Nat} {sf : Nat → Int × Int × Int} {H : Hp} {K : Bool → Hp → Prop} (hsc : Rdr H sp n sf) (hn : n < 2 ^ 63) (hr : ∀ i, i < n → (sf i).2.2 ≤ 9223372036854775807)
    (kk : ∀ H', Step (fun _ => False) H H' → K true H') : compasslaw05_HeapAlike.call a b sp n sc E H K := by
  refine compasslaw05_HeapAlike.of (compasslaw05_HeapAlike.run_eq ?_)
  unfold compasslaw05_HeapAlike.run_t
  refine lawake5 fun H1 s1 => ?_
  refine bcb (fun h => by cases h) fun _ => ?_
  have e50 : ∀ k, newC k 16 ≠ 0 → newC k 16 = 50 := fun k h => by
    unfold newC at h ⊢
    split
    · rfl
    · rename_i h'; rw [if_neg h', if_neg (by decide)] at h; exact (h rfl).elim
  have bad : ∀ {H' : Hp} {x y : Option Addr} {c d : Int}, Step (fun _ => False) H H' → ((Option.isNone x) = decide (c = 50)) → ((Option.isNone y) = decide (d = 50)) → compasslaw05_HeapAlike.j1 x c y d E H' K := by
    intro H' x y c d st h1 h2
    refine compasslaw05_HeapAlike.j1_eq ?_
    unfold compasslaw05_HeapAlike.j1_t
    rw [h1, h2, beq_self_eq_true, beq_self_eq_true]
    exact bcb (fun _ => kk H' st) fun h => by cases h
  refine qnewK (fun ha => ?_) fun ha ha1 ha4 _ _ g1 H2 p FP hq1 s2 f2 => ?_
  · have ea := e50 a ha
    have h1 : Option.isNone (none : Option Addr) = decide (newC a 16 = 50) := by rw [ea]; rfl
    refine qnewK (fun hb => ?_) fun hb hb1 hb4 _ _ g2 H2 q FQ hq2 s2 f2 => ?_
    · refine bcb (fun _ => bad s1 h1 (by rw [e50 b hb]; rfl)) fun h => by cases h
    · exact bcb (fun _ => bad (s1.and s2) h1 (by rfl)) fun h => by cases h
  refine qnewK (fun hb => ?_) fun hb hb1 hb4 _ _ g2 H3 q FQ hq2 s3 f3 => ?_
  · refine bcb (fun h => by cases h) fun _ => ?_
    exact bcb (fun _ => bad (s1.and s2) (by rfl) (by rw [e50 b hb]; rfl)) fun h => by cases h
  refine bcb (fun h => by cases h) fun _ => ?_
  refine bcb (fun h => by cases h) fun _ => ?_
  have hT : Two g1 g2 H1 H3 p q 16 a b (fun _ => 0) 0 (fun _ => false) FP FQ := ⟨⟨hq1.keep s3 fun _ _ h => h, s2.and s3, f2⟩, ⟨hq2, s2.and s3, fun y hy => s2.mono y (f3 y hy)⟩, fun y hy h => hq1.live y hy (f3 y h)⟩
  refine compasslaw05_HeapAlike.l1_rule (fun p7 q9 last11 t57p t57n t57c t58 t59 H' => p7 = some ⟨p, 0, none⟩ ∧ q9 = some ⟨q, 0, none⟩ ∧ t57p = sp ∧ t57n = n ∧ t58 = (n : Int) ∧ ∃ (i : Nat) (key : Nat → Int) (S : Nat → Bool) (FP FQ : Nat → Prop), t59 = i ∧ i ≤ n ∧ Two g1 g2 H1 H' p q 16 a b key last11 S FP FQ ∧ (∀ v, S v = true → key v ≤ 9223372036854775807) ∧ last11 ≤ 9223372036854775807)
    (fun p7 q9 last11 t57p t57n t57c t58 t59 H' => n - t59.toNat) ?_ ⟨rfl, rfl, rfl, rfl, rfl, 0, _, _, FP, FQ, rfl, Nat.zero_le _, hT, fun v hv => (by cases hv), by decide⟩
  rintro p7 q9 last t57p t57n t57c t58 t59 H4 ⟨rfl, rfl, rfl, rfl, rfl, i, key, S, FP, FQ, rfl, hi, hT, hkm, hlm⟩ X hX
  have hs4 : Rdr H4 t57p t57n sf := (hsc.keep s1 fun _ _ _ h => h).keep hT.o1.st fun _ _ _ h => h
  refine compasslaw05_HeapAlike.b1_eq ?_
  unfold compasslaw05_HeapAlike.b1_t
  refine bc (fun hlt => ?_) fun hge => ?_
  · have htn : i < t57n := by omega
    refine hs4.op3 (by omega) (by omega) ?_
    rw [Int.toNat_natCast]
    have hri := hr i htn
    generalize hop : sf i = op at hri ⊢
    obtain ⟨ok, oh, ox⟩ := op
    simp only at hri ⊢
    refine nwst rfl rfl fun b2 H5 hb2 e2 s5 => ?_
    have hT5 := hT.new s5
    have nP : ¬ FP b2 := fun h => hT.o1.qu.live _ h hb2
    have nQ : ¬ FQ b2 := fun h => hT.o2.qu.live _ h hb2
    -- the round's end
    have next : ∀ {H6 : Hp} {key6 : Nat → Int} {last6 : Int} {S6 : Nat → Bool} {FP6 FQ6 : Nat → Prop}, Two g1 g2 H1 H6 p q 16 a b key6 last6 S6 FP6 FQ6 → (∀ v, S6 v = true → key6 v ≤ 9223372036854775807) → last6 ≤ 9223372036854775807 →
        compasslaw05_HeapAlike.j3 (some ⟨p, 0, none⟩) (some ⟨q, 0, none⟩) last6 t57p t57n t57c (t57n : Int) (i : Int) X E H6 K := by
      intro H6 key6 last6 S6 FP6 FQ6 hT6 hk6 hl6
      refine compasslaw05_HeapAlike.j3_eq ?_
      unfold compasslaw05_HeapAlike.j3_t
      refine qlen hT6.o1.qu ?_
      refine qlen hT6.o2.qu ?_
      refine bcn (fun h => (h rfl).elim) fun _ => ?_
      rw [i64w (by omega) (by omega)]
      exact hX _ _ _ _ _ _ _ _ _ ⟨rfl, rfl, rfl, rfl, rfl, i + 1, key6, S6, FP6, FQ6, by omega, by omega, hT6, hk6, hl6⟩ (by omega)
    have main : ∀ x : Int, last ≤ x → x ≤ 9223372036854775807 → compasslaw05_HeapAlike.j2 (some ⟨p, 0, none⟩) (some ⟨q, 0, none⟩) last b2 x t57p t57n t57c (t57n : Int) (i : Int) X E H5 K := by
      intro x hlx hx
      refine compasslaw05_HeapAlike.j2_eq ?_
      unfold compasslaw05_HeapAlike.j2_t
      simp only [get_at e2, List.getElem?_cons_zero, List.getElem?_cons_succ, ldI_mk]
      refine bc (fun _ => ?_) fun _ => bc (fun _ => ?_) fun _ => bc (fun _ => ?_) fun _ => next hT5 hkm hlm
      · have ep := pushC_high (n := 16) (kind := a) (S := S) (h := oh) hlx
        have eq := pushC_high (n := 16) (kind := b) (S := S) (h := oh) hlx
        refine qpush hx hT5.o1.qu (fun h1 => ?_) fun h1 H6 FP6 q6 s6 f6 => ?_
        · simp only [get_at e2, List.getElem?_cons_zero, List.getElem?_cons_succ, ldI_mk]
          refine ⟨trivial, ?_⟩
          refine qpush hx hT5.o2.qu (fun h2 => ?_) fun h2 => ?_
          · rw [ep, eq]
            exact bcn (fun h => (h rfl).elim) fun _ => next hT5 hkm hlm
          · rw [ep] at h1; rw [eq] at h2; exact (h1 h2).elim
        · obtain ⟨o1, o2, d⟩ := hT5.fst q6 s6 f6
          have e26 := s6.keep _ _ e2 nP
          simp only [get_at e26, List.getElem?_cons_zero, List.getElem?_cons_succ, ldI_mk]
          refine ⟨trivial, ?_⟩
          refine qpush hx o2.qu (fun h2 => ?_) fun h2 H7 FQ7 q7 s7 f7 => ?_
          · rw [ep] at h1; rw [eq] at h2; exact (h2 h1).elim
          · have hT7 := Two.snd o1 o2 d q7 s7 f7
            refine bcn (fun h => (h rfl).elim) fun _ => next hT7 (fun v hv => ?_) hlm
            by_cases ev : v = oh.toNat
            · rw [ev, upf_same]; exact hx
            · rw [upf_ne ev] at hv ⊢; exact hkm v hv
      · have ep := lowerC_high (n := 16) (kind := a) (key := key) (S := S) (h := oh) hlx
        have eq := lowerC_high (n := 16) (kind := b) (key := key) (S := S) (h := oh) hlx
        refine qlower hT5.o1.qu (fun h1 => ?_) fun h1 H6 FP6 q6 s6 f6 => ?_
        · simp only [get_at e2, List.getElem?_cons_zero, List.getElem?_cons_succ, ldI_mk]
          refine ⟨trivial, ?_⟩
          refine qlower hT5.o2.qu (fun h2 => ?_) fun h2 => ?_
          · rw [ep, eq]
            exact bcn (fun h => (h rfl).elim) fun _ => next hT5 hkm hlm
          · rw [ep] at h1; rw [eq] at h2; exact (h1 h2).elim
        · obtain ⟨o1, o2, d⟩ := hT5.fst q6 s6 f6
          have e26 := s6.keep _ _ e2 nP
          simp only [get_at e26, List.getElem?_cons_zero, List.getElem?_cons_succ, ldI_mk]
          refine ⟨trivial, ?_⟩
          refine qlower o2.qu (fun h2 => ?_) fun h2 H7 FQ7 q7 s7 f7 => ?_
          · rw [ep] at h1; rw [eq] at h2; exact (h2 h1).elim
          · have hT7 := Two.snd o1 o2 d q7 s7 f7
            refine bcn (fun h => (h rfl).elim) fun _ => next hT7 (fun v hv => ?_) hlm
            by_cases ev : v = oh.toNat
            · rw [ev, upf_same]; exact hx
            · rw [upf_ne ev]; exact hkm v hv
      · refine qpop hT5.o1.qu (fun h1 => ?_) fun w H6 FP6 hw hl q6 s6 f6 => ?_
        · refine qpop hT5.o2.qu (fun h2 => ?_) fun w H6 FQ6 hw => by rw [h1 w] at hw; cases hw
          refine bcn (fun h => (h rfl).elim) fun _ => ?_
          refine bcn (fun h => (h rfl).elim) fun _ => ?_
          refine bcn (fun h => (h rfl).elim) fun _ => ?_
          exact bc (fun h => by cases h) fun _ => next hT5 hkm hlm
        · obtain ⟨o1, o2, d⟩ := hT5.fst q6 s6 f6
          refine qpop o2.qu (fun h2 => by rw [h2 w] at hw; cases hw) fun w' H7 FQ7 hw' hl' q7 s7 f7 => ?_
          have ew : w' = w := least_uniq hw' hw hl' hl
          subst ew
          have hT7 := Two.snd o1 o2 d q7 s7 f7
          refine bcn (fun h => (h rfl).elim) fun _ => ?_
          refine bcn (fun h => (h rfl).elim) fun _ => ?_
          refine bcn (fun h => (h rfl).elim) fun _ => ?_
          refine bc (fun _ => next hT7 (fun v hv => ?_) (hkm w' hw)) fun h => (h rfl).elim
          by_cases ev : v = w'
          · rw [ev, upf_same] at hv; cases hv
          · rw [upf_ne ev] at hv; exact hkm v hv
    simp only [get_at e2, List.getElem?_cons_zero, List.getElem?_cons_succ, ldI_mk]
    exact bc (fun hlow => main last (Int.le_refl _) hlm) fun hlow => main ox (by omega) hri
  · clear hX
    refine compasslaw05_HeapAlike.j4_eq ?_
    unfold compasslaw05_HeapAlike.j4_t
    refine compasslaw05_HeapAlike.l2_rule (fun p7 q9 H' => ∃ k, TwoJ g1 g2 H1 H' p q 16 a b p7 q9 k) (fun p7 q9 H' => lm (TwoJ g1 g2 H1 H' p q 16 a b p7 q9)) ?_ ⟨_, rfl, rfl, key, last, S, FP, FQ, hT, rfl⟩
    rintro p7 q9 H5 ⟨k0, hk0⟩ X2 hX2
    have hlm' := (lm_of hk0).1
    generalize hkk : lm (TwoJ g1 g2 H1 H5 p q 16 a b p7 q9) = kk' at hlm' hX2
    obtain ⟨rfl, rfl, key5, last5, S5, FP5, FQ5, hT5, hc5⟩ := hlm'
    refine compasslaw05_HeapAlike.b2_eq ?_
    unfold compasslaw05_HeapAlike.b2_t
    refine qlen hT5.o1.qu ?_
    refine bc (fun hpos => ?_) fun hnon => ?_
    · refine qpop hT5.o1.qu (fun h1 => ?_) fun w H6 FP6 hw hl q6 s6 f6 => ?_
      · rw [cnt_none fun v _ => h1 v] at hpos; exact absurd hpos (by decide)
      · obtain ⟨o1, o2, d⟩ := hT5.fst q6 s6 f6
        refine qpop o2.qu (fun h2 => by rw [h2 w] at hw; cases hw) fun w' H7 FQ7 hw' hl' q7 s7 f7 => ?_
        have ew : w' = w := least_uniq hw' hw hl' hl
        subst ew
        have hT7 := Two.snd o1 o2 d q7 s7 f7
        refine bcn (fun h => (h rfl).elim) fun _ => ?_
        refine bcn (fun h => (h rfl).elim) fun _ => ?_
        refine bcn (fun h => (h rfl).elim) fun _ => ?_
        refine bcn (fun h => (h rfl).elim) fun _ => ?_
        have hcn := cnt_less (p := S5) (q := upf S5 w' false) (n := 16) (hT5.o1.qu.sub w' hw) hw upf_same fun i _ hne => (upf_ne hne).symm
        have hJ : TwoJ g1 g2 H1 H7 p q 16 a b (some ⟨p, 0, none⟩) (some ⟨q, 0, none⟩) (cnt (upf S5 w' false) 16) := ⟨rfl, rfl, key5, key5 w', upf S5 w' false, FP6, FQ7, hT7, rfl⟩
        have h1 := (lm_of hJ).2
        exact hX2 _ _ _ ⟨_, hJ⟩ (by omega)
    · refine compasslaw05_HeapAlike.j5_eq ?_
      unfold compasslaw05_HeapAlike.j5_t
      refine qlen hT5.o2.qu ?_
      have : cnt S5 16 = 0 := by omega
      rw [this]
      exact kk H5 (s1.and hT5.o1.st)
end
end Go.Mz
