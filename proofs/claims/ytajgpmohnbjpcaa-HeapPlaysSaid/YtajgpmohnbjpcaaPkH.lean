/-
  Joined: HpP, HpF, HpB, HpC, HpE, HpQ, HpR.
-/
import Derived.Test.YtajgpmohnbjpcaaMzZ
import Derived.Test.YtajgpmohnbjpcaaPkM
import Derived.Test.YtajgpmohnbjpcaaGBin
import Derived.Test.YtajgpmohnbjpcaaGHep
set_option linter.unusedSimpArgs false
set_option linter.unusedVariables false
/-
  Plain law: which handle comes out ahead; a heap in an array. No program in sight.
-/
namespace Go.Mz

/-- comes out ahead -/
def lk (key : Nat → Int) (a b : Nat) : Prop := key a < key b ∨ (key a = key b ∧ a < b)

instance (key : Nat → Int) (a b : Nat) : Decidable (lk key a b) := by unfold lk; infer_instance

section
variable {key : Nat → Int}
theorem lk.trans {a b c : Nat} (h : lk key a b) (k : lk key b c) : lk key a c := by unfold lk at *; omega
theorem lk.asymm {a b : Nat} (h : lk key a b) : ¬ lk key b a := by unfold lk at *; omega
theorem nlk_self {a : Nat} : ¬ lk key a a := by unfold lk; omega
theorem nlk_trans {a b c : Nat} (h : ¬ lk key a b) (k : ¬ lk key b c) : ¬ lk key a c := by unfold lk at *; omega
theorem lk_total {a b : Nat} (h : a ≠ b) : lk key a b ∨ lk key b a := by unfold lk; omega

def par (i : Nat) : Nat := (i - 1) / 2
theorem par_lt {i : Nat} (h : 0 < i) : par i < i := by unfold par; omega

/-- an array, and where each of its members stands -/
structure Arr (g p : Nat → Nat) (m : Nat) (S : Nat → Prop) : Prop where
  mem : ∀ i, i < m → S (g i) ∧ p (g i) = i
  pl : ∀ v, S v → p v < m ∧ g (p v) = v

def Hpo (key : Nat → Int) (g : Nat → Nat) (m : Nat) : Prop := ∀ j, 0 < j → j < m → ¬ lk key (g j) (g (par j))

/-- all but one in order, which may go up -/
structure Up (key : Nat → Int) (g : Nat → Nat) (m i : Nat) : Prop where
  ord : ∀ j, 0 < j → j < m → j ≠ i → ¬ lk key (g j) (g (par j))
  chd : ∀ c, 0 < c → c < m → par c = i → 0 < i → ¬ lk key (g c) (g (par i))

/-- all but one in order, which may go down -/
structure Down (key : Nat → Int) (g : Nat → Nat) (m i : Nat) : Prop where
  ord : ∀ j, 0 < j → j < m → par j ≠ i → ¬ lk key (g j) (g (par j))
  chd : ∀ c, 0 < c → c < m → par c = i → 0 < i → ¬ lk key (g c) (g (par i))

/-- two change places -/
def swp (g : Nat → Nat) (i j : Nat) : Nat → Nat := upf (upf g i (g j)) j (g i)

theorem swp_at {g : Nat → Nat} {i j k : Nat} (hij : i ≠ j) : swp g i j k = if k = j then g i else if k = i then g j else g k := by
  unfold swp
  by_cases h : k = j
  · subst h; rw [upf_same, if_pos rfl]
  · rw [upf_ne h, if_neg h]
    by_cases h2 : k = i
    · subst h2; rw [upf_same, if_pos rfl]
    · rw [upf_ne h2, if_neg h2]

theorem Arr.swp {g p : Nat → Nat} {m : Nat} {S : Nat → Prop} (h : Arr g p m S) {i j : Nat} (hi : i < m) (hj : j < m) (hij : i ≠ j) : Arr (swp g i j) (upf (upf p (g j) i) (g i) j) m S := by
  have hgi := h.mem i hi
  have hgj := h.mem j hj
  have hne : g i ≠ g j := fun e => hij (by rw [← hgi.2, e, hgj.2])
  refine ⟨fun k hk => ?_, fun v hv => ?_⟩
  · rw [swp_at hij]
    by_cases h1 : k = j
    · rw [if_pos h1, upf_same]; exact ⟨hgi.1, h1.symm⟩
    · rw [if_neg h1]
      by_cases h2 : k = i
      · rw [if_pos h2, upf_ne (fun e => hne e.symm), upf_same]; exact ⟨hgj.1, h2.symm⟩
      · have hgk := h.mem k hk
        rw [if_neg h2, upf_ne (fun e => h2 (by rw [← hgk.2, e, hgi.2])), upf_ne (fun e => h1 (by rw [← hgk.2, e, hgj.2]))]
        exact hgk
  · obtain ⟨h1, h2⟩ := h.pl v hv
    by_cases e1 : v = g i
    · subst e1; rw [upf_same, swp_at hij, if_pos rfl]; exact ⟨hj, rfl⟩
    · rw [upf_ne e1]
      by_cases e2 : v = g j
      · subst e2; rw [upf_same, swp_at hij, if_neg hij, if_pos rfl]; exact ⟨hi, rfl⟩
      · rw [upf_ne e2, swp_at hij, if_neg (fun e => e2 (by rw [← h2, e])), if_neg (fun e => e1 (by rw [← h2, e]))]
        exact ⟨h1, h2⟩

theorem Up.step {g : Nat → Nat} {m i : Nat} (h : Up key g m i) (hi : 0 < i) (him : i < m) (hl : lk key (g i) (g (par i))) : Up key (Mz.swp g i (par i)) m (par i) := by
  have hp := par_lt hi
  have hne : i ≠ par i := by omega
  refine ⟨fun j hj hjm hjp => ?_, fun c hc hcm hcp hp0 => ?_⟩
  · have hpj := par_lt hj
    rw [swp_at hne, swp_at hne, if_neg hjp]
    by_cases e1 : j = i
    · subst e1
      rw [if_pos rfl, if_pos rfl]
      exact hl.asymm
    · rw [if_neg e1]
      by_cases e2 : par j = par i
      · rw [if_pos e2]
        have := h.ord j hj hjm e1
        rw [e2] at this
        exact fun hh => this (hh.trans hl)
      · rw [if_neg e2]
        by_cases e3 : par j = i
        · rw [if_pos e3]; exact h.chd j hj hjm e3 hi
        · rw [if_neg e3]; exact h.ord j hj hjm e1
  · have hpp := par_lt hp0
    have hpc := par_lt hc
    rw [swp_at hne, swp_at hne, if_neg (show ¬ c = par i by omega), if_neg (show ¬ par (par i) = par i by omega), if_neg (show ¬ par (par i) = i by omega)]
    by_cases e1 : c = i
    · subst e1
      rw [if_pos rfl]
      exact h.ord (par c) hp0 (by omega) (by omega)
    · rw [if_neg e1]
      have h1 := h.ord c hc hcm e1
      rw [hcp] at h1
      exact nlk_trans h1 (h.ord (par i) hp0 (by omega) (by omega))

theorem Up.fin {g : Nat → Nat} {m i : Nat} (h : Up key g m i) (hi : 0 < i → i < m → ¬ lk key (g i) (g (par i))) : Hpo key g m := fun j hj hjm => by
  by_cases e : j = i
  · subst e; exact hi hj hjm
  · exact h.ord j hj hjm e

theorem Down.step {g : Nat → Nat} {m i c : Nat} (h : Down key g m i) (hc : 0 < c) (hcm : c < m) (hpc : par c = i) (hl : lk key (g c) (g i)) (hoth : ∀ d, 0 < d → d < m → par d = i → ¬ lk key (g d) (g c)) : Down key (Mz.swp g c i) m c := by
  have hp := par_lt hc
  have hne : c ≠ i := by omega
  refine ⟨fun j hj hjm hjp => ?_, fun d hd hdm hdp hc0 => ?_⟩
  · have hpj := par_lt hj
    rw [swp_at hne, swp_at hne]
    by_cases e1 : j = i
    · subst e1
      rw [if_pos rfl, if_neg (show ¬ par j = j by omega), if_neg hjp]
      exact h.chd c hc hcm hpc hj
    · rw [if_neg e1]
      by_cases e2 : j = c
      · subst e2
        rw [if_pos rfl, if_pos hpc]
        exact hl.asymm
      · rw [if_neg e2]
        by_cases e3 : par j = i
        · rw [if_pos e3]; exact hoth j hj hjm e3
        · rw [if_neg e3, if_neg hjp]; exact h.ord j hj hjm e3
  · have hpd := par_lt hd
    rw [swp_at hne, swp_at hne, if_neg (show ¬ d = i by omega), if_neg (show ¬ d = c by omega), hpc, if_pos rfl]
    have := h.ord d hd hdm (by omega)
    rwa [hdp] at this

theorem Down.fin {g : Nat → Nat} {m i : Nat} (h : Down key g m i) (hi : ∀ d, 0 < d → d < m → par d = i → ¬ lk key (g d) (g i)) : Hpo key g m := fun j hj hjm => by
  by_cases e : par j = i
  · rw [e]; exact hi j hj hjm e
  · exact h.ord j hj hjm e

theorem Hpo.least {g : Nat → Nat} {m : Nat} (h : Hpo key g m) : ∀ i, i < m → ¬ lk key (g i) (g 0) := by
  intro i
  induction i using Nat.strongRecOn with
  | ind i ih =>
    intro hi
    by_cases h0 : i = 0
    · subst h0; exact nlk_self
    · have hp := par_lt (i := i) (by omega)
      exact nlk_trans (h i (by omega) hi) (ih (par i) hp (by omega))
end
end Go.Mz

/-
  One cell of an element of a row is written. It proves nothing of the program by itself.
-/
namespace Go.Mz

theorem ix_mk {b o n sz : Nat} {i : Int} {G : Nat → Nat → Prop} : ix (some ⟨b, o, none⟩) n i sz G = ((0 ≤ i ∧ i < (n : Int)) ∧ G b (o + i.toNat * sz)) := rfl

theorem Row.ptr {α : Type} [El α] {H : Hp} {p : Option Addr} {n c : Nat} {f : Nat → α} (h : Row H p n c f) (hn : 0 < n) : ∃ b o, p = some ⟨b, o, none⟩ := by
  rcases h.cells with ⟨rfl, hc⟩ | ⟨b, o, x, rfl, _⟩
  · have := h.le; omega
  · exact ⟨b, o, rfl⟩

theorem Row.getF {α : Type} [El α] {H : Hp} {b o n c : Nat} {f : Nat → α} (h : Row H (some ⟨b, o, none⟩) n c f) {i j : Nat} (hi : i < n) (hj : j < El.w α) : H.get b (o + i * El.w α + j) = (El.enc (f i))[j]? := by
  obtain ⟨b', o', e, hg⟩ := h.rdr i hi
  cases e
  exact hg j hj

theorem Row.stF {α : Type} [El α] {H : Hp} {b o n c : Nat} {f f' : Nat → α} (h : Row H (some ⟨b, o, none⟩) n c f) {i j : Nat} (hi : i < n) (hj : j < El.w α) {v : Value} (h1 : ∀ k, k < n → k ≠ i → f' k = f k)
    (h2 : ∀ l, l < El.w α → (El.enc (f' i))[l]? = if l = j then some v else (El.enc (f i))[l]?) {K : Hp → Prop} (k : ∀ H', Row H' (some ⟨b, o, none⟩) n c f' → Step (· = b) H H' → K H') : stC H b (o + i * El.w α + j) [v] K := by
  rcases h.cells with ⟨e, _⟩ | ⟨b', o', x, e, hx, ⟨hl, hz⟩, ha⟩
  · cases e
  · cases e
    have hiw : (i + 1) * El.w α ≤ n * El.w α := Nat.mul_le_mul_right _ hi
    have hnc : n * El.w α ≤ c * El.w α := Nat.mul_le_mul_right _ h.le
    rw [Nat.add_mul] at hiw
    refine ⟨x, hx, ⟨by simp; omega, hz⟩, k _ ⟨h.le, h.cap, .inr ⟨b, o, _, rfl, upd_same, ⟨by rw [putL_length]; exact hl, hz⟩, ?_⟩⟩ (Step.wr hx rfl)⟩
    intro k hk l hl'
    have hkw : (k + 1) * El.w α ≤ n * El.w α := Nat.mul_le_mul_right _ hk
    rw [Nat.add_mul] at hkw
    rw [putL_get _ _ _ _ (by simp; omega)]
    by_cases ek : k = i
    · subst ek
      rw [h2 l hl']
      by_cases el : l = j
      · subst el
        rw [if_pos rfl, if_pos (by simp), Nat.sub_self]; rfl
      · rw [if_neg el, if_neg (by simp; omega)]
        exact ha k hk l hl'
    · rw [h1 k hk ek]
      have : ¬ (o + i * El.w α + j ≤ o + k * El.w α + l ∧ o + k * El.w α + l < o + i * El.w α + j + [v].length) := by
        simp
        intro h3
        rcases Nat.lt_trichotomy k i with q | q | q
        · have : (k + 1) * El.w α ≤ i * El.w α := Nat.mul_le_mul_right _ q
          rw [Nat.add_mul] at this
          omega
        · exact absurd q ek
        · have : (i + 1) * El.w α ≤ k * El.w α := Nat.mul_le_mul_right _ q
          rw [Nat.add_mul] at this
          omega
      rw [if_neg this]
      exact ha k hk l hl'
end Go.Mz

/-
  Walks of layer 5: ahead; the binary heap.
-/
namespace Go.Mz

theorem upf_self {α : Type} {f : Nat → α} {i : Nat} : upf f i (f i) = f := by
  funext k
  by_cases h : k = i
  · subst h; rw [upf_same]
  · rw [upf_ne h]

theorem upf_twice {α : Type} {f : Nat → α} {i : Nat} {x y : α} : upf (upf f i x) i y = upf f i y := by
  funext k
  by_cases h : k = i
  · subst h; rw [upf_same, upf_same]
  · rw [upf_ne h, upf_ne h, upf_ne h]

theorem cast_upf {f : Nat → Nat} {i x : Nat} : (fun k => ((upf f i x k : Nat) : Int)) = upf (fun k => (f k : Int)) i (x : Int) := by
  funext k
  by_cases h : k = i
  · subst h; rw [upf_same, upf_same]
  · rw [upf_ne h, upf_ne h]

theorem stepOr {F G : Nat → Prop} {H H' H'' : Hp} (h : Step F H H') (k : Step G H' H'') : Step (fun y => F y ∨ G y) H H'' := by
  have h' : Step (fun y => F y ∨ G y) H H' := h.weak fun _ h => .inl (.inl h)
  exact h'.trans k fun _ h => .inl (.inr h)

section
variable {E : Value → Hp → Prop}

/-- a record of keys, as it lies in memory -/
structure KeyM (H : Hp) (q n : Nat) (kp : Option Addr) (key : Nat → Int) : Prop where
  cell : ∃ c, H.get q 0 = some (.slice kp n c)
  row : Rdr H kp n key

theorem KeyM.keep {H H' : Hp} {q n : Nat} {kp : Option Addr} {key : Nat → Int} {F : Nat → Prop} (h : KeyM H q n kp key) (s : Step F H H') (h1 : ¬ F q) (h2 : ∀ y, fpS kp y → ¬ F y) : KeyM H' q n kp key := by
  obtain ⟨c, hc⟩ := h.cell
  exact ⟨⟨c, s.get hc h1⟩, h.row.keep s fun y hy _ => h2 y hy⟩

theorem hahead {q n a b : Nat} {kp : Option Addr} {key : Nat → Int} {H : Hp} {K : Bool → Hp → Prop} (hk : KeyM H q n kp key) (ha : a < n) (hb : b < n) (k : K (decide (lk key a b)) H) : heaps_keyed_ahead.call (some ⟨q, 0, none⟩) a b E H K := by
  obtain ⟨c, hc⟩ := hk.cell
  refine heaps_keyed_ahead.of (heaps_keyed_ahead.run_eq ?_)
  unfold heaps_keyed_ahead.run_t
  simp only [nn_mk, hc, ldS_mk]
  refine hk.row.ixI (by omega) (by omega) ?_
  refine hk.row.ixI (by omega) (by omega) ?_
  simp only [Int.toNat_natCast]
  refine bc (fun h => ?_) fun h => ?_
  · rwa [decide_eq_true (show lk key a b from .inl h)] at k
  · try simp only [hc, ldS_mk]
    refine hk.row.ixI (by omega) (by omega) ?_
    try simp only [hc, ldS_mk]
    refine hk.row.ixI (by omega) (by omega) ?_
    simp only [Int.toNat_natCast]
    refine bc (fun h' => ?_) fun h' => ?_
    · have : decide (lk key a b) = decide ((a : Int) < (b : Int)) := decide_eq_decide.2 (by unfold lk; omega)
      rwa [this] at k
    · rwa [decide_eq_false (show ¬ lk key a b by unfold lk; omega)] at k

/-- a binary heap, as it lies in memory -/
structure BinM (H : Hp) (eb q n m : Nat) (hp : Option Addr) (hc : Nat) (pp : Option Addr) (pc : Nat) (f pl : Nat → Nat) : Prop where
  cell : H eb = some ⟨[.pointer (some ⟨q, 0, none⟩), .slice hp m hc, .slice pp n pc], 90⟩
  heap : Row H hp m hc (fun i => (f i : Int))
  place : Row H pp n pc (fun v => (pl v : Int))
  d1 : ¬ fpS hp eb
  d2 : ¬ fpS pp eb
  d3 : ∀ y, fpS hp y → ¬ fpS pp y

theorem hput {eb q n m i x : Nat} {hp pp : Option Addr} {hc pc : Nat} {f pl : Nat → Nat} {H : Hp} {K : Hp → Prop} (hM : BinM H eb q n m hp hc pp pc f pl) (hi : i < m) (hx : x < n)
    (k : ∀ H', BinM H' eb q n m hp hc pp pc (upf f i x) (upf pl x i) → Step (fun y => fpS hp y ∨ fpS pp y) H H' → K H') : heaps_binary_put.call (some ⟨eb, 0, none⟩) i x E H K := by
  refine heaps_binary_put.of (heaps_binary_put.run_eq ?_)
  unfold heaps_binary_put.run_t
  simp only [nn_mk, get_at hM.cell, List.getElem?_cons_zero, List.getElem?_cons_succ, ldS_mk, Nat.zero_add]
  refine hM.heap.stI (by omega) (by omega) _ fun H1 r1 s1 => ?_
  have p1 := hM.place.keep s1 fun y hy h => hM.d3 y h hy
  refine p1.stI (by omega) (by omega) _ fun H2 r2 s2 => ?_
  simp only [Int.toNat_natCast] at r1 r2
  refine k _ ⟨s2.keep _ _ (s1.keep _ _ hM.cell hM.d1) hM.d2, ?_, ?_, hM.d1, hM.d2, hM.d3⟩ (stepOr s1 s2)
  · rw [cast_upf]; exact r1.keep s2 fun y hy h => hM.d3 y hy h
  · rw [cast_upf]; exact r2

theorem hlower {eb q n m v : Nat} {hp pp kp : Option Addr} {hc pc : Nat} {f pl : Nat → Nat} {key : Nat → Int} {S : Nat → Prop} {H : Hp} {K : Hp → Prop} (hM : BinM H eb q n m hp hc pp pc f pl) (hk : KeyM H q n kp key)
    (dq : ¬ fpS hp q ∧ ¬ fpS pp q) (dk : ∀ y, fpS kp y → ¬ fpS hp y ∧ ¬ fpS pp y) (hn : n ≤ 1024) (hA : Arr f pl m S) (hS : ∀ v, S v → v < n) (hv : S v) (hU : Up key f m (pl v))
    (k : ∀ H' f' pl', BinM H' eb q n m hp hc pp pc f' pl' → Step (fun y => fpS hp y ∨ fpS pp y) H H' → Arr f' pl' m S → Hpo key f' m → K H') : heaps_binary_lower.call (some ⟨eb, 0, none⟩) v E H K := by
  have hvn := hS v hv
  have hpl := hA.pl v hv
  have hmn : m ≤ 1048576 := by
    have := hM.heap.cap
    by_cases h : m ≤ 1048576
    · exact h
    · -- too many distinct members
      exfalso
      have key : ∀ i, i ≤ m → i ≤ n := by
        intro i hi
        have inj : ∀ a b, a < m → b < m → f a = f b → a = b := fun a b ha hb e => by rw [← (hA.mem a ha).2, e, (hA.mem b hb).2]
        have : ∀ j, j ≤ m → j ≤ cnt (fun w => decide (∃ a, a < j ∧ f a = w)) n := by
          intro j
          induction j with
          | zero => intro _; omega
          | succ j ih =>
            intro hj
            have hb := hS _ (hA.mem j (by omega)).1
            have := cnt_less (p := fun w => decide (∃ a, a < j + 1 ∧ f a = w)) (q := fun w => decide (∃ a, a < j ∧ f a = w)) (n := n) (b := f j) hb (decide_eq_true ⟨j, by omega, rfl⟩) (decide_eq_false fun ⟨a, ha, e⟩ => by have := inj a j (by omega) (by omega) e; omega) fun w _ hne => decide_eq_decide.2 ⟨fun ⟨a, ha, e⟩ => by
                by_cases haj : a = j
                · subst haj; exact (hne e.symm).elim
                · exact ⟨a, by omega, e⟩, fun ⟨a, ha, e⟩ => ⟨a, by omega, e⟩⟩
            have := ih (by omega)
            omega
        have h1 := this i hi
        have h2 := cnt_le (fun w => decide (∃ a, a < i ∧ f a = w)) n
        omega
      have := key m (Nat.le_refl _)
      omega
  refine heaps_binary_lower.of (heaps_binary_lower.run_eq ?_)
  unfold heaps_binary_lower.run_t
  simp only [nn_mk, get_at hM.cell, List.getElem?_cons_zero, List.getElem?_cons_succ, ldS_mk, Nat.zero_add]
  refine hM.place.ixI (by omega) (by omega) ?_
  simp only [Int.toNat_natCast]
  refine heaps_binary_lower.l1_rule (fun b0 h1 i4 H' => b0 = some ⟨eb, 0, none⟩ ∧ h1 = v ∧ ∃ (i : Nat) (f' pl' : Nat → Nat), i4 = i ∧ i < m ∧ Step (fun y => fpS hp y ∨ fpS pp y) H H' ∧ BinM H' eb q n m hp hc pp pc f' pl' ∧ Arr (upf f' i v) (upf pl' v i) m S ∧ Up key (upf f' i v) m i)
    (fun b0 h1 i4 H' => i4.toNat) ?_ ⟨rfl, rfl, pl v, f, pl, rfl, hpl.1, .refl, hM, by
      have e1 : upf f (pl v) v = f := by
        have := upf_self (f := f) (i := pl v); rw [hpl.2] at this; exact this
      rw [e1, upf_self]; exact hA, by
      have e1 : upf f (pl v) v = f := by
        have := upf_self (f := f) (i := pl v); rw [hpl.2] at this; exact this
      rw [e1]; exact hU⟩
  rintro b0 h1 i4 H1 ⟨rfl, rfl, i, f1, p1, rfl, hi, s1, hM1, hA1, hU1⟩ X hX
  have hk1 := hk.keep s1 (fun h => h.elim dq.1 dq.2) fun y hy h => h.elim (dk y hy).1 (dk y hy).2
  have fin : (0 < i → ¬ lk key v (f1 (par i))) → heaps_binary_lower.j1 (some ⟨eb, 0, none⟩) (v : Int) (i : Int) E H1 K := fun hstop => by
    refine heaps_binary_lower.j1_eq ?_
    unfold heaps_binary_lower.j1_t
    refine hput hM1 hi hvn fun H2 hM2 s2 => ?_
    refine k _ _ _ hM2 (s1.trans s2 fun _ h => .inl h) hA1 (hU1.fin fun h0 _ => ?_)
    rw [upf_same, upf_ne (by have := par_lt h0; omega)]
    exact hstop h0
  refine heaps_binary_lower.b1_eq ?_
  unfold heaps_binary_lower.b1_t
  refine bc (fun h0 => ?_) fun h0 => fin fun h => absurd (by omega) h0
  have hi0 : 0 < i := by omega
  have hp0 := par_lt hi0
  simp only [nn_mk, get_at hM1.cell, List.getElem?_cons_zero, List.getElem?_cons_succ, ldS_mk, ldP_mk, Nat.zero_add]
  refine ⟨by decide, ?_⟩
  have hpar : IntKind.wrap .i64 (Int.tdiv (IntKind.wrap .i64 ((i : Int) - 1)) 2) = ((par i : Nat) : Int) := by
    unfold par
    rw [i64w (n := (i : Int) - 1) (by omega) (by omega), Int.tdiv_eq_ediv_of_nonneg (by omega), i64w (by omega) (by omega)]
    omega
  rw [hpar]
  refine hM1.heap.ixI (by omega) (by omega) ?_
  simp only [Int.toNat_natCast]
  have hg : upf f1 i v (par i) = f1 (par i) := upf_ne (by omega)
  have hmem := hA1.mem (par i) (by omega)
  rw [hg] at hmem
  have hxn := hS _ hmem.1
  refine hahead hk1 hvn hxn ?_
  refine bc (fun hl => ?_) fun hl => fin fun _ => hl
  simp only [nn_mk, get_at hM1.cell, List.getElem?_cons_zero, List.getElem?_cons_succ, ldS_mk, ldP_mk, Nat.zero_add]
  refine ⟨by decide, ?_⟩
  refine hM1.heap.ixI (by omega) (by omega) ?_
  simp only [Int.toNat_natCast]
  refine hput hM1 hi hxn fun H2 hM2 s2 => ?_
  refine ⟨by decide, ?_⟩
  have hne : i ≠ par i := by omega
  have e1 : upf (upf f1 i (f1 (par i))) (par i) v = swp (upf f1 i v) i (par i) := by
    unfold swp
    rw [upf_same, hg, upf_twice]
  have hxv : f1 (par i) ≠ v := fun e => by
    have h1 := hA1.mem i hi
    rw [upf_same] at h1
    rw [e] at hmem
    omega
  have e2 : upf (upf p1 (f1 (par i)) i) v (par i) = upf (upf (upf p1 v i) (upf f1 i v (par i)) i) (upf f1 i v i) (par i) := by
    rw [upf_same, hg]
    funext w
    by_cases h1 : w = v
    · subst h1; rw [upf_same, upf_same]
    · rw [upf_ne h1, upf_ne h1]
      by_cases h2 : w = f1 (par i)
      · subst h2; rw [upf_same, upf_same]
      · rw [upf_ne h2, upf_ne h2, upf_ne h1]
  refine hX _ _ _ _ ⟨rfl, rfl, par i, _, _, rfl, by omega, s1.trans s2 fun _ h => .inl h, hM2, ?_, ?_⟩ (by omega)
  · rw [e1, e2]; exact hA1.swp hi (by omega) hne
  · rw [e1]
    refine hU1.step hi0 hi ?_
    rw [upf_same, hg]; exact hl
end
end Go.Mz

/-
  Walks of layer 5: the binary heap, more: push, top, pop.
-/
namespace Go.Mz

theorem Arr.small {g p : Nat → Nat} {m n : Nat} {S : Nat → Prop} (h : Arr g p m S) (hS : ∀ v, S v → v < n) : m ≤ n := by
  have inj : ∀ a b, a < m → b < m → g a = g b → a = b := fun a b ha hb e => by rw [← (h.mem a ha).2, e, (h.mem b hb).2]
  classical
  have : ∀ j, j ≤ m → j ≤ cnt (fun w => decide (∃ a, a < j ∧ g a = w)) n := by
    intro j
    induction j with
    | zero => intro _; omega
    | succ j ih =>
      intro hj
      have hb := hS _ (h.mem j (by omega)).1
      have := cnt_less (p := fun w => decide (∃ a, a < j + 1 ∧ g a = w)) (q := fun w => decide (∃ a, a < j ∧ g a = w)) (n := n) (b := g j) hb (decide_eq_true ⟨j, by omega, rfl⟩) (decide_eq_false fun ⟨a, ha, e⟩ => by have := inj a j (by omega) (by omega) e; omega) fun w _ hne => decide_eq_decide.2 ⟨fun ⟨a, ha, e⟩ => by
          by_cases haj : a = j
          · subst haj; exact (hne e.symm).elim
          · exact ⟨a, by omega, e⟩, fun ⟨a, ha, e⟩ => ⟨a, by omega, e⟩⟩
      have := ih (by omega)
      omega
  have h1 := this m (Nat.le_refl _)
  have h2 := cnt_le (fun w => decide (∃ a, a < m ∧ g a = w)) n
  omega

section
variable {E : Value → Hp → Prop}

theorem hpush {eb q n m v : Nat} {hp pp kp : Option Addr} {hc pc : Nat} {f pl : Nat → Nat} {key : Nat → Int} {S : Nat → Prop} {H : Hp} {K : Hp → Prop} (hM : BinM H eb q n m hp hc pp pc f pl) (hk : KeyM H q n kp key)
    (dq : q ≠ eb ∧ ¬ fpS hp q ∧ ¬ fpS pp q) (dk : ∀ y, fpS kp y → y ≠ eb ∧ ¬ fpS hp y ∧ ¬ fpS pp y) (lq : H q ≠ none) (lk' : ∀ y, fpS kp y → H y ≠ none) (hn : n ≤ 1024) (hA : Arr f pl m S) (hS : ∀ v, S v → v < n) (hv : ¬ S v) (hvn : v < n) (hO : Hpo key f m)
    (k : ∀ H' hp' hc' f' pl', BinM H' eb q n (m + 1) hp' hc' pp pc f' pl' → Step (fun y => y = eb ∨ fpS hp y ∨ fpS pp y) H H' → (∀ y, fpS hp' y → fpS hp y ∨ H y = none) → Arr f' pl' (m + 1) (fun w => S w ∨ w = v) → Hpo key f' (m + 1) → K H') : heaps_binary_push.call (some ⟨eb, 0, none⟩) v E H K := by
  have hmn := hA.small hS
  refine heaps_binary_push.of (heaps_binary_push.run_eq ?_)
  unfold heaps_binary_push.run_t
  simp only [nn_mk, get_at hM.cell, List.getElem?_cons_zero, List.getElem?_cons_succ, ldS_mk, Nat.zero_add]
  refine hM.heap.app (α := Int) (v : Int) rfl (by omega) (by decide) fun hp' hc' H1 r1 s1 g1 => ?_
  have c1 := s1.keep _ _ hM.cell hM.d1
  have p1 := hM.place.keep s1 fun y hy h => hM.d3 y h hy
  have leb : H eb ≠ none := by rw [hM.cell]; exact fun h => by cases h
  have d1' : ¬ fpS hp' eb := fun h => (g1 _ h).elim hM.d1 leb
  have d3' : ∀ y, fpS hp' y → ¬ fpS pp y := fun y h h' => (g1 y h).elim (fun h => hM.d3 y h h') (hM.place.live h')
  refine stp c1 (by simp) rfl fun H2 e2 s2 => ?_
  replace e2 : H2 eb = some ⟨[.pointer (some ⟨q, 0, none⟩), .slice hp' (m + 1) hc', .slice pp n pc], 90⟩ := e2
  have r2 := r1.keep s2 fun y hy h => d1' (h ▸ hy)
  have p2 := p1.keep s2 fun y hy h => hM.d2 (h ▸ hy)
  simp only [nn_mk, get_at e2, List.getElem?_cons_zero, List.getElem?_cons_succ, ldS_mk, Nat.zero_add]
  refine p2.stI (by omega) (by omega) _ fun H3 r3 s3 => ?_
  simp only [Int.toNat_natCast] at r3
  have hM3 : BinM H3 eb q n (m + 1) hp' hc' pp pc (upf f m v) (upf pl v m) := by
    refine ⟨s3.keep _ _ e2 hM.d2, ?_, ?_, d1', hM.d2, d3'⟩
    · rw [cast_upf]; exact r2.keep s3 fun y hy h => d3' y hy h
    · rw [cast_upf, show ((m : Nat) : Int) = IntKind.wrap .i64 (((m + 1 : Nat) : Int) - 1) from by rw [i64w (by omega) (by omega)]; omega]; exact r3
  have s13 : Step (fun y => y = eb ∨ fpS hp y ∨ fpS pp y) H H3 := by
    have t1 : Step (fun y => y = eb ∨ fpS hp y ∨ fpS pp y) H H1 := s1.weak fun _ h => .inl (.inr (.inl h))
    exact (t1.trans s2 fun _ h => .inl (.inl h)).trans s3 fun _ h => .inl (.inr (.inr h))
  have hA' : Arr (upf f m v) (upf pl v m) (m + 1) fun w => S w ∨ w = v := by
    refine ⟨fun i hi => ?_, fun w hw => ?_⟩
    · by_cases e : i = m
      · subst e; rw [upf_same, upf_same]; exact ⟨.inr rfl, rfl⟩
      · have h := hA.mem i (by omega)
        rw [upf_ne e, upf_ne (fun e' : f i = v => hv (e' ▸ h.1))]
        exact ⟨.inl h.1, h.2⟩
    · by_cases e : w = v
      · subst e; rw [upf_same, upf_same]; exact ⟨by omega, rfl⟩
      · have h := hA.pl w (hw.resolve_right e)
        rw [upf_ne e, upf_ne (by omega)]
        exact ⟨by omega, h.2⟩
  have hk3 := hk.keep s13 (fun h => h.elim dq.1 fun h => h.elim dq.2.1 dq.2.2) fun y hy h => h.elim (dk y hy).1 fun h => h.elim (dk y hy).2.1 (dk y hy).2.2
  refine hlower hM3 hk3 ⟨fun h => (g1 _ h).elim dq.2.1 lq, dq.2.2⟩ (fun y hy => ⟨fun h => (g1 _ h).elim (dk y hy).2.1 (lk' y hy), (dk y hy).2.2⟩) hn hA' (fun w hw => hw.elim (hS w) fun e => e ▸ hvn) (.inr rfl) ?_ fun H4 f4 pl4 hM4 s4 hA4 hO4 => ?_
  · rw [upf_same]
    refine ⟨fun j hj hjm hne => ?_, fun c hc hcm hcp _ => by have := par_lt hc; omega⟩
    have := par_lt hj
    rw [upf_ne hne, upf_ne (by omega)]
    exact hO j hj (by omega)
  · exact k _ _ _ _ _ hM4 (s13.trans s4 fun y h => h.elim (fun h => (g1 y h).elim (fun h => .inl (.inr (.inl h))) .inr) fun h => .inl (.inr (.inr h))) g1 hA4 hO4

theorem htop {eb q n m : Nat} {hp pp : Option Addr} {hc pc : Nat} {f pl : Nat → Nat} {H : Hp} {K : Int → Hp → Prop} (hM : BinM H eb q n m hp hc pp pc f pl) (hm : 0 < m) (k : K (f 0 : Int) H) : heaps_binary_top.call (some ⟨eb, 0, none⟩) E H K := by
  refine heaps_binary_top.of (heaps_binary_top.run_eq ?_)
  unfold heaps_binary_top.run_t
  simp only [nn_mk, get_at hM.cell, List.getElem?_cons_zero, List.getElem?_cons_succ, ldS_mk, Nat.zero_add]
  exact hM.heap.ixI (by omega) (by omega) k

theorem hpop {eb q n m : Nat} {hp pp kp : Option Addr} {hc pc : Nat} {f pl : Nat → Nat} {key : Nat → Int} {S : Nat → Prop} {H : Hp} {K : Hp → Prop} (hM : BinM H eb q n m hp hc pp pc f pl) (hk : KeyM H q n kp key)
    (dq : q ≠ eb ∧ ¬ fpS hp q ∧ ¬ fpS pp q) (dk : ∀ y, fpS kp y → y ≠ eb ∧ ¬ fpS hp y ∧ ¬ fpS pp y) (hn : n ≤ 1024) (hA : Arr f pl m S) (hS : ∀ v, S v → v < n) (hm : 0 < m) (hO : Hpo key f m)
    (k : ∀ H' f' pl', BinM H' eb q n (m - 1) hp hc pp pc f' pl' → Step (fun y => y = eb ∨ fpS hp y ∨ fpS pp y) H H' → Arr f' pl' (m - 1) (fun w => S w ∧ w ≠ f 0) → Hpo key f' (m - 1) → K H') : heaps_binary_pop.call (some ⟨eb, 0, none⟩) E H K := by
  have hmn := hA.small hS
  have hcm := hM.heap.le
  have hcc := hM.heap.cap
  refine heaps_binary_pop.of (heaps_binary_pop.run_eq ?_)
  unfold heaps_binary_pop.run_t
  simp only [nn_mk, get_at hM.cell, List.getElem?_cons_zero, List.getElem?_cons_succ, ldS_mk, Nat.zero_add]
  rw [i64w (n := (m : Int) - 1) (by omega) (by omega)]
  refine hM.heap.ixI (by omega) (by omega) ?_
  have tm : ((m : Int) - 1).toNat = m - 1 := by omega
  rw [tm]
  try simp only [nn_mk, get_at hM.cell, List.getElem?_cons_zero, List.getElem?_cons_succ, ldS_mk, Nat.zero_add]
  refine ⟨⟨by omega, by omega⟩, ?_⟩
  rw [hM.heap.slp0]
  refine stp hM.cell (by simp) rfl fun H1 e1 s1 => ?_
  replace e1 : H1 eb = some ⟨[.pointer (some ⟨q, 0, none⟩), .slice hp (m - 1) hc, .slice pp n pc], 90⟩ := e1
  have hM1 : BinM H1 eb q n (m - 1) hp hc pp pc f pl := ⟨e1, (hM.heap.cut (by omega)).keep s1 fun y hy h => hM.d1 (h ▸ hy), hM.place.keep s1 fun y hy h => hM.d2 (h ▸ hy), hM.d1, hM.d2, hM.d3⟩
  simp only [nn_mk, get_at e1, List.getElem?_cons_zero, List.getElem?_cons_succ, ldS_mk, Nat.zero_add]
  have s1' : Step (fun y => y = eb ∨ fpS hp y ∨ fpS pp y) H H1 := s1.weak fun _ h => .inl (.inl h)
  have hinj : ∀ a b, a < m → b < m → f a = f b → a = b := fun a b ha hb e => by rw [← (hA.mem a ha).2, e, (hA.mem b hb).2]
  refine bc (fun h0 => ?_) fun h0 => ?_
  · have em : m = 1 := by omega
    subst em
    refine k _ _ _ hM1 s1' ⟨fun i hi => by omega, fun v hv => ?_⟩ fun j _ hj => by omega
    have h := hA.pl v hv.1
    have : pl v = 0 := by omega
    rw [this] at h
    exact (hv.2 h.2.symm).elim
  · obtain ⟨h, hh⟩ : ∃ h, f (m - 1) = h := ⟨_, rfl⟩
    rw [hh]
    have hl := hA.mem (m - 1) (by omega)
    rw [hh] at hl
    have hhn := hS h hl.1
    have h0' : f 0 ≠ h := fun e => by have := hinj 0 (m - 1) (by omega) (by omega) (e.trans hh.symm); omega
    have hA0 : Arr (upf f 0 h) (upf pl h 0) (m - 1) fun w => S w ∧ w ≠ f 0 := by
      refine ⟨fun i hi => ?_, fun v hv => ?_⟩
      · by_cases e : i = 0
        · subst e; rw [upf_same, upf_same]; exact ⟨⟨hl.1, fun e => h0' e.symm⟩, rfl⟩
        · have hi' := hA.mem i (by omega)
          rw [upf_ne e, upf_ne (fun e' => by have := hinj i (m - 1) (by omega) (by omega) (e'.trans hh.symm); omega)]
          exact ⟨⟨hi'.1, fun e' => e (hinj i 0 (by omega) (by omega) e')⟩, hi'.2⟩
      · have hv' := hA.pl v hv.1
        by_cases e : v = h
        · subst e; rw [upf_same, upf_same]; exact ⟨by omega, rfl⟩
        · have n0 : pl v ≠ 0 := fun e' => hv.2 (by rw [e'] at hv'; exact hv'.2.symm)
          have n1 : pl v ≠ m - 1 := fun e' => e (by rw [e', hh] at hv'; exact hv'.2.symm)
          rw [upf_ne e, upf_ne n0]
          exact ⟨by omega, hv'.2⟩
    have hD0 : Down key (upf f 0 h) (m - 1) 0 := by
      refine ⟨fun j hj hjm hpj => ?_, fun c _ _ _ h => by omega⟩
      rw [upf_ne (by omega), upf_ne hpj]
      exact hO j hj (by omega)
    refine heaps_binary_pop.l1_rule (fun b0 h2 n3 i4 H' => b0 = some ⟨eb, 0, none⟩ ∧ h2 = h ∧ n3 = ((m - 1 : Nat) : Int) ∧ ∃ (i : Nat) (f' pl' : Nat → Nat), i4 = i ∧ i < m - 1 ∧ Step (fun y => y = eb ∨ fpS hp y ∨ fpS pp y) H H' ∧ BinM H' eb q n (m - 1) hp hc pp pc f' pl' ∧ Arr (upf f' i h) (upf pl' h i) (m - 1) (fun w => S w ∧ w ≠ f 0) ∧ Down key (upf f' i h) (m - 1) i)
      (fun b0 h2 n3 i4 H' => m - i4.toNat) ?_ ⟨rfl, rfl, rfl, 0, f, pl, rfl, by omega, s1', hM1, hA0, hD0⟩
    clear hA0 hD0 hM1 e1 s1 s1' H1
    rintro b0 h2 n3 i4 H1 ⟨rfl, rfl, rfl, i, f1, p1, rfl, hi, s1, hM1, hA1, hD1⟩ X hX
    have hk1 := hk.keep s1 (fun h => h.elim dq.1 fun h => h.elim dq.2.1 dq.2.2) fun y hy h => h.elim (dk y hy).1 fun h => h.elim (dk y hy).2.1 (dk y hy).2.2
    have hSn : ∀ j, j < m - 1 → j ≠ i → f1 j < n ∧ upf f1 i h j = f1 j := fun j hj hne => by
      have := (hA1.mem j hj).1
      rw [upf_ne hne] at this
      exact ⟨hS _ this.1, upf_ne hne⟩
    have fin : (∀ d, 0 < d → d < m - 1 → par d = i → ¬ lk key (f1 d) h) → heaps_binary_pop.j2 (some ⟨eb, 0, none⟩) (h : Int) (i : Int) E H1 K := fun hstop => by
      refine heaps_binary_pop.j2_eq ?_
      unfold heaps_binary_pop.j2_t
      refine hput hM1 hi hhn fun H2 hM2 s2 => ?_
      refine k _ _ _ hM2 (s1.trans s2 fun _ h => .inl (.inr h)) hA1 (hD1.fin fun d hd hdm hdp => ?_)
      have := par_lt hd
      rw [upf_same, upf_ne (by omega)]
      exact hstop d hd hdm hdp
    -- with the child that is looked at
    have go : ∀ c : Nat, c = 2 * i + 1 ∨ (c = 2 * i + 2 ∧ c < m - 1) → (c < m - 1 → ∀ d, 0 < d → d < m - 1 → par d = i → ¬ lk key (f1 d) (f1 c)) → heaps_binary_pop.j1 (some ⟨eb, 0, none⟩) (h : Int) ((m - 1 : Nat) : Int) (i : Int) (c : Int) X E H1 K := fun c hc hbest => by
      have hpc : par c = i := by unfold par; omega
      refine heaps_binary_pop.j1_eq ?_
      unfold heaps_binary_pop.j1_t
      refine bc (fun hge => fin fun d hd hdm hdp => ?_) fun hlt => ?_
      · unfold par at hdp; omega
      have hcm : c < m - 1 := by omega
      obtain ⟨hcn, hce⟩ := hSn c hcm (by omega)
      simp only [nn_mk, get_at hM1.cell, List.getElem?_cons_zero, List.getElem?_cons_succ, ldS_mk, ldP_mk, Nat.zero_add]
      refine hM1.heap.ixI (by omega) (by omega) ?_
      simp only [Int.toNat_natCast]
      refine hahead hk1 hcn hhn ?_
      refine bcn (fun hl => fin fun d hd hdm hdp => ?_) fun hl => ?_
      · exact nlk_trans (hbest hcm d hd hdm hdp) hl
      · simp only [nn_mk, get_at hM1.cell, List.getElem?_cons_zero, List.getElem?_cons_succ, ldS_mk, ldP_mk, Nat.zero_add]
        refine hM1.heap.ixI (by omega) (by omega) ?_
        simp only [Int.toNat_natCast]
        refine hput hM1 hi hcn fun H2 hM2 s2 => ?_
        have hne : c ≠ i := by omega
        have e1 : upf (upf f1 i (f1 c)) c h = swp (upf f1 i h) c i := by
          unfold swp
          rw [upf_same, hce]
          funext w
          by_cases q1 : w = c
          · subst q1; rw [upf_same, upf_ne hne, upf_same]
          · rw [upf_ne q1]
            by_cases q2 : w = i
            · subst q2; rw [upf_same, upf_same]
            · rw [upf_ne q2, upf_ne q2, upf_ne q1, upf_ne q2]
        have hxh : f1 c ≠ h := fun e => by
          have a1 := hA1.mem i hi
          have a2 := hA1.mem c hcm
          rw [upf_same] at a1
          rw [hce, e] at a2
          omega
        have e2 : upf (upf p1 (f1 c) i) h c = upf (upf (upf p1 h i) (upf f1 i h i) c) (upf f1 i h c) i := by
          rw [upf_same, hce]
          funext w
          by_cases q1 : w = h
          · subst q1; rw [upf_same, upf_ne (fun e => hxh e.symm), upf_same]
          · rw [upf_ne q1]
            by_cases q2 : w = f1 c
            · subst q2; rw [upf_same, upf_same]
            · rw [upf_ne q2, upf_ne q2, upf_ne q1, upf_ne q1]
        refine hX _ _ _ _ _ ⟨rfl, rfl, rfl, c, _, _, rfl, hcm, s1.trans s2 fun _ h => .inl (.inr h), hM2, ?_, ?_⟩ (by omega)
        · rw [e1, e2]; exact hA1.swp hcm hi hne
        · rw [e1]
          refine hD1.step (by omega) hcm hpc ?_ fun d hd hdm hdp => ?_
          · rw [upf_same, hce]; exact hl
          · have := par_lt hd
            rw [upf_ne (show d ≠ i by omega), hce]
            exact hbest hcm d hd hdm hdp
    refine heaps_binary_pop.b1_eq ?_
    unfold heaps_binary_pop.b1_t
    have w1 : IntKind.wrap .i64 (2 * (i : Int)) = 2 * (i : Int) := i64w (by omega) (by omega)
    have w2 : IntKind.wrap .i64 (2 * (i : Int) + 1) = ((2 * i + 1 : Nat) : Int) := by rw [i64w (by omega) (by omega)]; omega
    have w3 : IntKind.wrap .i64 (((2 * i + 1 : Nat) : Int) + 1) = ((2 * i + 2 : Nat) : Int) := by rw [i64w (by omega) (by omega)]; omega
    rw [w1, w2, w3]
    have two : ∀ d, 0 < d → par d = i → d = 2 * i + 1 ∨ d = 2 * i + 2 := fun d hd hdp => by unfold par at hdp; omega
    refine bc (fun hlt => ?_) fun hge => ?_
    · obtain ⟨a1, a2⟩ := hSn (2 * i + 2) (by omega) (by omega)
      obtain ⟨b1, b2⟩ := hSn (2 * i + 1) (by omega) (by omega)
      simp only [nn_mk, get_at hM1.cell, List.getElem?_cons_zero, List.getElem?_cons_succ, ldS_mk, ldP_mk, Nat.zero_add]
      refine hM1.heap.ixI (by omega) (by omega) ?_
      refine hM1.heap.ixI (by omega) (by omega) ?_
      simp only [Int.toNat_natCast]
      refine hahead hk1 a1 b1 ?_
      refine bc (fun hl => ?_) fun hl => ?_
      · refine go (2 * i + 2) (.inr ⟨rfl, by omega⟩) fun _ d hd _ hdp => ?_
        rcases two d hd hdp with rfl | rfl
        · exact hl.asymm
        · exact nlk_self
      · refine go (2 * i + 1) (.inl rfl) fun _ d hd _ hdp => ?_
        rcases two d hd hdp with rfl | rfl
        · exact nlk_self
        · exact hl
    · refine go (2 * i + 1) (.inl rfl) fun _ d hd hdm hdp => ?_
      rcases two d hd hdp with rfl | rfl
      · exact nlk_self
      · omega
end
end Go.Mz

/-
  Layer 5: what a kind of heap must do, whatever the kind; the binary heap does it.
-/
namespace Go.Mz

/-- a kind of heap: what it keeps, and what its methods do -/
structure Engine (E : Value → Hp → Prop) where
  t : TypeId
  rad : Prop
  Inv : Hp → Nat → Nat → Nat → (Nat → Int) → Int → (Nat → Bool) → (Nat → Prop) → Prop
  keep : ∀ {H H' : Hp} {eb q n : Nat} {key : Nat → Int} {last : Int} {S : Nat → Bool} {FP F : Nat → Prop}, Inv H eb q n key last S FP → Step F H H' → (∀ y, FP y → ¬ F y) → Inv H' eb q n key last S FP
  live : ∀ {H : Hp} {eb q n : Nat} {key : Nat → Int} {last : Int} {S : Nat → Bool} {FP : Nat → Prop}, Inv H eb q n key last S FP → ∀ y, FP y → H y ≠ none
  cg : ∀ {H : Hp} {eb q n : Nat} {key key' : Nat → Int} {last : Int} {S : Nat → Bool} {FP : Nat → Prop}, Inv H eb q n key last S FP → (∀ v, S v = true → key v = key' v) → Inv H eb q n key' last S FP
  push : ∀ {H : Hp} {eb q n v : Nat} {key : Nat → Int} {last : Int} {S : Nat → Bool} {FP : Nat → Prop} {kp : Option Addr} {K : Hp → Prop}, Inv H eb q n key last S FP → KeyM H q n kp key → ¬ FP q → (∀ y, fpS kp y → ¬ FP y) → n ≤ 1024 → (∀ v, S v = true → v < n) → v < n → S v = false → (rad → last ≤ key v ∧ key v ≤ 9223372036854775807) →
    (∀ H' FP', Inv H' eb q n key last (upf S v true) FP' → Step FP H H' → (∀ y, FP' y → FP y ∨ H y = none) → K H') → icall P0 T0 (.iface t (.pointer (some ⟨eb, 0, none⟩))) "compass/heaps.push" [.int .i64 (v : Int)] (.tup []) E H fun _ H' => K H'
  lower : ∀ {H : Hp} {eb q n v : Nat} {key : Nat → Int} {x last : Int} {S : Nat → Bool} {FP : Nat → Prop} {kp : Option Addr} {K : Hp → Prop}, Inv H eb q n key last S FP → KeyM H q n kp (upf key v x) → ¬ FP q → (∀ y, fpS kp y → ¬ FP y) → n ≤ 1024 → (∀ v, S v = true → v < n) → S v = true → x < key v → (rad → last ≤ x) →
    (∀ H' FP', Inv H' eb q n (upf key v x) last S FP' → Step FP H H' → (∀ y, FP' y → FP y ∨ H y = none) → K H') → icall P0 T0 (.iface t (.pointer (some ⟨eb, 0, none⟩))) "compass/heaps.lower" [.int .i64 (v : Int)] (.tup []) E H fun _ H' => K H'
  top : ∀ {H : Hp} {eb q n : Nat} {key : Nat → Int} {last : Int} {S : Nat → Bool} {FP : Nat → Prop} {kp : Option Addr} {K : Int → Hp → Prop}, Inv H eb q n key last S FP → KeyM H q n kp key → n ≤ 1024 → (∀ v, S v = true → v < n) → (∃ v, S v = true) →
    (∀ (w : Nat) H', Step (fun _ => False) H H' → S w = true → (∀ u, S u = true → ¬ lk key u w) → K w H') → icall P0 T0 (.iface t (.pointer (some ⟨eb, 0, none⟩))) "compass/heaps.top" [] (.one false [.i .i64]) E H fun u H' => K (asI u) H'
  pop : ∀ {H : Hp} {eb q n w : Nat} {key : Nat → Int} {last : Int} {S : Nat → Bool} {FP : Nat → Prop} {kp : Option Addr} {K : Hp → Prop}, Inv H eb q n key last S FP → KeyM H q n kp key → ¬ FP q → (∀ y, fpS kp y → ¬ FP y) → n ≤ 1024 → (∀ v, S v = true → v < n) → S w = true → (∀ u, S u = true → ¬ lk key u w) →
    (∀ H' FP', Inv H' eb q n key (key w) (upf S w false) FP' → Step FP H H' → (∀ y, FP' y → FP y ∨ H y = none) → K H') → icall P0 T0 (.iface t (.pointer (some ⟨eb, 0, none⟩))) "compass/heaps.pop" [] (.tup []) E H fun _ H' => K H'

section
variable {E : Value → Hp → Prop}

theorem least_uniq {key : Nat → Int} {S : Nat → Bool} {u w : Nat} (hu : S u = true) (hw : S w = true) (h1 : ∀ v, S v = true → ¬ lk key v u) (h2 : ∀ v, S v = true → ¬ lk key v w) : u = w := by
  by_cases h : u = w
  · exact h
  · rcases lk_total (key := key) h with h' | h'
    · exact (h2 u hu h').elim
    · exact (h1 w hw h').elim

structure BinI (H : Hp) (eb q n : Nat) (key : Nat → Int) (last : Int) (S : Nat → Bool) (FP : Nat → Prop) (m : Nat) (hp : Option Addr) (hc : Nat) (pp : Option Addr) (pc : Nat) (f pl : Nat → Nat) : Prop where
  mem : BinM H eb q n m hp hc pp pc f pl
  arr : Arr f pl m fun v => S v = true
  ord : Hpo key f m
  fp : ∀ y, FP y ↔ y = eb ∨ fpS hp y ∨ fpS pp y

def binEng (E : Value → Hp → Prop) : Engine E where
  t := 87
  rad := False
  Inv := fun H eb q n key last S FP => ∃ m hp hc pp pc f pl, BinI H eb q n key last S FP m hp hc pp pc f pl
  keep := fun ⟨m, hp, hc, pp, pc, f, pl, h⟩ s hF => by
    have d : ∀ y, y = _ ∨ fpS hp y ∨ fpS pp y → ¬ _ := fun y hy => hF y ((h.fp y).2 hy)
    exact ⟨m, hp, hc, pp, pc, f, pl, ⟨s.keep _ _ h.mem.cell (d _ (.inl rfl)), h.mem.heap.keep s fun y hy => d y (.inr (.inl hy)), h.mem.place.keep s fun y hy => d y (.inr (.inr hy)), h.mem.d1, h.mem.d2, h.mem.d3⟩, h.arr, h.ord, h.fp⟩
  live := fun ⟨m, hp, hc, pp, pc, f, pl, h⟩ y hy => by
    rcases (h.fp y).1 hy with rfl | h' | h'
    · rw [h.mem.cell]; exact fun e => by cases e
    · exact h.mem.heap.live h'
    · exact h.mem.place.live h'
  cg := fun ⟨m, hp, hc, pp, pc, f, pl, h⟩ hk => ⟨m, hp, hc, pp, pc, f, pl, h.mem, h.arr, fun j hj hjm => by
    have h1 := h.ord j hj hjm
    have := par_lt hj
    unfold lk at *
    rw [← hk _ (h.arr.mem j hjm).1, ← hk _ (h.arr.mem (par j) (by omega)).1]
    exact h1, h.fp⟩
  push := fun {H eb q n v key last S FP kp K} ⟨m, hp, hc, pp, pc, f, pl, h⟩ hk hq hkp hn hS hv hSv _ kk => by
    have d : ∀ y, ¬ FP y → y ≠ eb ∧ ¬ fpS hp y ∧ ¬ fpS pp y := fun y hy => ⟨fun e => hy ((h.fp y).2 (.inl e)), fun e => hy ((h.fp y).2 (.inr (.inl e))), fun e => hy ((h.fp y).2 (.inr (.inr e)))⟩
    obtain ⟨c, hcell⟩ := hk.cell
    refine ⟨81, by kernel_rfl, hpush h.mem hk (d _ hq) (fun y hy => d y (hkp y hy)) (fun e => by simp [Hp.get, e] at hcell) (fun y hy => hk.row.live hy (by omega)) hn h.arr hS (by rw [hSv]; exact fun e => by cases e) hv h.ord fun H' hp' hc' f' pl' hM s hnew hA hO => ?_⟩
    refine kk H' (fun y => y = eb ∨ fpS hp' y ∨ fpS pp y) ⟨_, hp', hc', pp, pc, f', pl', hM, ?_, hO, fun y => Iff.rfl⟩ (s.weak fun y hy => .inl ((h.fp y).2 hy)) fun y hy => ?_
    · refine ⟨fun i hi => ?_, fun w hw => ?_⟩
      · have := hA.mem i hi
        refine ⟨?_, this.2⟩
        by_cases e : f' i = v
        · rw [e, upf_same]
        · rw [upf_ne e]; exact this.1.resolve_right e
      · refine hA.pl w ?_
        by_cases e : w = v
        · exact .inr e
        · rw [upf_ne e] at hw; exact .inl hw
    · rcases hy with rfl | hy | hy
      · exact .inl ((h.fp _).2 (.inl rfl))
      · exact (hnew y hy).imp (fun h1 => (h.fp y).2 (.inr (.inl h1))) id
      · exact .inl ((h.fp y).2 (.inr (.inr hy)))
  lower := fun {H eb q n v key x last S FP kp K} ⟨m, hp, hc, pp, pc, f, pl, h⟩ hk hq hkp hn hS hSv hx _ kk => by
    have d : ∀ y, ¬ FP y → ¬ fpS hp y ∧ ¬ fpS pp y := fun y hy => ⟨fun e => hy ((h.fp y).2 (.inr (.inl e))), fun e => hy ((h.fp y).2 (.inr (.inr e)))⟩
    have hpl := h.arr.pl v hSv
    have hinj : ∀ j, j < m → j ≠ pl v → f j ≠ v := fun j hj hne e => hne (by rw [← (h.arr.mem j hj).2, e])
    have hU : Up (upf key v x) f m (pl v) := by
      have up : ∀ a b, a ≠ v → ¬ lk key a b → ¬ lk (upf key v x) a b := fun a b ha hl => by
        unfold lk at *
        rw [upf_ne ha]
        by_cases hb : b = v
        · subst hb; rw [upf_same]; omega
        · rw [upf_ne hb]; exact hl
      refine ⟨fun j hj hjm hne => up _ _ (hinj j hjm hne) (h.ord j hj hjm), fun c hc hcm hcp hp0 => ?_⟩
      have h1 := par_lt hc
      have h2 := par_lt hp0
      refine up _ _ (hinj c hcm (by omega)) ?_
      have h3 := h.ord c hc hcm
      rw [hcp] at h3
      exact nlk_trans h3 (h.ord (pl v) hp0 hpl.1)
    refine ⟨79, by kernel_rfl, hlower h.mem hk (d _ hq) (fun y hy => d y (hkp y hy)) hn h.arr hS hSv hU fun H' f' pl' hM s hA hO => ?_⟩
    exact kk H' (fun y => y = eb ∨ fpS hp y ∨ fpS pp y) ⟨m, hp, hc, pp, pc, f', pl', hM, hA, hO, fun y => Iff.rfl⟩ (s.weak fun y hy => .inl ((h.fp y).2 (.inr hy))) fun y hy => .inl ((h.fp y).2 hy)
  top := fun {H eb q n key last S FP kp K} ⟨m, hp, hc, pp, pc, f, pl, h⟩ hk hn hS ⟨v, hv⟩ kk => by
    have hm : 0 < m := by have := (h.arr.pl v hv).1; omega
    refine ⟨82, by kernel_rfl, htop h.mem hm ?_⟩
    refine kk (f 0) H .refl (h.arr.mem 0 hm).1 fun u hu => ?_
    obtain ⟨h1, h2⟩ := h.arr.pl u hu
    have := h.ord.least (pl u) h1
    rwa [h2] at this
  pop := fun {H eb q n w key last S FP kp K} ⟨m, hp, hc, pp, pc, f, pl, h⟩ hk hq hkp hn hS hw hleast kk => by
    have d : ∀ y, ¬ FP y → y ≠ eb ∧ ¬ fpS hp y ∧ ¬ fpS pp y := fun y hy => ⟨fun e => hy ((h.fp y).2 (.inl e)), fun e => hy ((h.fp y).2 (.inr (.inl e))), fun e => hy ((h.fp y).2 (.inr (.inr e)))⟩
    have hm : 0 < m := by have := (h.arr.pl w hw).1; omega
    have e0 : f 0 = w := least_uniq (h.arr.mem 0 hm).1 hw (fun u hu => by
      obtain ⟨h1, h2⟩ := h.arr.pl u hu
      have := h.ord.least (pl u) h1
      rwa [h2] at this) hleast
    refine ⟨80, by kernel_rfl, hpop h.mem hk (d _ hq) (fun y hy => d y (hkp y hy)) hn h.arr hS hm h.ord fun H' f' pl' hM s hA hO => ?_⟩
    refine kk H' (fun y => y = eb ∨ fpS hp y ∨ fpS pp y) ⟨m - 1, hp, hc, pp, pc, f', pl', hM, ?_, hO, fun y => Iff.rfl⟩ (s.weak fun y hy => .inl ((h.fp y).2 hy)) fun y hy => .inl ((h.fp y).2 hy)
    rw [e0] at hA
    refine ⟨fun i hi => ?_, fun u hu => hA.pl u ?_⟩
    · have := hA.mem i hi
      refine ⟨?_, this.2⟩
      rw [upf_ne this.1.2]; exact this.1.1
    · by_cases e : u = w
      · subst e; rw [upf_same] at hu; cases hu
      · rw [upf_ne e] at hu; exact ⟨hu, e⟩
end
end Go.Mz

/-
  Walks of layer 5: a queue of any kind.
-/
namespace Go.Mz
section
variable {E : Value → Hp → Prop}

structure QuM (g : Engine E) (H : Hp) (q n : Nat) (kind : Int) (key : Nat → Int) (last : Int) (S : Nat → Bool) (FP : Nat → Prop) (kp hp : Option Addr) (kc hc eb : Nat) (FE : Nat → Prop) : Prop where
  cell : H q = some ⟨[.slice kp n kc, .slice hp n hc, .iface g.t (.pointer (some ⟨eb, 0, none⟩)), .int .i64 (cnt S n), .int .i64 kind, .int .i64 last], 86⟩
  kr : Row H kp n kc key
  hr : Row H hp n hc S
  eng : g.Inv H eb q n key last S FE
  sub : ∀ v, S v = true → v < n
  rad : g.rad ↔ kind = 4
  nle : n ≤ 1024
  dq1 : ¬ fpS kp q
  dq2 : ¬ fpS hp q
  dq3 : ¬ FE q
  dk1 : ∀ y, fpS kp y → ¬ fpS hp y
  dk2 : ∀ y, fpS kp y → ¬ FE y
  dh : ∀ y, fpS hp y → ¬ FE y
  fp : ∀ y, FP y ↔ y = q ∨ fpS kp y ∨ fpS hp y ∨ FE y

/-- a queue: its blocks, its handles, their keys -/
def Qu (g : Engine E) (H : Hp) (q n : Nat) (kind : Int) (key : Nat → Int) (last : Int) (S : Nat → Bool) (FP : Nat → Prop) : Prop := ∃ kp hp kc hc eb FE, QuM g H q n kind key last S FP kp hp kc hc eb FE

variable {g : Engine E} {H : Hp} {q n : Nat} {kind : Int} {key : Nat → Int} {last : Int} {S : Nat → Bool} {FP : Nat → Prop}

theorem Qu.keep {H' : Hp} {F : Nat → Prop} (h : Qu g H q n kind key last S FP) (s : Step F H H') (hF : ∀ y, FP y → ¬ F y) : Qu g H' q n kind key last S FP := by
  obtain ⟨kp, hp, kc, hc, eb, FE, m⟩ := h
  exact ⟨kp, hp, kc, hc, eb, FE, s.keep _ _ m.cell (hF _ ((m.fp _).2 (.inl rfl))), m.kr.keep s fun y hy => hF y ((m.fp y).2 (.inr (.inl hy))), m.hr.keep s fun y hy => hF y ((m.fp y).2 (.inr (.inr (.inl hy)))),
    g.keep m.eng s fun y hy => hF y ((m.fp y).2 (.inr (.inr (.inr hy)))), m.sub, m.rad, m.nle, m.dq1, m.dq2, m.dq3, m.dk1, m.dk2, m.dh, m.fp⟩

theorem Qu.live (h : Qu g H q n kind key last S FP) : ∀ y, FP y → H y ≠ none := by
  obtain ⟨kp, hp, kc, hc, eb, FE, m⟩ := h
  intro y hy
  rcases (m.fp y).1 hy with rfl | h' | h' | h'
  · rw [m.cell]; exact fun e => by cases e
  · exact m.kr.live h'
  · exact m.hr.live h'
  · exact g.live m.eng y h'

theorem Qu.sub (h : Qu g H q n kind key last S FP) : ∀ v, S v = true → v < n := by
  obtain ⟨kp, hp, kc, hc, eb, FE, m⟩ := h; exact m.sub
theorem Qu.nle (h : Qu g H q n kind key last S FP) : n ≤ 1024 := by
  obtain ⟨kp, hp, kc, hc, eb, FE, m⟩ := h; exact m.nle

theorem QuM.keyM {kp hp : Option Addr} {kc hc eb : Nat} {FE : Nat → Prop} (m : QuM g H q n kind key last S FP kp hp kc hc eb FE) : KeyM H q n kp key := ⟨⟨kc, by rw [get_at m.cell]; rfl⟩, m.kr.rdr⟩

theorem qlen {K : Int → Hp → Prop} (h : Qu g H q n kind key last S FP) (k : K (cnt S n : Int) H) : heaps_Queue_Len.call (some ⟨q, 0, none⟩) E H K := by
  obtain ⟨kp, hp, kc, hc, eb, FE, m⟩ := h
  refine heaps_Queue_Len.of (heaps_Queue_Len.run_eq ?_)
  unfold heaps_Queue_Len.run_t
  simp only [nn_mk, get_at m.cell, List.getElem?_cons_zero, List.getElem?_cons_succ, ldI_mk, Nat.zero_add]
  exact k

/-- what Key, Push and Lower answer -/
def keyC (n : Nat) (S : Nat → Bool) (h : Int) : Int := if h < 0 ∨ (n : Int) ≤ h then 30 else if S h.toNat then 0 else 2
def pushC (n : Nat) (kind : Int) (S : Nat → Bool) (last h x : Int) : Int := if h < 0 ∨ (n : Int) ≤ h then 30 else if S h.toNat then 51 else if kind = 4 ∧ x < last then 80 else 0
def lowerC (n : Nat) (kind : Int) (key : Nat → Int) (S : Nat → Bool) (last h x : Int) : Int := if h < 0 ∨ (n : Int) ≤ h then 30 else if S h.toNat = false then 2 else if key h.toNat < x then 52 else if kind = 4 ∧ x < last then 80 else 0

theorem qkey {h : Int} {K : Int → Int → Hp → Prop} (hq : Qu g H q n kind key last S FP) (k : K (if keyC n S h = 0 then key h.toNat else 0) (keyC n S h) H) : heaps_Queue_Key.call (some ⟨q, 0, none⟩) h E H K := by
  obtain ⟨kp, hp, kc, hc, eb, FE, m⟩ := hq
  refine heaps_Queue_Key.of (heaps_Queue_Key.run_eq ?_)
  unfold heaps_Queue_Key.run_t
  refine bc (fun h0 => ?_) fun h0 => ?_
  · have : keyC n S h = 30 := if_pos (.inl h0)
    rw [this, if_neg (by decide)] at k; exact k
  · simp only [nn_mk, get_at m.cell, List.getElem?_cons_zero, List.getElem?_cons_succ, ldI_mk, ldS_mk, Nat.zero_add]
    refine bc (fun h1 => ?_) fun h1 => ?_
    · have : keyC n S h = 30 := if_pos (.inr h1)
      rw [this, if_neg (by decide)] at k; exact k
    · have e0 : keyC n S h = if S h.toNat then 0 else 2 := if_neg (by omega)
      try simp only [nn_mk, get_at m.cell, List.getElem?_cons_zero, List.getElem?_cons_succ, ldI_mk, ldS_mk, Nat.zero_add]
      refine m.hr.rdr.ixB (by omega) (by omega) ?_
      cases hS : S h.toNat with
      | false =>
        rw [hS] at e0
        refine bcb (fun _ => ?_) fun e => by cases e
        rw [e0] at k
        exact k
      | true =>
        rw [hS] at e0
        refine bcb (fun e => by cases e) fun _ => ?_
        try simp only [nn_mk, get_at m.cell, List.getElem?_cons_zero, List.getElem?_cons_succ, ldI_mk, ldS_mk, Nat.zero_add]
        refine m.kr.ixI (by omega) (by omega) ?_
        rw [e0] at k
        exact k

theorem qlow {x : Int} {K : Bool → Hp → Prop} (hq : Qu g H q n kind key last S FP) (k : K (decide (kind = 4 ∧ x < last)) H) : heaps_Queue_low.call (some ⟨q, 0, none⟩) x E H K := by
  obtain ⟨kp, hp, kc, hc, eb, FE, m⟩ := hq
  refine heaps_Queue_low.of (heaps_Queue_low.run_eq ?_)
  unfold heaps_Queue_low.run_t
  simp only [nn_mk, get_at m.cell, List.getElem?_cons_zero, List.getElem?_cons_succ, ldI_mk, Nat.zero_add]
  refine bc (fun h => ?_) fun h => ?_
  · try simp only [nn_mk, get_at m.cell, List.getElem?_cons_zero, List.getElem?_cons_succ, ldI_mk, Nat.zero_add]
    rwa [show decide (kind = 4 ∧ x < last) = decide (x < last) from decide_eq_decide.2 ⟨fun h => h.2, fun h' => ⟨h, h'⟩⟩] at k
  · rwa [show decide (kind = 4 ∧ x < last) = false from decide_eq_false fun h' => h h'.1] at k

theorem qpush {h x : Int} {K : Int → Hp → Prop} (hx : x ≤ 9223372036854775807) (hq : Qu g H q n kind key last S FP) (bad : pushC n kind S last h x ≠ 0 → K (pushC n kind S last h x) H)
    (ok : pushC n kind S last h x = 0 → ∀ H' FP', Qu g H' q n kind (upf key h.toNat x) last (upf S h.toNat true) FP' → Step FP H H' → (∀ y, FP' y → FP y ∨ H y = none) → K 0 H') : heaps_Queue_Push.call (some ⟨q, 0, none⟩) h x E H K := by
  have hq' := hq
  obtain ⟨kp, hp, kc, hc, eb, FE, m⟩ := hq
  refine heaps_Queue_Push.of (heaps_Queue_Push.run_eq ?_)
  unfold heaps_Queue_Push.run_t
  refine bc (fun h0 => ?_) fun h0 => ?_
  · have : pushC n kind S last h x = 30 := if_pos (.inl h0)
    rw [this] at bad; exact bad (by decide)
  simp only [nn_mk, get_at m.cell, List.getElem?_cons_zero, List.getElem?_cons_succ, ldI_mk, ldS_mk, Nat.zero_add]
  refine bc (fun h1 => ?_) fun h1 => ?_
  · have : pushC n kind S last h x = 30 := if_pos (.inr h1)
    rw [this] at bad; exact bad (by decide)
  have e0 : pushC n kind S last h x = if S h.toNat then 51 else if kind = 4 ∧ x < last then 80 else 0 := if_neg (by omega)
  obtain ⟨v, hv⟩ : ∃ v, h.toNat = v := ⟨_, rfl⟩
  have hvn : v < n := by omega
  try simp only [nn_mk, get_at m.cell, List.getElem?_cons_zero, List.getElem?_cons_succ, ldI_mk, ldS_mk, Nat.zero_add]
  refine m.hr.rdr.ixB (by omega) (by omega) ?_
  rw [hv] at e0 ok ⊢
  cases hS : S v with
  | true =>
    rw [hS] at e0
    refine bcb (fun _ => ?_) fun e => by cases e
    rw [e0] at bad; exact bad (by simp)
  | false =>
    rw [hS] at e0
    refine bcb (fun e => by cases e) fun _ => ?_
    refine qlow hq' ?_
    refine bc (fun hl => ?_) fun hl => ?_
    · rw [if_neg (by decide), if_pos hl] at e0
      rw [e0] at bad; exact bad (by simp)
    · rw [if_neg (by decide), if_neg hl] at e0
      simp only [nn_mk, get_at m.cell, List.getElem?_cons_zero, List.getElem?_cons_succ, ldI_mk, ldS_mk, Nat.zero_add]
      refine m.kr.stI (by omega) (by omega) _ fun H1 r1 s1 => ?_
      rw [hv] at r1
      have c1 := s1.keep _ _ m.cell m.dq1
      have hr1 := m.hr.keep s1 fun y hy h => m.dk1 y h hy
      have i1 := g.keep m.eng s1 fun y hy h => m.dk2 y h hy
      refine hr1.stB (by omega) (by omega) _ fun H2 r2 s2 => ?_
      rw [hv] at r2
      have c2 := s2.keep _ _ c1 m.dq2
      have k2 := r1.keep s2 fun y hy h => m.dk1 y hy h
      have i2 := g.keep i1 s2 fun y hy h => m.dh y h hy
      simp only [nn_mk, get_at c2, List.getElem?_cons_zero, List.getElem?_cons_succ, ldI_mk, ldS_mk, Nat.zero_add]
      have hcn := cnt_less (p := upf S v true) (q := S) (n := n) hvn upf_same hS fun i _ hne => upf_ne hne
      have hcl := cnt_le S n
      have hnl := m.nle
      rw [i64w (by omega) (by omega)]
      refine stp c2 (by simp) rfl fun H3 e3 s3 => ?_
      replace e3 : H3 q = some ⟨[.slice kp n kc, .slice hp n hc, .iface g.t (.pointer (some ⟨eb, 0, none⟩)), .int .i64 (cnt S n + 1), .int .i64 kind, .int .i64 last], 86⟩ := e3
      have k3 := k2.keep s3 fun y hy h => m.dq1 (h ▸ hy)
      have h3 := r2.keep s3 fun y hy h => m.dq2 (h ▸ hy)
      have i3 := g.keep i2 s3 fun y hy h => m.dq3 (h ▸ hy)
      simp only [nn_mk, get_at e3, List.getElem?_cons_zero, List.getElem?_cons_succ, ldI_mk, ldS_mk, Nat.zero_add]
      refine ⟨trivial, ?_⟩
      have i3' : g.Inv H3 eb q n (upf key v x) last S FE := g.cg i3 fun u hu => by
        rw [upf_ne (fun e => by rw [e, hS] at hu; cases hu)]
      rw [show h = (v : Int) by omega]
      have s13 : Step FP H H3 := ((s1.weak fun y hy => .inl ((m.fp y).2 (.inr (.inl hy)))).trans s2 fun y hy => .inl ((m.fp y).2 (.inr (.inr (.inl hy))))).trans s3 fun y hy => .inl ((m.fp y).2 (.inl hy))
      refine g.push i3' ⟨⟨kc, by rw [get_at e3]; rfl⟩, k3.rdr⟩ m.dq3 m.dk2 m.nle m.sub hvn hS (fun hr => by rw [upf_same]; have := m.rad.1 hr; omega) fun H4 FE' i4 s4 hnew => ?_
      have live3 : ∀ y, (y = q ∨ fpS kp y ∨ fpS hp y) → H3 y ≠ none := fun y hy => by
        rcases hy with rfl | hy | hy
        · rw [e3]; exact fun e => by cases e
        · exact k3.live hy
        · exact h3.live hy
      refine ok e0 H4 (fun y => y = q ∨ fpS kp y ∨ fpS hp y ∨ FE' y) ⟨kp, hp, kc, hc, eb, FE', ?_, k3.keep s4 m.dk2, h3.keep s4 m.dh, i4, fun u hu => ?_, m.rad, m.nle, m.dq1, m.dq2, fun h => (hnew _ h).elim m.dq3 (live3 _ (.inl rfl)), m.dk1, fun y hy h => (hnew y h).elim (m.dk2 y hy) (live3 y (.inr (.inl hy))), fun y hy h => (hnew y h).elim (m.dh y hy) (live3 y (.inr (.inr hy))), fun y => Iff.rfl⟩ (s13.trans s4 fun y hy => .inl ((m.fp y).2 (.inr (.inr (.inr hy))))) fun y hy => ?_
      · rw [hcn]; exact s4.keep _ _ e3 m.dq3
      · by_cases e : u = v
        · subst e; exact hvn
        · rw [upf_ne e] at hu; exact m.sub u hu
      · rcases hy with hy | hy | hy | hy
        · exact .inl ((m.fp y).2 (.inl hy))
        · exact .inl ((m.fp y).2 (.inr (.inl hy)))
        · exact .inl ((m.fp y).2 (.inr (.inr (.inl hy))))
        · exact (hnew y hy).imp (fun h => (m.fp y).2 (.inr (.inr (.inr h)))) (s13.mono y)
end
end Go.Mz

/-
  Walks of layer 5: a queue of any kind, more: Lower, Top, Pop.
-/
namespace Go.Mz
section
variable {E : Value → Hp → Prop} {g : Engine E} {H : Hp} {q n : Nat} {kind : Int} {key : Nat → Int} {last : Int} {S : Nat → Bool} {FP : Nat → Prop}

theorem qlower {h x : Int} {K : Int → Hp → Prop} (hq : Qu g H q n kind key last S FP) (bad : lowerC n kind key S last h x ≠ 0 → K (lowerC n kind key S last h x) H)
    (ok : lowerC n kind key S last h x = 0 → ∀ H' FP', Qu g H' q n kind (upf key h.toNat x) last S FP' → Step FP H H' → (∀ y, FP' y → FP y ∨ H y = none) → K 0 H') : heaps_Queue_Lower.call (some ⟨q, 0, none⟩) h x E H K := by
  have hq' := hq
  obtain ⟨kp, hp, kc, hc, eb, FE, m⟩ := hq
  refine heaps_Queue_Lower.of (heaps_Queue_Lower.run_eq ?_)
  unfold heaps_Queue_Lower.run_t
  refine bc (fun h0 => ?_) fun h0 => ?_
  · have : lowerC n kind key S last h x = 30 := if_pos (.inl h0)
    rw [this] at bad; exact bad (by decide)
  simp only [nn_mk, get_at m.cell, List.getElem?_cons_zero, List.getElem?_cons_succ, ldI_mk, ldS_mk, Nat.zero_add]
  refine bc (fun h1 => ?_) fun h1 => ?_
  · have : lowerC n kind key S last h x = 30 := if_pos (.inr h1)
    rw [this] at bad; exact bad (by decide)
  have e0 : lowerC n kind key S last h x = if S h.toNat = false then 2 else if key h.toNat < x then 52 else if kind = 4 ∧ x < last then 80 else 0 := if_neg (by omega)
  obtain ⟨v, hv⟩ : ∃ v, h.toNat = v := ⟨_, rfl⟩
  have hvn : v < n := by omega
  try simp only [nn_mk, get_at m.cell, List.getElem?_cons_zero, List.getElem?_cons_succ, ldI_mk, ldS_mk, Nat.zero_add]
  refine m.hr.rdr.ixB (by omega) (by omega) ?_
  rw [hv] at e0 ok ⊢
  cases hS : S v with
  | false =>
    rw [hS, if_pos rfl] at e0
    refine bcb (fun _ => ?_) fun e => by cases e
    rw [e0] at bad; exact bad (by simp)
  | true =>
    rw [hS, if_neg (by simp)] at e0
    refine bcb (fun e => by cases e) fun _ => ?_
    try simp only [nn_mk, get_at m.cell, List.getElem?_cons_zero, List.getElem?_cons_succ, ldI_mk, ldS_mk, Nat.zero_add]
    refine m.kr.ixI (by omega) (by omega) ?_
    rw [hv]
    refine bc (fun hr => ?_) fun hr => ?_
    · rw [if_pos hr] at e0
      rw [e0] at bad; exact bad (by simp)
    rw [if_neg hr] at e0
    refine qlow hq' ?_
    refine bc (fun hl => ?_) fun hl => ?_
    · rw [if_pos hl] at e0
      rw [e0] at bad; exact bad (by simp)
    rw [if_neg hl] at e0
    simp only [nn_mk, get_at m.cell, List.getElem?_cons_zero, List.getElem?_cons_succ, ldI_mk, ldS_mk, Nat.zero_add]
    refine m.kr.ixI (by omega) (by omega) ?_
    rw [hv]
    refine bc (fun hlt => ?_) fun hge => ?_
    · try simp only [nn_mk, get_at m.cell, List.getElem?_cons_zero, List.getElem?_cons_succ, ldI_mk, ldS_mk, Nat.zero_add]
      refine m.kr.stI (by omega) (by omega) _ fun H1 r1 s1 => ?_
      rw [hv] at r1
      have c1 := s1.keep _ _ m.cell m.dq1
      have hr1 := m.hr.keep s1 fun y hy h => m.dk1 y h hy
      have i1 := g.keep m.eng s1 fun y hy h => m.dk2 y h hy
      simp only [nn_mk, get_at c1, List.getElem?_cons_zero, List.getElem?_cons_succ, ldI_mk, ldS_mk, Nat.zero_add]
      refine ⟨trivial, ?_⟩
      rw [show h = (v : Int) by omega]
      have s1' : Step FP H H1 := s1.weak fun y hy => .inl ((m.fp y).2 (.inr (.inl hy)))
      refine g.lower i1 ⟨⟨kc, by rw [get_at c1]; rfl⟩, r1.rdr⟩ m.dq3 m.dk2 m.nle m.sub hS hlt (fun hr => by have := m.rad.1 hr; omega) fun H4 FE' i4 s4 hnew => ?_
      have live3 : ∀ y, (y = q ∨ fpS kp y ∨ fpS hp y) → H1 y ≠ none := fun y hy => by
        rcases hy with rfl | hy | hy
        · rw [c1]; exact fun e => by cases e
        · exact r1.live hy
        · exact hr1.live hy
      refine ok e0 H4 (fun y => y = q ∨ fpS kp y ∨ fpS hp y ∨ FE' y) ⟨kp, hp, kc, hc, eb, FE', s4.keep _ _ c1 m.dq3, r1.keep s4 m.dk2, hr1.keep s4 m.dh, i4, m.sub, m.rad, m.nle, m.dq1, m.dq2, fun h => (hnew _ h).elim m.dq3 (live3 _ (.inl rfl)), m.dk1, fun y hy h => (hnew y h).elim (m.dk2 y hy) (live3 y (.inr (.inl hy))), fun y hy h => (hnew y h).elim (m.dh y hy) (live3 y (.inr (.inr hy))), fun y => Iff.rfl⟩ (s1'.trans s4 fun y hy => .inl ((m.fp y).2 (.inr (.inr (.inr hy))))) fun y hy => ?_
      rcases hy with hy | hy | hy | hy
      · exact .inl ((m.fp y).2 (.inl hy))
      · exact .inl ((m.fp y).2 (.inr (.inl hy)))
      · exact .inl ((m.fp y).2 (.inr (.inr (.inl hy))))
      · exact (hnew y hy).imp (fun h => (m.fp y).2 (.inr (.inr (.inr h)))) (s1'.mono y)
    · have ek : upf key v x = key := by
        rw [show x = key v by omega]; exact upf_self
      rw [ek] at ok
      exact ok e0 H FP hq' .refl fun y hy => .inl hy

theorem qtop {K : Int → Int → Int → Hp → Prop} (hq : Qu g H q n kind key last S FP) (k0 : (∀ v, S v = false) → K 0 0 4 H)
    (k : ∀ (w : Nat) H', Step (fun _ => False) H H' → S w = true → (∀ u, S u = true → ¬ lk key u w) → K w (key w) 0 H') : heaps_Queue_Top.call (some ⟨q, 0, none⟩) E H K := by
  obtain ⟨kp, hp, kc, hc, eb, FE, m⟩ := hq
  refine heaps_Queue_Top.of (heaps_Queue_Top.run_eq ?_)
  unfold heaps_Queue_Top.run_t
  simp only [nn_mk, get_at m.cell, List.getElem?_cons_zero, List.getElem?_cons_succ, ldI_mk, ldS_mk, Nat.zero_add]
  refine bc (fun h0 => k0 fun v => ?_) fun h0 => ?_
  · cases hS : S v with
    | false => rfl
    | true => have := cnt_pos (m.sub v hS) hS; omega
  · try simp only [nn_mk, get_at m.cell, List.getElem?_cons_zero, List.getElem?_cons_succ, ldI_mk, ldS_mk, Nat.zero_add]
    refine ⟨trivial, ?_⟩
    have hex : ∃ v, S v = true := by
      by_cases h : ∃ v, S v = true
      · exact h
      · have : cnt S n = 0 := cnt_none fun i _ => by
          cases hS : S i with
          | false => rfl
          | true => exact (h ⟨i, hS⟩).elim
        omega
    refine g.top m.eng m.keyM m.nle m.sub hex (K := fun x H_1 => nn (some ⟨q, 0, none⟩) fun b_3 o_3 => ldS (H_1.get b_3 o_3) fun x_3p x_3n x_3c => ix x_3p x_3n x 1 fun b_4 o_4 => ldI .i64 (H_1.get b_4 o_4) fun x_4 => K x x_4 0 H_1) fun w H' s hw hleast => ?_
    have c1 := s.keep _ _ m.cell fun h => h
    simp only [nn_mk, get_at c1, List.getElem?_cons_zero, List.getElem?_cons_succ, ldI_mk, ldS_mk, Nat.zero_add]
    refine (m.kr.keep s fun _ _ h => h).ixI (by omega) (by have := m.sub w hw; omega) ?_
    simp only [Int.toNat_natCast]
    exact k w H' s hw hleast

theorem qpop {K : Int → Int → Int → Hp → Prop} (hq : Qu g H q n kind key last S FP) (k0 : (∀ v, S v = false) → K 0 0 4 H)
    (k : ∀ (w : Nat) H' FP', S w = true → (∀ u, S u = true → ¬ lk key u w) → Qu g H' q n kind key (key w) (upf S w false) FP' → Step FP H H' → (∀ y, FP' y → FP y ∨ H y = none) → K w (key w) 0 H') : heaps_Queue_Pop.call (some ⟨q, 0, none⟩) E H K := by
  refine heaps_Queue_Pop.of (heaps_Queue_Pop.run_eq ?_)
  unfold heaps_Queue_Pop.run_t
  refine qtop hq (fun h0 => ?_) fun w H1 s1 hw hleast => ?_
  · refine bc (fun h => absurd h (by decide)) fun _ => ?_
    refine heaps_Queue_Pop.j1_eq ?_
    unfold heaps_Queue_Pop.j1_t
    exact k0 h0
  · have hq1 := hq.keep s1 fun _ _ h => h
    obtain ⟨kp, hp, kc, hc, eb, FE, m⟩ := hq1
    have hwn := m.sub w hw
    have hnl := m.nle
    refine bc (fun _ => ?_) fun h => (h rfl).elim
    simp only [nn_mk, get_at m.cell, List.getElem?_cons_zero, List.getElem?_cons_succ, ldI_mk, ldS_mk, Nat.zero_add]
    refine ⟨trivial, ?_⟩
    refine g.pop m.eng m.keyM m.dq3 m.dk2 m.nle m.sub hw hleast fun H2 FE' i2 s2 hnew => ?_
    have c2 := s2.keep _ _ m.cell m.dq3
    have k2 := m.kr.keep s2 m.dk2
    have h2 := m.hr.keep s2 m.dh
    simp only [nn_mk, get_at c2, List.getElem?_cons_zero, List.getElem?_cons_succ, ldI_mk, ldS_mk, Nat.zero_add]
    have live1 : ∀ y, (y = q ∨ fpS kp y ∨ fpS hp y) → H1 y ≠ none := fun y hy => by
      rcases hy with rfl | hy | hy
      · rw [m.cell]; exact fun e => by cases e
      · exact m.kr.live hy
      · exact m.hr.live hy
    have d1 : ¬ FE' q := fun h => (hnew _ h).elim m.dq3 (live1 _ (.inl rfl))
    have d2 : ∀ y, fpS kp y → ¬ FE' y := fun y hy h => (hnew y h).elim (m.dk2 y hy) (live1 y (.inr (.inl hy)))
    have d3 : ∀ y, fpS hp y → ¬ FE' y := fun y hy h => (hnew y h).elim (m.dh y hy) (live1 y (.inr (.inr hy)))
    refine h2.stB (by omega) (by omega) _ fun H3 r3 s3 => ?_
    simp only [Int.toNat_natCast] at r3
    have c3 := s3.keep _ _ c2 m.dq2
    have k3 := k2.keep s3 fun y hy h => m.dk1 y hy h
    have i3 := g.keep i2 s3 fun y hy h => d3 y h hy
    simp only [nn_mk, get_at c3, List.getElem?_cons_zero, List.getElem?_cons_succ, ldI_mk, ldS_mk, Nat.zero_add]
    have hcn := cnt_less (p := S) (q := upf S w false) (n := n) hwn hw upf_same fun i _ hne => (upf_ne hne).symm
    have hcl := cnt_le S n
    rw [i64w (by omega) (by omega)]
    refine stp c3 (by simp) rfl fun H4 e4 s4 => ?_
    replace e4 : H4 q = some ⟨[.slice kp n kc, .slice hp n hc, .iface g.t (.pointer (some ⟨eb, 0, none⟩)), .int .i64 (cnt S n - 1), .int .i64 kind, .int .i64 last], 86⟩ := e4
    have k4 := k3.keep s4 fun y hy h => m.dq1 (h ▸ hy)
    have h4 := r3.keep s4 fun y hy h => m.dq2 (h ▸ hy)
    have i4 := g.keep i3 s4 fun y hy h => d1 (h ▸ hy)
    refine stp e4 (by simp) rfl fun H5 e5 s5 => ?_
    replace e5 : H5 q = some ⟨[.slice kp n kc, .slice hp n hc, .iface g.t (.pointer (some ⟨eb, 0, none⟩)), .int .i64 (cnt S n - 1), .int .i64 kind, .int .i64 (key w)], 86⟩ := e5
    have k5 := k4.keep s5 fun y hy h => m.dq1 (h ▸ hy)
    have h5 := h4.keep s5 fun y hy h => m.dq2 (h ▸ hy)
    have i5 := g.keep i4 s5 fun y hy h => d1 (h ▸ hy)
    refine heaps_Queue_Pop.j1_eq ?_
    unfold heaps_Queue_Pop.j1_t
    have s15 : Step FP H H5 := (((((s1.weak fun _ h => h.elim).trans s2 fun y hy => .inl ((m.fp y).2 (.inr (.inr (.inr hy))))).trans s3 fun y hy => .inl ((m.fp y).2 (.inr (.inr (.inl hy))))).trans s4 fun y hy => .inl ((m.fp y).2 (.inl hy))).trans s5 fun y hy => .inl ((m.fp y).2 (.inl hy)))
    refine k w H5 (fun y => y = q ∨ fpS kp y ∨ fpS hp y ∨ FE' y) hw hleast ⟨kp, hp, kc, hc, eb, FE', ?_, k5, h5, i5, fun u hu => ?_, m.rad, m.nle, m.dq1, m.dq2, d1, m.dk1, d2, d3, fun y => Iff.rfl⟩ s15 fun y hy => ?_
    · rw [e5, show ((cnt S n : Nat) : Int) - 1 = ((cnt (upf S w false) n : Nat) : Int) by omega]
    · by_cases e : u = w
      · subst e; exact hwn
      · rw [upf_ne e] at hu; exact m.sub u hu
    · rcases hy with hy | hy | hy | hy
      · exact .inl ((m.fp y).2 (.inl hy))
      · exact .inl ((m.fp y).2 (.inr (.inl hy)))
      · exact .inl ((m.fp y).2 (.inr (.inr (.inl hy))))
      · exact (hnew y hy).imp (fun h => (m.fp y).2 (.inr (.inr (.inr h)))) (s1.mono y)
end
end Go.Mz
