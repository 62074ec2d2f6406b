/-
  Joined: HpP, HpF, HpB, HpC, HpE, HpQ, HpR.
-/
import Derived.Test.YthcehonpfnmpiaaGreatMzZ
import Derived.Test.YthcehonpfnmpiaaGreatPkM
import Derived.Test.YthcehonpfnmpiaaGreatGBin
import Derived.Test.YthcehonpfnmpiaaGreatGHep
set_option linter.unusedSimpArgs false
set_option linter.unusedVariables false
/-
  Plain law: which handle comes out ahead; a heap in an array. No program in sight.
-/
namespace Go.Mz

/-- comes out ahead -/
def lk (key : Nat → Int) (a b : Nat) : Prop := key a < key b ∨ (key a = key b ∧ a < b)

instance (key : Nat → Int) (a b : Nat) : Decidable (lk key a b) := by unfold lk; infer_instance

section
variable {key : Nat → Int}
theorem lk.trans {a b c : Nat} (h : lk key a b) (k : lk key b c) : lk key a c := by unfold lk at *; omega
theorem lk.asymm {a b : Nat} (h : lk key a b) : ¬ lk key b a := by unfold lk at *; omega
theorem nlk_self {a : Nat} : ¬ lk key a a := by unfold lk; omega
theorem nlk_trans {a b c : Nat} (h : ¬ lk key a b) (k : ¬ lk key b c) : ¬ lk key a c := by unfold lk at *; omega
theorem lk_total {a b : Nat} (h : a ≠ b) : lk key a b ∨ lk key b a := by unfold lk; omega

def par (i : Nat) : Nat := (i - 1) / 2
theorem par_lt {i : Nat} (h : 0 < i) : par i < i := by unfold par; omega

/-- an array, and where each of its members stands -/
structure Arr (g p : Nat → Nat) (m : Nat) (S : Nat → Prop) : Prop where
  mem : ∀ i, i < m → S (g i) ∧ p (g i) = i
  pl : ∀ v, S v → p v < m ∧ g (p v) = v

def Hpo (key : Nat → Int) (g : Nat → Nat) (m : Nat) : Prop := ∀ j, 0 < j → j < m → ¬ lk key (g j) (g (par j))

/-- all but one in order, which may go up -/
structure Up (key : Nat → Int) (g : Nat → Nat) (m i : Nat) : Prop where
  ord : ∀ j, 0 < j → j < m → j ≠ i → ¬ lk key (g j) (g (par j))
  chd : ∀ c, 0 < c → c < m → par c = i → 0 < i → ¬ lk key (g c) (g (par i))

/-- all but one in order, which may go down -/
structure Down (key : Nat → Int) (g : Nat → Nat) (m i : Nat) : Prop where
  ord : ∀ j, 0 < j → j < m → par j ≠ i → ¬ lk key (g j) (g (par j))
  chd : ∀ c, 0 < c → c < m → par c = i → 0 < i → ¬ lk key (g c) (g (par i))

/-- two change places -/
def swp (g : Nat → Nat) (i j : Nat) : Nat → Nat := upf (upf g i (g j)) j (g i)

theorem swp_at {g : Nat → Nat} {i j k : Nat} (hij : i ≠ j) : swp g i j k = if k = j then g i else if k = i then g j else g k := by
  unfold swp
  by_cases h : k = j
  · subst h; rw [upf_same, if_pos rfl]
  · rw [upf_ne h, if_neg h]
    by_cases h2 : k = i
    · subst h2; rw [upf_same, if_pos rfl]
    · rw [upf_ne h2, if_neg h2]

theorem Arr.swp {g p : Nat → Nat} {m : Nat} {S : Nat → Prop} (h : Arr g p m S) {i j : Nat} (hi : i < m) (hj : j < m) (hij : i ≠ j) : Arr (swp g i j) (upf (upf p (g j) i) (g i) j) m S := by
  have hgi := h.mem i hi
  have hgj := h.mem j hj
  have hne : g i ≠ g j := fun e => hij (by rw [← hgi.2, e, hgj.2])
  refine ⟨fun k hk => ?_, fun v hv => ?_⟩
  · rw [swp_at hij]
    by_cases h1 : k = j
    · rw [if_pos h1, upf_same]; exact ⟨hgi.1, h1.symm⟩
    · rw [if_neg h1]
      by_cases h2 : k = i
      · rw [if_pos h2, upf_ne (fun e => hne e.symm), upf_same]; exact ⟨hgj.1, h2.symm⟩
      · have hgk := h.mem k hk
        rw [if_neg h2, upf_ne (fun e => h2 (by rw [← hgk.2, e, hgi.2])), upf_ne (fun e => h1 (by rw [← hgk.2, e, hgj.2]))]
        exact hgk
  · obtain ⟨h1, h2⟩ := h.pl v hv
    by_cases e1 : v = g i
    · subst e1; rw [upf_same, swp_at hij, if_pos rfl]; exact ⟨hj, rfl⟩
    · rw [upf_ne e1]
      by_cases e2 : v = g j
      · subst e2; rw [upf_same, swp_at hij, if_neg hij, if_pos rfl]; exact ⟨hi, rfl⟩
      · rw [upf_ne e2, swp_at hij, if_neg (fun e => e2 (by rw [← h2, e])), if_neg (fun e => e1 (by rw [← h2, e]))]
        exact ⟨h1, h2⟩

theorem Up.step {g : Nat → Nat} {m i : Nat} (h : Up key g m i) (hi : 0 < i) (him : i < m) (hl : lk key (g i) (g (par i))) : Up key (Mz.swp g i (par i)) m (par i) := by
  have hp := par_lt hi
  have hne : i ≠ par i := by omega
  refine ⟨fun j hj hjm hjp => ?_, fun c hc hcm hcp hp0 => ?_⟩
  · have hpj := par_lt hj
    rw [swp_at hne, swp_at hne, if_neg hjp]
    by_cases e1 : j = i
    · subst e1
      rw [if_pos rfl, if_pos rfl]
      exact hl.asymm
    · rw [if_neg e1]
      by_cases e2 : par j = par i
      · rw [if_pos e2]
        have := h.ord j hj hjm e1
        rw [e2] at this
        exact fun hh => this (hh.trans hl)
      · rw [if_neg e2]
        by_cases e3 : par j = i
        · rw [if_pos e3]; exact h.chd j hj hjm e3 hi
        · rw [if_neg e3]; exact h.ord j hj hjm e1
  · have hpp := par_lt hp0
    have hpc := par_lt hc
    rw [swp_at hne, swp_at hne, if_neg (show ¬ c = par i by omega), if_neg (show ¬ par (par i) = par i by omega), if_neg (show ¬ par (par i) = i by omega)]
    by_cases e1 : c = i
    · subst e1
      rw [if_pos rfl]
      exact h.ord (par c) hp0 (by omega) (by omega)
    · rw [if_neg e1]
      have h1 := h.ord c hc hcm e1
      rw [hcp] at h1
      exact nlk_trans h1 (h.ord (par i) hp0 (by omega) (by omega))

theorem Up.fin {g : Nat → Nat} {m i : Nat} (h : Up key g m i) (hi : 0 < i → i < m → ¬ lk key (g i) (g (par i))) : Hpo key g m := fun j hj hjm => by
  by_cases e : j = i
  · subst e; exact hi hj hjm
  · exact h.ord j hj hjm e

theorem Down.step {g : Nat → Nat} {m i c : Nat} (h : Down key g m i) (hc : 0 < c) (hcm : c < m) (hpc : par c = i) (hl : lk key (g c) (g i)) (hoth : ∀ d, 0 < d → d < m → par d = i → ¬ lk key (g d) (g c)) : Down key (Mz.swp g c i) m c := by
  have hp := par_lt hc
  have hne : c ≠ i := by omega
  refine ⟨fun j hj hjm hjp => ?_, fun d hd hdm hdp hc0 => ?_⟩
  · have hpj := par_lt hj
    rw [swp_at hne, swp_at hne]
    by_cases e1 : j = i
    · subst e1
      rw [if_pos rfl, if_neg (show ¬ par j = j by omega), if_neg hjp]
      exact h.chd c hc hcm hpc hj
    · rw [if_neg e1]
      by_cases e2 : j = c
      · subst e2
        rw [if_pos rfl, if_pos hpc]
        exact hl.asymm
      · rw [if_neg e2]
        by_cases e3 : par j = i
        · rw [if_pos e3]; exact hoth j hj hjm e3
        · rw [if_neg e3, if_neg hjp]; exact h.ord j hj hjm e3
  · have hpd := par_lt hd
    rw [swp_at hne, swp_at hne, if_neg (show ¬ d = i by omega), if_neg (show ¬ d = c by omega), hpc, if_pos rfl]
    have := h.ord d hd hdm (by omega)
    rwa [hdp] at this

theorem Down.fin {g : Nat → Nat} {m i : Nat} (h : Down key g m i) (hi : ∀ d, 0 < d → d < m → par d = i → ¬ lk key (g d) (g i)) : Hpo key g m := fun j hj hjm => by
  by_cases e : par j = i
  · rw [e]; exact hi j hj hjm e
  · exact h.ord j hj hjm e

theorem Hpo.least {g : Nat → Nat} {m : Nat} (h : Hpo key g m) : ∀ i, i < m → ¬ lk key (g i) (g 0) := by
  intro i
  induction i using Nat.strongRecOn with
  | ind i ih =>
    intro hi
    by_cases h0 : i = 0
    · subst h0; exact nlk_self
    · have hp := par_lt (i := i) (by omega)
      exact nlk_trans (h i (by omega) hi) (ih (par i) hp (by omega))
end
end Go.Mz

/-
  One cell of an element of a row is written. It proves nothing of the program by itself.
-/
namespace Go.Mz

theorem ix_mk {b o n sz : Nat} {i : Int} {G : Nat → Nat → Prop} : ix (some ⟨b, o, none⟩) n i sz G = ((0 ≤ i ∧ i < (n : Int)) ∧ G b (o + i.toNat * sz)) := rfl

theorem Row.ptr {α : Type} [El α] {H : Hp} {p : Option Addr} {n c : Nat} {f : Nat → α} (h : Row H p n c f) (hn : 0 < n) : ∃ b o, p = some ⟨b, o, none⟩ := by
  rcases h.cells with ⟨rfl, hc⟩ | ⟨b, o, x, rfl, _⟩
  · have := h.le; omega
  · exact ⟨b, o, rfl⟩

theorem Row.getF {α : Type} [El α] {H : Hp} {b o n c : Nat} {f : Nat → α} (h : Row H (some ⟨b, o, none⟩) n c f) {i j : Nat} (hi : i < n) (hj : j < El.w α) : H.get b (o + i * El.w α + j) = (El.enc (f i))[j]? := by
  obtain ⟨b', o', e, hg⟩ := h.rdr i hi
  cases e
  exact hg j hj

theorem Row.stF {α : Type} [El α] {H : Hp} {b o n c : Nat} {f f' : Nat → α} (h : Row H (some ⟨b, o, none⟩) n c f) {i j : Nat} (hi : i < n) (hj : j < El.w α) {v : Value} (h1 : ∀ k, k < n → k ≠ i → f' k = f k)
    (h2 : ∀ l, l < El.w α → (El.enc (f' i))[l]? = if l = j then some v else (El.enc (f i))[l]?) {K : Hp → Prop} (k : ∀ H', Row H' (some ⟨b, o, none⟩) n c f' → Step (· = b) H H' → K H') : stC H b (o + i * El.w α + j) [v] K := by
  rcases h.cells with ⟨e, _⟩ | ⟨b', o', x, e, hx, ⟨hl, hz⟩, ha⟩
  · cases e
  · cases e
    have hiw : (i + 1) * El.w α ≤ n * El.w α := Nat.mul_le_mul_right _ hi
    have hnc : n * El.w α ≤ c * El.w α := Nat.mul_le_mul_right _ h.le
    rw [Nat.add_mul] at hiw
    refine ⟨x, hx, ⟨by simp; omega, hz⟩, k _ ⟨h.le, h.cap, .inr ⟨b, o, _, rfl, upd_same, ⟨by rw [putL_length]; exact hl, hz⟩, ?_⟩⟩ (Step.wr hx rfl)⟩
    intro k hk l hl'
    have hkw : (k + 1) * El.w α ≤ n * El.w α := Nat.mul_le_mul_right _ hk
    rw [Nat.add_mul] at hkw
    rw [putL_get _ _ _ _ (by simp; omega)]
    by_cases ek : k = i
    · subst ek
      rw [h2 l hl']
      by_cases el : l = j
      · subst el
        rw [if_pos rfl, if_pos (by simp), Nat.sub_self]; rfl
      · rw [if_neg el, if_neg (by simp; omega)]
        exact ha k hk l hl'
    · rw [h1 k hk ek]
      have : ¬ (o + i * El.w α + j ≤ o + k * El.w α + l ∧ o + k * El.w α + l < o + i * El.w α + j + [v].length) := by
        simp
        intro h3
        rcases Nat.lt_trichotomy k i with q | q | q
        · have : (k + 1) * El.w α ≤ i * El.w α := Nat.mul_le_mul_right _ q
          rw [Nat.add_mul] at this
          omega
        · exact absurd q ek
        · have : (i + 1) * El.w α ≤ k * El.w α := Nat.mul_le_mul_right _ q
          rw [Nat.add_mul] at this
          omega
      rw [if_neg this]
      exact ha k hk l hl'
end Go.Mz

/-
  Walks of layer 5: ahead; the binary heap.
-/
namespace Go.Mz

theorem upf_self {α : Type} {f : Nat → α} {i : Nat} : upf f i (f i) = f := by
  funext k
  by_cases h : k = i
  · subst h; rw [upf_same]
  · rw [upf_ne h]

theorem cast_upf {f : Nat → Nat} {i x : Nat} : (fun k => ((upf f i x k : Nat) : Int)) = upf (fun k => (f k : Int)) i (x : Int) := by
  funext k
  by_cases h : k = i
  · subst h; rw [upf_same, upf_same]
  · rw [upf_ne h, upf_ne h]

theorem stepOr {F G : Nat → Prop} {H H' H'' : Hp} (h : Step F H H') (k : Step G H' H'') : Step (fun y => F y ∨ G y) H H'' := by
  have h' : Step (fun y => F y ∨ G y) H H' := h.weak fun _ h => .inl (.inl h)
  exact h'.trans k fun _ h => .inl (.inr h)

section
variable {E : Value → Hp → Prop}

/-- a record of keys, as it lies in memory -/
structure KeyM (H : Hp) (q n : Nat) (kp : Option Addr) (key : Nat → Int) : Prop where
  cell : ∃ c, H.get q 0 = some (.slice kp n c)
  row : Rdr H kp n key

theorem KeyM.keep {H H' : Hp} {q n : Nat} {kp : Option Addr} {key : Nat → Int} {F : Nat → Prop} (h : KeyM H q n kp key) (s : Step F H H') (h1 : ¬ F q) (h2 : ∀ y, fpS kp y → ¬ F y) : KeyM H' q n kp key := by
  obtain ⟨c, hc⟩ := h.cell
  exact ⟨⟨c, s.get hc h1⟩, h.row.keep s fun y hy _ => h2 y hy⟩

theorem hahead {q n a b : Nat} {kp : Option Addr} {key : Nat → Int} {H : Hp} {K : Bool → Hp → Prop} (hk : KeyM H q n kp key) (ha : a < n) (hb : b < n) (k : K (decide (lk key a b)) H) : heaps_keyed_ahead.call (some ⟨q, 0, none⟩) a b E H K := by
  obtain ⟨c, hc⟩ := hk.cell
  refine heaps_keyed_ahead.of (heaps_keyed_ahead.run_eq ?_)
  unfold heaps_keyed_ahead.run_t
  simp only [nn_mk, hc, ldS_mk]
  refine hk.row.ixI (by omega) (by omega) ?_
  refine hk.row.ixI (by omega) (by omega) ?_
  simp only [Int.toNat_natCast]
  refine bc (fun h => ?_) fun h => ?_
  · rwa [decide_eq_true (show lk key a b from .inl h)] at k
  · try simp only [hc, ldS_mk]
    refine hk.row.ixI (by omega) (by omega) ?_
    try simp only [hc, ldS_mk]
    refine hk.row.ixI (by omega) (by omega) ?_
    simp only [Int.toNat_natCast]
    refine bc (fun h' => ?_) fun h' => ?_
    · have : decide (lk key a b) = decide ((a : Int) < (b : Int)) := decide_eq_decide.2 (by unfold lk; omega)
      rwa [this] at k
    · rwa [decide_eq_false (show ¬ lk key a b by unfold lk; omega)] at k

/-- a binary heap, as it lies in memory -/
structure BinM (H : Hp) (eb q n m : Nat) (hp : Option Addr) (hc : Nat) (pp : Option Addr) (pc : Nat) (f pl : Nat → Nat) : Prop where
  cell : H eb = some ⟨[.pointer (some ⟨q, 0, none⟩), .slice hp m hc, .slice pp n pc], 102⟩
  heap : Row H hp m hc (fun i => (f i : Int))
  place : Row H pp n pc (fun v => (pl v : Int))
  d1 : ¬ fpS hp eb
  d2 : ¬ fpS pp eb
  d3 : ∀ y, fpS hp y → ¬ fpS pp y

theorem hput {eb q n m i x : Nat} {hp pp : Option Addr} {hc pc : Nat} {f pl : Nat → Nat} {H : Hp} {K : Hp → Prop} (hM : BinM H eb q n m hp hc pp pc f pl) (hi : i < m) (hx : x < n)
    (k : ∀ H', BinM H' eb q n m hp hc pp pc (upf f i x) (upf pl x i) → Step (fun y => fpS hp y ∨ fpS pp y) H H' → K H') : heaps_binary_put.call (some ⟨eb, 0, none⟩) i x E H K := by
  refine heaps_binary_put.of (heaps_binary_put.run_eq ?_)
  unfold heaps_binary_put.run_t
  simp only [nn_mk, get_at hM.cell, List.getElem?_cons_zero, List.getElem?_cons_succ, ldS_mk, Nat.zero_add]
  refine hM.heap.stI (by omega) (by omega) _ fun H1 r1 s1 => ?_
  have p1 := hM.place.keep s1 fun y hy h => hM.d3 y h hy
  refine p1.stI (by omega) (by omega) _ fun H2 r2 s2 => ?_
  simp only [Int.toNat_natCast] at r1 r2
  refine k _ ⟨s2.keep _ _ (s1.keep _ _ hM.cell hM.d1) hM.d2, ?_, ?_, hM.d1, hM.d2, hM.d3⟩ (stepOr s1 s2)
  · rw [cast_upf]; exact r1.keep s2 fun y hy h => hM.d3 y hy h
  · rw [cast_upf]; exact r2

end
end Go.Mz

/-
  Walks of layer 5: the binary heap, more: push, top, pop.
-/
namespace Go.Mz

theorem Arr.small {g p : Nat → Nat} {m n : Nat} {S : Nat → Prop} (h : Arr g p m S) (hS : ∀ v, S v → v < n) : m ≤ n := by
  have inj : ∀ a b, a < m → b < m → g a = g b → a = b := fun a b ha hb e => by rw [← (h.mem a ha).2, e, (h.mem b hb).2]
  classical
  have : ∀ j, j ≤ m → j ≤ cnt (fun w => decide (∃ a, a < j ∧ g a = w)) n := by
    intro j
    induction j with
    | zero => intro _; omega
    | succ j ih =>
      intro hj
      have hb := hS _ (h.mem j (by omega)).1
      have := cnt_less (p := fun w => decide (∃ a, a < j + 1 ∧ g a = w)) (q := fun w => decide (∃ a, a < j ∧ g a = w)) (n := n) (b := g j) hb (decide_eq_true ⟨j, by omega, rfl⟩) (decide_eq_false fun ⟨a, ha, e⟩ => by have := inj a j (by omega) (by omega) e; omega) fun w _ hne => decide_eq_decide.2 ⟨fun ⟨a, ha, e⟩ => by
          by_cases haj : a = j
          · subst haj; exact (hne e.symm).elim
          · exact ⟨a, by omega, e⟩, fun ⟨a, ha, e⟩ => ⟨a, by omega, e⟩⟩
      have := ih (by omega)
      omega
  have h1 := this m (Nat.le_refl _)
  have h2 := cnt_le (fun w => decide (∃ a, a < m ∧ g a = w)) n
  omega

section
variable {E : Value → Hp → Prop}

end
end Go.Mz

/-
  Layer 5: what a kind of heap must do, whatever the kind; the binary heap does it.
-/
namespace Go.Mz

/-- a kind of heap: what it keeps, and what its methods do -/
structure Engine (E : Value → Hp → Prop) where
  t : TypeId
  rad : Prop
  Inv : Hp → Nat → Nat → Nat → (Nat → Int) → Int → (Nat → Bool) → (Nat → Prop) → Prop
  keep : ∀ {H H' : Hp} {eb q n : Nat} {key : Nat → Int} {last : Int} {S : Nat → Bool} {FP F : Nat → Prop}, Inv H eb q n key last S FP → Step F H H' → (∀ y, FP y → ¬ F y) → Inv H' eb q n key last S FP
  live : ∀ {H : Hp} {eb q n : Nat} {key : Nat → Int} {last : Int} {S : Nat → Bool} {FP : Nat → Prop}, Inv H eb q n key last S FP → ∀ y, FP y → H y ≠ none
  cg : ∀ {H : Hp} {eb q n : Nat} {key key' : Nat → Int} {last : Int} {S : Nat → Bool} {FP : Nat → Prop}, Inv H eb q n key last S FP → (∀ v, S v = true → key v = key' v) → Inv H eb q n key' last S FP
  push : ∀ {H : Hp} {eb q n v : Nat} {key : Nat → Int} {last : Int} {S : Nat → Bool} {FP : Nat → Prop} {kp : Option Addr} {K : Hp → Prop}, Inv H eb q n key last S FP → KeyM H q n kp key → ¬ FP q → (∀ y, fpS kp y → ¬ FP y) → n ≤ 1024 → (∀ v, S v = true → v < n) → v < n → S v = false → (rad → last ≤ key v ∧ key v ≤ 9223372036854775807) →
    (∀ H' FP', Inv H' eb q n key last (upf S v true) FP' → Step FP H H' → (∀ y, FP' y → FP y ∨ H y = none) → K H') → icall P0 T0 (.iface t (.pointer (some ⟨eb, 0, none⟩))) "compass/heaps.push" [.int .i64 (v : Int)] (.tup []) E H fun _ H' => K H'
  lower : ∀ {H : Hp} {eb q n v : Nat} {key : Nat → Int} {x last : Int} {S : Nat → Bool} {FP : Nat → Prop} {kp : Option Addr} {K : Hp → Prop}, Inv H eb q n key last S FP → KeyM H q n kp (upf key v x) → ¬ FP q → (∀ y, fpS kp y → ¬ FP y) → n ≤ 1024 → (∀ v, S v = true → v < n) → S v = true → x < key v → (rad → last ≤ x) →
    (∀ H' FP', Inv H' eb q n (upf key v x) last S FP' → Step FP H H' → (∀ y, FP' y → FP y ∨ H y = none) → K H') → icall P0 T0 (.iface t (.pointer (some ⟨eb, 0, none⟩))) "compass/heaps.lower" [.int .i64 (v : Int)] (.tup []) E H fun _ H' => K H'
  top : ∀ {H : Hp} {eb q n : Nat} {key : Nat → Int} {last : Int} {S : Nat → Bool} {FP : Nat → Prop} {kp : Option Addr} {K : Int → Hp → Prop}, Inv H eb q n key last S FP → KeyM H q n kp key → n ≤ 1024 → (∀ v, S v = true → v < n) → (∃ v, S v = true) →
    (∀ (w : Nat) H', Step (fun _ => False) H H' → S w = true → (∀ u, S u = true → ¬ lk key u w) → K w H') → icall P0 T0 (.iface t (.pointer (some ⟨eb, 0, none⟩))) "compass/heaps.top" [] (.one false [.i .i64]) E H fun u H' => K (asI u) H'
  pop : ∀ {H : Hp} {eb q n w : Nat} {key : Nat → Int} {last : Int} {S : Nat → Bool} {FP : Nat → Prop} {kp : Option Addr} {K : Hp → Prop}, Inv H eb q n key last S FP → KeyM H q n kp key → ¬ FP q → (∀ y, fpS kp y → ¬ FP y) → n ≤ 1024 → (∀ v, S v = true → v < n) → S w = true → (∀ u, S u = true → ¬ lk key u w) →
    (∀ H' FP', Inv H' eb q n key (key w) (upf S w false) FP' → Step FP H H' → (∀ y, FP' y → FP y ∨ H y = none) → K H') → icall P0 T0 (.iface t (.pointer (some ⟨eb, 0, none⟩))) "compass/heaps.pop" [] (.tup []) E H fun _ H' => K H'

section
variable {E : Value → Hp → Prop}

theorem least_uniq {key : Nat → Int} {S : Nat → Bool} {u w : Nat} (hu : S u = true) (hw : S w = true) (h1 : ∀ v, S v = true → ¬ lk key v u) (h2 : ∀ v, S v = true → ¬ lk key v w) : u = w := by
  by_cases h : u = w
  · exact h
  · rcases lk_total (key := key) h with h' | h'
    · exact (h2 u hu h').elim
    · exact (h1 w hw h').elim

end
end Go.Mz

/-
  Walks of layer 5: a queue of any kind.
-/
namespace Go.Mz
section
variable {E : Value → Hp → Prop}

structure QuM (g : Engine E) (H : Hp) (q n : Nat) (kind : Int) (key : Nat → Int) (last : Int) (S : Nat → Bool) (FP : Nat → Prop) (kp hp : Option Addr) (kc hc eb : Nat) (FE : Nat → Prop) : Prop where
  cell : H q = some ⟨[.slice kp n kc, .slice hp n hc, .iface g.t (.pointer (some ⟨eb, 0, none⟩)), .int .i64 (cnt S n), .int .i64 kind, .int .i64 last], 98⟩
  kr : Row H kp n kc key
  hr : Row H hp n hc S
  eng : g.Inv H eb q n key last S FE
  sub : ∀ v, S v = true → v < n
  rad : g.rad ↔ kind = 4
  nle : n ≤ 1024
  dq1 : ¬ fpS kp q
  dq2 : ¬ fpS hp q
  dq3 : ¬ FE q
  dk1 : ∀ y, fpS kp y → ¬ fpS hp y
  dk2 : ∀ y, fpS kp y → ¬ FE y
  dh : ∀ y, fpS hp y → ¬ FE y
  fp : ∀ y, FP y ↔ y = q ∨ fpS kp y ∨ fpS hp y ∨ FE y

/-- a queue: its blocks, its handles, their keys -/
def Qu (g : Engine E) (H : Hp) (q n : Nat) (kind : Int) (key : Nat → Int) (last : Int) (S : Nat → Bool) (FP : Nat → Prop) : Prop := ∃ kp hp kc hc eb FE, QuM g H q n kind key last S FP kp hp kc hc eb FE

variable {g : Engine E} {H : Hp} {q n : Nat} {kind : Int} {key : Nat → Int} {last : Int} {S : Nat → Bool} {FP : Nat → Prop}

theorem Qu.keep {H' : Hp} {F : Nat → Prop} (h : Qu g H q n kind key last S FP) (s : Step F H H') (hF : ∀ y, FP y → ¬ F y) : Qu g H' q n kind key last S FP := by
  obtain ⟨kp, hp, kc, hc, eb, FE, m⟩ := h
  exact ⟨kp, hp, kc, hc, eb, FE, s.keep _ _ m.cell (hF _ ((m.fp _).2 (.inl rfl))), m.kr.keep s fun y hy => hF y ((m.fp y).2 (.inr (.inl hy))), m.hr.keep s fun y hy => hF y ((m.fp y).2 (.inr (.inr (.inl hy)))),
    g.keep m.eng s fun y hy => hF y ((m.fp y).2 (.inr (.inr (.inr hy)))), m.sub, m.rad, m.nle, m.dq1, m.dq2, m.dq3, m.dk1, m.dk2, m.dh, m.fp⟩

theorem Qu.live (h : Qu g H q n kind key last S FP) : ∀ y, FP y → H y ≠ none := by
  obtain ⟨kp, hp, kc, hc, eb, FE, m⟩ := h
  intro y hy
  rcases (m.fp y).1 hy with rfl | h' | h' | h'
  · rw [m.cell]; exact fun e => by cases e
  · exact m.kr.live h'
  · exact m.hr.live h'
  · exact g.live m.eng y h'

theorem Qu.sub (h : Qu g H q n kind key last S FP) : ∀ v, S v = true → v < n := by
  obtain ⟨kp, hp, kc, hc, eb, FE, m⟩ := h; exact m.sub
theorem Qu.nle (h : Qu g H q n kind key last S FP) : n ≤ 1024 := by
  obtain ⟨kp, hp, kc, hc, eb, FE, m⟩ := h; exact m.nle

theorem QuM.keyM {kp hp : Option Addr} {kc hc eb : Nat} {FE : Nat → Prop} (m : QuM g H q n kind key last S FP kp hp kc hc eb FE) : KeyM H q n kp key := ⟨⟨kc, by rw [get_at m.cell]; rfl⟩, m.kr.rdr⟩

theorem qlen {K : Int → Hp → Prop} (h : Qu g H q n kind key last S FP) (k : K (cnt S n : Int) H) : heaps_Queue_Len.call (some ⟨q, 0, none⟩) E H K := by
  obtain ⟨kp, hp, kc, hc, eb, FE, m⟩ := h
  refine heaps_Queue_Len.of (heaps_Queue_Len.run_eq ?_)
  unfold heaps_Queue_Len.run_t
  simp only [nn_mk, get_at m.cell, List.getElem?_cons_zero, List.getElem?_cons_succ, ldI_mk, Nat.zero_add]
  exact k

/-- what Key, Push and Lower answer -/
def keyC (n : Nat) (S : Nat → Bool) (h : Int) : Int := if h < 0 ∨ (n : Int) ≤ h then 30 else if S h.toNat then 0 else 2
def pushC (n : Nat) (kind : Int) (S : Nat → Bool) (last h x : Int) : Int := if h < 0 ∨ (n : Int) ≤ h then 30 else if S h.toNat then 51 else if kind = 4 ∧ x < last then 80 else 0
def lowerC (n : Nat) (kind : Int) (key : Nat → Int) (S : Nat → Bool) (last h x : Int) : Int := if h < 0 ∨ (n : Int) ≤ h then 30 else if S h.toNat = false then 2 else if key h.toNat < x then 52 else if kind = 4 ∧ x < last then 80 else 0

theorem qkey {h : Int} {K : Int → Int → Hp → Prop} (hq : Qu g H q n kind key last S FP) (k : K (if keyC n S h = 0 then key h.toNat else 0) (keyC n S h) H) : heaps_Queue_Key.call (some ⟨q, 0, none⟩) h E H K := by
  obtain ⟨kp, hp, kc, hc, eb, FE, m⟩ := hq
  refine heaps_Queue_Key.of (heaps_Queue_Key.run_eq ?_)
  unfold heaps_Queue_Key.run_t
  refine bc (fun h0 => ?_) fun h0 => ?_
  · have : keyC n S h = 30 := if_pos (.inl h0)
    rw [this, if_neg (by decide)] at k; exact k
  · simp only [nn_mk, get_at m.cell, List.getElem?_cons_zero, List.getElem?_cons_succ, ldI_mk, ldS_mk, Nat.zero_add]
    refine bc (fun h1 => ?_) fun h1 => ?_
    · have : keyC n S h = 30 := if_pos (.inr h1)
      rw [this, if_neg (by decide)] at k; exact k
    · have e0 : keyC n S h = if S h.toNat then 0 else 2 := if_neg (by omega)
      try simp only [nn_mk, get_at m.cell, List.getElem?_cons_zero, List.getElem?_cons_succ, ldI_mk, ldS_mk, Nat.zero_add]
      refine m.hr.rdr.ixB (by omega) (by omega) ?_
      cases hS : S h.toNat with
      | false =>
        rw [hS] at e0
        refine bcb (fun _ => ?_) fun e => by cases e
        rw [e0] at k
        exact k
      | true =>
        rw [hS] at e0
        refine bcb (fun e => by cases e) fun _ => ?_
        try simp only [nn_mk, get_at m.cell, List.getElem?_cons_zero, List.getElem?_cons_succ, ldI_mk, ldS_mk, Nat.zero_add]
        refine m.kr.ixI (by omega) (by omega) ?_
        rw [e0] at k
        exact k

theorem qlow {x : Int} {K : Bool → Hp → Prop} (hq : Qu g H q n kind key last S FP) (k : K (decide (kind = 4 ∧ x < last)) H) : heaps_Queue_low.call (some ⟨q, 0, none⟩) x E H K := by
  obtain ⟨kp, hp, kc, hc, eb, FE, m⟩ := hq
  refine heaps_Queue_low.of (heaps_Queue_low.run_eq ?_)
  unfold heaps_Queue_low.run_t
  simp only [nn_mk, get_at m.cell, List.getElem?_cons_zero, List.getElem?_cons_succ, ldI_mk, Nat.zero_add]
  refine bc (fun h => ?_) fun h => ?_
  · try simp only [nn_mk, get_at m.cell, List.getElem?_cons_zero, List.getElem?_cons_succ, ldI_mk, Nat.zero_add]
    rwa [show decide (kind = 4 ∧ x < last) = decide (x < last) from decide_eq_decide.2 ⟨fun h => h.2, fun h' => ⟨h, h'⟩⟩] at k
  · rwa [show decide (kind = 4 ∧ x < last) = false from decide_eq_false fun h' => h h'.1] at k

theorem qpush {h x : Int} {K : Int → Hp → Prop} (hx : x ≤ 9223372036854775807) (hq : Qu g H q n kind key last S FP) (bad : pushC n kind S last h x ≠ 0 → K (pushC n kind S last h x) H)
    (ok : pushC n kind S last h x = 0 → ∀ H' FP', Qu g H' q n kind (upf key h.toNat x) last (upf S h.toNat true) FP' → Step FP H H' → (∀ y, FP' y → FP y ∨ H y = none) → K 0 H') : heaps_Queue_Push.call (some ⟨q, 0, none⟩) h x E H K := by
  have hq' := hq
  obtain ⟨kp, hp, kc, hc, eb, FE, m⟩ := hq
  refine heaps_Queue_Push.of (heaps_Queue_Push.run_eq ?_)
  unfold heaps_Queue_Push.run_t
  refine bc (fun h0 => ?_) fun h0 => ?_
  · have : pushC n kind S last h x = 30 := if_pos (.inl h0)
    rw [this] at bad; exact bad (by decide)
  simp only [nn_mk, get_at m.cell, List.getElem?_cons_zero, List.getElem?_cons_succ, ldI_mk, ldS_mk, Nat.zero_add]
  refine bc (fun h1 => ?_) fun h1 => ?_
  · have : pushC n kind S last h x = 30 := if_pos (.inr h1)
    rw [this] at bad; exact bad (by decide)
  have e0 : pushC n kind S last h x = if S h.toNat then 51 else if kind = 4 ∧ x < last then 80 else 0 := if_neg (by omega)
  obtain ⟨v, hv⟩ : ∃ v, h.toNat = v := ⟨_, rfl⟩
  have hvn : v < n := by omega
  try simp only [nn_mk, get_at m.cell, List.getElem?_cons_zero, List.getElem?_cons_succ, ldI_mk, ldS_mk, Nat.zero_add]
  refine m.hr.rdr.ixB (by omega) (by omega) ?_
  rw [hv] at e0 ok ⊢
  cases hS : S v with
  | true =>
    rw [hS] at e0
    refine bcb (fun _ => ?_) fun e => by cases e
    rw [e0] at bad; exact bad (by simp)
  | false =>
    rw [hS] at e0
    refine bcb (fun e => by cases e) fun _ => ?_
    refine qlow hq' ?_
    refine bc (fun hl => ?_) fun hl => ?_
    · rw [if_neg (by decide), if_pos hl] at e0
      rw [e0] at bad; exact bad (by simp)
    · rw [if_neg (by decide), if_neg hl] at e0
      simp only [nn_mk, get_at m.cell, List.getElem?_cons_zero, List.getElem?_cons_succ, ldI_mk, ldS_mk, Nat.zero_add]
      refine m.kr.stI (by omega) (by omega) _ fun H1 r1 s1 => ?_
      rw [hv] at r1
      have c1 := s1.keep _ _ m.cell m.dq1
      have hr1 := m.hr.keep s1 fun y hy h => m.dk1 y h hy
      have i1 := g.keep m.eng s1 fun y hy h => m.dk2 y h hy
      refine hr1.stB (by omega) (by omega) _ fun H2 r2 s2 => ?_
      rw [hv] at r2
      have c2 := s2.keep _ _ c1 m.dq2
      have k2 := r1.keep s2 fun y hy h => m.dk1 y hy h
      have i2 := g.keep i1 s2 fun y hy h => m.dh y h hy
      simp only [nn_mk, get_at c2, List.getElem?_cons_zero, List.getElem?_cons_succ, ldI_mk, ldS_mk, Nat.zero_add]
      have hcn := cnt_less (p := upf S v true) (q := S) (n := n) hvn upf_same hS fun i _ hne => upf_ne hne
      have hcl := cnt_le S n
      have hnl := m.nle
      rw [i64w (by omega) (by omega)]
      refine stp c2 (by simp) rfl fun H3 e3 s3 => ?_
      replace e3 : H3 q = some ⟨[.slice kp n kc, .slice hp n hc, .iface g.t (.pointer (some ⟨eb, 0, none⟩)), .int .i64 (cnt S n + 1), .int .i64 kind, .int .i64 last], 98⟩ := e3
      have k3 := k2.keep s3 fun y hy h => m.dq1 (h ▸ hy)
      have h3 := r2.keep s3 fun y hy h => m.dq2 (h ▸ hy)
      have i3 := g.keep i2 s3 fun y hy h => m.dq3 (h ▸ hy)
      simp only [nn_mk, get_at e3, List.getElem?_cons_zero, List.getElem?_cons_succ, ldI_mk, ldS_mk, Nat.zero_add]
      refine ⟨trivial, ?_⟩
      have i3' : g.Inv H3 eb q n (upf key v x) last S FE := g.cg i3 fun u hu => by
        rw [upf_ne (fun e => by rw [e, hS] at hu; cases hu)]
      rw [show h = (v : Int) by omega]
      have s13 : Step FP H H3 := ((s1.weak fun y hy => .inl ((m.fp y).2 (.inr (.inl hy)))).trans s2 fun y hy => .inl ((m.fp y).2 (.inr (.inr (.inl hy))))).trans s3 fun y hy => .inl ((m.fp y).2 (.inl hy))
      refine g.push i3' ⟨⟨kc, by rw [get_at e3]; rfl⟩, k3.rdr⟩ m.dq3 m.dk2 m.nle m.sub hvn hS (fun hr => by rw [upf_same]; have := m.rad.1 hr; omega) fun H4 FE' i4 s4 hnew => ?_
      have live3 : ∀ y, (y = q ∨ fpS kp y ∨ fpS hp y) → H3 y ≠ none := fun y hy => by
        rcases hy with rfl | hy | hy
        · rw [e3]; exact fun e => by cases e
        · exact k3.live hy
        · exact h3.live hy
      refine ok e0 H4 (fun y => y = q ∨ fpS kp y ∨ fpS hp y ∨ FE' y) ⟨kp, hp, kc, hc, eb, FE', ?_, k3.keep s4 m.dk2, h3.keep s4 m.dh, i4, fun u hu => ?_, m.rad, m.nle, m.dq1, m.dq2, fun h => (hnew _ h).elim m.dq3 (live3 _ (.inl rfl)), m.dk1, fun y hy h => (hnew y h).elim (m.dk2 y hy) (live3 y (.inr (.inl hy))), fun y hy h => (hnew y h).elim (m.dh y hy) (live3 y (.inr (.inr hy))), fun y => Iff.rfl⟩ (s13.trans s4 fun y hy => .inl ((m.fp y).2 (.inr (.inr (.inr hy))))) fun y hy => ?_
      · rw [hcn]; exact s4.keep _ _ e3 m.dq3
      · by_cases e : u = v
        · subst e; exact hvn
        · rw [upf_ne e] at hu; exact m.sub u hu
      · rcases hy with hy | hy | hy | hy
        · exact .inl ((m.fp y).2 (.inl hy))
        · exact .inl ((m.fp y).2 (.inr (.inl hy)))
        · exact .inl ((m.fp y).2 (.inr (.inr (.inl hy))))
        · exact (hnew y hy).imp (fun h => (m.fp y).2 (.inr (.inr (.inr h)))) (s13.mono y)
end
end Go.Mz

/-
  Walks of layer 5: a queue of any kind, more: Lower, Top, Pop.
-/
namespace Go.Mz
section
variable {E : Value → Hp → Prop} {g : Engine E} {H : Hp} {q n : Nat} {kind : Int} {key : Nat → Int} {last : Int} {S : Nat → Bool} {FP : Nat → Prop}

theorem qlower {h x : Int} {K : Int → Hp → Prop} (hq : Qu g H q n kind key last S FP) (bad : lowerC n kind key S last h x ≠ 0 → K (lowerC n kind key S last h x) H)
    (ok : lowerC n kind key S last h x = 0 → ∀ H' FP', Qu g H' q n kind (upf key h.toNat x) last S FP' → Step FP H H' → (∀ y, FP' y → FP y ∨ H y = none) → K 0 H') : heaps_Queue_Lower.call (some ⟨q, 0, none⟩) h x E H K := by
  have hq' := hq
  obtain ⟨kp, hp, kc, hc, eb, FE, m⟩ := hq
  refine heaps_Queue_Lower.of (heaps_Queue_Lower.run_eq ?_)
  unfold heaps_Queue_Lower.run_t
  refine bc (fun h0 => ?_) fun h0 => ?_
  · have : lowerC n kind key S last h x = 30 := if_pos (.inl h0)
    rw [this] at bad; exact bad (by decide)
  simp only [nn_mk, get_at m.cell, List.getElem?_cons_zero, List.getElem?_cons_succ, ldI_mk, ldS_mk, Nat.zero_add]
  refine bc (fun h1 => ?_) fun h1 => ?_
  · have : lowerC n kind key S last h x = 30 := if_pos (.inr h1)
    rw [this] at bad; exact bad (by decide)
  have e0 : lowerC n kind key S last h x = if S h.toNat = false then 2 else if key h.toNat < x then 52 else if kind = 4 ∧ x < last then 80 else 0 := if_neg (by omega)
  obtain ⟨v, hv⟩ : ∃ v, h.toNat = v := ⟨_, rfl⟩
  have hvn : v < n := by omega
  try simp only [nn_mk, get_at m.cell, List.getElem?_cons_zero, List.getElem?_cons_succ, ldI_mk, ldS_mk, Nat.zero_add]
  refine m.hr.rdr.ixB (by omega) (by omega) ?_
  rw [hv] at e0 ok ⊢
  cases hS : S v with
  | false =>
    rw [hS, if_pos rfl] at e0
    refine bcb (fun _ => ?_) fun e => by cases e
    rw [e0] at bad; exact bad (by simp)
  | true =>
    rw [hS, if_neg (by simp)] at e0
    refine bcb (fun e => by cases e) fun _ => ?_
    try simp only [nn_mk, get_at m.cell, List.getElem?_cons_zero, List.getElem?_cons_succ, ldI_mk, ldS_mk, Nat.zero_add]
    refine m.kr.ixI (by omega) (by omega) ?_
    rw [hv]
    refine bc (fun hr => ?_) fun hr => ?_
    · rw [if_pos hr] at e0
      rw [e0] at bad; exact bad (by simp)
    rw [if_neg hr] at e0
    refine qlow hq' ?_
    refine bc (fun hl => ?_) fun hl => ?_
    · rw [if_pos hl] at e0
      rw [e0] at bad; exact bad (by simp)
    rw [if_neg hl] at e0
    simp only [nn_mk, get_at m.cell, List.getElem?_cons_zero, List.getElem?_cons_succ, ldI_mk, ldS_mk, Nat.zero_add]
    refine m.kr.ixI (by omega) (by omega) ?_
    rw [hv]
    refine bc (fun hlt => ?_) fun hge => ?_
    · try simp only [nn_mk, get_at m.cell, List.getElem?_cons_zero, List.getElem?_cons_succ, ldI_mk, ldS_mk, Nat.zero_add]
      refine m.kr.stI (by omega) (by omega) _ fun H1 r1 s1 => ?_
      rw [hv] at r1
      have c1 := s1.keep _ _ m.cell m.dq1
      have hr1 := m.hr.keep s1 fun y hy h => m.dk1 y h hy
      have i1 := g.keep m.eng s1 fun y hy h => m.dk2 y h hy
      simp only [nn_mk, get_at c1, List.getElem?_cons_zero, List.getElem?_cons_succ, ldI_mk, ldS_mk, Nat.zero_add]
      refine ⟨trivial, ?_⟩
      rw [show h = (v : Int) by omega]
      have s1' : Step FP H H1 := s1.weak fun y hy => .inl ((m.fp y).2 (.inr (.inl hy)))
      refine g.lower i1 ⟨⟨kc, by rw [get_at c1]; rfl⟩, r1.rdr⟩ m.dq3 m.dk2 m.nle m.sub hS hlt (fun hr => by have := m.rad.1 hr; omega) fun H4 FE' i4 s4 hnew => ?_
      have live3 : ∀ y, (y = q ∨ fpS kp y ∨ fpS hp y) → H1 y ≠ none := fun y hy => by
        rcases hy with rfl | hy | hy
        · rw [c1]; exact fun e => by cases e
        · exact r1.live hy
        · exact hr1.live hy
      refine ok e0 H4 (fun y => y = q ∨ fpS kp y ∨ fpS hp y ∨ FE' y) ⟨kp, hp, kc, hc, eb, FE', s4.keep _ _ c1 m.dq3, r1.keep s4 m.dk2, hr1.keep s4 m.dh, i4, m.sub, m.rad, m.nle, m.dq1, m.dq2, fun h => (hnew _ h).elim m.dq3 (live3 _ (.inl rfl)), m.dk1, fun y hy h => (hnew y h).elim (m.dk2 y hy) (live3 y (.inr (.inl hy))), fun y hy h => (hnew y h).elim (m.dh y hy) (live3 y (.inr (.inr hy))), fun y => Iff.rfl⟩ (s1'.trans s4 fun y hy => .inl ((m.fp y).2 (.inr (.inr (.inr hy))))) fun y hy => ?_
      rcases hy with hy | hy | hy | hy
      · exact .inl ((m.fp y).2 (.inl hy))
      · exact .inl ((m.fp y).2 (.inr (.inl hy)))
      · exact .inl ((m.fp y).2 (.inr (.inr (.inl hy))))
      · exact (hnew y hy).imp (fun h => (m.fp y).2 (.inr (.inr (.inr h)))) (s1'.mono y)
    · have ek : upf key v x = key := by
        rw [show x = key v by omega]; exact upf_self
      rw [ek] at ok
      exact ok e0 H FP hq' .refl fun y hy => .inl hy

theorem qtop {K : Int → Int → Int → Hp → Prop} (hq : Qu g H q n kind key last S FP) (k0 : (∀ v, S v = false) → K 0 0 4 H)
    (k : ∀ (w : Nat) H', Step (fun _ => False) H H' → S w = true → (∀ u, S u = true → ¬ lk key u w) → K w (key w) 0 H') : heaps_Queue_Top.call (some ⟨q, 0, none⟩) E H K := by
  obtain ⟨kp, hp, kc, hc, eb, FE, m⟩ := hq
  refine heaps_Queue_Top.of (heaps_Queue_Top.run_eq ?_)
  unfold heaps_Queue_Top.run_t
  simp only [nn_mk, get_at m.cell, List.getElem?_cons_zero, List.getElem?_cons_succ, ldI_mk, ldS_mk, Nat.zero_add]
  refine bc (fun h0 => k0 fun v => ?_) fun h0 => ?_
  · cases hS : S v with
    | false => rfl
    | true => have := cnt_pos (m.sub v hS) hS; omega
  · try simp only [nn_mk, get_at m.cell, List.getElem?_cons_zero, List.getElem?_cons_succ, ldI_mk, ldS_mk, Nat.zero_add]
    refine ⟨trivial, ?_⟩
    have hex : ∃ v, S v = true := by
      by_cases h : ∃ v, S v = true
      · exact h
      · have : cnt S n = 0 := cnt_none fun i _ => by
          cases hS : S i with
          | false => rfl
          | true => exact (h ⟨i, hS⟩).elim
        omega
    refine g.top m.eng m.keyM m.nle m.sub hex (K := fun x H_1 => nn (some ⟨q, 0, none⟩) fun b_3 o_3 => ldS (H_1.get b_3 o_3) fun x_3p x_3n x_3c => ix x_3p x_3n x 1 fun b_4 o_4 => ldI .i64 (H_1.get b_4 o_4) fun x_4 => K x x_4 0 H_1) fun w H' s hw hleast => ?_
    have c1 := s.keep _ _ m.cell fun h => h
    simp only [nn_mk, get_at c1, List.getElem?_cons_zero, List.getElem?_cons_succ, ldI_mk, ldS_mk, Nat.zero_add]
    refine (m.kr.keep s fun _ _ h => h).ixI (by omega) (by have := m.sub w hw; omega) ?_
    simp only [Int.toNat_natCast]
    exact k w H' s hw hleast

theorem qpop {K : Int → Int → Int → Hp → Prop} (hq : Qu g H q n kind key last S FP) (k0 : (∀ v, S v = false) → K 0 0 4 H)
    (k : ∀ (w : Nat) H' FP', S w = true → (∀ u, S u = true → ¬ lk key u w) → Qu g H' q n kind key (key w) (upf S w false) FP' → Step FP H H' → (∀ y, FP' y → FP y ∨ H y = none) → K w (key w) 0 H') : heaps_Queue_Pop.call (some ⟨q, 0, none⟩) E H K := by
  refine heaps_Queue_Pop.of (heaps_Queue_Pop.run_eq ?_)
  unfold heaps_Queue_Pop.run_t
  refine qtop hq (fun h0 => ?_) fun w H1 s1 hw hleast => ?_
  · refine bc (fun h => absurd h (by decide)) fun _ => ?_
    refine heaps_Queue_Pop.j1_eq ?_
    unfold heaps_Queue_Pop.j1_t
    exact k0 h0
  · have hq1 := hq.keep s1 fun _ _ h => h
    obtain ⟨kp, hp, kc, hc, eb, FE, m⟩ := hq1
    have hwn := m.sub w hw
    have hnl := m.nle
    refine bc (fun _ => ?_) fun h => (h rfl).elim
    simp only [nn_mk, get_at m.cell, List.getElem?_cons_zero, List.getElem?_cons_succ, ldI_mk, ldS_mk, Nat.zero_add]
    refine ⟨trivial, ?_⟩
    refine g.pop m.eng m.keyM m.dq3 m.dk2 m.nle m.sub hw hleast fun H2 FE' i2 s2 hnew => ?_
    have c2 := s2.keep _ _ m.cell m.dq3
    have k2 := m.kr.keep s2 m.dk2
    have h2 := m.hr.keep s2 m.dh
    simp only [nn_mk, get_at c2, List.getElem?_cons_zero, List.getElem?_cons_succ, ldI_mk, ldS_mk, Nat.zero_add]
    have live1 : ∀ y, (y = q ∨ fpS kp y ∨ fpS hp y) → H1 y ≠ none := fun y hy => by
      rcases hy with rfl | hy | hy
      · rw [m.cell]; exact fun e => by cases e
      · exact m.kr.live hy
      · exact m.hr.live hy
    have d1 : ¬ FE' q := fun h => (hnew _ h).elim m.dq3 (live1 _ (.inl rfl))
    have d2 : ∀ y, fpS kp y → ¬ FE' y := fun y hy h => (hnew y h).elim (m.dk2 y hy) (live1 y (.inr (.inl hy)))
    have d3 : ∀ y, fpS hp y → ¬ FE' y := fun y hy h => (hnew y h).elim (m.dh y hy) (live1 y (.inr (.inr hy)))
    refine h2.stB (by omega) (by omega) _ fun H3 r3 s3 => ?_
    simp only [Int.toNat_natCast] at r3
    have c3 := s3.keep _ _ c2 m.dq2
    have k3 := k2.keep s3 fun y hy h => m.dk1 y hy h
    have i3 := g.keep i2 s3 fun y hy h => d3 y h hy
    simp only [nn_mk, get_at c3, List.getElem?_cons_zero, List.getElem?_cons_succ, ldI_mk, ldS_mk, Nat.zero_add]
    have hcn := cnt_less (p := S) (q := upf S w false) (n := n) hwn hw upf_same fun i _ hne => (upf_ne hne).symm
    have hcl := cnt_le S n
    rw [i64w (by omega) (by omega)]
    refine stp c3 (by simp) rfl fun H4 e4 s4 => ?_
    replace e4 : H4 q = some ⟨[.slice kp n kc, .slice hp n hc, .iface g.t (.pointer (some ⟨eb, 0, none⟩)), .int .i64 (cnt S n - 1), .int .i64 kind, .int .i64 last], 98⟩ := e4
    have k4 := k3.keep s4 fun y hy h => m.dq1 (h ▸ hy)
    have h4 := r3.keep s4 fun y hy h => m.dq2 (h ▸ hy)
    have i4 := g.keep i3 s4 fun y hy h => d1 (h ▸ hy)
    refine stp e4 (by simp) rfl fun H5 e5 s5 => ?_
    replace e5 : H5 q = some ⟨[.slice kp n kc, .slice hp n hc, .iface g.t (.pointer (some ⟨eb, 0, none⟩)), .int .i64 (cnt S n - 1), .int .i64 kind, .int .i64 (key w)], 98⟩ := e5
    have k5 := k4.keep s5 fun y hy h => m.dq1 (h ▸ hy)
    have h5 := h4.keep s5 fun y hy h => m.dq2 (h ▸ hy)
    have i5 := g.keep i4 s5 fun y hy h => d1 (h ▸ hy)
    refine heaps_Queue_Pop.j1_eq ?_
    unfold heaps_Queue_Pop.j1_t
    have s15 : Step FP H H5 := (((((s1.weak fun _ h => h.elim).trans s2 fun y hy => .inl ((m.fp y).2 (.inr (.inr (.inr hy))))).trans s3 fun y hy => .inl ((m.fp y).2 (.inr (.inr (.inl hy))))).trans s4 fun y hy => .inl ((m.fp y).2 (.inl hy))).trans s5 fun y hy => .inl ((m.fp y).2 (.inl hy)))
    refine k w H5 (fun y => y = q ∨ fpS kp y ∨ fpS hp y ∨ FE' y) hw hleast ⟨kp, hp, kc, hc, eb, FE', ?_, k5, h5, i5, fun u hu => ?_, m.rad, m.nle, m.dq1, m.dq2, d1, m.dk1, d2, d3, fun y => Iff.rfl⟩ s15 fun y hy => ?_
    · rw [e5, show ((cnt S n : Nat) : Int) - 1 = ((cnt (upf S w false) n : Nat) : Int) by omega]
    · by_cases e : u = w
      · subst e; exact hwn
      · rw [upf_ne e] at hu; exact m.sub u hu
    · rcases hy with hy | hy | hy | hy
      · exact .inl ((m.fp y).2 (.inl hy))
      · exact .inl ((m.fp y).2 (.inr (.inl hy)))
      · exact .inl ((m.fp y).2 (.inr (.inr (.inl hy))))
      · exact (hnew y hy).imp (fun h => (m.fp y).2 (.inr (.inr (.inr h)))) (s1.mono y)
end
end Go.Mz
