/-
  Joined: BeP, BeJ, BeA, BeB, BeC, BeD, BeE.
-/
import Derived.Test.YtajgpmohnbjpcaaPkM
import Derived.Test.YtajgpmohnbjpcaaPkG
import Derived.Test.YtajgpmohnbjpcaaPkH
import Derived.Test.YtajgpmohnbjpcaaGSho
set_option linter.unusedSimpArgs false
set_option linter.unusedVariables false
/-
  Plain law of layer 8: going over all edges again and again: what holds while it is done, and in the end. No program in sight.
-/
namespace Go.Mz

abbrev Far : Int := 4611686018427387904

/-- a graph's edges: their ends and costs -/
structure Gr (M n : Nat) (a b : Nat → Nat) (c : Nat → Int) : Prop where
  ra : ∀ i, i < n → a i < M
  rb : ∀ i, i < n → b i < M
  lo : ∀ i, i < n → -1048576 ≤ c i
  hi : ∀ i, i < n → c i ≤ 1048576
  M1 : M ≤ 1024
  n1 : n ≤ 4096

/-- so many steps back -/
def pit (a : Nat → Nat) (via : Nat → Int) : Nat → Nat → Nat
  | 0, v => v
  | t + 1, v => pit a via t (a (via v).toNat)

/-- what these steps cost -/
def psm (a : Nat → Nat) (c : Nat → Int) (via : Nat → Int) : Nat → Nat → Int
  | 0, _ => 0
  | t + 1, v => c (via v).toNat + psm a c via t (a (via v).toNat)

theorem pit_add {a : Nat → Nat} {via : Nat → Int} : ∀ {s t v : Nat}, pit a via (s + t) v = pit a via t (pit a via s v)
  | 0, t, v => by simp [pit]
  | s + 1, t, v => by rw [Nat.succ_add]; show pit a via (s + t) _ = _; rw [pit_add]; rfl

theorem pit_succ {a : Nat → Nat} {via : Nat → Int} {t v : Nat} : pit a via (t + 1) v = a (via (pit a via t v)).toNat := by
  rw [pit_add]; rfl

theorem psm_succ {a : Nat → Nat} {c : Nat → Int} {via : Nat → Int} : ∀ {t v : Nat}, psm a c via (t + 1) v = psm a c via t v + c (via (pit a via t v)).toNat
  | 0, v => by simp [psm, pit]
  | t + 1, v => by
    show c (via v).toNat + psm a c via (t + 1) _ = c (via v).toNat + psm a c via t _ + _
    rw [psm_succ (t := t)]
    have : pit a via (t + 1) v = pit a via t (a (via v).toNat) := rfl
    rw [this]; omega

/-- the steps' costs against numbers at the nodes -/
theorem psm_le {a : Nat → Nat} {c : Nat → Int} {via : Nat → Int} {p : Nat → Int} : ∀ {t v : Nat}, (∀ s, s < t → c (via (pit a via s v)).toNat ≤ p (pit a via s v) - p (pit a via (s + 1) v)) → psm a c via t v ≤ p v - p (pit a via t v)
  | 0, v, _ => by simp [psm, pit]
  | t + 1, v, h => by
    rw [psm_succ]
    have h1 := psm_le (t := t) (v := v) fun s hs => h s (by omega)
    have h2 := h t (by omega)
    omega

theorem psm_lt {a : Nat → Nat} {c : Nat → Int} {via : Nat → Int} {p : Nat → Int} : ∀ {t v : Nat}, (∀ s, s < t → c (via (pit a via s v)).toNat ≤ p (pit a via s v) - p (pit a via (s + 1) v)) →
    (∃ s, s < t ∧ c (via (pit a via s v)).toNat < p (pit a via s v) - p (pit a via (s + 1) v)) → psm a c via t v < p v - p (pit a via t v)
  | 0, v, _, ⟨s, hs, _⟩ => by omega
  | t + 1, v, h, ⟨s, hs, h'⟩ => by
    rw [psm_succ]
    by_cases e : s = t
    · subst e
      have h1 := psm_le (t := s) (v := v) fun s hs => h s (by omega)
      omega
    · have h1 := psm_lt (t := t) (v := v) (fun s hs => h s (by omega)) ⟨s, by omega, h'⟩
      have h2 := h t (by omega)
      omega

theorem psm_ge {a : Nat → Nat} {c : Nat → Int} {via : Nat → Int} {p : Nat → Int} : ∀ {t v : Nat}, (∀ s, s < t → p (pit a via s v) - p (pit a via (s + 1) v) ≤ c (via (pit a via s v)).toNat) → p v - p (pit a via t v) ≤ psm a c via t v
  | 0, v, _ => by simp [psm, pit]
  | t + 1, v, h => by
    rw [psm_succ]
    have h1 := psm_ge (t := t) (v := v) fun s hs => h s (by omega)
    have h2 := h t (by omega)
    omega

/-- among more than M numbers below M two are the same -/
theorem pigeon {M : Nat} {f : Nat → Nat} (h : ∀ i, i ≤ M → f i < M) : ∃ s t, s < t ∧ t ≤ M ∧ f s = f t := by
  by_cases hn : ((List.range (M + 1)).map f).Nodup
  · have := List.Nodup.length_le_of_subset (l₁ := (List.range (M + 1)).map f) (l₂ := List.range M) hn fun w hw => by
      obtain ⟨i, hi, rfl⟩ := List.mem_map.1 hw
      rw [List.mem_range] at hi ⊢
      exact h i (by omega)
    simp at this
    omega
  · have : ¬ ∀ s t, s < t → t ≤ M → f s ≠ f t := fun hall => hn (by
      unfold List.Nodup
      rw [List.pairwise_map]
      refine List.Pairwise.imp_of_mem ?_ (List.pairwise_lt_range (n := M + 1))
      intro x y _ hy hlt
      exact hall x y hlt (by rw [List.mem_range] at hy; omega))
    refine Classical.byContradiction fun hne => this fun s t h1 h2 h3 => hne ⟨s, t, h1, h2, h3⟩

theorem least_of {p : Nat → Prop} {k : Nat} (h : p k) : ∃ m, m ≤ k ∧ p m ∧ ∀ j, j < m → ¬ p j := by
  classical
  induction k using Nat.strongRecOn with
  | ind k ih =>
    by_cases hj : ∃ j, j < k ∧ p j
    · obtain ⟨j, h1, h2⟩ := hj
      obtain ⟨m, h3, h4⟩ := ih j h1 h2
      exact ⟨m, by omega, h4⟩
    · exact ⟨k, Nat.le_refl _, h, fun j hj' hp => hj ⟨j, hj', hp⟩⟩

section
variable {M n : Nat} {a b : Nat → Nat} {c : Nat → Int}

/-- where the going over stands: r rounds are done, and j edges of the next; rd: the round in which a node's distance was lowered last -/
structure Bst (M n : Nat) (a b : Nat → Nat) (c : Nat → Int) (d0 d via : Nat → Int) (rd : Nat → Nat) (r j : Nat) : Prop where
  ini : ∀ v, v < M → via v = -1 → d v = d0 v ∧ rd v = 0
  edg : ∀ v, v < M → via v ≠ -1 → ∃ i, i < n ∧ via v = (i : Int) ∧ b i = v ∧ d (a i) < Far ∧ d (a i) + c i ≤ d v ∧ d v < Far ∧ rd v ≤ rd (a i) + 1
  bnd : ∀ v, v < M → d v = Far ∨ (-(1048576 * ((r * n + j : Nat) : Int)) ≤ d v ∧ d v ≤ 1048576 * ((r * n + j : Nat) : Int))
  cyc : ∀ v m, v < M → 0 < m → (∀ t, t < m → via (pit a via t v) ≠ -1) → pit a via m v = v → psm a c via m v < 0
  old : ∀ i, i < j → d (a i) < Far → rd (a i) ≤ r → d (b i) ≤ d (a i) + c i
  yet : ∀ i, i < n → j ≤ i → d (a i) < Far → rd (a i) < r → d (b i) ≤ d (a i) + c i
  rdl : ∀ v, v < M → rd v ≤ r + 1
  le0 : ∀ v, v < M → d v ≤ d0 v
  rch : ∀ R : Nat → Prop, (∀ v, v < M → d0 v < Far → R v) → (∀ i, i < n → R (a i) → R (b i)) → ∀ v, v < M → d v < Far → R v
  low : ∀ P : Nat → Int, (∀ v, v < M → P v ≤ d0 v) → (∀ i, i < n → P (b i) ≤ P (a i) + c i) → ∀ v, v < M → P v ≤ d v

variable {d0 d via : Nat → Int} {rd : Nat → Nat} {r j : Nat}

theorem Bst.start (h0 : ∀ v, v < M → d0 v = 0 ∨ d0 v = Far) : Bst M n a b c d0 d0 (fun _ => -1) (fun _ => 0) 0 0 where
  ini := fun v hv _ => ⟨rfl, rfl⟩
  edg := fun v hv h => (h rfl).elim
  bnd := fun v hv => by rcases h0 v hv with h | h <;> omega
  cyc := fun v m _ hm h _ => (h 0 hm rfl).elim
  old := fun i hi => by omega
  yet := fun i _ _ _ h => by omega
  rdl := fun v _ => by omega
  le0 := fun v _ => Int.le_refl _
  rch := fun R h _ v hv hf => h v hv hf
  low := fun P h _ v hv => h v hv

theorem Bst.skip (h : Bst M n a b c d0 d via rd r j) (hj : j < n) (ht : d (a j) < Far → d (b j) ≤ d (a j) + c j) : Bst M n a b c d0 d via rd r (j + 1) where
  ini := h.ini
  edg := h.edg
  bnd := fun v hv => by
    rcases h.bnd v hv with h | h
    · exact .inl h
    · right; omega
  cyc := h.cyc
  old := fun i hi hf hr => by
    by_cases e : i = j
    · subst e; exact ht hf
    · exact h.old i (by omega) hf hr
  yet := fun i hi hij => h.yet i hi (by omega)
  rdl := h.rdl
  le0 := h.le0
  rch := h.rch
  low := h.low

theorem Bst.lower (hG : Gr M n a b c) (h : Bst M n a b c d0 d via rd r j) (hj : j < n) (hf : d (a j) < Far) (hl : d (a j) + c j < d (b j)) (hd0 : ∀ v, v < M → d0 v ≤ Far) :
    Bst M n a b c d0 (upf d (b j) (d (a j) + c j)) (upf via (b j) (j : Int)) (upf rd (b j) (r + 1)) r (j + 1) := by
  have hx := hG.ra j hj
  have hy := hG.rb j hj
  have dle : ∀ v, upf d (b j) (d (a j) + c j) v ≤ d v := fun v => by
    by_cases e : v = b j
    · subst e; rw [upf_same]; omega
    · rw [upf_ne e]; exact Int.le_refl _
  have hby : d (b j) ≤ Far := Int.le_trans (h.le0 _ hy) (hd0 _ hy)
  have hrx : r ≤ rd (a j) := by
    by_cases hr : rd (a j) < r
    · have := h.yet j hj (Nat.le_refl _) hf hr; omega
    · omega
  refine ⟨fun v hv hvia => ?_, fun v hv hvia => ?_, fun v hv => ?_, fun v m hv hm hp hc => ?_, fun i hi hfi hr => ?_, fun i hi hij hfi hr => ?_, fun v hv => ?_, fun v hv => Int.le_trans (dle v) (h.le0 v hv), fun R h1 h2 v hv hfv => ?_, fun P h1 h2 v hv => ?_⟩
  · have e : v ≠ b j := fun e => by rw [e, upf_same] at hvia; omega
    rw [upf_ne e] at hvia
    rw [upf_ne e, upf_ne e]
    exact h.ini v hv hvia
  · by_cases e : v = b j
    · subst e
      refine ⟨j, hj, upf_same, rfl, Int.lt_of_le_of_lt (dle _) hf, ?_, ?_, ?_⟩
      · rw [upf_same]; have := dle (a j); omega
      · rw [upf_same]; omega
      · rw [upf_same]
        by_cases e' : a j = b j
        · rw [e', upf_same]; omega
        · rw [upf_ne e']; omega
    · rw [upf_ne e] at hvia
      obtain ⟨i, hi, h1, h2, h3, h4, h5, h6⟩ := h.edg v hv hvia
      refine ⟨i, hi, by rw [upf_ne e]; exact h1, h2, Int.lt_of_le_of_lt (dle _) h3, ?_, ?_, ?_⟩
      · rw [upf_ne e]; have := dle (a i); omega
      · rw [upf_ne e]; exact h5
      · rw [upf_ne e]
        by_cases e' : a i = b j
        · rw [e', upf_same]; have := h.rdl v hv; omega
        · rw [upf_ne e']; exact h6
  · by_cases e : v = b j
    · subst e
      rw [upf_same]
      have h1 := hG.lo j hj
      have h2 := hG.hi j hj
      rcases h.bnd _ hx with h3 | h3
      · omega
      · right; omega
    · rw [upf_ne e]
      rcases h.bnd v hv with h | h
      · exact .inl h
      · right; omega
  · -- a circle of the last edges
    have step : ∀ u, u < M → upf via (b j) (j : Int) u ≠ -1 → a (upf via (b j) (j : Int) u).toNat < M ∧ c (upf via (b j) (j : Int) u).toNat ≤ d u - d (a (upf via (b j) (j : Int) u).toNat) ∧ (u = b j → c (upf via (b j) (j : Int) u).toNat < d u - d (a (upf via (b j) (j : Int) u).toNat)) := fun u hu hvia => by
      by_cases e : u = b j
      · subst e
        rw [upf_same, Int.toNat_natCast]
        exact ⟨hx, by omega, fun _ => by omega⟩
      · rw [upf_ne e] at hvia ⊢
        obtain ⟨i, hi, h1, h2, h3, h4, _⟩ := h.edg u hu hvia
        rw [h1, Int.toNat_natCast]
        exact ⟨hG.ra i hi, by omega, fun e' => (e e').elim⟩
    have inM : ∀ t, t ≤ m → pit a (upf via (b j) (j : Int)) t v < M := by
      intro t
      induction t with
      | zero => intro _; exact hv
      | succ t ih =>
        intro ht
        rw [pit_succ]
        exact (step _ (ih (by omega)) (hp t (by omega))).1
    by_cases hb : ∃ t, t < m ∧ pit a (upf via (b j) (j : Int)) t v = b j
    · have := psm_lt (a := a) (c := c) (via := upf via (b j) (j : Int)) (p := d) (t := m) (v := v) (fun s hs => by
        rw [pit_succ]; exact (step _ (inM s (by omega)) (hp s hs)).2.1) (by
        obtain ⟨t, ht, e⟩ := hb
        exact ⟨t, ht, by rw [pit_succ]; exact (step _ (inM t (by omega)) (hp t ht)).2.2 e⟩)
      rw [hc] at this
      omega
    · have same : ∀ t, t ≤ m → pit a (upf via (b j) (j : Int)) t v = pit a via t v ∧ psm a c (upf via (b j) (j : Int)) t v = psm a c via t v := by
        intro t
        induction t with
        | zero => intro _; exact ⟨rfl, rfl⟩
        | succ t ih =>
          intro ht
          obtain ⟨h1, h2⟩ := ih (by omega)
          have hne : pit a via t v ≠ b j := fun e => hb ⟨t, by omega, by rw [h1, e]⟩
          rw [pit_succ, pit_succ, psm_succ, psm_succ, h1, h2, upf_ne hne]
          exact ⟨rfl, rfl⟩
      rw [(same m (Nat.le_refl _)).2]
      refine h.cyc v m hv hm (fun t ht => ?_) (by rw [← (same m (Nat.le_refl _)).1]; exact hc)
      have := hp t ht
      have hne : pit a (upf via (b j) (j : Int)) t v ≠ b j := fun e => hb ⟨t, ht, e⟩
      rw [upf_ne hne, (same t (by omega)).1] at this
      exact this
  · have hne : a i ≠ b j := fun e => by rw [e, upf_same] at hr; omega
    rw [upf_ne hne] at hfi hr ⊢
    by_cases e : i = j
    · subst e; rw [upf_same]; exact Int.le_refl _
    · exact Int.le_trans (dle _) (h.old i (by omega) hfi hr)
  · have hne : a i ≠ b j := fun e => by rw [e, upf_same] at hr; omega
    rw [upf_ne hne] at hfi hr ⊢
    exact Int.le_trans (dle _) (h.yet i hi (by omega) hfi hr)
  · by_cases e : v = b j
    · subst e; rw [upf_same]; omega
    · rw [upf_ne e]; exact h.rdl v hv
  · by_cases e : v = b j
    · subst e; exact h2 j hj (h.rch R h1 h2 _ hx hf)
    · rw [upf_ne e] at hfv; exact h.rch R h1 h2 v hv hfv
  · by_cases e : v = b j
    · subst e; rw [upf_same]
      have := h.low P h1 h2 _ hx
      have := h2 j hj
      omega
    · rw [upf_ne e]; exact h.low P h1 h2 v hv

theorem Bst.round (h : Bst M n a b c d0 d via rd r n) : Bst M n a b c d0 d via rd (r + 1) 0 where
  ini := h.ini
  edg := h.edg
  bnd := fun v hv => by
    have e : (r + 1) * n + 0 = r * n + n := by rw [Nat.add_mul]; omega
    rw [e]; exact h.bnd v hv
  cyc := h.cyc
  old := fun i hi => by omega
  yet := fun i hi _ hf hr => h.old i hi hf (by omega)
  rdl := fun v hv => by have := h.rdl v hv; omega
  le0 := h.le0
  rch := h.rch
  low := h.low

/-- nothing gets cheaper any more -/
structure Sol (M n : Nat) (a b : Nat → Nat) (c : Nat → Int) (d0 d via : Nat → Int) : Prop where
  ini : ∀ v, v < M → via v = -1 → d v = d0 v
  edg : ∀ v, v < M → via v ≠ -1 → ∃ i, i < n ∧ via v = (i : Int) ∧ b i = v ∧ d (a i) < Far ∧ d (a i) + c i = d v ∧ d v < Far
  feas : ∀ i, i < n → d (a i) < Far → d (b i) ≤ d (a i) + c i
  le0 : ∀ v, v < M → d v ≤ d0 v
  acy : ∀ v, v < M → ∃ t, t < M ∧ via (pit a via t v) = -1
  bnd : ∀ v, v < M → d v = Far ∨ (-8796093022208 ≤ d v ∧ d v ≤ 8796093022208)
  low : ∀ P : Nat → Int, (∀ v, v < M → P v ≤ d0 v) → (∀ i, i < n → P (b i) ≤ P (a i) + c i) → ∀ v, v < M → P v ≤ d v

/-- steps back stay among the nodes, as long as there are any -/
theorem pit_in (ha : ∀ v, v < M → via v ≠ -1 → a (via v).toNat < M) {v : Nat} (hv : v < M) : ∀ t, (∀ s, s < t → via (pit a via s v) ≠ -1) → pit a via t v < M := by
  intro t
  induction t with
  | zero => intro _; exact hv
  | succ t ih =>
    intro h
    rw [pit_succ]
    exact ha _ (ih fun s hs => h s (by omega)) (h t (by omega))

/-- from where steps back end, they end soon -/
theorem pit_soon (ha : ∀ v, v < M → via v ≠ -1 → a (via v).toNat < M) {v : Nat} (hv : v < M) {k : Nat} (hk : via (pit a via k v) = -1) : ∃ t, t < M ∧ t ≤ k ∧ via (pit a via t v) = -1 ∧ ∀ s, s < t → via (pit a via s v) ≠ -1 := by
  obtain ⟨t, htk, ht, hmin⟩ := least_of (p := fun k => via (pit a via k v) = -1) hk
  refine ⟨t, ?_, htk, ht, hmin⟩
  by_cases hlt : t < M
  · exact hlt
  · obtain ⟨s, s', h1, h2, h3⟩ := pigeon (M := M) (f := fun i => pit a via i v) fun i hi => pit_in ha hv i fun s hs => hmin s (by omega)
    have e : pit a via t v = pit a via (t - s' + s) v := by
      rw [show t = s' + (t - s') by omega, pit_add, ← h3, ← pit_add]
      congr 1; omega
    exact (hmin (t - s' + s) (by omega) (e ▸ ht)).elim

theorem Bst.sol (hG : Gr M n a b c) (h : Bst M n a b c d0 d via rd r 0) (hr : r ≤ M + 1) (hup : ∀ v, v < M → rd v < r) : Sol M n a b c d0 d via := by
  have hfeas : ∀ i, i < n → d (a i) < Far → d (b i) ≤ d (a i) + c i := fun i hi hf => h.yet i hi (Nat.zero_le _) hf (hup _ (hG.ra i hi))
  have htight : ∀ v, v < M → via v ≠ -1 → ∃ i, i < n ∧ via v = (i : Int) ∧ b i = v ∧ d (a i) < Far ∧ d (a i) + c i = d v ∧ d v < Far := fun v hv hvia => by
    obtain ⟨i, hi, h1, h2, h3, h4, h5, _⟩ := h.edg v hv hvia
    have := hfeas i hi h3
    rw [h2] at this
    exact ⟨i, hi, h1, h2, h3, by omega, h5⟩
  have ha : ∀ v, v < M → via v ≠ -1 → a (via v).toNat < M := fun v hv hvia => by
    obtain ⟨i, hi, h1, _⟩ := h.edg v hv hvia
    rw [h1, Int.toNat_natCast]; exact hG.ra i hi
  refine ⟨fun v hv hvia => (h.ini v hv hvia).1, htight, hfeas, h.le0, fun v hv => ?_, fun v hv => ?_, h.low⟩
  · refine Classical.byContradiction fun hne => ?_
    have hall : ∀ t, via (pit a via t v) ≠ -1 := fun t ht => by
      obtain ⟨t', h1, _, h2, _⟩ := pit_soon ha hv ht
      exact hne ⟨t', h1, h2⟩
    have hin : ∀ t, pit a via t v < M := fun t => pit_in ha hv t fun s _ => hall s
    obtain ⟨s, t, h1, h2, h3⟩ := pigeon (M := M) (f := fun i => pit a via i v) fun i _ => hin i
    have hc : pit a via (t - s) (pit a via s v) = pit a via s v := by
      rw [← pit_add, show s + (t - s) = t by omega]; exact h3.symm
    have hlt := h.cyc (pit a via s v) (t - s) (hin s) (by omega) (fun k _ => by rw [← pit_add]; exact hall _) hc
    have hge := psm_ge (a := a) (c := c) (via := via) (p := d) (t := t - s) (v := pit a via s v) fun k _ => by
      rw [pit_succ, ← pit_add]
      obtain ⟨i, hi, g1, g2, g3, g4, _⟩ := htight _ (hin (s + k)) (hall (s + k))
      rw [g1, Int.toNat_natCast]; omega
    rw [hc] at hge
    omega
  · have h1 := hG.M1
    have h2 := hG.n1
    have h3 : r * n ≤ 1025 * 4096 := Nat.mul_le_mul (by omega) h2
    rcases h.bnd v hv with h | h
    · exact .inl h
    · right; omega

/-- what still gets cheaper behind so many rounds goes back round a circle -/
theorem Bst.circle (hG : Gr M n a b c) (h : Bst M n a b c d0 d via rd (M + 1) 0) {v : Nat} (hv : v < M) (hr : rd v = M + 1) :
    (∀ t, pit a via t v < M ∧ via (pit a via t v) ≠ -1) ∧ ∃ m, 0 < m ∧ pit a via m (pit a via M v) = pit a via M v := by
  have ha : ∀ v, v < M → via v ≠ -1 → a (via v).toNat < M := fun v hv hvia => by
    obtain ⟨i, hi, h1, _⟩ := h.edg v hv hvia
    rw [h1, Int.toNat_natCast]; exact hG.ra i hi
  have hall : ∀ t, via (pit a via t v) ≠ -1 := fun t ht => by
    obtain ⟨t', h1, _, h2, h3⟩ := pit_soon ha hv ht
    have hin : ∀ s, s ≤ t' → pit a via s v < M := fun s hs => pit_in ha hv s fun q hq => h3 q (by omega)
    have key : ∀ s, s ≤ t' → rd v ≤ rd (pit a via s v) + s := by
      intro s
      induction s with
      | zero => intro _; exact Nat.le_refl _
      | succ s ih =>
        intro hs
        have := ih (by omega)
        obtain ⟨i, hi, g1, g2, g3, g4, g5, g6⟩ := h.edg _ (hin s (by omega)) (h3 s (by omega))
        rw [pit_succ, g1, Int.toNat_natCast]; omega
    have := key t' (Nat.le_refl _)
    have := (h.ini _ (hin t' (Nat.le_refl _)) h2).2
    omega
  have hin : ∀ t, pit a via t v < M := fun t => pit_in ha hv t fun s _ => hall s
  refine ⟨fun t => ⟨hin t, hall t⟩, ?_⟩
  obtain ⟨s, t, h1, h2, h3⟩ := pigeon (M := M) (f := fun i => pit a via i v) fun i _ => hin i
  refine ⟨t - s, by omega, ?_⟩
  rw [← pit_add, show M + (t - s) = t + (M - s) by omega, pit_add]
  have h3 : pit a via s v = pit a via t v := h3
  rw [← h3, ← pit_add]
  congr 1; omega
end
end Go.Mz

/-
  Plain law of layer 8: the document's rounds, which look at all edges at once, against the program's. No program in sight.
-/
namespace Go.Mz

/-- one round, so many edges of it -/
def jstep (a b : Nat → Nat) (c : Nat → Int) (d : Nat → Int) : Nat → Nat → Int
  | 0 => d
  | i + 1 => if d (a i) < Far ∧ d (a i) + c i < jstep a b c d i (b i) then upf (jstep a b c d i) (b i) (d (a i) + c i) else jstep a b c d i

def jac (n : Nat) (a b : Nat → Nat) (c : Nat → Int) (d0 : Nat → Int) : Nat → Nat → Int
  | 0 => d0
  | t + 1 => jstep a b c (jac n a b c d0 t) n

/-- no edge makes anything cheaper -/
def Stl (n : Nat) (a b : Nat → Nat) (c : Nat → Int) (d : Nat → Int) : Prop := ∀ i, i < n → d (a i) < Far → d (b i) ≤ d (a i) + c i

section
variable {M n : Nat} {a b : Nat → Nat} {c : Nat → Int} {d0 d via : Nat → Int} {rd : Nat → Nat} {r j : Nat}

theorem jstep_le : ∀ (i v : Nat), jstep a b c d i v ≤ d v
  | 0, v => Int.le_refl _
  | i + 1, v => by
    unfold jstep
    split
    · rename_i h
      by_cases e : v = b i
      · subst e; rw [upf_same]; have := jstep_le i (b i); omega
      · rw [upf_ne e]; exact jstep_le i v
    · exact jstep_le i v

theorem jstep_ed : ∀ (i k : Nat), k < i → d (a k) < Far → jstep a b c d i (b k) ≤ d (a k) + c k
  | i + 1, k, hk, hf => by
    unfold jstep
    by_cases e : k = i
    · subst e
      split
      · rw [upf_same]; exact Int.le_refl _
      · rename_i h; omega
    · have ih := jstep_ed i k (by omega) hf
      split
      · rename_i h
        by_cases e' : b k = b i
        · rw [e', upf_same]; rw [e'] at ih; omega
        · rw [upf_ne e']; exact ih
      · exact ih

theorem jstep_from : ∀ (i v : Nat), jstep a b c d i v = d v ∨ ∃ k, k < i ∧ b k = v ∧ d (a k) < Far ∧ jstep a b c d i v = d (a k) + c k
  | 0, v => .inl rfl
  | i + 1, v => by
    unfold jstep
    split
    · rename_i h
      by_cases e : v = b i
      · subst e; rw [upf_same]; exact .inr ⟨i, by omega, rfl, h.1, rfl⟩
      · rw [upf_ne e]
        rcases jstep_from i v with h | ⟨k, h1, h2⟩
        · exact .inl h
        · exact .inr ⟨k, by omega, h2⟩
    · rcases jstep_from i v with h | ⟨k, h1, h2⟩
      · exact .inl h
      · exact .inr ⟨k, by omega, h2⟩

theorem jac_mono {t v : Nat} : ∀ s, jac n a b c d0 (t + s) v ≤ jac n a b c d0 t v
  | 0 => Int.le_refl _
  | s + 1 => Int.le_trans (jstep_le n v) (jac_mono s)

theorem jac_bnd (hG : Gr M n a b c) (h0 : ∀ v, v < M → d0 v = 0 ∨ d0 v = Far) : ∀ (t v : Nat), v < M → jac n a b c d0 t v = Far ∨ (-(1048576 * (t : Int)) ≤ jac n a b c d0 t v ∧ jac n a b c d0 t v ≤ 1048576 * (t : Int))
  | 0, v, hv => by
    rcases h0 v hv with h | h
    · right; show _ ≤ d0 v ∧ d0 v ≤ _; omega
    · exact .inl h
  | t + 1, v, hv => by
    show jstep a b c (jac n a b c d0 t) n v = Far ∨ _
    rcases jstep_from (a := a) (b := b) (c := c) (d := jac n a b c d0 t) n v with h | ⟨k, h1, h2, h3, h4⟩
    · show _ ∨ (_ ≤ jstep a b c (jac n a b c d0 t) n v ∧ jstep a b c (jac n a b c d0 t) n v ≤ _)
      rw [h]
      rcases jac_bnd hG h0 t v hv with h | h
      · exact .inl h
      · right; omega
    · have := jac_bnd hG h0 t (a k) (hG.ra k h1)
      have := hG.lo k h1
      have := hG.hi k h1
      right
      show _ ≤ jstep a b c (jac n a b c d0 t) n v ∧ jstep a b c (jac n a b c d0 t) n v ≤ _
      omega

theorem jac_far (hG : Gr M n a b c) (h0 : ∀ v, v < M → d0 v = 0 ∨ d0 v = Far) {t v : Nat} (ht : t ≤ 1024) (hv : v < M) : jac n a b c d0 t v = Far ∨ (-1073741824 ≤ jac n a b c d0 t v ∧ jac n a b c d0 t v ≤ 1073741824) := by
  rcases jac_bnd hG h0 t v hv with h | h
  · exact .inl h
  · right; omega

/-- a number at each node that no edge makes less is no greater -/
theorem jac_low (hG : Gr M n a b c) {P : Nat → Int} (h1 : ∀ v, v < M → P v ≤ d0 v) (h2 : ∀ i, i < n → P (a i) < Far → P (b i) ≤ P (a i) + c i) : ∀ (t v : Nat), v < M → P v ≤ jac n a b c d0 t v
  | 0, v, hv => h1 v hv
  | t + 1, v, hv => by
    show _ ≤ jstep a b c (jac n a b c d0 t) n v
    rcases jstep_from (a := a) (b := b) (c := c) (d := jac n a b c d0 t) n v with h | ⟨k, g1, g2, g3, g4⟩
    · rw [h]; exact jac_low hG h1 h2 t v hv
    · have := jac_low hG h1 h2 t (a k) (hG.ra k g1)
      have := h2 k g1 (by omega)
      rw [g2] at this
      omega

theorem Sol.jacM (hG : Gr M n a b c) (h0 : ∀ v, v < M → d0 v = 0 ∨ d0 v = Far) (h : Sol M n a b c d0 d via) : ∀ v, v < M → jac n a b c d0 M v = d v := by
  intro v hv
  have hlo := jac_low hG h.le0 h.feas M v hv
  have ha : ∀ v, v < M → via v ≠ -1 → a (via v).toNat < M := fun v hv hvia => by
    obtain ⟨i, hi, h1, _⟩ := h.edg v hv hvia
    rw [h1, Int.toNat_natCast]; exact hG.ra i hi
  have key : ∀ t v, v < M → via (pit a via t v) = -1 → jac n a b c d0 t v ≤ d v := by
    intro t
    induction t with
    | zero =>
      intro v hv hvia
      show d0 v ≤ d v
      rw [h.ini v hv hvia]; exact Int.le_refl _
    | succ t ih =>
      intro v hv hvia
      by_cases e : via v = -1
      · have := jac_mono (n := n) (a := a) (b := b) (c := c) (d0 := d0) (t := 0) (v := v) (t + 1)
        rw [Nat.zero_add] at this
        rw [h.ini v hv e]; exact this
      · obtain ⟨i, hi, g1, g2, g3, g4, g5⟩ := h.edg v hv e
        have hp : pit a via (t + 1) v = pit a via t (a i) := by show pit a via t (a (via v).toNat) = _; rw [g1, Int.toNat_natCast]
        rw [hp] at hvia
        have h1 := ih (a i) (hG.ra i hi) hvia
        have h2 := jstep_ed (a := a) (b := b) (c := c) (d := jac n a b c d0 t) n i hi (by omega)
        rw [g2] at h2
        show jstep a b c (jac n a b c d0 t) n v ≤ d v
        omega
  obtain ⟨t, ht, hvia⟩ := h.acy v hv
  have h1 := key t v hv hvia
  have h2 := jac_mono (n := n) (a := a) (b := b) (c := c) (d0 := d0) (t := t) (v := v) (M - t)
  rw [show t + (M - t) = M by omega] at h2
  omega

theorem Sol.stl (hG : Gr M n a b c) (h0 : ∀ v, v < M → d0 v = 0 ∨ d0 v = Far) (h : Sol M n a b c d0 d via) : Stl n a b c (jac n a b c d0 M) := fun i hi hf => by
  rw [h.jacM hG h0 _ (hG.ra i hi)] at hf ⊢
  rw [h.jacM hG h0 _ (hG.rb i hi)]
  exact h.feas i hi hf

theorem Bst.notStl (hG : Gr M n a b c) (h0 : ∀ v, v < M → d0 v = 0 ∨ d0 v = Far) (h : Bst M n a b c d0 d via rd (M + 1) 0) {v : Nat} (hv : v < M) (hr : rd v = M + 1) : ¬ Stl n a b c (jac n a b c d0 M) := fun hs => by
  obtain ⟨hall, m, hm, hc⟩ := h.circle hG hv hr
  have hM := hG.M1
  have fin : ∀ v, v < M → d v < Far → jac n a b c d0 M v < Far := h.rch _ (fun v hv hf => by
    have := jac_mono (n := n) (a := a) (b := b) (c := c) (d0 := d0) (t := 0) (v := v) M
    rw [Nat.zero_add] at this
    exact Int.lt_of_le_of_lt this hf) fun i hi hf => by
    have := hs i hi hf
    have := hG.hi i hi
    have := jac_far hG h0 (t := M) (by omega) (hG.ra i hi)
    have hF : Far = 4611686018427387904 := rfl
    omega
  have hin : ∀ t, pit a via t (pit a via M v) < M := fun t => by rw [← pit_add]; exact (hall _).1
  have hvi : ∀ t, via (pit a via t (pit a via M v)) ≠ -1 := fun t => by rw [← pit_add]; exact (hall _).2
  have hlt := h.cyc (pit a via M v) m (hall M).1 hm (fun t _ => hvi t) hc
  have hge := psm_ge (a := a) (c := c) (via := via) (p := jac n a b c d0 M) (t := m) (v := pit a via M v) fun k _ => by
    rw [pit_succ]
    obtain ⟨i, hi, g1, g2, g3, g4, g5, _⟩ := h.edg _ (hin k) (hvi k)
    have := hs i hi (fin _ (hG.ra i hi) g3)
    rw [g1, Int.toNat_natCast, ← g2]; omega
  rw [hc] at hge
  omega
end
end Go.Mz

/-
  Walks of layer 8: wrong, empty, Reverse of a slice, relax.
-/
namespace Go.Mz
section
variable {E : Value → Hp → Prop}

abbrev ga (e : Nat → Edg) (i : Nat) : Nat := (e i).fr.toNat
abbrev gb (e : Nat → Edg) (i : Nat) : Nat := (e i).to.toNat
abbrev gc (e : Nat → Edg) (i : Nat) : Int := (e i).co

theorem Right.gr {N : Int} {n : Nat} {e : Nat → Edg} (h : Right N n e) : Gr N.toNat n (ga e) (gb e) (gc e) where
  ra := fun i hi => by have q := h.ed i hi; have := q.f0; have := q.f1; unfold ga; omega
  rb := fun i hi => by have q := h.ed i hi; have := q.t0; have := q.t1; unfold gb; omega
  lo := fun i hi => (h.ed i hi).k0
  hi := fun i hi => (h.ed i hi).k1
  M1 := by have := h.N1; omega
  n1 := h.n1

/-- a graph's fault, or its node's -/
def wrg (N : Int) (n : Nat) (e : Nat → Edg) (s : Int) : Int := if chk N n e = 0 then (if s < 0 ∨ N ≤ s then 30 else 0) else chk N n e

theorem wrg_zero {N : Int} {n : Nat} {e : Nat → Edg} {s : Int} : wrg N n e s = 0 ↔ Right N n e ∧ 0 ≤ s ∧ s < N := by
  unfold wrg
  rw [← chk_zero]
  split
  · rename_i h
    split
    · rename_i h'
      constructor
      · intro h; cases h
      · intro h; omega
    · rename_i h'
      constructor
      · intro _; exact ⟨h, by omega, by omega⟩
      · intro _; rfl
  · rename_i h
    constructor
    · intro h'; exact (h h').elim
    · intro h'; exact (h h'.1).elim

theorem swrong {N s : Int} {p : Option Addr} {n c : Nat} {e : Nat → Edg} {H : Hp} {K : Int → Hp → Prop} (he : Rdr H p n e) (hn : n < 2 ^ 63)
    (k : ∀ H', Step (fun _ => False) H H' → K (wrg N n e s) H') : short_wrong.call N p n c s E H K := by
  refine short_wrong.of (short_wrong.run_eq ?_)
  unfold short_wrong.run_t
  refine nwk fun b1 H1 hb1 e1 s1 => ?_
  simp only [get_at e1, List.getElem?_cons_zero, List.getElem?_cons_succ, ldI_mk, ldS_mk]
  refine gcheck (he.keep s1 fun _ _ _ h => h) hn fun H2 a s2 => ?_
  refine nwst rfl rfl fun b3 H3 hb3 e3 s3 => ?_
  have e13 := (s2.and s3).keep _ _ e1 fun h => h
  have s03 := (s1.and s2).and s3
  have k := k H3 s03
  have j1 : (chk N n e = 0 → ¬ (s < 0 ∨ N ≤ s)) → short_wrong.j1 b3 E H3 K := fun h => by
    refine short_wrong.j1_eq ?_
    unfold short_wrong.j1_t
    simp only [get_at e3, List.getElem?_cons_zero, List.getElem?_cons_succ, ldI_mk, ldS_mk]
    have e : wrg N n e s = chk N n e := by
      unfold wrg
      split
      · rename_i h'; rw [if_neg (h h'), h']
      · rfl
    rwa [e] at k
  simp only [get_at e3, get_at e13, List.getElem?_cons_zero, List.getElem?_cons_succ, ldI_mk, ldS_mk]
  refine bc (fun h => ?_) fun h => j1 fun h' => (h h').elim
  have bad : (s < 0 ∨ N ≤ s) → K 30 H3 := fun h' => by
    have e : wrg N n e s = 30 := by unfold wrg; rw [if_pos h, if_pos h']
    rwa [e] at k
  refine bc (fun h' => bad (.inl h')) fun h1 => ?_
  refine bc (fun h' => bad (.inr h')) fun h2 => ?_
  exact j1 fun _ h => h.elim h1 h2

theorem sempty {N : Int} {H : Hp} {K : Option Addr → Nat → Nat → Option Addr → Nat → Nat → Hp → Prop} (hN0 : 0 ≤ N) (hN1 : N ≤ 1024)
    (k : ∀ d v H', Step (fun _ => False) H H' → H d = none → H v = none → d ≠ v → Row H' (some ⟨d, 0, none⟩) N.toNat N.toNat (fun _ => Far) → Row H' (some ⟨v, 0, none⟩) N.toNat N.toNat (fun _ => (-1 : Int)) → K (some ⟨d, 0, none⟩) N.toNat N.toNat (some ⟨v, 0, none⟩) N.toNat N.toNat H') : short_empty.call N E H K := by
  refine short_empty.of (short_empty.run_eq ?_)
  unfold short_empty.run_t
  refine nwk fun b1 H1 hb1 e1 s1 => ?_
  refine Row.mkI hN0 (by omega) fun bd H2 hbd rd s2 => ?_
  refine Row.mkI hN0 (by omega) fun bv H3 hbv rv s3 => ?_
  refine nwst rfl rfl fun b4 H4 hb4 e4 s4 => ?_
  have e14 := ((s2.and s3).and s4).keep _ _ e1 fun h => h
  have rd4 := rd.keep (s3.and s4) fun _ _ h => h
  have rv4 := rv.keep s4 fun _ _ h => h
  have s04 := ((s1.and s2).and s3).and s4
  have fd : H bd = none := s1.mono _ hbd
  have fv : H bv = none := (s1.and s2).mono _ hbv
  have dv : bd ≠ bv := ne_of_live hbv (rd.live ⟨0, rfl⟩)
  have d1d : b1 ≠ bd := ne_of_live hbd (by rw [e1]; exact fun h => by cases h)
  have d1v : b1 ≠ bv := ne_of_live hbv (by rw [s2.keep _ _ e1 fun h => h]; exact fun h => by cases h)
  have d4d : bd ≠ b4 := ne_of_live hb4 ((rd.keep s3 fun _ _ h => h).live ⟨0, rfl⟩)
  have d4v : bv ≠ b4 := ne_of_live hb4 (rv.live ⟨0, rfl⟩)
  have d14 : b1 ≠ b4 := ne_of_live hb4 (by rw [(s2.and s3).keep _ _ e1 fun h => h]; exact fun h => by cases h)
  have f4 : H b4 = none := ((s1.and s2).and s3).mono _ hb4
  refine short_empty.l1_rule (fun t2 t3 t10 t11 H' => t2 = b1 ∧ t3 = b4 ∧ t10 = N ∧ ∃ i : Nat, t11 = i ∧ i ≤ N.toNat ∧ Step (fun _ => False) H H' ∧ H' b1 = some ⟨[.slice none 0 0, .slice none 0 0], 54⟩ ∧ H' b4 = some ⟨[.slice (some ⟨bd, 0, none⟩) N.toNat N.toNat, .slice (some ⟨bv, 0, none⟩) N.toNat N.toNat], 54⟩ ∧
      (∃ f, Row H' (some ⟨bd, 0, none⟩) N.toNat N.toNat f ∧ ∀ u, u < i → f u = Far) ∧ ∃ f, Row H' (some ⟨bv, 0, none⟩) N.toNat N.toNat f ∧ ∀ u, u < i → f u = (-1 : Int))
    (fun t2 t3 t10 t11 H' => N.toNat - t11.toNat) ?_ ⟨rfl, rfl, rfl, 0, rfl, Nat.zero_le _, s04, e14, e4, ⟨_, rd4, fun u hu => by omega⟩, ⟨_, rv4, fun u hu => by omega⟩⟩
  rintro t2 t3 t10 t11 H5 ⟨rfl, rfl, rfl, i, rfl, hi, s5, c1, c4, ⟨f, r5, hf⟩, ⟨g, q5, hg⟩⟩ X hX
  refine short_empty.b1_eq ?_
  unfold short_empty.b1_t
  refine bc (fun hlt => ?_) fun hge => ?_
  · simp only [get_at c4, List.getElem?_cons_zero, List.getElem?_cons_succ, ldI_mk, ldS_mk]
    refine r5.stI (by omega) (by omega) _ fun H6 r6 s6 => ?_
    have s6 : Step (· = bd) H5 H6 := s6.weak fun y hy => by rw [fpS_mk] at hy; exact .inl hy
    have c46 := s6.keep _ _ c4 fun h => d4d h.symm
    have c16 := s6.keep _ _ c1 d1d
    have q6 := q5.keep s6 fun y hy h => by rw [fpS_mk] at hy; exact dv (h.symm.trans hy)
    simp only [get_at c46, List.getElem?_cons_zero, List.getElem?_cons_succ, ldI_mk, ldS_mk]
    refine ⟨trivial, ?_⟩
    refine q6.stI (by omega) (by omega) _ fun H7 r7 s7 => ?_
    have s7 : Step (· = bv) H6 H7 := s7.weak fun y hy => by rw [fpS_mk] at hy; exact .inl hy
    simp only [Int.toNat_natCast] at r6 r7
    rw [i64w (by omega) (by omega)]
    refine hX _ _ _ _ _ ⟨rfl, rfl, rfl, i + 1, by omega, by omega, (s5.own s6 fun y hy => hy ▸ fd).own s7 fun y hy => hy ▸ fv, s7.keep _ _ c16 d1v, s7.keep _ _ c46 fun h => d4v h.symm, ⟨_, r6.keep s7 fun y hy h => (by rw [fpS_mk] at hy; exact dv (hy.symm.trans h)), fun u hu => ?_⟩, ⟨_, r7, fun u hu => ?_⟩⟩ (by omega)
    · by_cases e : u = i
      · subst e; rw [upf_same]
      · rw [upf_ne e]; exact hf u (by omega)
    · by_cases e : u = i
      · subst e; rw [upf_same]
      · rw [upf_ne e]; exact hg u (by omega)
  · refine short_empty.j1_eq ?_
    unfold short_empty.j1_t
    have : i = t10.toNat := by omega
    subst this
    simp only [get_at c4, List.getElem?_cons_zero, List.getElem?_cons_succ, ldI_mk, ldS_mk]
    refine stk c1 rfl rfl fun H6 e6 s6 => ?_
    simp only [get_at e6, List.getElem?_cons_zero, List.getElem?_cons_succ, ldI_mk, ldS_mk]
    refine k bd bv H6 (s5.own s6 fun y hy => hy ▸ hb1) fd fv dv ((r5.congr hf).keep s6 fun y hy h => ?_) ((q5.congr hg).keep s6 fun y hy h => ?_)
    · rw [fpS_mk] at hy; exact d1d (h.symm.trans hy)
    · rw [fpS_mk] at hy; exact d1v (h.symm.trans hy)

/-- the numbers of a slice in the other order -/
theorem sreverse {p : Option Addr} {n c : Nat} {f : Nat → Int} {H : Hp} {K : Hp → Prop} (hr : Row H p n c f) (hn : n < 2 ^ 62)
    (k : ∀ H', Row H' p n c (fun i => f (n - 1 - i)) → Step (fpS p) H H' → K H') : slices_Reverse.call p n c E H K := by
  refine slices_Reverse.of (slices_Reverse.run_eq ?_)
  unfold slices_Reverse.run_t
  rw [i64w (by omega) (by omega)]
  refine slices_Reverse.l1_rule (fun sp sn sc i2 j3 H' => sp = p ∧ sn = n ∧ sc = c ∧ ∃ i : Nat, i2 = i ∧ j3 = (n : Int) - 1 - i ∧ 2 * i ≤ n + 1 ∧ Step (fpS p) H H' ∧ ∃ g, Row H' p n c g ∧ ∀ u, u < n → g u = if u < i ∨ n ≤ u + i then f (n - 1 - u) else f u)
    (fun sp sn sc i2 j3 H' => n - i2.toNat) ?_ ⟨rfl, rfl, rfl, 0, rfl, by omega, by omega, .refl, f, hr, fun u hu => by rw [if_neg (by omega)]⟩
  rintro sp sn sc i2 j3 H1 ⟨rfl, rfl, rfl, i, rfl, rfl, hi, s1, g, r1, hg⟩ X hX
  refine slices_Reverse.b1_eq ?_
  unfold slices_Reverse.b1_t
  refine bc (fun hlt => ?_) fun hge => ?_
  · have ej : ((sn : Int) - 1 - (i : Int)).toNat = sn - 1 - i := by omega
    refine r1.ixI (by omega) (by omega) ?_
    refine r1.ixI (by omega) (by omega) ?_
    refine r1.stI (by omega) (by omega) _ fun H2 r2 s2 => ?_
    refine r2.stI (by omega) (by omega) _ fun H3 r3 s3 => ?_
    rw [i64w (by omega) (by omega), i64w (by omega) (by omega)]
    rw [ej] at r2 r3
    simp only [Int.toNat_natCast] at r2 r3
    refine hX _ _ _ _ _ _ ⟨rfl, rfl, rfl, i + 1, by omega, by omega, by omega, (s1.trans s2 fun _ h => .inl h).trans s3 fun _ h => .inl h, _, r3, fun u hu => ?_⟩ (by omega)
    by_cases e1 : u = sn - 1 - i
    · subst e1
      rw [upf_same, if_pos (by omega), hg i (by omega), if_neg (by omega)]
      congr 1; omega
    · rw [upf_ne e1]
      by_cases e2 : u = i
      · subst e2
        rw [upf_same, if_pos (by omega), hg _ (by omega), if_neg (by omega)]
      · rw [upf_ne e2, hg u hu]
        by_cases h : u < i ∨ sn ≤ u + i
        · rw [if_pos h, if_pos (by omega)]
        · rw [if_neg h, if_neg (by omega)]
  · refine k H1 (r1.congr fun u hu => ?_) s1
    rw [hg u hu]
    split
    · rfl
    · rename_i h
      have : u = sn - 1 - u := by omega
      rw [← this]
end
end Go.Mz

/-
  Walks of layer 8: relax, round.
-/
namespace Go.Mz
section
variable {E : Value → Hp → Prop}

/-- a graph's ends as numbers -/
theorem RightE.nat {N : Int} {x : Edg} (h : RightE N x) : ∃ u v : Nat, x.fr = u ∧ x.to = v ∧ u < N.toNat ∧ v < N.toNat :=
  ⟨x.fr.toNat, x.to.toNat, by have := h.f0; omega, by have := h.t0; omega, by have := h.f0; have := h.f1; omega, by have := h.t0; have := h.t1; omega⟩

/-- what relax leaves -/
def Rlx (N : Int) (n : Nat) (e : Nat → Edg) (d0 d via : Nat → Int) (last : Int) : Prop :=
  (last = -1 ∧ Sol N.toNat n (ga e) (gb e) (gc e) d0 d via) ∨ ∃ (v : Nat) (rd : Nat → Nat), last = v ∧ v < N.toNat ∧ Bst N.toNat n (ga e) (gb e) (gc e) d0 d via rd (N.toNat + 1) 0 ∧ rd v = N.toNat + 1

theorem srelax {N : Int} {ep dp vp : Option Addr} {n ec dc vc : Nat} {e : Nat → Edg} {d0 : Nat → Int} {H : Hp} {K : Int → Hp → Prop} (he : Rdr H ep n e) (hr : Right N n e) (rd0 : Row H dp N.toNat dc d0) (rv0 : Row H vp N.toNat vc (fun _ => (-1 : Int)))
    (hdv : ∀ y, fpS dp y → ¬ fpS vp y) (hE : 0 < n → ∀ y, fpS ep y → ¬ fpS dp y ∧ ¬ fpS vp y) (h0 : ∀ v, v < N.toNat → d0 v = 0 ∨ d0 v = Far)
    (k : ∀ H' last d via, Step (fun y => fpS dp y ∨ fpS vp y) H H' → Row H' dp N.toNat dc d → Row H' vp N.toNat vc via → Rlx N n e d0 d via last → K last H') :
    short_relax.call N ep n ec dp N.toNat dc vp N.toNat vc E H K := by
  have hG := hr.gr
  have hN0 := hr.N0; have hN1 := hr.N1; have hn1 := hr.n1
  have hd0 : ∀ v, v < N.toNat → d0 v ≤ Far := fun v hv => by
    have hF : Far = 4611686018427387904 := rfl
    rcases h0 v hv with h | h <;> omega
  refine short_relax.of (short_relax.run_eq ?_)
  unfold short_relax.run_t
  refine nwk fun b1 H1 hb1 e1 s1 => ?_
  refine nwk fun b2 H2 hb2 e2 s2 => ?_
  have e12 := s2.keep _ _ e1 fun h => h
  have s02 := s1.and s2
  have f2 : H b2 = none := s1.mono _ hb2
  simp only [get_at e12, List.getElem?_cons_zero, List.getElem?_cons_succ, ldI_mk, ldS_mk]
  rw [i64w (by omega) (by omega)]
  have dl : ∀ y, fpS dp y → y ≠ b1 ∧ y ≠ b2 := fun y hy => ⟨fun e => rd0.live hy (e ▸ hb1), fun e => rd0.live hy (e ▸ f2)⟩
  have vl : ∀ y, fpS vp y → y ≠ b1 ∧ y ≠ b2 := fun y hy => ⟨fun e => rv0.live hy (e ▸ hb1), fun e => rv0.live hy (e ▸ f2)⟩
  refine short_relax.l1_rule (fun g2 t3 last5 t10 t11 H' => g2 = b1 ∧ t3 = b2 ∧ t10 = N + 1 ∧ ∃ (r : Nat) (d via : Nat → Int) (rd : Nat → Nat), t11 = r ∧ r ≤ N.toNat + 1 ∧ Bst N.toNat n (ga e) (gb e) (gc e) d0 d via rd r 0 ∧ (∀ v, v < N.toNat → rd v ≤ r) ∧ (last5 = -1 ∧ r = 0 ∨ ∃ v : Nat, last5 = v ∧ v < N.toNat ∧ rd v = r) ∧ Row H' dp N.toNat dc d ∧ Row H' vp N.toNat vc via ∧
      Step (fun y => fpS dp y ∨ fpS vp y) H H' ∧ H' b1 = some ⟨[.int .i64 N, .slice ep n ec], 51⟩ ∧ H' b2 = some ⟨[.slice dp N.toNat dc, .slice vp N.toNat vc], 54⟩)
    (fun g2 t3 last5 t10 t11 H' => N.toNat + 1 - t11.toNat) ?_ ⟨rfl, rfl, rfl, 0, d0, _, _, rfl, by omega, Bst.start h0, fun v _ => Nat.le_refl _, .inl ⟨rfl, rfl⟩, rd0.keep s02 fun _ _ h => h, rv0.keep s02 fun _ _ h => h, s02.weak fun _ h => h.elim, e12, e2⟩
  clear e1 e2 s1 s2 s02 e12
  rintro g2 t3 last5 t10 t11 H3 ⟨rfl, rfl, rfl, r, d, via, rd, rfl, hr1, hB, hrd, hlast, rD, rV, s3, c1, c2⟩ X hX
  refine short_relax.b1_eq ?_
  unfold short_relax.b1_t
  refine bc (fun hlt => ?_) fun hge => ?_
  · simp only [get_at c1, List.getElem?_cons_zero, List.getElem?_cons_succ, ldI_mk, ldS_mk]
    refine short_relax.l2_rule (fun a2 a3 last5 a10 a11 p14 n14 c14 t15 t16 H' => a2 = g2 ∧ a3 = t3 ∧ a10 = N + 1 ∧ a11 = r ∧ p14 = ep ∧ n14 = n ∧ t15 = n ∧ ∃ (j : Nat) (d via : Nat → Int) (rd : Nat → Nat), t16 = j ∧ j ≤ n ∧ Bst N.toNat n (ga e) (gb e) (gc e) d0 d via rd r j ∧ (last5 = -1 ∧ (∀ v, v < N.toNat → rd v ≤ r) ∨ ∃ v : Nat, last5 = v ∧ v < N.toNat ∧ rd v = r + 1) ∧ Row H' dp N.toNat dc d ∧ Row H' vp N.toNat vc via ∧
        Step (fun y => fpS dp y ∨ fpS vp y) H H' ∧ H' g2 = some ⟨[.int .i64 N, .slice ep n ec], 51⟩ ∧ H' t3 = some ⟨[.slice dp N.toNat dc, .slice vp N.toNat vc], 54⟩)
      (fun a2 a3 last5 a10 a11 p14 n14 c14 t15 t16 H' => n - t16.toNat) ?_ ⟨rfl, rfl, rfl, rfl, rfl, rfl, rfl, 0, d, via, rd, rfl, by omega, hB, .inl ⟨rfl, hrd⟩, rD, rV, s3, c1, c2⟩
    clear hB hrd hlast rD rV s3 c1 c2
    rintro a2 a3 last5 a10 a11 p14 n14 c14 t15 t16 H4 ⟨rfl, rfl, rfl, rfl, rfl, rfl, rfl, j, d, via, rd, rfl, hj, hB, hlast, rD, rV, s4, c1, c2⟩ Y hY
    refine short_relax.b2_eq ?_
    unfold short_relax.b2_t
    refine bc (fun hlt2 => ?_) fun hge2 => ?_
    · have he4 := he.keep s4 fun y hy hl h => h.elim (hE (by omega) y hy).1 (hE (by omega) y hy).2
      obtain ⟨u, w, hu, hw, hun, hwn⟩ := (hr.ed j (by omega)).nat
      have hk0 := (hr.ed j (by omega)).k0
      have hk1 := (hr.ed j (by omega)).k1
      have eu : ga e j = u := by unfold ga; omega
      have ew : gb e j = w := by unfold gb; omega
      refine he4.edge (by omega) (by omega) ?_
      simp only [Int.toNat_natCast]
      rw [hu, hw]
      refine nwst rfl rfl fun b4 H5 hb4 e4 s5 => ?_
      have c15 := s5.keep _ _ c1 fun h => h
      have c25 := s5.keep _ _ c2 fun h => h
      have rD5 := rD.keep s5 fun _ _ h => h
      have rV5 := rV.keep s5 fun _ _ h => h
      have s05 := s4.and s5
      have d4 : ∀ y, fpS dp y ∨ fpS vp y → y ≠ b4 := fun y hy e => hy.elim (fun h => rD.live h (e ▸ hb4)) fun h => rV.live h (e ▸ hb4)
      have bd := hB.bnd u hun
      have hmul : r * n14 ≤ 1025 * 4096 := Nat.mul_le_mul (by omega) hn1
      have next : ∀ (H' : Hp) (last : Int) (d via : Nat → Int) (rd : Nat → Nat), Bst N.toNat n14 (ga e) (gb e) (gc e) d0 d via rd r (j + 1) → (last = -1 ∧ (∀ v, v < N.toNat → rd v ≤ r) ∨ ∃ v : Nat, last = v ∧ v < N.toNat ∧ rd v = r + 1) → Row H' dp N.toNat dc d → Row H' vp N.toNat vc via →
          Step (fun y => fpS dp y ∨ fpS vp y) H H' → H' a2 = some ⟨[.int .i64 N, .slice p14 n14 ec], 51⟩ → H' a3 = some ⟨[.slice dp N.toNat dc, .slice vp N.toNat vc], 54⟩ → short_relax.j1 a2 a3 last (N + 1) (r : Int) p14 n14 c14 (n14 : Int) (j : Int) X Y E H' K := fun H' last d via rd q1 q2 q3 q4 q5 q6 q7 => by
        refine short_relax.j1_eq ?_
        unfold short_relax.j1_t
        rw [i64w (by omega) (by omega)]
        exact hY _ _ _ _ _ _ _ _ _ _ _ ⟨rfl, rfl, rfl, rfl, rfl, rfl, rfl, j + 1, d, via, rd, by omega, by omega, q1, q2, q3, q4, q5, q6, q7⟩ (by omega)
      have skip : (d u < Far → d w ≤ d u + gc e j) → short_relax.j1 a2 a3 last5 (N + 1) (r : Int) p14 n14 c14 (n14 : Int) (j : Int) X Y E H5 K := fun hs => next H5 last5 d via rd (hB.skip (by omega) (by rw [eu, ew]; exact hs)) hlast rD5 rV5 s05 c15 c25
      try simp only [get_at c25, get_at e4, List.getElem?_cons_zero, List.getElem?_cons_succ, ldI_mk, ldS_mk]
      refine rD5.ixI (by omega) (by omega) ?_
      simp only [Int.toNat_natCast]
      refine bc (fun hf => ?_) fun hf => skip fun h => (hf h).elim
      try simp only [get_at c25, get_at e4, List.getElem?_cons_zero, List.getElem?_cons_succ, ldI_mk, ldS_mk]
      refine rD5.ixI (by omega) (by omega) ?_
      simp only [Int.toNat_natCast]
      try simp only [get_at c25, get_at e4, List.getElem?_cons_zero, List.getElem?_cons_succ, ldI_mk, ldS_mk]
      refine rD5.ixI (by omega) (by omega) ?_
      simp only [Int.toNat_natCast]
      have hco : (e j).co = gc e j := rfl
      rw [hco] at hk0 hk1 ⊢
      have hF : Far = 4611686018427387904 := rfl
      have hsum : IntKind.wrap .i64 (d u + gc e j) = d u + gc e j := i64w (by omega) (by omega)
      refine bc (fun hl => ?_) fun hl => skip fun _ => by simp only [Int.toNat_natCast, hsum] at hl; omega
      simp only [Int.toNat_natCast, hsum] at hl
      try simp only [get_at c25, get_at e4, List.getElem?_cons_zero, List.getElem?_cons_succ, ldI_mk, ldS_mk]
      refine rD5.ixI (by omega) (by omega) ?_
      simp only [Int.toNat_natCast]
      try simp only [get_at c25, get_at e4, List.getElem?_cons_zero, List.getElem?_cons_succ, ldI_mk, ldS_mk]
      rw [hsum]
      refine rD5.stI (by omega) (by omega) _ fun H6 r6 s6 => ?_
      simp only [Int.toNat_natCast] at r6
      have c26 := s6.keep _ _ c25 fun h => (dl _ h).2 rfl
      have c16 := s6.keep _ _ c15 fun h => (dl _ h).1 rfl
      have e46 := s6.keep _ _ e4 fun h => d4 _ (.inl h) rfl
      have rV6 := rV5.keep s6 fun y hy h => hdv y h hy
      simp only [get_at c26, get_at e46, List.getElem?_cons_zero, List.getElem?_cons_succ, ldI_mk, ldS_mk]
      refine ⟨trivial, trivial, ?_⟩
      refine rV6.stI (by omega) (by omega) _ fun H7 r7 s7 => ?_
      simp only [Int.toNat_natCast] at r7
      have c27 := s7.keep _ _ c26 fun h => (vl _ h).2 rfl
      have c17 := s7.keep _ _ c16 fun h => (vl _ h).1 rfl
      have e47 := s7.keep _ _ e46 fun h => d4 _ (.inr h) rfl
      have rD7 := r6.keep s7 fun y hy h => hdv y hy h
      simp only [get_at e47, List.getElem?_cons_zero, List.getElem?_cons_succ, ldI_mk, ldS_mk]
      have hL := hB.lower hG (by omega) (by rw [eu]; exact hf) (by rw [eu, ew]; exact hl) hd0
      rw [eu, ew] at hL
      refine next H7 w _ _ _ hL (.inr ⟨w, rfl, hwn, upf_same⟩) rD7 r7 ((s05.trans s6 fun _ h => .inl (.inl h)).trans s7 fun _ h => .inl (.inr h)) c17 c27
    · have : j = n14 := by omega
      subst this
      refine short_relax.j2_eq ?_
      unfold short_relax.j2_t
      have hB' := hB.round
      rcases hlast with ⟨rfl, hup⟩ | ⟨v, rfl, hv, hvr⟩
      · refine bc (fun _ => ?_) fun h => (h (by decide)).elim
        exact k H4 (-1) d via s4 rD rV (.inl ⟨rfl, hB'.sol hG (by omega) fun v hv => by have := hup v hv; omega⟩)
      · refine bc (fun h => by omega) fun _ => ?_
        rw [i64w (by omega) (by omega)]
        exact hX _ _ _ _ _ _ ⟨rfl, rfl, rfl, r + 1, d, via, rd, by omega, by omega, hB', fun u hu => hB.rdl u hu, .inr ⟨v, rfl, hv, hvr⟩, rD, rV, s4, c1, c2⟩ (by omega)
  · have : r = N.toNat + 1 := by omega
    subst this
    rcases hlast with ⟨_, h⟩ | ⟨v, h1, h2, h3⟩
    · omega
    · exact k H3 last5 d via s3 rD rV (.inr ⟨v, rd, h1, h2, hB, h3⟩)
end
end Go.Mz

/-
  Layer 8: the circle that is found: plain law; round walked.
-/
namespace Go.Mz

/-- a circle that costs less than nothing, from which all is near -/
structure Cyc (N : Int) (n : Nat) (e : Nat → Edg) (m : Nat) (f : Nat → Int) : Prop where
  m0 : 0 < m
  mn : m ≤ n
  rg : ∀ k, k < m → 0 ≤ f k ∧ f k < (n : Int)
  on : ∀ k, k < m → gb e (f k).toNat = ga e (f ((k + 1) % m)).toNat
  df : ∀ k k', k < m → k' < m → k ≠ k' → gb e (f k).toNat ≠ gb e (f k').toNat
  cs : cst e f m < 0

theorem cst_psm {e : Nat → Edg} {via : Nat → Int} {x m : Nat} {f : Nat → Int} (hf : ∀ k, k < m → f k = via (pit (ga e) via (m - 1 - k) x)) : ∀ k, k ≤ m → cst e f k + psm (ga e) (gc e) via (m - k) x = psm (ga e) (gc e) via m x := by
  intro k
  induction k with
  | zero => intro _; simp [cst]
  | succ k ih =>
    intro hk
    have := ih (by omega)
    rw [show m - k = (m - (k + 1)) + 1 by omega, psm_succ] at this
    show cst e f k + (e (f k).toNat).co + _ = _
    rw [hf k (by omega), show m - 1 - k = m - (k + 1) by omega]
    have h : (e (via (pit (ga e) via (m - (k + 1)) x)).toNat).co = gc e (via (pit (ga e) via (m - (k + 1)) x)).toNat := rfl
    rw [h]
    omega

theorem Bst.cyc' {N : Int} {n : Nat} {e : Nat → Edg} {d0 d via : Nat → Int} {rd : Nat → Nat} (hr : Right N n e) (h : Bst N.toNat n (ga e) (gb e) (gc e) d0 d via rd (N.toNat + 1) 0) {x m : Nat} (hx : ∀ t, pit (ga e) via t x < N.toNat ∧ via (pit (ga e) via t x) ≠ -1) (hm : 0 < m) (hc : pit (ga e) via m x = x) (hmin : ∀ k, 0 < k → k < m → pit (ga e) via k x ≠ x)
    {f : Nat → Int} (hf : ∀ k, k < m → f k = via (pit (ga e) via (m - 1 - k) x)) : Cyc N n e m f ∧ ga e (f 0).toNat = x ∧ d x < Far := by
  have hed : ∀ t, ∃ i, i < n ∧ via (pit (ga e) via t x) = (i : Int) ∧ gb e i = pit (ga e) via t x ∧ ga e i = pit (ga e) via (t + 1) x := fun t => by
    obtain ⟨i, h1, h2, h3, _⟩ := h.edg _ (hx t).1 (hx t).2
    exact ⟨i, h1, h2, h3, by rw [pit_succ, h2, Int.toNat_natCast]⟩
  have hinj : ∀ s t, s < t → t < m → pit (ga e) via s x ≠ pit (ga e) via t x := fun s t h1 h2 he => by
    refine hmin (m - t + s) (by omega) (by omega) ?_
    rw [Nat.add_comm, pit_add, he, ← pit_add, show t + (m - t) = m by omega]
    exact hc
  have hne : ∀ s t, s < m → t < m → s ≠ t → pit (ga e) via s x ≠ pit (ga e) via t x := fun s t h1 h2 hst => by
    rcases Nat.lt_or_gt_of_ne hst with h | h
    · exact hinj s t h h2
    · exact fun e => hinj t s h h1 e.symm
  have hfk : ∀ k, k < m → ∃ i, i < n ∧ f k = (i : Int) ∧ gb e i = pit (ga e) via (m - 1 - k) x ∧ ga e i = pit (ga e) via (m - k) x := fun k hk => by
    obtain ⟨i, h1, h2, h3, h4⟩ := hed (m - 1 - k)
    exact ⟨i, h1, by rw [hf k hk, h2], h3, by rw [h4, show m - 1 - k + 1 = m - k by omega]⟩
  refine ⟨⟨hm, ?_, fun k hk => ?_, fun k hk => ?_, fun k k' hk hk' hkk => ?_, ?_⟩, ?_, ?_⟩
  · have hn : ((List.range m).map fun k => (f k).toNat).Nodup := by
      unfold List.Nodup
      rw [List.pairwise_map]
      refine List.Pairwise.imp_of_mem ?_ (List.pairwise_lt_range (n := m))
      intro s t hs ht hlt he
      rw [List.mem_range] at hs ht
      obtain ⟨i, h1, h2, h3, _⟩ := hfk s hs
      obtain ⟨i', h1', h2', h3', _⟩ := hfk t ht
      rw [h2, h2'] at he
      simp only [Int.toNat_natCast] at he
      subst he
      exact hne (m - 1 - s) (m - 1 - t) (by omega) (by omega) (by omega) (by rw [← h3, ← h3'])
    have := List.Nodup.length_le_of_subset (l₂ := List.range n) hn fun w hw => by
      obtain ⟨k, hk, rfl⟩ := List.mem_map.1 hw
      rw [List.mem_range] at hk ⊢
      obtain ⟨i, h1, h2, _⟩ := hfk k hk
      rw [h2, Int.toNat_natCast]; exact h1
    simpa using this
  · obtain ⟨i, h1, h2, _⟩ := hfk k hk
    omega
  · obtain ⟨i, h1, h2, h3, h4⟩ := hfk k hk
    rw [h2, Int.toNat_natCast, h3]
    by_cases he : k + 1 = m
    · rw [he, Nat.mod_self]
      obtain ⟨i', h1', h2', h3', h4'⟩ := hfk 0 hm
      rw [h2', Int.toNat_natCast, h4', Nat.sub_zero, hc, show m - 1 - k = 0 by omega]; rfl
    · rw [Nat.mod_eq_of_lt (by omega)]
      obtain ⟨i', h1', h2', h3', h4'⟩ := hfk (k + 1) (by omega)
      rw [h2', Int.toNat_natCast, h4', show m - 1 - k = m - (k + 1) by omega]
  · obtain ⟨i, h1, h2, h3, h4⟩ := hfk k hk
    obtain ⟨i', h1', h2', h3', h4'⟩ := hfk k' hk'
    rw [h2, h2', Int.toNat_natCast, Int.toNat_natCast, h3, h3']
    exact hne _ _ (by omega) (by omega) (by omega)
  · have h1 := cst_psm (e := e) (via := via) (x := x) hf m (Nat.le_refl _)
    rw [Nat.sub_self] at h1
    have h2 := h.cyc x m (hx 0).1 hm (fun t _ => (hx t).2) hc
    have h3 : psm (ga e) (gc e) via 0 x = 0 := rfl
    omega
  · obtain ⟨i', h1', h2', h3', h4'⟩ := hfk 0 hm
    rw [h2', Int.toNat_natCast, h4', Nat.sub_zero, hc]
  · obtain ⟨i, h1, h2, h3, h4, h5, h6, _⟩ := h.edg x (hx 0).1 (hx 0).2
    exact h6

section
variable {E : Value → Hp → Prop}

theorem sround {N : Int} {ep dp vp : Option Addr} {n ec dn dc vc v : Nat} {e : Nat → Edg} {d0 d via : Nat → Int} {rd : Nat → Nat} {H : Hp} {K : Option Addr → Nat → Nat → Hp → Prop} (he : Rdr H ep n e) (hr : Right N n e) (rV : Row H vp N.toNat vc via)
    (hB : Bst N.toNat n (ga e) (gb e) (gc e) d0 d via rd (N.toNat + 1) 0) (hv : v < N.toNat) (hrd : rd v = N.toNat + 1)
    (k : ∀ H' p m c f, Step (fun _ => False) H H' → Row H' p m c f → (∀ y, fpS p y → H y = none) → Cyc N n e m f → ga e (f 0).toNat < N.toNat → d (ga e (f 0).toNat) < Far → K p m c H') :
    short_round.call N ep n ec dp dn dc vp N.toNat vc v E H K := by
  have hG := hr.gr
  have hN0 := hr.N0; have hN1 := hr.N1; have hn1 := hr.n1
  obtain ⟨hall, m0, hm0, hc0⟩ := hB.circle hG hv hrd
  obtain ⟨x, hxd⟩ : ∃ x, pit (ga e) via N.toNat v = x := ⟨_, rfl⟩
  rw [hxd] at hc0
  obtain ⟨m, _, ⟨hm, hc⟩, hmin⟩ := least_of (p := fun m => 0 < m ∧ pit (ga e) via m x = x) (k := m0) ⟨hm0, hc0⟩
  have hx : ∀ t, pit (ga e) via t x < N.toNat ∧ via (pit (ga e) via t x) ≠ -1 := fun t => by rw [← hxd, ← pit_add]; exact hall _
  have hmin' : ∀ k, 0 < k → k < m → pit (ga e) via k x ≠ x := fun k h1 h2 h3 => hmin k h2 ⟨h1, h3⟩
  have hmn : m ≤ n := (hB.cyc' hr hx hm hc hmin' (f := fun k => via (pit (ga e) via (m - 1 - k) x)) fun k _ => rfl).1.mn
  have hvia : ∀ u, u < N.toNat → via u ≠ -1 → ∃ i : Nat, i < n ∧ via u = (i : Int) ∧ (e i).fr = (ga e i : Int) ∧ ga e i < N.toNat := fun u hu h => by
    obtain ⟨i, h1, h2, _⟩ := hB.edg u hu h
    have q := hr.ed i h1
    have := q.f0; have := q.f1
    exact ⟨i, h1, h2, by unfold ga; omega, by unfold ga; omega⟩
  refine short_round.of (short_round.run_eq ?_)
  unfold short_round.run_t
  refine nwk fun b1 H1 hb1 e1 s1 => ?_
  refine nwk fun b2 H2 hb2 e2 s2 => ?_
  have e12 := s2.keep _ _ e1 fun h => h
  have s02 := s1.and s2
  simp only [get_at e12, List.getElem?_cons_zero, List.getElem?_cons_succ, ldI_mk, ldS_mk]
  refine short_round.l1_rule (fun v2 g3 t4 t11 t12 H' => g3 = b1 ∧ t4 = b2 ∧ t11 = N ∧ H' = H2 ∧ ∃ t : Nat, t12 = t ∧ t ≤ N.toNat ∧ v2 = (pit (ga e) via t v : Int))
    (fun v2 g3 t4 t11 t12 H' => N.toNat - t12.toNat) ?_ ⟨rfl, rfl, rfl, rfl, 0, rfl, by omega, rfl⟩
  rintro v2 g3 t4 t11 t12 H' ⟨rfl, rfl, rfl, rfl, t, rfl, ht, rfl⟩ X hX
  have heH := he.keep s02 fun _ _ _ h => h
  have rVH := rV.keep s02 fun _ _ h => h
  refine short_round.b1_eq ?_
  unfold short_round.b1_t
  refine bc (fun hlt => ?_) fun hge => ?_
  · simp only [get_at e12, get_at e2, List.getElem?_cons_zero, List.getElem?_cons_succ, ldI_mk, ldS_mk]
    obtain ⟨i, hi, h1, h2, h3⟩ := hvia _ (hall t).1 (hall t).2
    have := (hall t).1
    refine rVH.ixI (by omega) (by omega) ?_
    simp only [Int.toNat_natCast]
    rw [h1]
    refine heH.edgeF (by omega) (by omega) ?_
    simp only [Int.toNat_natCast]
    rw [h2, i64w (by omega) (by omega)]
    refine hX _ _ _ _ _ _ ⟨rfl, rfl, rfl, rfl, t + 1, by omega, by omega, ?_⟩ (by omega)
    rw [pit_succ, h1, Int.toNat_natCast]
  · have : t = t11.toNat := by omega
    subst this
    clear hX
    rw [hxd]
    refine short_round.j1_eq ?_
    unfold short_round.j1_t
    refine short_round.l2_rule (fun v2 a3 a4 cp cn cc u8 H' => v2 = x ∧ a3 = g3 ∧ a4 = t4 ∧ ∃ k : Nat, k < m ∧ cn = k ∧ u8 = (pit (ga e) via k x : Int) ∧ Step (fun _ => False) H H' ∧ Row H' cp k cc (fun t => via (pit (ga e) via t x)) ∧ (∀ y, fpS cp y → H y = none) ∧ (∀ y, fpS cp y → y ≠ g3 ∧ y ≠ t4) ∧
        H' g3 = some ⟨[.int .i64 t11, .slice ep n ec], 51⟩ ∧ H' t4 = some ⟨[.slice dp dn dc, .slice vp t11.toNat vc], 54⟩)
      (fun v2 a3 a4 cp cn cc u8 H' => m - cn) ?_ ⟨rfl, rfl, rfl, 0, hm, rfl, rfl, s02, Row.nil, fun y hy => (by rw [fpS_none] at hy; exact hy.elim), fun y hy => (by rw [fpS_none] at hy; exact hy.elim), e12, e2⟩
    clear e1 e2 s1 s2 s02 e12 heH rVH
    rintro v2 a3 a4 cp cn cc u8 H3 ⟨rfl, rfl, rfl, k', hk, rfl, rfl, s3, rC, fC, gC, c1, c2⟩ X hX
    refine short_round.b2_eq ?_
    unfold short_round.b2_t
    simp only [get_at c2, List.getElem?_cons_zero, List.getElem?_cons_succ, ldI_mk, ldS_mk]
    obtain ⟨i, hi, h1, h2, h3⟩ := hvia _ (hx cn).1 (hx cn).2
    have := (hx cn).1
    refine (rV.keep s3 fun _ _ h => h).ixI (by omega) (by omega) ?_
    simp only [Int.toNat_natCast]
    refine rC.app (α := Int) (via (pit (ga e) via cn x)) rfl (by omega) (by decide) fun cp' cc' H4 r4 s4 f4 => ?_
    have s04 : Step (fun _ => False) H H4 := s3.own s4 fC
    have c14 := s4.keep _ _ c1 fun h => (gC _ h).1 rfl
    have c24 := s4.keep _ _ c2 fun h => (gC _ h).2 rfl
    have r4' : Row H4 cp' (cn + 1) cc' (fun t => via (pit (ga e) via t x)) := r4.congr fun u hu => by
      by_cases e : u = cn
      · subst e; rw [upf_same]
      · rw [upf_ne e]
    have fC' : ∀ y, fpS cp' y → H y = none := fun y hy => (f4 y hy).elim (fC y) (s3.mono y)
    have gC' : ∀ y, fpS cp' y → y ≠ a3 ∧ y ≠ a4 := fun y hy => (f4 y hy).elim (gC y) fun h => ⟨fun e => (by rw [e, c1] at h; cases h), fun e => (by rw [e, c2] at h; cases h)⟩
    rw [h1]
    simp only [get_at c14, List.getElem?_cons_zero, List.getElem?_cons_succ, ldI_mk, ldS_mk]
    refine (he.keep s04 fun _ _ _ h => h).edgeF (by omega) (by omega) ?_
    simp only [Int.toNat_natCast]
    have hp : pit (ga e) via (cn + 1) x = ga e i := by rw [pit_succ, h1, Int.toNat_natCast]
    have h2 : (e i).fr = (pit (ga e) via (cn + 1) x : Int) := by rw [hp]; exact h2
    refine bc (fun heq => ?_) fun hne => ?_
    · have hmk : cn + 1 = m := by
        by_cases h : cn + 1 = m
        · exact h
        · rw [h2] at heq
          exact (hmin' (cn + 1) (by omega) (by omega) (by omega)).elim
      refine short_round.j2_eq ?_
      unfold short_round.j2_t
      rw [hmk] at r4' ⊢
      refine sreverse r4' (by omega) fun H5 r5 s5 => ?_
      have hC := hB.cyc' hr hx hm hc hmin' (f := fun k => via (pit (ga e) via (m - 1 - k) x)) fun k _ => rfl
      refine k H5 cp' m cc' _ (s04.own s5 fC') r5 fC' hC.1 (by rw [hC.2.1]; exact (hx 0).1) (by rw [hC.2.1]; exact hC.2.2)
    · have hlt : cn + 1 < m := by
        by_cases h : cn + 1 = m
        · rw [h2, h, hc] at hne; exact (hne rfl).elim
        · omega
      rw [h2]
      refine hX _ _ _ _ _ _ _ _ ⟨rfl, rfl, rfl, cn + 1, hlt, rfl, rfl, s04, r4', fC', gC', c14, c24⟩ (by omega)
end
end Go.Mz

/-
  Walks of layer 8: Bellman, Potentials, Way.
-/
namespace Go.Mz

/-- at the start: nothing at one node, all others out of reach -/
def dz (s : Nat) : Nat → Int := fun v => if v = s then 0 else Far

theorem dz_or {s : Nat} : ∀ v, dz s v = 0 ∨ dz s v = Far := fun v => by
  unfold dz
  split
  · exact .inl rfl
  · exact .inr rfl

/-- a circle that tells that there is no end -/
structure Neg (N : Int) (n : Nat) (e : Nat → Edg) (d0 : Nat → Int) (m : Nat) (f : Nat → Int) : Prop where
  cyc : Cyc N n e m f
  lt : ga e (f 0).toNat < N.toNat
  ns : ¬ Stl n (ga e) (gb e) (gc e) (jac n (ga e) (gb e) (gc e) d0 N.toNat)
  rch : ∀ R : Nat → Prop, (∀ v, v < N.toNat → d0 v < Far → R v) → (∀ i, i < n → R (ga e i) → R (gb e i)) → R (ga e (f 0).toNat)

abbrev SolG (N : Int) (n : Nat) (e : Nat → Edg) (d0 d via : Nat → Int) : Prop := Sol N.toNat n (ga e) (gb e) (gc e) d0 d via

section
variable {E : Value → Hp → Prop}

theorem sbellman {N s : Int} {ep : Option Addr} {n ec : Nat} {e : Nat → Edg} {H : Hp} {K : Option Addr → Nat → Nat → Option Addr → Nat → Nat → Option Addr → Nat → Nat → Int → Hp → Prop} (he : Rdr H ep n e) (hn : n < 2 ^ 63)
    (bad : wrg N n e s ≠ 0 → ∀ H', Step (fun _ => False) H H' → K none 0 0 none 0 0 none 0 0 (wrg N n e s) H')
    (ok : Right N n e → 0 ≤ s → s < N → ∀ H' d v dist via, Step (fun _ => False) H H' → H d = none → H v = none → d ≠ v → Row H' (some ⟨d, 0, none⟩) N.toNat N.toNat dist → Row H' (some ⟨v, 0, none⟩) N.toNat N.toNat via →
      SolG N n e (dz s.toNat) dist via → K (some ⟨d, 0, none⟩) N.toNat N.toNat (some ⟨v, 0, none⟩) N.toNat N.toNat none 0 0 0 H')
    (neg : Right N n e → 0 ≤ s → s < N → ∀ H' p m c f, Step (fun _ => False) H H' → Row H' p m c f → (∀ y, fpS p y → H y = none) → Neg N n e (dz s.toNat) m f → K none 0 0 none 0 0 p m c 80 H') : short_Bellman.call N ep n ec s E H K := by
  refine short_Bellman.of (short_Bellman.run_eq ?_)
  unfold short_Bellman.run_t
  refine nwk fun b1 H1 hb1 e1 s1 => ?_
  refine nwk fun b2 H2 hb2 e2 s2 => ?_
  have e12 := s2.keep _ _ e1 fun h => h
  have s02 := s1.and s2
  have f2 : H b2 = none := s1.mono _ hb2
  have d12 : b1 ≠ b2 := ne_of_live hb2 (by rw [e1]; exact fun h => by cases h)
  simp only [get_at e12, List.getElem?_cons_zero, List.getElem?_cons_succ, ldI_mk, ldS_mk]
  refine swrong (he.keep s02 fun _ _ _ h => h) hn fun H3 s3 => ?_
  have c1 := s3.keep _ _ e12 fun h => h
  have c2 := s3.keep _ _ e2 fun h => h
  have s03 := s02.and s3
  refine bcn (fun hw => ?_) fun hw => ?_
  · refine stk c2 rfl rfl fun H4 e4 s4 => ?_
    simp only [get_at e4, List.getElem?_cons_zero, List.getElem?_cons_succ, ldI_mk, ldS_mk]
    exact bad hw H4 (s03.own s4 fun y hy => hy ▸ f2)
  · obtain ⟨hr, hs0, hs1⟩ := wrg_zero.1 hw
    have hN0 := hr.N0; have hN1 := hr.N1
    simp only [get_at c1, List.getElem?_cons_zero, List.getElem?_cons_succ, ldI_mk, ldS_mk]
    refine sempty hN0 hN1 fun bd bv H4 s4 fd fv dv rd rv => ?_
    have c14 := s4.keep _ _ c1 fun h => h
    have c24 := s4.keep _ _ c2 fun h => h
    refine nwst rfl rfl fun b3 H5 hb3 e3 s5 => ?_
    have c15 := s5.keep _ _ c14 fun h => h
    have c25 := s5.keep _ _ c24 fun h => h
    have rd5 := rd.keep s5 fun _ _ h => h
    have rv5 := rv.keep s5 fun _ _ h => h
    have s05 := (s03.and s4).and s5
    have fd0 : H bd = none := s03.mono _ fd
    have fv0 : H bv = none := s03.mono _ fv
    have d1d : b1 ≠ bd := ne_of_live fd (by rw [c1]; exact fun h => by cases h)
    have d1v : b1 ≠ bv := ne_of_live fv (by rw [c1]; exact fun h => by cases h)
    have d2d : b2 ≠ bd := ne_of_live fd (by rw [c2]; exact fun h => by cases h)
    have d2v : b2 ≠ bv := ne_of_live fv (by rw [c2]; exact fun h => by cases h)
    have d3d : bd ≠ b3 := ne_of_live hb3 (rd.live ⟨0, rfl⟩)
    have d3v : bv ≠ b3 := ne_of_live hb3 (rv.live ⟨0, rfl⟩)
    simp only [get_at e3, List.getElem?_cons_zero, List.getElem?_cons_succ, ldI_mk, ldS_mk]
    refine rd5.stI hs0 (by omega) _ fun H6 r6 s6 => ?_
    replace s6 : Step (· = bd) H5 H6 := s6.weak fun y hy => by rw [fpS_mk] at hy; exact .inl hy
    have c16 := s6.keep _ _ c15 d1d
    have c26 := s6.keep _ _ c25 d2d
    have e36 := s6.keep _ _ e3 fun h => d3d h.symm
    have rv6 := rv5.keep s6 fun y hy h => by rw [fpS_mk] at hy; exact dv (h.symm.trans hy)
    have s06 : Step (fun _ => False) H H6 := s05.own s6 fun y hy => hy ▸ fd0
    have hdz : upf (fun _ => Far) s.toNat 0 = dz s.toNat := by
      funext u; unfold upf dz; rfl
    rw [hdz] at r6
    simp only [get_at c16, get_at e36, List.getElem?_cons_zero, List.getElem?_cons_succ, ldI_mk, ldS_mk]
    have hE : 0 < n → ∀ y, fpS ep y → ¬ fpS (some ⟨bd, 0, none⟩) y ∧ ¬ fpS (some ⟨bv, 0, none⟩) y := fun h0 y hy => by
      rw [fpS_mk, fpS_mk]
      have := he.live hy h0
      exact ⟨fun h => this (h ▸ fd0), fun h => this (h ▸ fv0)⟩
    refine srelax (he.keep s06 fun _ _ _ h => h) hr r6 rv6 (fun y hy hy' => by rw [fpS_mk] at hy hy'; exact dv (hy.symm.trans hy')) hE (fun v _ => dz_or v) fun H7 last dist via s7 rD rV hR => ?_
    replace s7 : Step (fun y => y = bd ∨ y = bv) H6 H7 := s7.weak fun y hy => by rw [fpS_mk, fpS_mk] at hy; exact .inl hy
    have c17 := s7.keep _ _ c16 fun h => h.elim d1d d1v
    have c27 := s7.keep _ _ c26 fun h => h.elim d2d d2v
    have e37 := s7.keep _ _ e36 fun h => h.elim (fun h => d3d h.symm) fun h => d3v h.symm
    have s07 : Step (fun _ => False) H H7 := s06.own s7 fun y hy => hy.elim (fun h => h ▸ fd0) fun h => h ▸ fv0
    rcases hR with ⟨rfl, hS⟩ | ⟨v, rd, rfl, hv, hB, hvr⟩
    · refine bc (fun h => absurd h (by decide)) fun _ => ?_
      simp only [get_at e37, List.getElem?_cons_zero, List.getElem?_cons_succ, ldI_mk, ldS_mk]
      refine stk c27 rfl rfl fun H8 e8 s8 => ?_
      simp only [get_at e8, List.getElem?_cons_zero, List.getElem?_cons_succ, ldI_mk, ldS_mk]
      exact ok hr hs0 hs1 H8 bd bv dist via (s07.own s8 fun y hy => hy ▸ f2) fd0 fv0 dv (rD.keep s8 fun y hy h => by rw [fpS_mk] at hy; exact d2d (h.symm.trans hy)) (rV.keep s8 fun y hy h => by rw [fpS_mk] at hy; exact d2v (h.symm.trans hy)) hS
    · refine bc (fun _ => ?_) fun h => (h (by omega)).elim
      simp only [get_at c17, get_at e37, List.getElem?_cons_zero, List.getElem?_cons_succ, ldI_mk, ldS_mk]
      refine sround (he.keep s07 fun _ _ _ h => h) hr rV hB hv hvr fun H8 p m c f s8 rf ff hC hlt hfar => ?_
      have c28 := s8.keep _ _ c27 fun h => h
      refine stk c28 rfl rfl fun H9 e9 s9 => ?_
      simp only [get_at e9, List.getElem?_cons_zero, List.getElem?_cons_succ, ldI_mk, ldS_mk]
      refine neg hr hs0 hs1 H9 p m c f ((s07.and s8).own s9 fun y hy => hy ▸ f2) (rf.keep s9 fun y hy h => ?_) (fun y hy => s07.mono _ (ff y hy)) ⟨hC, hlt, hB.notStl hr.gr (fun v _ => dz_or v) hv hvr, fun R h1 h2 => hB.rch R h1 h2 _ hlt hfar⟩
      have := ff y hy
      rw [h, c27] at this; cases this
end
end Go.Mz

/-
  Walks of layer 8: Potentials, Way.
-/
namespace Go.Mz

section
variable {E : Value → Hp → Prop}

end

/-- a way, edge by edge -/
structure WayG (n : Nat) (e : Nat → Edg) (s v : Nat) (m : Nat) (f : Nat → Int) : Prop where
  rg : ∀ k, k < m → 0 ≤ f k ∧ f k < (n : Int)
  st : 0 < m → ga e (f 0).toNat = s
  on : ∀ k, k + 1 < m → gb e (f k).toNat = ga e (f (k + 1)).toNat
  en : 0 < m → gb e (f (m - 1)).toNat = v
  no : m = 0 → s = v

section
variable {M n : Nat} {a b : Nat → Nat} {c : Nat → Int} {d via : Nat → Int} {s : Nat}

theorem Sol.root (hG : Gr M n a b c) (h : Sol M n a b c (dz s) d via) {v : Nat} (hv : v < M) (hvia : via v = -1) (hf : d v < Far) : v = s := by
  have := h.ini v hv hvia
  unfold dz at this
  split at this
  · assumption
  · omega

theorem Sol.in (hG : Gr M n a b c) (h : Sol M n a b c (dz s) d via) {v : Nat} (hv : v < M) (hf : d v < Far) : ∀ t, (∀ k, k < t → via (pit a via k v) ≠ -1) → pit a via t v < M ∧ d (pit a via t v) < Far
  | 0, _ => ⟨hv, hf⟩
  | t + 1, hk => by
    obtain ⟨h1, h2⟩ := Sol.in hG h hv hf t fun k hk' => hk k (by omega)
    obtain ⟨i, hi, g1, g2, g3, g4, g5⟩ := h.edg _ h1 (hk t (by omega))
    rw [pit_succ, g1, Int.toNat_natCast]
    exact ⟨hG.ra i hi, g3⟩

theorem Sol.src (hG : Gr M n a b c) (h : Sol M n a b c (dz s) d via) (hs : s < M) : via s = -1 ∧ d s = 0 := by
  have hds : d s < Far := by
    have := h.le0 s hs
    unfold dz at this
    rw [if_pos rfl] at this
    have hF : Far = 4611686018427387904 := rfl
    omega
  have hvia : via s = -1 := by
    obtain ⟨t, _, ht⟩ := h.acy s hs
    obtain ⟨t', _, ht', hmin⟩ := least_of (p := fun t => via (pit a via t s) = -1) ht
    obtain ⟨h1, h2⟩ := h.in hG hs hds t' hmin
    have := h.root hG h1 ht' h2
    rwa [this] at ht'
  refine ⟨hvia, ?_⟩
  rw [h.ini s hs hvia]
  exact if_pos rfl

theorem Sol.back (hG : Gr M n a b c) (h : Sol M n a b c (dz s) d via) (hs : s < M) {v : Nat} (hv : v < M) (hf : d v < Far) : ∃ m, m < M ∧ pit a via m v = s ∧ (∀ t, t < m → pit a via t v ≠ s ∧ via (pit a via t v) ≠ -1) ∧ (∀ t, t ≤ m → pit a via t v < M ∧ d (pit a via t v) < Far) ∧ psm a c via m v = d v := by
  obtain ⟨t, htM, ht⟩ := h.acy v hv
  obtain ⟨t', htt, ht', hmin⟩ := least_of (p := fun t => via (pit a via t v) = -1) ht
  have hin : ∀ k, k ≤ t' → pit a via k v < M ∧ d (pit a via k v) < Far := fun k hk => h.in hG hv hf k fun q hq => hmin q (by omega)
  have e : pit a via t' v = s := h.root hG (hin t' (Nat.le_refl _)).1 ht' (hin t' (Nat.le_refl _)).2
  refine ⟨t', by omega, e, fun k hk => ⟨fun he => hmin k hk (by rw [he]; exact (h.src hG hs).1), hmin k hk⟩, hin, ?_⟩
  have hed : ∀ k, k < t' → c (via (pit a via k v)).toNat = d (pit a via k v) - d (pit a via (k + 1) v) := fun k hk => by
    obtain ⟨i, hi, g1, g2, g3, g4, g5⟩ := h.edg _ (hin k (by omega)).1 (hmin k hk)
    rw [pit_succ, g1, Int.toNat_natCast]; omega
  have h1 := psm_le (a := a) (c := c) (via := via) (p := d) (t := t') (v := v) fun k hk => by rw [hed k hk]; exact Int.le_refl _
  have h2 := psm_ge (a := a) (c := c) (via := via) (p := d) (t := t') (v := v) fun k hk => by rw [hed k hk]; exact Int.le_refl _
  have h3 := (h.src hG hs).2
  rw [e, h3] at h1 h2
  omega
end

section
variable {E : Value → Hp → Prop}

theorem sway {N s v : Int} {ep : Option Addr} {n ec : Nat} {e : Nat → Edg} {H : Hp} {K : Option Addr → Nat → Nat → Int → Int → Hp → Prop} (he : Rdr H ep n e) (hn : n < 2 ^ 63)
    (bad : wrg N n e s ≠ 0 → ∀ H', Step (fun _ => False) H H' → K none 0 0 0 (wrg N n e s) H')
    (neg : Right N n e → 0 ≤ s → s < N → ¬ Stl n (ga e) (gb e) (gc e) (jac n (ga e) (gb e) (gc e) (dz s.toNat) N.toNat) → ∀ H', Step (fun _ => False) H H' → K none 0 0 0 80 H')
    (nod : Right N n e → 0 ≤ s → s < N → ∀ dist via, SolG N n e (dz s.toNat) dist via → v < 0 ∨ N ≤ v → ∀ H', Step (fun _ => False) H H' → K none 0 0 0 30 H')
    (now : Right N n e → 0 ≤ s → s < N → ∀ dist via, SolG N n e (dz s.toNat) dist via → 0 ≤ v → v < N → dist v.toNat = Far → ∀ H', Step (fun _ => False) H H' → K none 0 0 0 5 H')
    (ok : Right N n e → 0 ≤ s → s < N → ∀ dist via, SolG N n e (dz s.toNat) dist via → 0 ≤ v → v < N → dist v.toNat < Far → ∀ H' p m c f, Step (fun _ => False) H H' → Row H' p m c f → (∀ y, fpS p y → H y = none) → WayG n e s.toNat v.toNat m f → cst e f m = dist v.toNat → m < N.toNat → K p m c (dist v.toNat) 0 H') :
    short_Way.call N ep n ec s v E H K := by
  refine short_Way.of (short_Way.run_eq ?_)
  unfold short_Way.run_t
  refine nwk fun b1 H1 hb1 e1 s1 => ?_
  simp only [get_at e1, List.getElem?_cons_zero, List.getElem?_cons_succ, ldI_mk, ldS_mk]
  refine sbellman (he.keep s1 fun _ _ _ h => h) hn (fun hw H2 s2 => ?_) (fun hr hs0 hs1 H2 bd bv dist via s2 fd fv dv rD rV hS => ?_) fun hr hs0 hs1 H2 p m c f s2 rf ff hC => ?_
  · refine nwst rfl rfl fun b2 H3 hb2 e2 s3 => ?_
    refine bcn (fun _ => bad hw H3 ((s1.and s2).and s3)) fun h => (hw h).elim
  · have hG := hr.gr
    have hN0 := hr.N0; have hN1 := hr.N1
    have c1 := s2.keep _ _ e1 fun h => h
    refine nwst rfl rfl fun b2 H3 hb2 e2 s3 => ?_
    have s03 := (s1.and s2).and s3
    have c13 := s3.keep _ _ c1 fun h => h
    have rD3 := rD.keep s3 fun _ _ h => h
    have rV3 := rV.keep s3 fun _ _ h => h
    refine bcn (fun h => (h rfl).elim) fun _ => ?_
    refine bc (fun h => nod hr hs0 hs1 dist via hS (.inl h) H3 s03) fun hv0 => ?_
    simp only [get_at c13, get_at e2, List.getElem?_cons_zero, List.getElem?_cons_succ, ldI_mk, ldS_mk]
    refine bc (fun h => nod hr hs0 hs1 dist via hS (.inr h) H3 s03) fun hv1 => ?_
    try simp only [get_at c13, get_at e2, List.getElem?_cons_zero, List.getElem?_cons_succ, ldI_mk, ldS_mk]
    refine rD3.ixI (by omega) (by omega) ?_
    refine bc (fun h => now hr hs0 hs1 dist via hS (by omega) (by omega) h H3 s03) fun hfar => ?_
    try simp only [get_at c13, get_at e2, List.getElem?_cons_zero, List.getElem?_cons_succ, ldI_mk, ldS_mk]
    refine rD3.ixI (by omega) (by omega) ?_
    obtain ⟨w, hw⟩ : ∃ w, v.toNat = w := ⟨_, rfl⟩
    have hvw : v = (w : Int) := by omega
    have hwn : w < N.toNat := by omega
    have hsn : s.toNat < N.toNat := by omega
    have hlt : dist w < Far := by
      rw [hw] at hfar
      have hF : Far = 4611686018427387904 := rfl
      rcases hS.bnd w hwn with h | h
      · exact (hfar h).elim
      · omega
    obtain ⟨m, hmN, hms, hmt, hmin, hcost⟩ := hS.back hG hsn hwn hlt
    have fin := ok hr hs0 hs1 dist via hS (by omega) (by omega) (by rw [hw]; exact hlt)
    rw [hw] at fin ⊢
    subst hvw
    have hvia : ∀ t, t < m → ∃ i : Nat, i < n ∧ via (pit (ga e) via t w) = (i : Int) ∧ gb e i = pit (ga e) via t w ∧ (e i).fr = (pit (ga e) via (t + 1) w : Int) := fun t ht => by
      obtain ⟨i, h1, h2, h3, _⟩ := hS.edg _ (hmin t (by omega)).1 (hmt t ht).2
      have q := (hr.ed i h1).f0
      exact ⟨i, h1, h2, h3, by rw [pit_succ, h2, Int.toNat_natCast]; show _ = ((e i).fr.toNat : Int); omega⟩
    refine short_Way.l1_rule (fun s1' v2 g3 t9 cost wp wn wc H' => s1' = s ∧ g3 = b1 ∧ t9 = b2 ∧ cost = dist w ∧ ∃ t : Nat, t ≤ m ∧ wn = t ∧ v2 = (pit (ga e) via t w : Int) ∧ Step (fun _ => False) H H' ∧ Row H' wp t wc (fun k => via (pit (ga e) via k w)) ∧ (∀ y, fpS wp y → H y = none) ∧ Row H' (some ⟨bv, 0, none⟩) N.toNat N.toNat via ∧ (∀ y, fpS wp y → y ≠ b1 ∧ y ≠ b2 ∧ y ≠ bv) ∧
        H' b1 = some ⟨[.int .i64 N, .slice ep n ec], 51⟩ ∧ H' b2 = some ⟨[.slice (some ⟨bd, 0, none⟩) N.toNat N.toNat, .slice (some ⟨bv, 0, none⟩) N.toNat N.toNat], 54⟩)
      (fun s1' v2 g3 t9 cost wp wn wc H' => m - wn) ?_ ⟨rfl, rfl, rfl, rfl, 0, Nat.zero_le _, rfl, rfl, s03, Row.nil, fun y hy => (by rw [fpS_none] at hy; exact hy.elim), rV3, fun y hy => (by rw [fpS_none] at hy; exact hy.elim), c13, e2⟩
    rintro s1' v2 g3 t9 cost wp wn wc H4 ⟨rfl, rfl, rfl, rfl, t, ht, rfl, rfl, s4, rW, fW, rV4, gW, k1, k2⟩ X hX
    refine short_Way.b1_eq ?_
    unfold short_Way.b1_t
    refine bcn (fun hne => ?_) fun heq => ?_
    · have htm : wn < m := by
        by_cases h : wn = m
        · subst h; rw [hms] at hne; omega
        · omega
      obtain ⟨i, hi, h1, h2, h3⟩ := hvia wn htm
      have hpl := (hmin wn (by omega)).1
      simp only [get_at k1, get_at k2, List.getElem?_cons_zero, List.getElem?_cons_succ, ldI_mk, ldS_mk]
      refine rV4.ixI (by omega) (by omega) ?_
      simp only [Int.toNat_natCast]
      refine rW.app (α := Int) (via (pit (ga e) via wn w)) rfl (by omega) (by decide) fun wp' wc' H5 r5 s5 f5 => ?_
      have k15 := s5.keep _ _ k1 fun h => (gW _ h).1 rfl
      have k25 := s5.keep _ _ k2 fun h => (gW _ h).2.1 rfl
      have rV5 := rV4.keep s5 fun y hy h => (gW _ h).2.2 (by rw [fpS_mk] at hy; exact hy)
      have s05 : Step (fun _ => False) H H5 := s4.own s5 fW
      simp only [get_at k15, get_at k25, List.getElem?_cons_zero, List.getElem?_cons_succ, ldI_mk, ldS_mk]
      refine rV5.ixI (by omega) (by omega) ?_
      simp only [Int.toNat_natCast]
      rw [h1]
      refine (he.keep s05 fun _ _ _ h => h).edgeF (by omega) (by omega) ?_
      simp only [Int.toNat_natCast]
      rw [h3]
      refine hX _ _ _ _ _ _ _ _ _ ⟨rfl, rfl, rfl, rfl, wn + 1, htm, rfl, rfl, s05, r5.congr fun u hu => ?_, fun y hy => (f5 y hy).elim (fW y) (s4.mono y), rV5, fun y hy => (f5 y hy).elim (gW y) fun h => ⟨fun e => ?_, fun e => ?_, fun e => ?_⟩, k15, k25⟩ (by omega)
      · by_cases e : u = wn
        · subst e; rw [upf_same]
        · rw [upf_ne e]
      · rw [e, k1] at h; cases h
      · rw [e, k2] at h; cases h
      · exact rV4.live ⟨0, rfl⟩ (e ▸ h)
    · have htm : wn = m := by
        by_cases h : wn = m
        · exact h
        · exact ((hmt wn (by omega)).1 (by omega)).elim
      subst htm
      refine short_Way.j1_eq ?_
      unfold short_Way.j1_t
      refine sreverse rW (by omega) fun H5 r5 s5 => ?_
      have hf : ∀ k, k < wn → ∃ i : Nat, i < n ∧ via (pit (ga e) via (wn - 1 - k) w) = (i : Int) ∧ gb e i = pit (ga e) via (wn - 1 - k) w ∧ ga e i = pit (ga e) via (wn - k) w := fun k hk => by
        obtain ⟨i, h1, h2, h3, h4⟩ := hvia (wn - 1 - k) (by omega)
        refine ⟨i, h1, h2, h3, ?_⟩
        show (e i).fr.toNat = _
        rw [h4, Int.toNat_natCast, show wn - 1 - k + 1 = wn - k by omega]
      refine fin H5 wp wn wc _ (s4.own s5 fW) r5 fW ⟨fun k hk => ?_, fun h0 => ?_, fun k hk => ?_, fun h0 => ?_, fun h0 => ?_⟩ ?_ hmN
      · obtain ⟨i, h1, h2, _⟩ := hf k hk
        show 0 ≤ via _ ∧ via _ < _
        rw [h2]; omega
      · obtain ⟨i, h1, h2, h3, h4⟩ := hf 0 h0
        show ga e (via (pit (ga e) via (wn - 1 - 0) w)).toNat = _
        rw [h2, Int.toNat_natCast, h4, Nat.sub_zero, hms]
      · obtain ⟨i, h1, h2, h3, h4⟩ := hf k (by omega)
        obtain ⟨i', h1', h2', h3', h4'⟩ := hf (k + 1) hk
        show gb e (via (pit (ga e) via (wn - 1 - k) w)).toNat = ga e (via (pit (ga e) via (wn - 1 - (k + 1)) w)).toNat
        rw [h2, h2', Int.toNat_natCast, Int.toNat_natCast, h3, h4', show wn - 1 - k = wn - (k + 1) by omega]
      · obtain ⟨i, h1, h2, h3, h4⟩ := hf (wn - 1) (by omega)
        show gb e (via (pit (ga e) via (wn - 1 - (wn - 1)) w)).toNat = _
        rw [h2, Int.toNat_natCast, h3, Nat.sub_self]; rfl
      · subst h0; exact hms.symm
      · have h1 := cst_psm (e := e) (via := via) (x := w) (m := wn) (f := fun k => via (pit (ga e) via (wn - 1 - k) w)) (fun k _ => rfl) wn (Nat.le_refl _)
        rw [Nat.sub_self] at h1
        have h3 : psm (ga e) (gc e) via 0 w = 0 := rfl
        have h4 : psm (ga e) (gc e) via wn w = dist w := hcost
        omega
  · refine nwst rfl rfl fun b2 H3 hb2 e2 s3 => ?_
    refine bcn (fun _ => neg hr hs0 hs1 hC.ns H3 ((s1.and s2).and s3)) fun h => absurd h (by decide)
end
end Go.Mz
