/-
  Joined: BeP, BeJ, BeA, BeB, BeC, BeD, BeE.
-/
import Derived.Test.YtajgpmohnbjpcaaPkM
import Derived.Test.YtajgpmohnbjpcaaPkG
import Derived.Test.YtajgpmohnbjpcaaPkH
import Derived.Test.YtajgpmohnbjpcaaGSho
set_option linter.unusedSimpArgs false
set_option linter.unusedVariables false
/-
  Plain law of layer 8: going over all edges again and again: what holds while it is done, and in the end. No program in sight.
-/
namespace Go.Mz

abbrev Far : Int := 4611686018427387904

/-- a graph's edges: their ends and costs -/
structure Gr (M n : Nat) (a b : Nat → Nat) (c : Nat → Int) : Prop where
  ra : ∀ i, i < n → a i < M
  rb : ∀ i, i < n → b i < M
  lo : ∀ i, i < n → -1048576 ≤ c i
  hi : ∀ i, i < n → c i ≤ 1048576
  M1 : M ≤ 1024
  n1 : n ≤ 4096

/-- so many steps back -/
def pit (a : Nat → Nat) (via : Nat → Int) : Nat → Nat → Nat
  | 0, v => v
  | t + 1, v => pit a via t (a (via v).toNat)

/-- what these steps cost -/
def psm (a : Nat → Nat) (c : Nat → Int) (via : Nat → Int) : Nat → Nat → Int
  | 0, _ => 0
  | t + 1, v => c (via v).toNat + psm a c via t (a (via v).toNat)

theorem pit_add {a : Nat → Nat} {via : Nat → Int} : ∀ {s t v : Nat}, pit a via (s + t) v = pit a via t (pit a via s v)
  | 0, t, v => by simp [pit]
  | s + 1, t, v => by rw [Nat.succ_add]; show pit a via (s + t) _ = _; rw [pit_add]; rfl

theorem pit_succ {a : Nat → Nat} {via : Nat → Int} {t v : Nat} : pit a via (t + 1) v = a (via (pit a via t v)).toNat := by
  rw [pit_add]; rfl

theorem psm_succ {a : Nat → Nat} {c : Nat → Int} {via : Nat → Int} : ∀ {t v : Nat}, psm a c via (t + 1) v = psm a c via t v + c (via (pit a via t v)).toNat
  | 0, v => by simp [psm, pit]
  | t + 1, v => by
    show c (via v).toNat + psm a c via (t + 1) _ = c (via v).toNat + psm a c via t _ + _
    rw [psm_succ (t := t)]
    have : pit a via (t + 1) v = pit a via t (a (via v).toNat) := rfl
    rw [this]; omega

/-- the steps' costs against numbers at the nodes -/
theorem psm_le {a : Nat → Nat} {c : Nat → Int} {via : Nat → Int} {p : Nat → Int} : ∀ {t v : Nat}, (∀ s, s < t → c (via (pit a via s v)).toNat ≤ p (pit a via s v) - p (pit a via (s + 1) v)) → psm a c via t v ≤ p v - p (pit a via t v)
  | 0, v, _ => by simp [psm, pit]
  | t + 1, v, h => by
    rw [psm_succ]
    have h1 := psm_le (t := t) (v := v) fun s hs => h s (by omega)
    have h2 := h t (by omega)
    omega

theorem psm_lt {a : Nat → Nat} {c : Nat → Int} {via : Nat → Int} {p : Nat → Int} : ∀ {t v : Nat}, (∀ s, s < t → c (via (pit a via s v)).toNat ≤ p (pit a via s v) - p (pit a via (s + 1) v)) →
    (∃ s, s < t ∧ c (via (pit a via s v)).toNat < p (pit a via s v) - p (pit a via (s + 1) v)) → psm a c via t v < p v - p (pit a via t v)
  | 0, v, _, ⟨s, hs, _⟩ => by omega
  | t + 1, v, h, ⟨s, hs, h'⟩ => by
    rw [psm_succ]
    by_cases e : s = t
    · subst e
      have h1 := psm_le (t := s) (v := v) fun s hs => h s (by omega)
      omega
    · have h1 := psm_lt (t := t) (v := v) (fun s hs => h s (by omega)) ⟨s, by omega, h'⟩
      have h2 := h t (by omega)
      omega

theorem psm_ge {a : Nat → Nat} {c : Nat → Int} {via : Nat → Int} {p : Nat → Int} : ∀ {t v : Nat}, (∀ s, s < t → p (pit a via s v) - p (pit a via (s + 1) v) ≤ c (via (pit a via s v)).toNat) → p v - p (pit a via t v) ≤ psm a c via t v
  | 0, v, _ => by simp [psm, pit]
  | t + 1, v, h => by
    rw [psm_succ]
    have h1 := psm_ge (t := t) (v := v) fun s hs => h s (by omega)
    have h2 := h t (by omega)
    omega

/-- among more than M numbers below M two are the same -/
theorem pigeon {M : Nat} {f : Nat → Nat} (h : ∀ i, i ≤ M → f i < M) : ∃ s t, s < t ∧ t ≤ M ∧ f s = f t := by
  by_cases hn : ((List.range (M + 1)).map f).Nodup
  · have := List.Nodup.length_le_of_subset (l₁ := (List.range (M + 1)).map f) (l₂ := List.range M) hn fun w hw => by
      obtain ⟨i, hi, rfl⟩ := List.mem_map.1 hw
      rw [List.mem_range] at hi ⊢
      exact h i (by omega)
    simp at this
    omega
  · have : ¬ ∀ s t, s < t → t ≤ M → f s ≠ f t := fun hall => hn (by
      unfold List.Nodup
      rw [List.pairwise_map]
      refine List.Pairwise.imp_of_mem ?_ (List.pairwise_lt_range (n := M + 1))
      intro x y _ hy hlt
      exact hall x y hlt (by rw [List.mem_range] at hy; omega))
    refine Classical.byContradiction fun hne => this fun s t h1 h2 h3 => hne ⟨s, t, h1, h2, h3⟩

theorem least_of {p : Nat → Prop} {k : Nat} (h : p k) : ∃ m, m ≤ k ∧ p m ∧ ∀ j, j < m → ¬ p j := by
  classical
  induction k using Nat.strongRecOn with
  | ind k ih =>
    by_cases hj : ∃ j, j < k ∧ p j
    · obtain ⟨j, h1, h2⟩ := hj
      obtain ⟨m, h3, h4⟩ := ih j h1 h2
      exact ⟨m, by omega, h4⟩
    · exact ⟨k, Nat.le_refl _, h, fun j hj' hp => hj ⟨j, hj', hp⟩⟩

section
variable {M n : Nat} {a b : Nat → Nat} {c : Nat → Int}

/-- where the going over stands: r rounds are done, and j edges of the next; rd: the round in which a node's distance was lowered last -/
structure Bst (M n : Nat) (a b : Nat → Nat) (c : Nat → Int) (d0 d via : Nat → Int) (rd : Nat → Nat) (r j : Nat) : Prop where
  ini : ∀ v, v < M → via v = -1 → d v = d0 v ∧ rd v = 0
  edg : ∀ v, v < M → via v ≠ -1 → ∃ i, i < n ∧ via v = (i : Int) ∧ b i = v ∧ d (a i) < Far ∧ d (a i) + c i ≤ d v ∧ d v < Far ∧ rd v ≤ rd (a i) + 1
  bnd : ∀ v, v < M → d v = Far ∨ (-(1048576 * ((r * n + j : Nat) : Int)) ≤ d v ∧ d v ≤ 1048576 * ((r * n + j : Nat) : Int))
  cyc : ∀ v m, v < M → 0 < m → (∀ t, t < m → via (pit a via t v) ≠ -1) → pit a via m v = v → psm a c via m v < 0
  old : ∀ i, i < j → d (a i) < Far → rd (a i) ≤ r → d (b i) ≤ d (a i) + c i
  yet : ∀ i, i < n → j ≤ i → d (a i) < Far → rd (a i) < r → d (b i) ≤ d (a i) + c i
  rdl : ∀ v, v < M → rd v ≤ r + 1
  le0 : ∀ v, v < M → d v ≤ d0 v
  rch : ∀ R : Nat → Prop, (∀ v, v < M → d0 v < Far → R v) → (∀ i, i < n → R (a i) → R (b i)) → ∀ v, v < M → d v < Far → R v
  low : ∀ P : Nat → Int, (∀ v, v < M → P v ≤ d0 v) → (∀ i, i < n → P (b i) ≤ P (a i) + c i) → ∀ v, v < M → P v ≤ d v

variable {d0 d via : Nat → Int} {rd : Nat → Nat} {r j : Nat}

theorem Bst.start (h0 : ∀ v, v < M → d0 v = 0 ∨ d0 v = Far) : Bst M n a b c d0 d0 (fun _ => -1) (fun _ => 0) 0 0 where
  ini := fun v hv _ => ⟨rfl, rfl⟩
  edg := fun v hv h => (h rfl).elim
  bnd := fun v hv => by rcases h0 v hv with h | h <;> omega
  cyc := fun v m _ hm h _ => (h 0 hm rfl).elim
  old := fun i hi => by omega
  yet := fun i _ _ _ h => by omega
  rdl := fun v _ => by omega
  le0 := fun v _ => Int.le_refl _
  rch := fun R h _ v hv hf => h v hv hf
  low := fun P h _ v hv => h v hv

theorem Bst.skip (h : Bst M n a b c d0 d via rd r j) (hj : j < n) (ht : d (a j) < Far → d (b j) ≤ d (a j) + c j) : Bst M n a b c d0 d via rd r (j + 1) where
  ini := h.ini
  edg := h.edg
  bnd := fun v hv => by
    rcases h.bnd v hv with h | h
    · exact .inl h
    · right; omega
  cyc := h.cyc
  old := fun i hi hf hr => by
    by_cases e : i = j
    · subst e; exact ht hf
    · exact h.old i (by omega) hf hr
  yet := fun i hi hij => h.yet i hi (by omega)
  rdl := h.rdl
  le0 := h.le0
  rch := h.rch
  low := h.low

theorem Bst.lower (hG : Gr M n a b c) (h : Bst M n a b c d0 d via rd r j) (hj : j < n) (hf : d (a j) < Far) (hl : d (a j) + c j < d (b j)) (hd0 : ∀ v, v < M → d0 v ≤ Far) :
    Bst M n a b c d0 (upf d (b j) (d (a j) + c j)) (upf via (b j) (j : Int)) (upf rd (b j) (r + 1)) r (j + 1) := by
  have hx := hG.ra j hj
  have hy := hG.rb j hj
  have dle : ∀ v, upf d (b j) (d (a j) + c j) v ≤ d v := fun v => by
    by_cases e : v = b j
    · subst e; rw [upf_same]; omega
    · rw [upf_ne e]; exact Int.le_refl _
  have hby : d (b j) ≤ Far := Int.le_trans (h.le0 _ hy) (hd0 _ hy)
  have hrx : r ≤ rd (a j) := by
    by_cases hr : rd (a j) < r
    · have := h.yet j hj (Nat.le_refl _) hf hr; omega
    · omega
  refine ⟨fun v hv hvia => ?_, fun v hv hvia => ?_, fun v hv => ?_, fun v m hv hm hp hc => ?_, fun i hi hfi hr => ?_, fun i hi hij hfi hr => ?_, fun v hv => ?_, fun v hv => Int.le_trans (dle v) (h.le0 v hv), fun R h1 h2 v hv hfv => ?_, fun P h1 h2 v hv => ?_⟩
  · have e : v ≠ b j := fun e => by rw [e, upf_same] at hvia; omega
    rw [upf_ne e] at hvia
    rw [upf_ne e, upf_ne e]
    exact h.ini v hv hvia
  · by_cases e : v = b j
    · subst e
      refine ⟨j, hj, upf_same, rfl, Int.lt_of_le_of_lt (dle _) hf, ?_, ?_, ?_⟩
      · rw [upf_same]; have := dle (a j); omega
      · rw [upf_same]; omega
      · rw [upf_same]
        by_cases e' : a j = b j
        · rw [e', upf_same]; omega
        · rw [upf_ne e']; omega
    · rw [upf_ne e] at hvia
      obtain ⟨i, hi, h1, h2, h3, h4, h5, h6⟩ := h.edg v hv hvia
      refine ⟨i, hi, by rw [upf_ne e]; exact h1, h2, Int.lt_of_le_of_lt (dle _) h3, ?_, ?_, ?_⟩
      · rw [upf_ne e]; have := dle (a i); omega
      · rw [upf_ne e]; exact h5
      · rw [upf_ne e]
        by_cases e' : a i = b j
        · rw [e', upf_same]; have := h.rdl v hv; omega
        · rw [upf_ne e']; exact h6
  · by_cases e : v = b j
    · subst e
      rw [upf_same]
      have h1 := hG.lo j hj
      have h2 := hG.hi j hj
      rcases h.bnd _ hx with h3 | h3
      · omega
      · right; omega
    · rw [upf_ne e]
      rcases h.bnd v hv with h | h
      · exact .inl h
      · right; omega
  · -- a circle of the last edges
    have step : ∀ u, u < M → upf via (b j) (j : Int) u ≠ -1 → a (upf via (b j) (j : Int) u).toNat < M ∧ c (upf via (b j) (j : Int) u).toNat ≤ d u - d (a (upf via (b j) (j : Int) u).toNat) ∧ (u = b j → c (upf via (b j) (j : Int) u).toNat < d u - d (a (upf via (b j) (j : Int) u).toNat)) := fun u hu hvia => by
      by_cases e : u = b j
      · subst e
        rw [upf_same, Int.toNat_natCast]
        exact ⟨hx, by omega, fun _ => by omega⟩
      · rw [upf_ne e] at hvia ⊢
        obtain ⟨i, hi, h1, h2, h3, h4, _⟩ := h.edg u hu hvia
        rw [h1, Int.toNat_natCast]
        exact ⟨hG.ra i hi, by omega, fun e' => (e e').elim⟩
    have inM : ∀ t, t ≤ m → pit a (upf via (b j) (j : Int)) t v < M := by
      intro t
      induction t with
      | zero => intro _; exact hv
      | succ t ih =>
        intro ht
        rw [pit_succ]
        exact (step _ (ih (by omega)) (hp t (by omega))).1
    by_cases hb : ∃ t, t < m ∧ pit a (upf via (b j) (j : Int)) t v = b j
    · have := psm_lt (a := a) (c := c) (via := upf via (b j) (j : Int)) (p := d) (t := m) (v := v) (fun s hs => by
        rw [pit_succ]; exact (step _ (inM s (by omega)) (hp s hs)).2.1) (by
        obtain ⟨t, ht, e⟩ := hb
        exact ⟨t, ht, by rw [pit_succ]; exact (step _ (inM t (by omega)) (hp t ht)).2.2 e⟩)
      rw [hc] at this
      omega
    · have same : ∀ t, t ≤ m → pit a (upf via (b j) (j : Int)) t v = pit a via t v ∧ psm a c (upf via (b j) (j : Int)) t v = psm a c via t v := by
        intro t
        induction t with
        | zero => intro _; exact ⟨rfl, rfl⟩
        | succ t ih =>
          intro ht
          obtain ⟨h1, h2⟩ := ih (by omega)
          have hne : pit a via t v ≠ b j := fun e => hb ⟨t, by omega, by rw [h1, e]⟩
          rw [pit_succ, pit_succ, psm_succ, psm_succ, h1, h2, upf_ne hne]
          exact ⟨rfl, rfl⟩
      rw [(same m (Nat.le_refl _)).2]
      refine h.cyc v m hv hm (fun t ht => ?_) (by rw [← (same m (Nat.le_refl _)).1]; exact hc)
      have := hp t ht
      have hne : pit a (upf via (b j) (j : Int)) t v ≠ b j := fun e => hb ⟨t, ht, e⟩
      rw [upf_ne hne, (same t (by omega)).1] at this
      exact this
  · have hne : a i ≠ b j := fun e => by rw [e, upf_same] at hr; omega
    rw [upf_ne hne] at hfi hr ⊢
    by_cases e : i = j
    · subst e; rw [upf_same]; exact Int.le_refl _
    · exact Int.le_trans (dle _) (h.old i (by omega) hfi hr)
  · have hne : a i ≠ b j := fun e => by rw [e, upf_same] at hr; omega
    rw [upf_ne hne] at hfi hr ⊢
    exact Int.le_trans (dle _) (h.yet i hi (by omega) hfi hr)
  · by_cases e : v = b j
    · subst e; rw [upf_same]; omega
    · rw [upf_ne e]; exact h.rdl v hv
  · by_cases e : v = b j
    · subst e; exact h2 j hj (h.rch R h1 h2 _ hx hf)
    · rw [upf_ne e] at hfv; exact h.rch R h1 h2 v hv hfv
  · by_cases e : v = b j
    · subst e; rw [upf_same]
      have := h.low P h1 h2 _ hx
      have := h2 j hj
      omega
    · rw [upf_ne e]; exact h.low P h1 h2 v hv

theorem Bst.round (h : Bst M n a b c d0 d via rd r n) : Bst M n a b c d0 d via rd (r + 1) 0 where
  ini := h.ini
  edg := h.edg
  bnd := fun v hv => by
    have e : (r + 1) * n + 0 = r * n + n := by rw [Nat.add_mul]; omega
    rw [e]; exact h.bnd v hv
  cyc := h.cyc
  old := fun i hi => by omega
  yet := fun i hi _ hf hr => h.old i hi hf (by omega)
  rdl := fun v hv => by have := h.rdl v hv; omega
  le0 := h.le0
  rch := h.rch
  low := h.low

/-- nothing gets cheaper any more -/
structure Sol (M n : Nat) (a b : Nat → Nat) (c : Nat → Int) (d0 d via : Nat → Int) : Prop where
  ini : ∀ v, v < M → via v = -1 → d v = d0 v
  edg : ∀ v, v < M → via v ≠ -1 → ∃ i, i < n ∧ via v = (i : Int) ∧ b i = v ∧ d (a i) < Far ∧ d (a i) + c i = d v ∧ d v < Far
  feas : ∀ i, i < n → d (a i) < Far → d (b i) ≤ d (a i) + c i
  le0 : ∀ v, v < M → d v ≤ d0 v
  acy : ∀ v, v < M → ∃ t, t < M ∧ via (pit a via t v) = -1
  bnd : ∀ v, v < M → d v = Far ∨ (-8796093022208 ≤ d v ∧ d v ≤ 8796093022208)
  low : ∀ P : Nat → Int, (∀ v, v < M → P v ≤ d0 v) → (∀ i, i < n → P (b i) ≤ P (a i) + c i) → ∀ v, v < M → P v ≤ d v

/-- steps back stay among the nodes, as long as there are any -/
theorem pit_in (ha : ∀ v, v < M → via v ≠ -1 → a (via v).toNat < M) {v : Nat} (hv : v < M) : ∀ t, (∀ s, s < t → via (pit a via s v) ≠ -1) → pit a via t v < M := by
  intro t
  induction t with
  | zero => intro _; exact hv
  | succ t ih =>
    intro h
    rw [pit_succ]
    exact ha _ (ih fun s hs => h s (by omega)) (h t (by omega))

/-- from where steps back end, they end soon -/
theorem pit_soon (ha : ∀ v, v < M → via v ≠ -1 → a (via v).toNat < M) {v : Nat} (hv : v < M) {k : Nat} (hk : via (pit a via k v) = -1) : ∃ t, t < M ∧ t ≤ k ∧ via (pit a via t v) = -1 ∧ ∀ s, s < t → via (pit a via s v) ≠ -1 := by
  obtain ⟨t, htk, ht, hmin⟩ := least_of (p := fun k => via (pit a via k v) = -1) hk
  refine ⟨t, ?_, htk, ht, hmin⟩
  by_cases hlt : t < M
  · exact hlt
  · obtain ⟨s, s', h1, h2, h3⟩ := pigeon (M := M) (f := fun i => pit a via i v) fun i hi => pit_in ha hv i fun s hs => hmin s (by omega)
    have e : pit a via t v = pit a via (t - s' + s) v := by
      rw [show t = s' + (t - s') by omega, pit_add, ← h3, ← pit_add]
      congr 1; omega
    exact (hmin (t - s' + s) (by omega) (e ▸ ht)).elim

/-- what still gets cheaper behind so many rounds goes back round a circle -/
theorem Bst.circle (hG : Gr M n a b c) (h : Bst M n a b c d0 d via rd (M + 1) 0) {v : Nat} (hv : v < M) (hr : rd v = M + 1) :
    (∀ t, pit a via t v < M ∧ via (pit a via t v) ≠ -1) ∧ ∃ m, 0 < m ∧ pit a via m (pit a via M v) = pit a via M v := by
  have ha : ∀ v, v < M → via v ≠ -1 → a (via v).toNat < M := fun v hv hvia => by
    obtain ⟨i, hi, h1, _⟩ := h.edg v hv hvia
    rw [h1, Int.toNat_natCast]; exact hG.ra i hi
  have hall : ∀ t, via (pit a via t v) ≠ -1 := fun t ht => by
    obtain ⟨t', h1, _, h2, h3⟩ := pit_soon ha hv ht
    have hin : ∀ s, s ≤ t' → pit a via s v < M := fun s hs => pit_in ha hv s fun q hq => h3 q (by omega)
    have key : ∀ s, s ≤ t' → rd v ≤ rd (pit a via s v) + s := by
      intro s
      induction s with
      | zero => intro _; exact Nat.le_refl _
      | succ s ih =>
        intro hs
        have := ih (by omega)
        obtain ⟨i, hi, g1, g2, g3, g4, g5, g6⟩ := h.edg _ (hin s (by omega)) (h3 s (by omega))
        rw [pit_succ, g1, Int.toNat_natCast]; omega
    have := key t' (Nat.le_refl _)
    have := (h.ini _ (hin t' (Nat.le_refl _)) h2).2
    omega
  have hin : ∀ t, pit a via t v < M := fun t => pit_in ha hv t fun s _ => hall s
  refine ⟨fun t => ⟨hin t, hall t⟩, ?_⟩
  obtain ⟨s, t, h1, h2, h3⟩ := pigeon (M := M) (f := fun i => pit a via i v) fun i _ => hin i
  refine ⟨t - s, by omega, ?_⟩
  rw [← pit_add, show M + (t - s) = t + (M - s) by omega, pit_add]
  have h3 : pit a via s v = pit a via t v := h3
  rw [← h3, ← pit_add]
  congr 1; omega
end
end Go.Mz

/-
  Plain law of layer 8: the document's rounds, which look at all edges at once, against the program's. No program in sight.
-/
namespace Go.Mz

section
variable {M n : Nat} {a b : Nat → Nat} {c : Nat → Int} {d0 d via : Nat → Int} {rd : Nat → Nat} {r j : Nat}

end
end Go.Mz

/-
  Walks of layer 8: wrong, empty, Reverse of a slice, relax.
-/
namespace Go.Mz
section
variable {E : Value → Hp → Prop}

end
end Go.Mz

/-
  Walks of layer 8: relax, round.
-/
namespace Go.Mz
section
variable {E : Value → Hp → Prop}

end
end Go.Mz

/-
  Layer 8: the circle that is found: plain law; round walked.
-/
namespace Go.Mz

section
variable {E : Value → Hp → Prop}

end
end Go.Mz

/-
  Walks of layer 8: Bellman, Potentials, Way.
-/
namespace Go.Mz

/-- at the start: nothing at one node, all others out of reach -/
def dz (s : Nat) : Nat → Int := fun v => if v = s then 0 else Far

theorem dz_or {s : Nat} : ∀ v, dz s v = 0 ∨ dz s v = Far := fun v => by
  unfold dz
  split
  · exact .inl rfl
  · exact .inr rfl

section
variable {E : Value → Hp → Prop}

end
end Go.Mz

/-
  Walks of layer 8: Potentials, Way.
-/
namespace Go.Mz

section
variable {E : Value → Hp → Prop}

end

section
variable {M n : Nat} {a b : Nat → Nat} {c : Nat → Int} {d via : Nat → Int} {s : Nat}

theorem Sol.root (hG : Gr M n a b c) (h : Sol M n a b c (dz s) d via) {v : Nat} (hv : v < M) (hvia : via v = -1) (hf : d v < Far) : v = s := by
  have := h.ini v hv hvia
  unfold dz at this
  split at this
  · assumption
  · omega

theorem Sol.in (hG : Gr M n a b c) (h : Sol M n a b c (dz s) d via) {v : Nat} (hv : v < M) (hf : d v < Far) : ∀ t, (∀ k, k < t → via (pit a via k v) ≠ -1) → pit a via t v < M ∧ d (pit a via t v) < Far
  | 0, _ => ⟨hv, hf⟩
  | t + 1, hk => by
    obtain ⟨h1, h2⟩ := Sol.in hG h hv hf t fun k hk' => hk k (by omega)
    obtain ⟨i, hi, g1, g2, g3, g4, g5⟩ := h.edg _ h1 (hk t (by omega))
    rw [pit_succ, g1, Int.toNat_natCast]
    exact ⟨hG.ra i hi, g3⟩

theorem Sol.src (hG : Gr M n a b c) (h : Sol M n a b c (dz s) d via) (hs : s < M) : via s = -1 ∧ d s = 0 := by
  have hds : d s < Far := by
    have := h.le0 s hs
    unfold dz at this
    rw [if_pos rfl] at this
    have hF : Far = 4611686018427387904 := rfl
    omega
  have hvia : via s = -1 := by
    obtain ⟨t, _, ht⟩ := h.acy s hs
    obtain ⟨t', _, ht', hmin⟩ := least_of (p := fun t => via (pit a via t s) = -1) ht
    obtain ⟨h1, h2⟩ := h.in hG hs hds t' hmin
    have := h.root hG h1 ht' h2
    rwa [this] at ht'
  refine ⟨hvia, ?_⟩
  rw [h.ini s hs hvia]
  exact if_pos rfl

theorem Sol.back (hG : Gr M n a b c) (h : Sol M n a b c (dz s) d via) (hs : s < M) {v : Nat} (hv : v < M) (hf : d v < Far) : ∃ m, m < M ∧ pit a via m v = s ∧ (∀ t, t < m → pit a via t v ≠ s ∧ via (pit a via t v) ≠ -1) ∧ (∀ t, t ≤ m → pit a via t v < M ∧ d (pit a via t v) < Far) ∧ psm a c via m v = d v := by
  obtain ⟨t, htM, ht⟩ := h.acy v hv
  obtain ⟨t', htt, ht', hmin⟩ := least_of (p := fun t => via (pit a via t v) = -1) ht
  have hin : ∀ k, k ≤ t' → pit a via k v < M ∧ d (pit a via k v) < Far := fun k hk => h.in hG hv hf k fun q hq => hmin q (by omega)
  have e : pit a via t' v = s := h.root hG (hin t' (Nat.le_refl _)).1 ht' (hin t' (Nat.le_refl _)).2
  refine ⟨t', by omega, e, fun k hk => ⟨fun he => hmin k hk (by rw [he]; exact (h.src hG hs).1), hmin k hk⟩, hin, ?_⟩
  have hed : ∀ k, k < t' → c (via (pit a via k v)).toNat = d (pit a via k v) - d (pit a via (k + 1) v) := fun k hk => by
    obtain ⟨i, hi, g1, g2, g3, g4, g5⟩ := h.edg _ (hin k (by omega)).1 (hmin k hk)
    rw [pit_succ, g1, Int.toNat_natCast]; omega
  have h1 := psm_le (a := a) (c := c) (via := via) (p := d) (t := t') (v := v) fun k hk => by rw [hed k hk]; exact Int.le_refl _
  have h2 := psm_ge (a := a) (c := c) (via := via) (p := d) (t := t') (v := v) fun k hk => by rw [hed k hk]; exact Int.le_refl _
  have h3 := (h.src hG hs).2
  rw [e, h3] at h1 h2
  omega
end

section
variable {E : Value → Hp → Prop}

end
end Go.Mz
