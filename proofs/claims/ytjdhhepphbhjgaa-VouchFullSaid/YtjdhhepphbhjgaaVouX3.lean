/-
  Plain law: a set of nodes that proves a matching largest can always be given (after Tutte, Berge and Gallai). No program in sight.
-/
import Derived.Test.YtjdhhepphbhjgaaVouX2
set_option linter.unusedSimpArgs false
set_option linter.unusedVariables false
namespace Go.Mz

theorem exmax {α : Type} {P : α → Prop} {f : α → Nat} {B : Nat} (hB : ∀ x, P x → f x ≤ B) (hex : ∃ x, P x) : ∃ x, P x ∧ ∀ y, P y → f y ≤ f x := by
  obtain ⟨x, hx⟩ := hex
  generalize hd : B - f x = d
  induction d using Nat.strongRecOn generalizing x with
  | ind d ih =>
    by_cases h : ∀ y, P y → f y ≤ f x
    · exact ⟨x, hx, h⟩
    · obtain ⟨y, hy, hl⟩ : ∃ y, P y ∧ f x < f y := by
        by_cases h' : ∃ y, P y ∧ f x < f y
        · exact h'
        · exact (h fun y hy => by
            by_cases hh : f y ≤ f x
            · exact hh
            · exact (h' ⟨y, hy, by omega⟩).elim).elim
      exact ih (B - f y) (by have := hB y hy; omega) y hy rfl

theorem cnt_split {p q : Nat → Bool} : ∀ {n : Nat}, cnt p n = cnt (fun i => p i && q i) n + cnt (fun i => p i && !q i) n
  | 0 => rfl
  | n + 1 => by
    have ih := cnt_split (p := p) (q := q) (n := n)
    show cnt p n + (if p n then 1 else 0) = cnt (fun i => p i && q i) n + (if p n && q n then 1 else 0) + (cnt (fun i => p i && !q i) n + (if p n && !q n then 1 else 0))
    cases p n <;> cases q n <;> simp <;> omega

theorem cnt_two {p : Nat → Bool} {n u v : Nat} (hu : u < n) (hv : v < n) (huv : u ≠ v) (pu : p u = true) (pv : p v = true) : 2 ≤ cnt p n := by
  have h1 := cnt_less (p := p) (q := fun i => p i && !decide (i = u)) (b := u) hu pu (by simp) fun i _ hne => by simp [hne]
  have h2 := cnt_pos (p := fun i => p i && !decide (i = u)) hv (by simp [pv]; exact fun h => huv h.symm)
  omega

theorem cnt_uniq {p : Nat → Bool} {t : Nat} : ∀ {n : Nat}, (∀ x, x < n → p x = true → x = t) → cnt p n ≤ 1
  | 0, _ => Nat.zero_le _
  | n + 1, h => by
    have ih := cnt_uniq (n := n) fun x hx => h x (by omega)
    show cnt p n + (if p n then 1 else 0) ≤ 1
    by_cases hp : p n = true
    · rw [if_pos hp, cnt_none fun i hi => by
        cases hh : p i with
        | false => rfl
        | true => have := h i (by omega) hh; have := h n (by omega) hp; omega]
      exact Nat.le_refl _
    · rw [if_neg hp]; exact ih

/-- ends of an edge at a node -/
def en (x : Edg) (v : Int) : Nat := (if x.fr = v then 1 else 0) + (if x.to = v then 1 else 0)

/-- marks that make a matching without W -/
def Mtw (e : Nat → Edg) (n : Nat) (W T : Nat → Bool) : Prop := (∀ v, tdeg e T n v ≤ 1) ∧ ∀ k, k < n → T k = true → okE W (e k) = true

/-- with the most edges -/
def Mxw (e : Nat → Edg) (n : Nat) (W T : Nat → Bool) : Prop := Mtw e n W T ∧ ∀ T', Mtw e n W T' → cnt T' n ≤ cnt T n

theorem mtw_none {e : Nat → Edg} {n : Nat} {W : Nat → Bool} : Mtw e n W fun _ => false := ⟨fun v => by rw [tdeg_none fun _ _ => rfl]; exact Nat.zero_le _, fun k _ h => by cases h⟩

theorem mxw_ex {e : Nat → Edg} {n : Nat} {W : Nat → Bool} : ∃ T, Mxw e n W T := exmax (P := Mtw e n W) (f := fun T => cnt T n) (B := n) (fun T _ => cnt_le T n) ⟨_, mtw_none⟩

/-- an edge with two free ends makes a matching greater -/
theorem mtw_add {e : Nat → Edg} {n k : Nat} {W T : Nat → Bool} (h : Mtw e n W T) (hk : k < n) (hok : okE W (e k) = true) (hne : (e k).fr ≠ (e k).to) (h0 : tdeg e T n (e k).fr = 0) (h1 : tdeg e T n (e k).to = 0) :
    ∃ T', Mtw e n W T' ∧ cnt T' n = cnt T n + 1 := by
  have hT : T k = false := by
    cases hh : T k with
    | false => rfl
    | true =>
      have := tdeg_at (e := e) (v := (e k).fr) hh hk
      rw [if_pos rfl] at this; omega
  refine ⟨fun i => T i || decide (i = k), ⟨fun v => ?_, fun j hj hT' => ?_⟩, cnt_less hk (by simp) hT fun i _ hne => by simp [hne]⟩
  · rw [tdeg_one hT fun i => rfl, if_pos hk]
    have := h.1 v
    by_cases e1 : (e k).fr = v
    · subst e1; rw [if_pos rfl, if_neg (fun h => hne h.symm)]; omega
    · by_cases e2 : (e k).to = v
      · subst e2; rw [if_neg e1, if_pos rfl]; omega
      · rw [if_neg e1, if_neg e2]; omega
  · simp only [Bool.or_eq_true, decide_eq_true_eq] at hT'
    rcases hT' with h' | rfl
    · exact h.2 j hj h'
    · exact hok

/-- an edge is left out -/
theorem mtw_sub {e : Nat → Edg} {n f : Nat} {W T : Nat → Bool} (h : Mtw e n W T) (hf : f < n) (hT : T f = true) :
    ∃ T', Mtw e n W T' ∧ cnt T n = cnt T' n + 1 ∧ (∀ v, tdeg e T n v = tdeg e T' n v + en (e f) v) ∧ T' f = false ∧ ∀ i, i ≠ f → T' i = T i := by
  have h0 : (fun i => T i && !decide (i = f)) f = false := by simp
  have hd : ∀ v, tdeg e T n v = tdeg e (fun i => T i && !decide (i = f)) n v + en (e f) v := fun v => by
    have := tdeg_one (e := e) (T := T) (T' := fun i => T i && !decide (i = f)) (x := f) (v := v) h0 (fun i => by
      by_cases hi : i = f
      · subst hi; simp [hT]
      · simp [hi]) n
    rw [this, if_pos hf]; rfl
  refine ⟨fun i => T i && !decide (i = f), ⟨fun v => ?_, fun k hk hk' => ?_⟩, cnt_less hf hT h0 fun i _ hne => by simp [hne], hd, h0, fun i hne => by simp [hne]⟩
  · have := hd v; have := h.1 v; omega
  · simp only [Bool.and_eq_true] at hk'
    exact h.2 k hk hk'.1

/-- two ends for each edge -/
theorem tdeg_sum {N : Int} {n : Nat} {e : Nat → Edg} {T : Nat → Bool} (hr : Right N n e) : ∀ {k : Nat}, k ≤ n → sm (fun v => tdeg e T k (v : Int)) N.toNat = 2 * cnt T k
  | 0, _ => sm_zero fun _ _ => rfl
  | k + 1, hk => by
    have ih := tdeg_sum (T := T) hr (k := k) (by omega)
    have hx := hr.ed k (by omega)
    have hf0 := hx.f0; have hf1 := hx.f1; have ht0 := hx.t0; have ht1 := hx.t1
    have one : ∀ a : Int, 0 ≤ a → a < N → sm (fun v => if a = (v : Int) then 1 else 0) N.toNat = 1 := fun a a0 a1 => sm_pick (g := fun _ => 1) a0 (by omega)
    show sm (fun v => tdeg e T k (v : Int) + if T k then (if (e k).fr = (v : Int) then 1 else 0) + (if (e k).to = (v : Int) then 1 else 0) else 0) N.toNat = 2 * (cnt T k + if T k then 1 else 0)
    rw [sm_add, ih]
    cases T k
    · simp only [Bool.false_eq_true, if_false]
      rw [sm_zero fun _ _ => rfl]; omega
    · simp only [if_true]
      rw [sm_add, one _ hf0 hf1, one _ ht0 ht1]; omega

theorem cov_cnt {N : Int} {n : Nat} {e : Nat → Edg} {T : Nat → Bool} (hr : Right N n e) (hT : ∀ v, tdeg e T n v ≤ 1) : cnt (fun v => decide (tdeg e T n (v : Int) = 1)) N.toNat = 2 * cnt T n := by
  rw [← tdeg_sum hr (Nat.le_refl _), cnt_sm]
  refine sm_congr fun v _ => ?_
  have := hT (v : Int)
  by_cases h : tdeg e T n (v : Int) = 1
  · simp [h]
  · simp [h]; omega

theorem tdeg_ex {e : Nat → Edg} {T : Nat → Bool} {v : Int} : ∀ {n : Nat}, 0 < tdeg e T n v → ∃ k, k < n ∧ T k = true ∧ ((e k).fr = v ∨ (e k).to = v)
  | 0, h => (Nat.lt_irrefl 0 h).elim
  | n + 1, h => by
    by_cases h1 : 0 < tdeg e T n v
    · obtain ⟨k, h2, h3⟩ := tdeg_ex h1
      exact ⟨k, by omega, h3⟩
    · have h : 0 < tdeg e T n v + if T n then (if (e n).fr = v then 1 else 0) + (if (e n).to = v then 1 else 0) else 0 := h
      by_cases hT : T n = true
      · rw [if_pos hT] at h
        refine ⟨n, by omega, hT, ?_⟩
        by_cases e1 : (e n).fr = v
        · exact .inl e1
        · by_cases e2 : (e n).to = v
          · exact .inr e2
          · rw [if_neg e1, if_neg e2] at h; omega
      · rw [if_neg hT] at h; omega

/-- two nodes that a largest matching leaves out together -/
def Two (e : Nat → Edg) (n : Nat) (W : Nat → Bool) (u v : Nat) : Prop := ∃ T, Mxw e n W T ∧ tdeg e T n (u : Int) = 0 ∧ tdeg e T n (v : Int) = 0

theorem gallai {N : Int} {n : Nat} {e : Nat → Edg} {W : Nat → Bool} {u v t : Nat} (hr : Right N n e) (hu : u < N.toNat) (hv : v < N.toNat) (huv : u ≠ v) (ht : ∃ T, Mxw e n W T ∧ tdeg e T n (t : Int) = 0)
    (h : Two e n W u v) : Two e n W u t ∨ Two e n W t v := by
  by_cases h1 : Two e n W u t
  · exact .inl h1
  by_cases h2 : Two e n W t v
  · exact .inr h2
  exfalso
  obtain ⟨A, hA, au, av⟩ := h
  -- the one without t that shares most
  obtain ⟨B, ⟨hB, bt⟩, hmost⟩ := exmax (P := fun T => Mxw e n W T ∧ tdeg e T n (t : Int) = 0) (f := fun T => cnt (fun i => A i && T i) n) (B := n) (fun T _ => cnt_le _ n) ht
  have hA1 := hA.1.1
  have hB1 := hB.1.1
  have cA := cov_cnt hr hA1
  have cB := cov_cnt hr hB1
  have hAB : cnt A n = cnt B n := Nat.le_antisymm (hB.2 A hA.1) (hA.2 B hB.1)
  have bu : tdeg e B n (u : Int) = 1 := by
    have := hB1 (u : Int)
    by_cases h0 : tdeg e B n (u : Int) = 0
    · exact (h1 ⟨B, hB, h0, bt⟩).elim
    · omega
  have bv : tdeg e B n (v : Int) = 1 := by
    have := hB1 (v : Int)
    by_cases h0 : tdeg e B n (v : Int) = 0
    · exact (h2 ⟨B, hB, bt, h0⟩).elim
    · omega
  have s1 := cnt_split (p := fun v => decide (tdeg e A n (v : Int) = 1)) (q := fun v => decide (tdeg e B n (v : Int) = 1)) (n := N.toNat)
  have s2 := cnt_split (p := fun v => decide (tdeg e B n (v : Int) = 1)) (q := fun v => decide (tdeg e A n (v : Int) = 1)) (n := N.toNat)
  have s3 := cnt_congr (n := N.toNat) (p := fun v => decide (tdeg e A n (v : Int) = 1) && decide (tdeg e B n (v : Int) = 1)) (q := fun v => decide (tdeg e B n (v : Int) = 1) && decide (tdeg e A n (v : Int) = 1)) fun i _ => Bool.and_comm _ _
  have s4 := cnt_two (p := fun v => decide (tdeg e B n (v : Int) = 1) && !decide (tdeg e A n (v : Int) = 1)) hu hv huv (by simp [bu, au]) (by simp [bv, av])
  have hx : ∃ x, x < N.toNat ∧ x ≠ t ∧ tdeg e A n (x : Int) = 1 ∧ tdeg e B n (x : Int) = 0 := by
    by_cases hh : ∃ x, x < N.toNat ∧ x ≠ t ∧ tdeg e A n (x : Int) = 1 ∧ tdeg e B n (x : Int) = 0
    · exact hh
    · have := cnt_uniq (p := fun v => decide (tdeg e A n (v : Int) = 1) && !decide (tdeg e B n (v : Int) = 1)) (t := t) (n := N.toNat) fun x hx hp => by
        simp only [Bool.and_eq_true, decide_eq_true_eq, Bool.not_eq_true', decide_eq_false_iff_not] at hp
        by_cases hxt : x = t
        · exact hxt
        · have := hB1 (x : Int)
          exact (hh ⟨x, hx, hxt, hp.1, by omega⟩).elim
      omega
  obtain ⟨x, hxN, hxt, ax, bx⟩ := hx
  obtain ⟨k, hk, hAk, hend⟩ := tdeg_ex (e := e) (T := A) (v := (x : Int)) (n := n) (by omega)
  have hok := hA.1.2 k hk hAk
  have hBk : B k = false := by
    cases hh : B k with
    | false => rfl
    | true =>
      have := tdeg_at (e := e) (v := (x : Int)) hh hk
      rcases hend with h | h
      · rw [if_pos h] at this; omega
      · rw [if_pos h] at this; omega
  have hne : (e k).fr ≠ (e k).to := fun hh => by
    have := tdeg_at (e := e) (v := (e k).fr) hAk hk
    rw [if_pos rfl, if_pos hh.symm] at this
    have := hA1 (e k).fr
    omega
  -- the other end
  obtain ⟨y, hy, hen, hyx⟩ : ∃ y : Int, ((e k).fr = (x : Int) ∧ (e k).to = y ∨ (e k).to = (x : Int) ∧ (e k).fr = y) ∧ (∀ w, en (e k) w = (if (x : Int) = w then 1 else 0) + (if y = w then 1 else 0)) ∧ y ≠ (x : Int) := by
    rcases hend with h | h
    · exact ⟨(e k).to, .inl ⟨h, rfl⟩, fun w => by unfold en; rw [h], fun hh => hne (h.trans hh.symm)⟩
    · exact ⟨(e k).fr, .inr ⟨h, rfl⟩, fun w => by unfold en; rw [h]; omega, fun hh => hne (hh.trans h.symm)⟩
  have by1 : tdeg e B n y = 1 := by
    have := hB1 y
    by_cases h0 : tdeg e B n y = 0
    · obtain ⟨T', hT', hc⟩ := mtw_add hB.1 hk hok hne (by
        rcases hy with ⟨q1, q2⟩ | ⟨q1, q2⟩
        · rw [q1]; exact bx
        · rw [q2]; exact h0) (by
        rcases hy with ⟨q1, q2⟩ | ⟨q1, q2⟩
        · rw [q2]; exact h0
        · rw [q1]; exact bx)
      have := hB.2 T' hT'
      omega
    · omega
  have hyt : y ≠ (t : Int) := fun hh => by rw [hh, bt] at by1; omega
  obtain ⟨f, hf, hBf, hfy⟩ := tdeg_ex (e := e) (T := B) (v := y) (n := n) (by omega)
  have hfk : f ≠ k := fun hh => by rw [hh, hBk] at hBf; cases hBf
  have hAf : A f = false := by
    cases hh : A f with
    | false => rfl
    | true =>
      have hey : en (e k) y = 1 := by rw [hen, if_neg (fun h => hyx h.symm), if_pos rfl]
      have hfy1 : 1 ≤ en (e f) y := by
        unfold en
        rcases hfy with h | h
        · rw [if_pos h]; omega
        · rw [if_pos h]; omega
      have h3 : en (e f) y + en (e k) y ≤ tdeg e A n y := by
        rcases Nat.lt_or_ge f k with hl | hl
        · exact tdeg_two (e := e) (v := y) hh hAk hl hk
        · have := tdeg_two (e := e) (v := y) hAk hh (show k < f by omega) hf
          unfold en; omega
      have := hA1 y
      omega
  obtain ⟨B1, hB1', hc1, hd1, hB1f, hB1e⟩ := mtw_sub hB.1 hf hBf
  have hfy1 : 1 ≤ en (e f) y := by
    unfold en
    rcases hfy with h | h
    · rw [if_pos h]; omega
    · rw [if_pos h]; omega
  have z1 : tdeg e B1 n y = 0 := by have := hd1 y; omega
  have z2 : tdeg e B1 n (x : Int) = 0 := by have := hd1 (x : Int); omega
  have hB1k : B1 k = false := by rw [hB1e k (fun h => hfk h.symm)]; exact hBk
  -- the exchange
  have hdd : ∀ w, tdeg e (fun i => B1 i || decide (i = k)) n w = tdeg e B1 n w + en (e k) w := fun w => by
    rw [tdeg_one (T' := B1) (x := k) hB1k (fun i => rfl), if_pos hk]; rfl
  have hcc : cnt (fun i => B1 i || decide (i = k)) n = cnt B1 n + 1 := cnt_less hk (by simp) hB1k fun i _ hne => by simp [hne]
  have hB2 : Mxw e n W fun i => B1 i || decide (i = k) := by
    refine ⟨⟨fun w => ?_, fun j hj hj' => ?_⟩, fun T' hT' => ?_⟩
    · rw [hdd, hen]
      have := hB1'.1 w
      by_cases q1 : (x : Int) = w
      · subst q1; rw [if_pos rfl, if_neg hyx]; omega
      · by_cases q2 : y = w
        · subst q2; rw [if_neg q1, if_pos rfl]; omega
        · rw [if_neg q1, if_neg q2]; omega
    · simp only [Bool.or_eq_true, decide_eq_true_eq] at hj'
      rcases hj' with h' | rfl
      · exact hB1'.2 j hj h'
      · exact hok
    · have := hB.2 T' hT'
      omega
  have := hmost (fun i => B1 i || decide (i = k)) ⟨hB2, by
    rw [hdd, hen, if_neg (fun h => hxt (by omega)), if_neg hyt]
    have := hd1 (t : Int)
    omega⟩
  have h5 : cnt (fun i => A i && (B1 i || decide (i = k))) n = cnt (fun i => A i && B1 i) n + 1 := cnt_less hk (by simp [hAk]) (by simp [hB1k]) fun i _ hne => by simp [hne]
  have h6 : cnt (fun i => A i && B1 i) n = cnt (fun i => A i && B i) n := cnt_congr fun i _ => by
    by_cases hif : i = f
    · subst hif; simp [hAf]
    · rw [hB1e i hif]
  omega
end Go.Mz
