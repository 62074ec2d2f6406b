/-
  The plain law of the document's parts: rounds over the edges make every node's label the least node that it hangs together with; parts are numbered in the order of these. No program in sight.
-/
import Derived.Test.YtbocpfdlfnodfaaPkW
set_option linter.unusedSimpArgs false
set_option linter.unusedVariables false
namespace Go.Mz

theorem cnt_lt {p q : Nat → Bool} {n w : Nat} (h : ∀ i, i < n → p i = true → q i = true) (hw : w < n) (hp : p w = false) (hq : q w = true) : cnt p n < cnt q n := by
  induction n with
  | zero => omega
  | succ n ih =>
    simp only [cnt]
    by_cases e : w = n
    · subst e
      have := cnt_mono (n := w) fun i hi => h i (by omega)
      rw [hp, hq]; simp; omega
    · have := ih (fun i hi => h i (by omega)) (by omega)
      cases hp' : p n with
      | false => simp; omega
      | true => rw [h n (by omega) hp']; simp; omega

def stepN (g : Nat → Nat) (u v : Nat) : Nat → Nat := if g u < g v then upf g v (g u) else upf g u (g v)
def roundN (g : Nat → Nat) (pr : Nat → Nat × Nat) : Nat → Nat → Nat
  | 0 => g
  | i + 1 => stepN (roundN g pr i) (pr i).1 (pr i).2
def roundsN (g : Nat → Nat) (pr : Nat → Nat × Nat) (k : Nat) : Nat → Nat → Nat
  | 0 => g
  | r + 1 => roundN (roundsN g pr k r) pr k

/-- joined by one of the first k pairs -/
def Prs (pr : Nat → Nat × Nat) (k : Nat) (x y : Nat) : Prop := ∃ i, i < k ∧ x = (pr i).1 ∧ y = (pr i).2

/-- the least node that hangs together with one -/
structure Lst (R : Nat → Nat → Prop) (L : Nat → Nat) : Prop where
  cn : ∀ v, Cn R (L v) v
  le : ∀ u v, Cn R u v → L v ≤ u

theorem lst_ex (R : Nat → Nat → Prop) : ∃ L, Lst R L := by
  have each : ∀ v, ∃ m, Cn R m v ∧ ∀ u, Cn R u v → m ≤ u := fun v => by
    have key : ∀ n, (∃ u, u ≤ n ∧ Cn R u v) → ∃ m, Cn R m v ∧ ∀ u, Cn R u v → m ≤ u := by
      intro n
      induction n with
      | zero => rintro ⟨u, hu, hc⟩; have : u = 0 := by omega
                subst this; exact ⟨0, hc, fun _ _ => Nat.zero_le _⟩
      | succ n ih =>
        rintro ⟨u, hu, hc⟩
        by_cases h : ∃ u, u ≤ n ∧ Cn R u v
        · exact ih h
        · refine ⟨u, hc, fun w hw => ?_⟩
          by_cases hwn : w ≤ n
          · exact (h ⟨w, hwn, hw⟩).elim
          · omega
    exact key v ⟨v, Nat.le_refl _, .refl v⟩
  obtain ⟨L, hL⟩ := Classical.axiomOfChoice each
  exact ⟨L, fun v => (hL v).1, fun u v h => (hL v).2 u h⟩

section
variable {R : Nat → Nat → Prop} {L : Nat → Nat} {M : Nat} {g : Nat → Nat} {u v w : Nat}

theorem Lst.eq (h : Lst R L) (k : Cn R u v) : L u = L v :=
  Nat.le_antisymm (h.le _ _ ((h.cn v).trans k.symm)) (h.le _ _ ((h.cn u).trans k))
theorem Lst.self (h : Lst R L) : L v ≤ v := h.le v v (.refl v)
theorem Lst.idem (h : Lst R L) : L (L v) = L v := h.eq (h.cn v)
theorem Lst.iff (h : Lst R L) : L u = L v ↔ Cn R u v := ⟨fun e => (h.cn u).symm.trans (e ▸ h.cn v), h.eq⟩

def GInv (R : Nat → Nat → Prop) (M : Nat) (g : Nat → Nat) : Prop := ∀ v, v < M → Cn R (g v) v ∧ g v ≤ v
def bad (L : Nat → Nat) (M : Nat) (g : Nat → Nat) : Nat := cnt (fun v => !(g v == L v)) M

theorem GInv.step (h : Lst R L) (hg : GInv R M g) (hu : u < M) (hv : v < M) (e : Cn R u v) :
    GInv R M (stepN g u v) ∧ (∀ w, w < M → g w = L w → stepN g u v w = L w) ∧ (g u = L u ∨ g v = L v → stepN g u v u = L u ∧ stepN g u v v = L v) := by
  have en := h.eq e
  have hgu := hg u hu
  have hgv := hg v hv
  have lu := h.le _ _ hgu.1
  have lv := h.le _ _ hgv.1
  unfold stepN
  split
  · rename_i hlt
    refine ⟨fun w hw => ?_, fun w hw hgw => ?_, fun hor => ?_⟩
    · by_cases ew : w = v
      · subst ew; rw [upf_same]; exact ⟨hgu.1.trans e, by omega⟩
      · rw [upf_ne ew]; exact hg w hw
    · by_cases ew : w = v
      · subst ew; omega
      · rw [upf_ne ew]; exact hgw
    · have : g u = L u := by omega
      rw [upf_same]
      by_cases ew : u = v
      · subst ew; omega
      · rw [upf_ne ew]; exact ⟨this, by omega⟩
  · rename_i hlt
    refine ⟨fun w hw => ?_, fun w hw hgw => ?_, fun hor => ?_⟩
    · by_cases ew : w = u
      · subst ew; rw [upf_same]; exact ⟨hgv.1.trans e.symm, by omega⟩
      · rw [upf_ne ew]; exact hg w hw
    · by_cases ew : w = u
      · subst ew; rw [upf_same]; omega
      · rw [upf_ne ew]; exact hgw
    · have : g v = L v := by omega
      rw [upf_same]
      by_cases ew : v = u
      · subst ew; rw [upf_same]; omega
      · rw [upf_ne ew]; exact ⟨by omega, this⟩

variable {pr : Nat → Nat × Nat} {k : Nat}

theorem roundN_inv (h : Lst (Prs pr k) L) (hr : ∀ i, i < k → (pr i).1 < M ∧ (pr i).2 < M) (hg : GInv (Prs pr k) M g) : ∀ i, i ≤ k → GInv (Prs pr k) M (roundN g pr i) ∧ ∀ w, w < M → g w = L w → roundN g pr i w = L w
  | 0, _ => ⟨hg, fun _ _ e => e⟩
  | i + 1, hi => by
    obtain ⟨h1, h2⟩ := roundN_inv h hr hg i (by omega)
    obtain ⟨e1, e2⟩ := hr i (by omega)
    obtain ⟨s1, s2, _⟩ := h1.step h e1 e2 (.edge ⟨i, by omega, rfl, rfl⟩)
    exact ⟨s1, fun w hw e => s2 w hw (h2 w hw e)⟩

theorem roundN_later (h : Lst (Prs pr k) L) (hr : ∀ i, i < k → (pr i).1 < M ∧ (pr i).2 < M) (hg : GInv (Prs pr k) M g) {i : Nat} (hw : w < M) (e : roundN g pr i w = L w) : ∀ d, i + d ≤ k → roundN g pr (i + d) w = L w
  | 0, _ => e
  | d + 1, hd => by
    obtain ⟨h1, _⟩ := roundN_inv h hr hg (i + d) (by omega)
    obtain ⟨e1, e2⟩ := hr (i + d) (by omega)
    exact (h1.step h e1 e2 (.edge ⟨i + d, by omega, rfl, rfl⟩)).2.1 w hw (roundN_later h hr hg hw e d (by omega))

theorem round_bad (h : Lst (Prs pr k) L) (hr : ∀ i, i < k → (pr i).1 < M ∧ (pr i).2 < M) (hg : GInv (Prs pr k) M g) : bad L M (roundN g pr k) < bad L M g ∨ ∀ v, v < M → g v = L v := by
  obtain ⟨h1, h2⟩ := roundN_inv h hr hg k (Nat.le_refl _)
  by_cases hx : ∃ w, w < M ∧ roundN g pr k w = L w ∧ g w ≠ L w
  · obtain ⟨w, hw, e1, e2⟩ := hx
    refine .inl (cnt_lt (fun i hi hp => ?_) hw (by simp [e1]) (by simp [e2]))
    simp only [Bool.not_eq_true', beq_eq_false_iff_ne] at hp ⊢
    exact fun e => hp (h2 i hi e)
  · refine .inr ?_
    have back : ∀ w, w < M → roundN g pr k w = L w → g w = L w := fun w hw e => by
      by_cases e2 : g w = L w
      · exact e2
      · exact (hx ⟨w, hw, e, e2⟩).elim
    have edge : ∀ x y, Prs pr k x y → (g x = L x) = (g y = L y) := by
      rintro x y ⟨i, hi, rfl, rfl⟩
      obtain ⟨e1, e2⟩ := hr i hi
      obtain ⟨q1, q2⟩ := roundN_inv h hr hg i (by omega)
      have s := (q1.step h e1 e2 (.edge ⟨i, hi, rfl, rfl⟩)).2.2
      have fin : ∀ w, w < M → roundN g pr (i + 1) w = L w → g w = L w := fun w hw e => back w hw (by
        have := roundN_later h hr hg hw e (k - (i + 1)) (by omega)
        rwa [show i + 1 + (k - (i + 1)) = k by omega] at this)
      exact propext ⟨fun e => fin _ e2 (s (.inl (q2 _ e1 e))).2, fun e => fin _ e1 (s (.inr (q2 _ e2 e))).1⟩
    intro v hv
    have hm : L v < M := Nat.lt_of_le_of_lt h.self hv
    have := (h.cn v).resp (fun x => g x = L x) edge
    refine this.mp ?_
    have e1 := h.idem (v := v)
    have a := (hg _ hm).2
    have b := h.le _ _ (hg _ hm).1
    omega

theorem roundsN_inv (h : Lst (Prs pr k) L) (hr : ∀ i, i < k → (pr i).1 < M ∧ (pr i).2 < M) (hg : GInv (Prs pr k) M g) : ∀ r, GInv (Prs pr k) M (roundsN g pr k r) ∧ bad L M (roundsN g pr k r) ≤ bad L M g - r
  | 0 => ⟨hg, Nat.le_refl _⟩
  | r + 1 => by
    obtain ⟨h1, h2⟩ := roundsN_inv h hr hg r
    obtain ⟨q1, q2⟩ := roundN_inv h hr h1 k (Nat.le_refl _)
    refine ⟨q1, ?_⟩
    rcases round_bad h hr h1 with hb | hb
    · show bad L M (roundN (roundsN g pr k r) pr k) ≤ _
      omega
    · have : bad L M (roundN (roundsN g pr k r) pr k) = 0 := cnt_none fun i hi => by rw [q2 i hi (hb i hi)]; simp
      show bad L M (roundN (roundsN g pr k r) pr k) ≤ _
      omega

/-- as many rounds as nodes -/
theorem parts_done (h : Lst (Prs pr k) L) (hr : ∀ i, i < k → (pr i).1 < M ∧ (pr i).2 < M) (hv : v < M) : roundsN (fun v => v) pr k M v = L v := by
  have hg : GInv (Prs pr k) M (fun v => v) := fun v hv => ⟨.refl v, Nat.le_refl _⟩
  obtain ⟨_, hb⟩ := roundsN_inv h hr hg M
  have hn : bad L M (fun v => v) ≤ M := cnt_le _ _
  have h0 : bad L M (roundsN (fun v => v) pr k M) = 0 := by omega
  by_cases e1 : roundsN (fun v => v) pr k M v = L v
  · exact e1
  · have := cnt_pos (p := fun v => !(roundsN (fun v => v) pr k M v == L v)) hv (by simp [e1])
    unfold bad at h0
    omega

/-- the number of a part -/
def pno (L : Nat → Nat) (v : Nat) : Nat := cnt (fun w => L w == w) (L v)

theorem sm_pno {F : Nat → Nat} : ∀ s, sm F (cnt (fun w => L w == w) s) = sm (fun u => if L u = u then F (cnt (fun w => L w == w) u) else 0) s := by
  intro s
  induction s with
  | zero => rfl
  | succ s ih =>
    simp only [cnt, sm]
    by_cases h : L s = s
    · simp only [h, beq_self_eq_true, if_true]
      show sm F (cnt _ s) + F (cnt _ s) = _
      rw [ih]
    · have : (L s == s) = false := by simpa using h
      simp only [this, h, if_false, Bool.false_eq_true, Nat.add_zero]
      exact ih

theorem pno_lt (h : Lst R L) {v : Nat} (hv : v < M) : pno L v < cnt (fun w => L w == w) M := by
  unfold pno
  have hl := h.self (v := v)
  have e := h.idem (v := v)
  have key : ∀ d, cnt (fun w => L w == w) (L v) < cnt (fun w => L w == w) (L v + 1 + d) := by
    intro d
    induction d with
    | zero => simp only [Nat.add_zero, cnt, e, beq_self_eq_true, if_true]; omega
    | succ d ih => show _ < cnt _ (L v + 1 + d) + _; omega
  have := key (M - (L v + 1))
  rwa [show L v + 1 + (M - (L v + 1)) = M by omega] at this

theorem pno_inj (h : Lst R L) (e : pno L u = pno L v) : L u = L v := by
  unfold pno at e
  have mono : ∀ a d, L a = a → cnt (fun w => L w == w) a < cnt (fun w => L w == w) (a + 1 + d) := by
    intro a d ha
    induction d with
    | zero => simp only [Nat.add_zero, cnt, ha, beq_self_eq_true, if_true]; omega
    | succ d ih => show _ < cnt _ (a + 1 + d) + _; omega
  rcases Nat.lt_trichotomy (L u) (L v) with hlt | heq | hlt
  · have := mono (L u) (L v - (L u + 1)) h.idem
    rw [show L u + 1 + (L v - (L u + 1)) = L v by omega] at this
    omega
  · exact heq
  · have := mono (L v) (L u - (L v + 1)) h.idem
    rw [show L v + 1 + (L u - (L v + 1)) = L u by omega] at this
    omega
end

/-! ### The parts that are left -/

/-- the edges with both ends left -/
def lft (e : Nat → Edg) (W : Nat → Bool) : Nat → List Edg
  | 0 => []
  | i + 1 => if okE W (e i) then lft e W i ++ [e i] else lft e W i

theorem mem_lft {e : Nat → Edg} {W : Nat → Bool} {x : Edg} : ∀ {n : Nat}, x ∈ lft e W n ↔ ∃ j, j < n ∧ okE W (e j) = true ∧ e j = x := by
  intro n
  induction n with
  | zero => simp [lft]
  | succ n ih =>
    unfold lft
    by_cases h : okE W (e n) = true
    · rw [if_pos h, List.mem_append, ih]
      constructor
      · rintro (⟨j, hj, hk, hx⟩ | hx)
        · exact ⟨j, by omega, hk, hx⟩
        · simp at hx; exact ⟨n, by omega, h, hx.symm⟩
      · rintro ⟨j, hj, hk, hx⟩
        by_cases ej : j = n
        · subst ej; right; simp [hx]
        · exact .inl ⟨j, by omega, hk, hx⟩
    · rw [if_neg h, ih]
      constructor
      · rintro ⟨j, hj, hk, hx⟩; exact ⟨j, by omega, hk, hx⟩
      · rintro ⟨j, hj, hk, hx⟩
        by_cases ej : j = n
        · subst ej; exact absurd hk h
        · exact ⟨j, by omega, hk, hx⟩

theorem lft_len {e : Nat → Edg} {W : Nat → Bool} : ∀ n, (lft e W n).length ≤ n := by
  intro n
  induction n with
  | zero => exact Nat.le_refl _
  | succ n ih =>
    unfold lft
    split
    · simp; omega
    · omega

/-- the ends of edges, as numbers of nodes -/
def ePr (e : Nat → Edg) : Nat → Nat × Nat := fun i => ((e i).fr.toNat, (e i).to.toNat)

/-- so many of each part are left: their odd ones, part by part, are the odd parts -/
theorem odd_parts {N : Int} {n : Nat} {e : Nat → Edg} {W : Nat → Bool} {L : Nat → Nat} (hR : ∀ u v, Adj e n W u v → u < N.toNat ∧ v < N.toNat) (h : Lst (Adj e n W) L) :
    sm (fun j => cnt (fun v => !W v && pno L v == j) N.toNat % 2) N.toNat = oddN N n e W := by
  have hW : ∀ {a b : Nat}, Cn (Adj e n W) a b → W a = W b := fun hc => hc.resp W fun a b hab => by rw [hab.left.1, hab.left.2]
  have hodd : ∀ s, oddB (Adj e n W) W N.toNat s = sm (fun s => (open Classical in if Fst (Adj e n W) W s then csz (Adj e n W) N.toNat s % 2 else 0)) s := by
    intro s
    induction s with
    | zero => rfl
    | succ s ih => simp only [sm, ← ih]; rfl
  have hz : ∀ j, cnt (fun w => L w == w) N.toNat ≤ j → cnt (fun v => !W v && pno L v == j) N.toNat % 2 = 0 := fun j hj => by
    rw [cnt_none fun v hv => ?_]
    have := pno_lt h hv
    have hne : (pno L v == j) = false := by simp; omega
    simp [hne]
  have e1 : sm (fun j => cnt (fun v => !W v && pno L v == j) N.toNat % 2) N.toNat = sm (fun j => cnt (fun v => !W v && pno L v == j) N.toNat % 2) (cnt (fun w => L w == w) N.toNat) := by
    have hle := cnt_le (fun w => L w == w) N.toNat
    have key : ∀ (F : Nat → Nat) (c : Nat), (∀ j, c ≤ j → F j = 0) → ∀ d, sm F (c + d) = sm F c := by
      intro F c hF d
      induction d with
      | zero => rfl
      | succ d ih =>
        have : sm F (c + (d + 1)) = sm F (c + d) + F (c + d) := rfl
        rw [this, ih, hF _ (by omega), Nat.add_zero]
    have := key (fun j => cnt (fun v => !W v && pno L v == j) N.toNat % 2) (cnt (fun w => L w == w) N.toNat) hz (N.toNat - cnt (fun w => L w == w) N.toNat)
    rwa [show cnt (fun w => L w == w) N.toNat + (N.toNat - cnt (fun w => L w == w) N.toNat) = N.toNat by omega] at this
  rw [e1, sm_pno]
  show _ = oddB (Adj e n W) W N.toNat N.toNat
  rw [hodd]
  refine sm_congr fun s hs => ?_
  have hfix : L s = s ↔ ∀ u, u < s → ¬ Cn (Adj e n W) u s := by
    constructor
    · intro he u hu hc; have := h.le u s hc; omega
    · intro hall
      have := h.self (v := s)
      by_cases he : L s = s
      · exact he
      · exact (hall (L s) (by omega) (h.cn s)).elim
  have hpno : ∀ v, L s = s → (pno L v = cnt (fun w => L w == w) s ↔ Cn (Adj e n W) s v) := fun v he => by
    have e2 : cnt (fun w => L w == w) s = pno L s := by unfold pno; rw [he]
    rw [e2]
    constructor
    · intro hp; exact (h.iff.1 (pno_inj h hp)).symm
    · intro hc; unfold pno; rw [h.eq hc]
  by_cases he : L s = s
  · rw [if_pos he]
    by_cases hw : W s = true
    · have hnf : ¬ Fst (Adj e n W) W s := fun hf => by rw [hf.1] at hw; cases hw
      rw [if_neg hnf, cnt_none fun v hv => ?_]
      by_cases hc : Cn (Adj e n W) s v
      · rw [← hW hc, hw]; rfl
      · have : (pno L v == cnt (fun w => L w == w) s) = false := by simpa using fun hp => hc ((hpno v he).1 hp)
        simp [this]
    · have hw' : W s = false := by simpa using hw
      have hf : Fst (Adj e n W) W s := ⟨hw', hfix.1 he⟩
      rw [if_pos hf]
      congr 1
      refine cnt_congr fun v hv => ?_
      by_cases hc : Cn (Adj e n W) s v
      · have : pno L v = cnt (fun w => L w == w) s := (hpno v he).2 hc
        rw [← hW hc, hw']
        simp [this, hc]
      · have : (pno L v == cnt (fun w => L w == w) s) = false := by simpa using fun hp => hc ((hpno v he).1 hp)
        simp [this, hc]
  · rw [if_neg he]
    have hnf : ¬ Fst (Adj e n W) W s := fun hf => he (hfix.2 hf.2)
    rw [if_neg hnf]

/-- the edges left join what is joined -/
theorem lft_cn {e : Nat → Edg} {W : Nat → Bool} {n : Nat} {f : Nat → Edg} (hf : ∀ i, i < (lft e W n).length → f i = (lft e W n)[i]?.getD (0, 0, 0, 0)) {L : Nat → Nat} (h : Lst (Prs (ePr f) (lft e W n).length) L) : Lst (Adj e n W) L := by
  have h1 : ∀ u v, Prs (ePr f) (lft e W n).length u v → Cn (Adj e n W) u v := by
    rintro u v ⟨i, hi, rfl, rfl⟩
    have := List.getElem_mem hi
    obtain ⟨j, hj, hk, hx⟩ := mem_lft.1 this
    refine .edge ⟨j, hj, hk, .inl ?_⟩
    have e1 : f i = e j := by rw [hf i hi, List.getElem?_eq_getElem hi, hx]; rfl
    unfold ePr
    rw [e1]
    exact ⟨rfl, rfl⟩
  have h2 : ∀ u v, Adj e n W u v → Cn (Prs (ePr f) (lft e W n).length) u v := by
    rintro u v ⟨j, hj, hk, h⟩
    obtain ⟨i, hi, hx⟩ := List.getElem_of_mem (mem_lft.2 ⟨j, hj, hk, rfl⟩ : e j ∈ lft e W n)
    have e1 : f i = e j := by rw [hf i hi, List.getElem?_eq_getElem hi, hx]; rfl
    have hp : Prs (ePr f) (lft e W n).length (e j).fr.toNat (e j).to.toNat := ⟨i, hi, by unfold ePr; rw [e1], by unfold ePr; rw [e1]⟩
    rcases h with ⟨rfl, rfl⟩ | ⟨rfl, rfl⟩
    · exact .edge hp
    · exact .symm (.edge hp)
  exact ⟨fun v => (h.cn v).mono h1, fun u v hc => h.le u v (hc.mono h2)⟩
end Go.Mz
