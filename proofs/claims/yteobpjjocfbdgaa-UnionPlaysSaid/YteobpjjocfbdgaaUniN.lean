/-
  The plain law of the document's names: as many rounds over the joins as there are joins, and each name is the least node. No program in sight.
-/
import Derived.Test.YteobpjjocfbdgaaUniQ
set_option linter.unusedSimpArgs false
set_option linter.unusedVariables false
namespace Go.Mz

theorem cnt_mono {p q : Nat → Bool} {n : Nat} (h : ∀ i, i < n → p i = true → q i = true) : cnt p n ≤ cnt q n := by
  induction n with
  | zero => exact Nat.le_refl _
  | succ n ih =>
    simp only [cnt]
    have := ih fun i hi => h i (by omega)
    cases hp : p n with
    | false => simp; omega
    | true => rw [h n (by omega) hp]; simp; omega

theorem cnt_lt {p q : Nat → Bool} {n w : Nat} (h : ∀ i, i < n → p i = true → q i = true) (hw : w < n) (hp : p w = false) (hq : q w = true) : cnt p n < cnt q n := by
  induction n with
  | zero => omega
  | succ n ih =>
    simp only [cnt]
    by_cases e : w = n
    · subst e
      have := cnt_mono (n := w) fun i hi => h i (by omega)
      rw [hp, hq]; simp; omega
    · have := ih (fun i hi => h i (by omega)) (by omega)
      cases hp' : p n with
      | false => simp; omega
      | true => rw [h n (by omega) hp']; simp; omega

def stepN (g : Nat → Nat) (u v : Nat) : Nat → Nat := if g u < g v then upf g v (g u) else upf g u (g v)
def roundN (g : Nat → Nat) (pr : Nat → Nat × Nat) : Nat → Nat → Nat
  | 0 => g
  | i + 1 => stepN (roundN g pr i) (pr i).1 (pr i).2
def roundsN (g : Nat → Nat) (pr : Nat → Nat × Nat) (k : Nat) : Nat → Nat → Nat
  | 0 => g
  | r + 1 => roundN (roundsN g pr k r) pr k

def GInv (σ : USt) (g : Nat → Nat) : Prop := ∀ v, v < σ.n → rtOf σ.par (g v) = rtOf σ.par v ∧ g v ≤ v
noncomputable def bad (σ : USt) (g : Nat → Nat) : Nat := cnt (fun v => !(g v == σ.nm v)) σ.n

section
variable {σ : USt} {g : Nat → Nat} {u v w : Nat}

theorem GInv.le (h : UHist σ) (hg : GInv σ g) (hv : v < σ.n) : σ.nm v ≤ g v := by
  have h1 := hg v hv
  have := (h.least.1 (g v) (by omega)).1
  rw [h1.1] at this
  exact this

theorem nm_rt (e : rtOf σ.par u = rtOf σ.par v) : σ.nm u = σ.nm v := by unfold USt.nm; rw [e]

theorem GInv.step (h : UHist σ) (hg : GInv σ g) (hu : u < σ.n) (hv : v < σ.n) (e : rtOf σ.par u = rtOf σ.par v) :
    GInv σ (stepN g u v) ∧ (∀ w, w < σ.n → g w = σ.nm w → stepN g u v w = σ.nm w) ∧ (g u = σ.nm u ∨ g v = σ.nm v → stepN g u v u = σ.nm u ∧ stepN g u v v = σ.nm v) := by
  have en := nm_rt e
  have hgu := hg u hu
  have hgv := hg v hv
  have lu := hg.le h hu
  have lv := hg.le h hv
  unfold stepN
  split
  · rename_i hlt
    refine ⟨fun w hw => ?_, fun w hw hgw => ?_, fun hor => ?_⟩
    · by_cases ew : w = v
      · subst ew; rw [upf_same]; exact ⟨by rw [hgu.1, e], by omega⟩
      · rw [upf_ne ew]; exact hg w hw
    · by_cases ew : w = v
      · subst ew; omega
      · rw [upf_ne ew]; exact hgw
    · have : g u = σ.nm u := by omega
      rw [upf_same]
      by_cases ew : u = v
      · subst ew; omega
      · rw [upf_ne ew]; exact ⟨this, by omega⟩
  · rename_i hlt
    refine ⟨fun w hw => ?_, fun w hw hgw => ?_, fun hor => ?_⟩
    · by_cases ew : w = u
      · subst ew; rw [upf_same]; exact ⟨by rw [hgv.1, e], by omega⟩
      · rw [upf_ne ew]; exact hg w hw
    · by_cases ew : w = u
      · subst ew; rw [upf_same]; omega
      · rw [upf_ne ew]; exact hgw
    · have : g v = σ.nm v := by omega
      rw [upf_same]
      by_cases ew : v = u
      · subst ew; rw [upf_same]; omega
      · rw [upf_ne ew]; exact ⟨by omega, this⟩

def Prs (pr : Nat → Nat × Nat) (k : Nat) (x y : Nat) : Prop := ∃ i, i < k ∧ x = (pr i).1 ∧ y = (pr i).2

variable {pr : Nat → Nat × Nat} {k : Nat}

theorem Rep.at (h : Rep σ (Prs pr k)) {i : Nat} (hi : i < k) : (pr i).1 < σ.n ∧ (pr i).2 < σ.n ∧ rtOf σ.par (pr i).1 = rtOf σ.par (pr i).2 := by
  obtain ⟨h1, h2⟩ := h.low _ _ ⟨i, hi, rfl, rfl⟩
  exact ⟨h1, h2, (h.rep _ _ h1 h2).2 (.edge ⟨i, hi, rfl, rfl⟩)⟩

theorem roundN_inv (h : Rep σ (Prs pr k)) (hg : GInv σ g) : ∀ i, i ≤ k → GInv σ (roundN g pr i) ∧ ∀ w, w < σ.n → g w = σ.nm w → roundN g pr i w = σ.nm w
  | 0, _ => ⟨hg, fun _ _ e => e⟩
  | i + 1, hi => by
    obtain ⟨h1, h2⟩ := roundN_inv h hg i (by omega)
    obtain ⟨e1, e2, e3⟩ := h.at (i := i) (by omega)
    obtain ⟨s1, s2, _⟩ := h1.step h.hist e1 e2 e3
    exact ⟨s1, fun w hw e => s2 w hw (h2 w hw e)⟩

theorem roundN_later (h : Rep σ (Prs pr k)) (hg : GInv σ g) {i : Nat} (hw : w < σ.n) (e : roundN g pr i w = σ.nm w) : ∀ d, i + d ≤ k → roundN g pr (i + d) w = σ.nm w
  | 0, _ => e
  | d + 1, hd => by
    obtain ⟨h1, _⟩ := roundN_inv h hg (i + d) (by omega)
    obtain ⟨e1, e2, e3⟩ := h.at (i := i + d) (by omega)
    exact (h1.step h.hist e1 e2 e3).2.1 w hw (roundN_later h hg hw e d (by omega))

theorem round_bad (h : Rep σ (Prs pr k)) (hg : GInv σ g) : bad σ (roundN g pr k) < bad σ g ∨ ∀ v, v < σ.n → g v = σ.nm v := by
  obtain ⟨h1, h2⟩ := roundN_inv h hg k (Nat.le_refl _)
  by_cases hx : ∃ w, w < σ.n ∧ roundN g pr k w = σ.nm w ∧ g w ≠ σ.nm w
  · obtain ⟨w, hw, e1, e2⟩ := hx
    refine .inl (cnt_lt (fun i hi hp => ?_) hw (by simp [e1]) (by simp [e2]))
    simp only [Bool.not_eq_true', beq_eq_false_iff_ne] at hp ⊢
    exact fun e => hp (h2 i hi e)
  · refine .inr ?_
    have back : ∀ w, w < σ.n → roundN g pr k w = σ.nm w → g w = σ.nm w := fun w hw e => by
      by_cases e2 : g w = σ.nm w
      · exact e2
      · exact (hx ⟨w, hw, e, e2⟩).elim
    have edge : ∀ x y, Prs pr k x y → (g x = σ.nm x) = (g y = σ.nm y) := by
      rintro x y ⟨i, hi, rfl, rfl⟩
      obtain ⟨e1, e2, e3⟩ := h.at hi
      obtain ⟨q1, q2⟩ := roundN_inv h hg i (by omega)
      have s := (q1.step h.hist e1 e2 e3).2.2
      have fin : ∀ w, w < σ.n → roundN g pr (i + 1) w = σ.nm w → g w = σ.nm w := fun w hw e => back w hw (by
        have := roundN_later h hg hw e (k - (i + 1)) (by omega)
        rwa [show i + 1 + (k - (i + 1)) = k by omega] at this)
      exact propext ⟨fun e => fin _ e2 (s (.inl (q2 _ e1 e))).2, fun e => fin _ e1 (s (.inr (q2 _ e2 e))).1⟩
    intro v hv
    have l := h.hist.least.1 v hv
    have hm : σ.nm v < σ.n := Nat.lt_of_le_of_lt l.1 hv
    have hc := (h.rep (σ.nm v) v hm hv).1 l.2
    have := hc.resp (fun x => g x = σ.nm x) edge
    refine this.mp ?_
    have e1 : σ.nm (σ.nm v) = σ.nm v := nm_rt l.2
    have := (hg _ hm).2
    have := hg.le h.hist hm
    omega

theorem roundsN_inv (h : Rep σ (Prs pr k)) (hg : GInv σ g) : ∀ r, GInv σ (roundsN g pr k r) ∧ bad σ (roundsN g pr k r) ≤ bad σ g - r
  | 0 => ⟨hg, Nat.le_refl _⟩
  | r + 1 => by
    obtain ⟨h1, h2⟩ := roundsN_inv h hg r
    obtain ⟨q1, q2⟩ := roundN_inv h h1 k (Nat.le_refl _)
    refine ⟨q1, ?_⟩
    rcases round_bad h h1 with hb | hb
    · show bad σ (roundN (roundsN g pr k r) pr k) ≤ _
      omega
    · have : bad σ (roundN (roundsN g pr k r) pr k) = 0 := by
        unfold bad
        have : cnt (fun v => !(roundN (roundsN g pr k r) pr k v == σ.nm v)) σ.n = cnt (fun _ => false) σ.n := cnt_congr fun i hi => by
          rw [q2 i hi (hb i hi)]; simp
        rw [this]
        generalize σ.n = n
        induction n with
        | zero => rfl
        | succ n ih => simp [cnt, ih]
      show bad σ (roundN (roundsN g pr k r) pr k) ≤ _
      omega

theorem cnt_not {p : Nat → Bool} {n : Nat} : cnt p n + cnt (fun v => !(p v)) n = n := by
  induction n with
  | zero => rfl
  | succ n ih =>
    simp only [cnt]
    by_cases hp : p n = true
    · simp [hp]; omega
    · simp [hp]; omega

/-- as many rounds as joins, and one more for good measure -/
theorem names_done (h : Rep σ (Prs pr k)) (hk : σ.k = k) {r : Nat} (hr : k ≤ r) (hv : v < σ.n) : roundsN (fun v => v) pr k r v = σ.nm v := by
  have hg : GInv σ (fun v => v) := fun v hv => ⟨rfl, Nat.le_refl _⟩
  obtain ⟨_, hb⟩ := roundsN_inv h hg r
  have hc := h.hist.least.2
  have hn := cnt_not (p := fun v => σ.nm v == v) (n := σ.n)
  have e : bad σ (fun v => v) = cnt (fun v => !(σ.nm v == v)) σ.n := cnt_congr fun i hi => by rw [Bool.beq_comm]
  have h0 : bad σ (roundsN (fun v => v) pr k r) = 0 := by omega
  by_cases e1 : roundsN (fun v => v) pr k r v = σ.nm v
  · exact e1
  · have := cnt_pos (p := fun v => !(roundsN (fun v => v) pr k r v == σ.nm v)) hv (by simp [e1])
    unfold bad at h0
    omega

end
end Go.Mz
