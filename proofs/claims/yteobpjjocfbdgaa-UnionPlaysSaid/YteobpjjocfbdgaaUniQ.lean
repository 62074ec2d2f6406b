/-
  The plain law of sets that are joined, more: which nodes have one root, and that names are least nodes. No program in sight.
-/
import Derived.Test.YteobpjjocfbdgaaUniP
set_option linter.unusedSimpArgs false
set_option linter.unusedVariables false
namespace Go.Mz

inductive Cn (R : Nat → Nat → Prop) : Nat → Nat → Prop
  | refl (u : Nat) : Cn R u u
  | edge {u v : Nat} (h : R u v) : Cn R u v
  | symm {u v : Nat} (h : Cn R u v) : Cn R v u
  | trans {u v w : Nat} (h : Cn R u v) (k : Cn R v w) : Cn R u w

theorem Cn.mono {R R' : Nat → Nat → Prop} (e : ∀ u v, R u v → Cn R' u v) {u v : Nat} (h : Cn R u v) : Cn R' u v := by
  induction h with
  | refl u => exact .refl u
  | edge h => exact e _ _ h
  | symm _ ih => exact .symm ih
  | trans _ _ ih ih' => exact .trans ih ih'

theorem Cn.resp {R : Nat → Nat → Prop} {α : Type} (f : Nat → α) (e : ∀ u v, R u v → f u = f v) {u v : Nat} (h : Cn R u v) : f u = f v := by
  induction h with
  | refl u => rfl
  | edge h => exact e _ _ h
  | symm _ ih => exact ih.symm
  | trans _ _ ih ih' => exact ih.trans ih'

theorem join_rt {σ : USt} {a b : Nat} (ok : σ.Ok) (hab : a ≠ b) (ha : a < σ.n) (hb : b < σ.n) (ra : σ.par a = a) (rb : σ.par b = b) {v : Nat} (hv : v < σ.n) :
    rtOf (σ.join a b).par v = if rtOf σ.par v = b then a else rtOf σ.par v := by
  have hpa : (σ.join a b).par a = a := by show upf σ.par b a a = a; rw [upf_ne hab, ra]
  have hpb : (σ.join a b).par b = a := upf_same
  have key : ∀ v r, Rt σ.par v r → Rt (σ.join a b).par v (if r = b then a else r) := by
    intro v r h
    induction h with
    | @here v e =>
      split
      · rename_i e'; subst e'
        exact .up (by rw [hpb]; exact hab) (by rw [hpb]; exact .here hpa)
      · rename_i e'; exact .here (by show upf σ.par b a v = v; rw [upf_ne e', e])
    | @up v r e k ih =>
      have hvb : v ≠ b := fun e' => e (by rw [e', rb])
      have ep : (σ.join a b).par v = σ.par v := upf_ne hvb
      exact .up (by rw [ep]; exact e) (by rw [ep]; exact ih)
  obtain ⟨r, hr, _⟩ := ok.rt hv
  rw [(key v r hr).of, hr.of]

/-- each set's least node is told at its root -/
def USt.Least (σ : USt) : Prop := ∀ v, v < σ.n → σ.lst (rtOf σ.par v) ≤ v ∧ rtOf σ.par (σ.lst (rtOf σ.par v)) = rtOf σ.par v

theorem UHist.least {σ : USt} (h : UHist σ) : σ.Least ∧ σ.k + cnt (fun v => σ.nm v == v) σ.n = σ.n := by
  induction h with
  | @base n h =>
    have e : ∀ v, rtOf (USt.init n).par v = v := fun v => (Rt.here rfl).of
    refine ⟨fun v hv => ⟨by rw [e]; exact Nat.le_refl _, by simp only [e]; rfl⟩, ?_⟩
    have : cnt (fun v => (USt.init n).nm v == v) (USt.init n).n = n := cnt_all fun i hi => by unfold USt.nm; rw [e]; exact beq_self_eq_true i
    rw [this]; simp [USt.init]
  | @join σ a b h hab ha hb ra rb ih =>
    obtain ⟨hl, hc⟩ := ih
    have ok := h.ok
    have jr := fun {v} hv => join_rt (v := v) ok hab ha hb ra rb hv
    have ea : rtOf σ.par a = a := (Rt.here ra).of
    have eb : rtOf σ.par b = b := (Rt.here rb).of
    have la := hl a ha
    have lb := hl b hb
    rw [ea] at la
    rw [eb] at lb
    have hla : σ.lst a < σ.n := by omega
    have hlb : σ.lst b < σ.n := by omega
    have lne : σ.lst a ≠ σ.lst b := fun e => hab (by rw [← la.2, ← lb.2, e])
    have hm : ∀ m, m = min (σ.lst a) (σ.lst b) → m < σ.n ∧ rtOf (σ.join a b).par m = a := by
      intro m hm
      have : m = σ.lst a ∨ m = σ.lst b := by omega
      rcases this with e | e
      · exact ⟨by omega, by rw [jr (by omega), e, la.2, if_neg hab]⟩
      · exact ⟨by omega, by rw [jr (by omega), e, lb.2, if_pos rfl]⟩
    have lja : (σ.join a b).lst a = min (σ.lst a) (σ.lst b) := upf_same
    have ljn : ∀ r, r ≠ a → (σ.join a b).lst r = σ.lst r := fun r hr => upf_ne hr
    refine ⟨fun v hv => ?_, ?_⟩
    · have hv : v < σ.n := hv
      rw [jr hv]
      split
      · rename_i e
        rw [lja]
        have := (hl v hv).1
        rw [e] at this
        exact ⟨by omega, (hm _ rfl).2⟩
      · rename_i e
        by_cases e' : rtOf σ.par v = a
        · rw [e', lja]
          have := (hl v hv).1
          rw [e'] at this
          exact ⟨by omega, (hm _ rfl).2⟩
        · rw [ljn _ e']
          have := hl v hv
          refine ⟨this.1, ?_⟩
          rw [jr (by omega), this.2, if_neg e]
    · have : cnt (fun v => σ.nm v == v) σ.n = cnt (fun v => (σ.join a b).nm v == v) σ.n + 1 := by
        refine cnt_less (b := max (σ.lst a) (σ.lst b)) (by omega) ?_ ?_ fun i hi e => ?_
        · have : max (σ.lst a) (σ.lst b) = σ.lst a ∨ max (σ.lst a) (σ.lst b) = σ.lst b := by omega
          simp only [beq_iff_eq]
          unfold USt.nm
          rcases this with e | e
          · rw [e, la.2]
          · rw [e, lb.2]
        · have h1 : rtOf (σ.join a b).par (max (σ.lst a) (σ.lst b)) = a := by
            have : max (σ.lst a) (σ.lst b) = σ.lst a ∨ max (σ.lst a) (σ.lst b) = σ.lst b := by omega
            rcases this with e | e
            · rw [jr (by omega), e, la.2, if_neg hab]
            · rw [jr (by omega), e, lb.2, if_pos rfl]
          have : (σ.join a b).nm (max (σ.lst a) (σ.lst b)) ≠ max (σ.lst a) (σ.lst b) := by
            unfold USt.nm
            rw [h1, lja]; omega
          simpa using this
        · unfold USt.nm
          rw [jr hi]
          have hli := hl i hi
          split
          · rename_i e1
            rw [lja, e1]
            rw [e1] at hli
            rw [Bool.eq_iff_iff, beq_iff_eq, beq_iff_eq]
            omega
          · rename_i e1
            by_cases e2 : rtOf σ.par i = a
            · rw [e2, lja]
              rw [e2] at hli
              rw [Bool.eq_iff_iff, beq_iff_eq, beq_iff_eq]
              omega
            · rw [ljn _ e2]
      show σ.k + 1 + cnt (fun v => (σ.join a b).nm v == v) σ.n = σ.n
      omega

/-- the sets are those that hang together by R -/
structure Rep (σ : USt) (R : Nat → Nat → Prop) : Prop where
  hist : UHist σ
  low : ∀ u v, R u v → u < σ.n ∧ v < σ.n
  rep : ∀ u v, u < σ.n → v < σ.n → (rtOf σ.par u = rtOf σ.par v ↔ Cn R u v)

theorem Rep.init {n : Nat} (h : n ≤ 1024) : Rep (USt.init n) (fun _ _ => False) where
  hist := .base h
  low := fun _ _ h => h.elim
  rep := fun u v _ _ => by
    have e : ∀ v, rtOf (USt.init n).par v = v := fun v => (Rt.here rfl).of
    rw [e, e]
    exact ⟨fun e => e ▸ .refl u, fun h => h.resp (fun x => x) fun _ _ h => h.elim⟩

theorem Rep.same {σ : USt} {R : Nat → Nat → Prop} (h : Rep σ R) {u v : Nat} (hu : u < σ.n) (hv : v < σ.n) (e : rtOf σ.par u = rtOf σ.par v) : Rep σ (fun x y => R x y ∨ (x = u ∧ y = v)) where
  hist := h.hist
  low := fun x y hxy => by
    rcases hxy with h' | ⟨rfl, rfl⟩
    · exact h.low _ _ h'
    · exact ⟨hu, hv⟩
  rep := fun x y hx hy => by
    rw [h.rep x y hx hy]
    refine ⟨Cn.mono fun _ _ h => .edge (.inl h), Cn.mono fun p q hpq => ?_⟩
    rcases hpq with h' | ⟨rfl, rfl⟩
    · exact .edge h'
    · exact (h.rep _ _ hu hv).1 e

theorem Rep.join {σ : USt} {R : Nat → Nat → Prop} (h : Rep σ R) {u v a b : Nat} (hu : u < σ.n) (hv : v < σ.n) (hab : a ≠ b) (ha : a < σ.n) (hb : b < σ.n)
    (hor : rtOf σ.par u = a ∧ rtOf σ.par v = b ∨ rtOf σ.par u = b ∧ rtOf σ.par v = a) (ra : σ.par a = a) (rb : σ.par b = b) : Rep (σ.join a b) (fun x y => R x y ∨ (x = u ∧ y = v)) where
  hist := .join h.hist hab ha hb ra rb
  low := fun x y hxy => by
    rcases hxy with h' | ⟨rfl, rfl⟩
    · exact h.low _ _ h'
    · exact ⟨hu, hv⟩
  rep := fun x y hx hy => by
    have hx : x < σ.n := hx
    have hy : y < σ.n := hy
    have jr := fun {v} hv => join_rt (v := v) h.hist.ok hab ha hb ra rb hv
    constructor
    · intro e
      rw [jr hx, jr hy] at e
      have up : ∀ p q, Cn R p q → Cn (fun x y => R x y ∨ (x = u ∧ y = v)) p q := fun p q => Cn.mono fun _ _ h => .edge (.inl h)
      have uv : Cn (fun x y => R x y ∨ (x = u ∧ y = v)) u v := .edge (.inr ⟨rfl, rfl⟩)
      -- a node of b's set hangs together with one of a's
      have ab : ∀ p q, p < σ.n → q < σ.n → rtOf σ.par p = a → rtOf σ.par q = b → Cn (fun x y => R x y ∨ (x = u ∧ y = v)) p q := by
        intro p q hp hq ep eq
        rcases hor with ⟨e1, e2⟩ | ⟨e1, e2⟩
        · exact (up _ _ ((h.rep p u hp hu).1 (ep.trans e1.symm))).trans (uv.trans (up _ _ ((h.rep v q hv hq).1 (e2.trans eq.symm))))
        · exact (up _ _ ((h.rep p v hp hv).1 (ep.trans e2.symm))).trans (uv.symm.trans (up _ _ ((h.rep u q hu hq).1 (e1.trans eq.symm))))
      by_cases ex : rtOf σ.par x = b
      · by_cases ey : rtOf σ.par y = b
        · exact up _ _ ((h.rep x y hx hy).1 (ex.trans ey.symm))
        · rw [if_pos ex, if_neg ey] at e
          exact (ab y x hy hx e.symm ex).symm
      · by_cases ey : rtOf σ.par y = b
        · rw [if_neg ex, if_pos ey] at e
          exact ab x y hx hy e ey
        · rw [if_neg ex, if_neg ey] at e
          exact up _ _ ((h.rep x y hx hy).1 e)
    · intro hc
      refine hc.resp (fun x => rtOf (σ.join a b).par x) fun p q hpq => ?_
      rcases hpq with h' | ⟨rfl, rfl⟩
      · obtain ⟨hp, hq⟩ := h.low _ _ h'
        rw [jr hp, jr hq, (h.rep _ _ hp hq).2 (.edge h')]
      · rw [jr hu, jr hv]
        rcases hor with ⟨e1, e2⟩ | ⟨e1, e2⟩
        · rw [e1, e2, if_neg hab, if_pos rfl]
        · rw [e1, e2, if_neg hab, if_pos rfl]

theorem Rep.nm_le {σ τ : USt} {R S : Nat → Nat → Prop} (h : Rep σ R) (k : Rep τ S) (hn : σ.n = τ.n) (e : ∀ u v, Cn S u v → Cn R u v) {v : Nat} (hv : v < σ.n) : σ.nm v ≤ τ.nm v := by
  have l2 := k.hist.least.1 v (by omega)
  have hlt : τ.lst (rtOf τ.par v) < τ.n := by omega
  have hc := e _ _ ((k.rep _ _ hlt (by omega)).1 l2.2)
  have hr := (h.rep _ _ (by omega) hv).2 hc
  have := (h.hist.least.1 _ (show τ.lst (rtOf τ.par v) < σ.n by omega)).1
  rw [hr] at this
  exact this

theorem Rep.nm_eq {σ τ : USt} {R S : Nat → Nat → Prop} (h : Rep σ R) (k : Rep τ S) (hn : σ.n = τ.n) (e : ∀ u v, Cn S u v ↔ Cn R u v) {v : Nat} (hv : v < σ.n) : σ.nm v = τ.nm v :=
  Nat.le_antisymm (h.nm_le k hn (fun u v => (e u v).1) hv) (k.nm_le h hn.symm (fun u v => (e u v).2) (by omega))

theorem Rep.congr {σ : USt} {R S : Nat → Nat → Prop} (h : Rep σ R) (e : ∀ u v, S u v ↔ R u v) : Rep σ S := by
  have : S = R := funext fun u => funext fun v => propext (e u v)
  rw [this]; exact h

/-- the first node of a set is its name -/
theorem mem_head {σ : USt} (h : UHist σ) {v : Nat} (hv : v < σ.n) : (σ.mem v σ.n)[0]? = some (σ.nm v) := by
  have l := h.least.1 v hv
  unfold USt.mem
  rw [← List.head?_eq_getElem?, List.head?_filter, List.find?_range_eq_some]
  refine ⟨by simp only [beq_iff_eq]; exact l.2, by simp; exact Nat.lt_of_le_of_lt l.1 hv, fun j hj => ?_⟩
  have hj : j < σ.lst (rtOf σ.par v) := hj
  simp only [Bool.not_eq_true', beq_eq_false_iff_ne]
  intro e
  have := (h.least.1 j (by omega)).1
  rw [e] at this
  omega

end Go.Mz
