/-
  The plain law of the cheapest forest: as many edges that hold together what hangs together cost no less. No program in sight.
-/
import Derived.Test.YthcehonpfnmpiaaLSpH
set_option linter.unusedSimpArgs false
set_option linter.unusedVariables false
namespace Go.Mz

theorem cnt_notB {p : Nat → Bool} : ∀ {n : Nat}, cnt p n + cnt (fun i => !p i) n = n
  | 0 => rfl
  | n + 1 => by
    have := cnt_notB (p := p) (n := n)
    show cnt p n + (if p n then 1 else 0) + (cnt (fun i => !p i) n + if (fun i => !p i) n then 1 else 0) = n + 1
    cases h : p n <;> simp [h] <;> omega

theorem sm_thr1 {d : Nat} : ∀ {W : Nat}, sm (fun y => if y < d then 1 else 0) W = min d W
  | 0 => by simp [sm]
  | W + 1 => by
    show sm _ W + (if W < d then 1 else 0) = _
    rw [sm_thr1]
    split <;> omega

/-- a sum by how many pass each height -/
theorem sm_thr {d : Nat → Nat} {W : Nat} : ∀ {m : Nat}, (∀ j, j < m → d j ≤ W) → sm d m = sm (fun y => cnt (fun j => decide (y < d j)) m) W
  | 0, _ => (sm_zero fun _ _ => rfl).symm
  | m + 1, h => by
    show sm d m + d m = _
    rw [sm_thr fun j hj => h j (by omega)]
    have e1 : sm (fun y => cnt (fun j => decide (y < d j)) (m + 1)) W = sm (fun y => cnt (fun j => decide (y < d j)) m + if y < d m then 1 else 0) W := sm_congr fun y _ => by
      show cnt _ m + (if decide (y < d m) = true then 1 else 0) = _
      simp
    rw [e1, sm_add, sm_thr1]
    have := h m (by omega)
    omega

/-- how much less than the most an edge costs -/
def lack (e : Nat → Edg) (i : Nat) : Nat := (1048576 - (e i).co).toNat

theorem csum_lack {e : Nat → Edg} {l : List Nat} (hb : ∀ x ∈ l, (e x).co ≤ 1048576) : ∀ {m : Nat}, m ≤ l.length → csum e (lsF l) m = 1048576 * (m : Int) - (sm (fun j => lack e (l[j]?.getD 0)) m : Int)
  | 0, _ => rfl
  | m + 1, h => by
    have h1 := csum_lack hb (m := m) (by omega)
    have e1 : csum e (lsF l) (m + 1) = csum e (lsF l) m + (e (lsF l m).toNat).co := rfl
    have e2 : sm (fun j => lack e (l[j]?.getD 0)) (m + 1) = sm (fun j => lack e (l[j]?.getD 0)) m + lack e (l[m]?.getD 0) := rfl
    have e3 : (lsF l m).toNat = l[m]?.getD 0 := by unfold lsF; exact Int.toNat_natCast _
    have h2 : (e (l[m]?.getD 0)).co ≤ 1048576 := by
      rw [List.getElem?_eq_getElem (by omega : m < l.length)]
      exact hb _ (List.getElem_mem _)
    have e4 : lack e (l[m]?.getD 0) = (1048576 - (e (l[m]?.getD 0)).co).toNat := rfl
    rw [e1, e2, e3, h1]
    omega

theorem sm_filter {g : Nat → Nat} {p : Nat → Bool} : ∀ {n : Nat}, sm (fun j => g (((List.range n).filter p)[j]?.getD 0)) ((List.range n).filter p).length = sm (fun t => if p t then g t else 0) n
  | 0 => rfl
  | n + 1 => by
    have ih := sm_filter (g := g) (p := p) (n := n)
    show _ = sm (fun t => if p t then g t else 0) n + if p n then g n else 0
    rw [List.range_succ, List.filter_append]
    cases h : p n with
    | false =>
      have : List.filter p [n] = [] := by simp [h]
      rw [this, List.append_nil, ih]; rfl
    | true =>
      have : List.filter p [n] = [n] := by simp [h]
      rw [this, List.length_append]
      show sm _ (((List.range n).filter p).length + 1) = _
      show sm _ ((List.range n).filter p).length + g ((((List.range n).filter p) ++ [n])[((List.range n).filter p).length]?.getD 0) = _
      rw [← ih]
      congr 1
      · exact sm_congr fun j hj => by rw [List.getElem?_append_left hj]
      · simp

open Classical in
/-- the forest is no dearer -/
theorem cheapest {N : Nat} {e : Nat → Edg} {n : Nat} {l : List Nat} (hN : N ≤ 1024) (hr : ∀ i, i < n → (ePr e i).1 < N ∧ (ePr e i).2 < N) (hb : ∀ i, i < n → -1048576 ≤ (e i).co ∧ (e i).co ≤ 1048576)
    (hl : ∀ x ∈ l, x < n) (hc : ∀ u v, Cn (Sel (ePr e) n fun t => t ∈ l) u v ↔ Cn (Sel (ePr e) n fun _ => True) u v) (hm : l.length = (frs e n).length) :
    csum e (lsF (frs e n)) (frs e n).length ≤ csum e (lsF l) l.length := by
  obtain ⟨pr, hpr⟩ : ∃ pr : Nat → Nat × Nat, pr = fun j => ePr e (l[j]?.getD 0) := ⟨_, rfl⟩
  have hat : ∀ j, (hj : j < l.length) → pr j = ePr e l[j] ∧ l[j] < n := fun j hj => by
    rw [hpr]
    simp only [List.getElem?_eq_getElem hj, Option.getD_some]
    exact ⟨by first | rfl | trivial, hl _ (List.getElem_mem hj)⟩
  have hprr : ∀ j, j < l.length → (pr j).1 < N ∧ (pr j).2 < N := fun j hj => by
    obtain ⟨h1, h2⟩ := hat j hj
    rw [h1]; exact hr _ h2
  -- how many joins all edges make
  obtain ⟨τF, f1, f2, f3, f4⟩ := rep_sel hN hr (fun t => decide (InF e n t))
  have f5 : τF.k = l.length := by
    rw [hm, frs_count]
    refine f4 fun t ht hT c => ?_
    have hT' : InF e n t := by simpa using hT
    refine InF.free (e := e) (n := n) n (T := fun s => decide (InF e n s ∧ s < t)) (cnt_le _ _) (fun s hs hp => ?_) hT' (decide_eq_false fun h => by omega) (Sel.mono (fun s hs hp => ?_) c)
    · simp only [decide_eq_true_eq] at hp; exact hp.1
    · simp only [decide_eq_true_eq] at hp ⊢; exact hp
  -- at each height as many
  have key : ∀ x : Int, cnt (fun j => decide ((e (l[j]?.getD 0)).co ≤ x)) l.length ≤ cnt (fun t => decide (InF e n t ∧ (e t).co ≤ x)) n := by
    intro x
    obtain ⟨T, hT⟩ : ∃ T : Nat → Bool, T = fun j => decide ((e (l[j]?.getD 0)).co ≤ x) := ⟨_, rfl⟩
    rw [← hT]
    obtain ⟨σ1, g1, g2, _, _⟩ := rep_sel hN hprr T
    obtain ⟨τ, t1, t2, t3, _⟩ := rep_from g1 (fun i hi => by rw [g2]; exact hprr i hi) (fun j => !T j) l.length (Nat.le_refl _)
    have hτ : τ.k = τF.k := by
      refine f1.k_eq t1 (by omega) fun u v => ?_
      have e1 : Cn (Sel (ePr e) n fun t => decide (InF e n t) = true) u v ↔ Cn (Sel (ePr e) n fun _ => True) u v :=
        ⟨fun h => Sel.mono (fun _ _ _ => trivial) h, fun h => Sel.mono (fun _ _ h => decide_eq_true h) (InF.whole.1 h)⟩
      rw [e1, ← hc]
      constructor
      · refine fun h => h.mono fun a b hab => ?_
        rcases hab with ⟨j, hj, _, q1, q2⟩ | ⟨j, hj, _, q1, q2⟩
        all_goals
          obtain ⟨h1, h2⟩ := hat j hj
          exact .edge ⟨l[j], h2, List.getElem_mem hj, by rw [q1, h1], by rw [q2, h1]⟩
      · refine fun h => h.mono fun a b ⟨t, ht, htl, q1, q2⟩ => ?_
        obtain ⟨j, hj, ej⟩ := List.mem_iff_getElem.1 htl
        obtain ⟨h1, h2⟩ := hat j hj
        rw [← ej, ← h1] at q1 q2
        cases hTj : T j with
        | true => exact .edge (.inl ⟨j, hj, hTj, q1, q2⟩)
        | false => exact .edge (.inr ⟨j, hj, ⟨by simp [hTj], hj⟩, q1, q2⟩)
    have hn' := cnt_notB (p := T) (n := l.length)
    have h1 : cnt T l.length ≤ σ1.k := by omega
    obtain ⟨σ2, s1, s2, s3, _⟩ := rep_sel hN hr (fun t => decide (InF e n t ∧ (e t).co ≤ x))
    have h2 : σ1.k ≤ σ2.k := by
      refine s1.k_le g1 (by omega) fun u v h => ?_
      have h3 : Cn (Sel (ePr e) n fun t => (e t).co ≤ x) u v := h.mono fun a b ⟨j, hj, hTj, q1, q2⟩ => by
        obtain ⟨h1, h2⟩ := hat j hj
        rw [hT] at hTj
        simp only [List.getElem?_eq_getElem hj, Option.getD_some, decide_eq_true_eq] at hTj
        exact .edge ⟨l[j], h2, hTj, by rw [q1, h1], by rw [q2, h1]⟩
      exact Sel.mono (fun t _ ht => by simp only [decide_eq_true_eq]; exact ht) ((InF.low fun a b hb hab => by unfold ahd at hab; omega).1 h3)
    omega
  -- and so in all
  have hbl : ∀ x ∈ l, (e x).co ≤ 1048576 := fun x hx => (hb x (hl x hx)).2
  have hbf : ∀ x ∈ frs e n, (e x).co ≤ 1048576 := fun x hx => (hb x (frs_mem.1 hx).1).2
  rw [csum_lack hbl (Nat.le_refl _), csum_lack hbf (Nat.le_refl _), ← hm]
  have hs : sm (fun j => lack e (l[j]?.getD 0)) l.length ≤ sm (fun j => lack e ((frs e n)[j]?.getD 0)) l.length := by
    rw [hm]
    have e2 : sm (fun j => lack e ((frs e n)[j]?.getD 0)) (frs e n).length = sm (fun t => if decide (InF e n t) then lack e t else 0) n := sm_filter
    have d1 : sm (fun j => lack e (l[j]?.getD 0)) (frs e n).length = sm (fun y => cnt (fun j => decide (y < lack e (l[j]?.getD 0))) (frs e n).length) 2097152 := sm_thr fun j hj => by
      have hj' : j < l.length := by omega
      have := hb l[j] (hl _ (List.getElem_mem hj'))
      simp only [List.getElem?_eq_getElem hj', Option.getD_some]
      unfold lack
      omega
    have d2 : sm (fun t => if decide (InF e n t) then lack e t else 0) n = sm (fun y => cnt (fun t => decide (y < if decide (InF e n t) then lack e t else 0)) n) 2097152 := sm_thr fun j hj => by
      by_cases hF : InF e n j
      · simp only [hF, decide_true, if_true]
        have := (hb j hF.1).1
        unfold lack
        omega
      · simp [hF]
    rw [e2, d1, d2]
    refine sm_le fun y _ => ?_
    have h1 := key (1048576 - (y : Int) - 1)
    have e3 : cnt (fun j => decide (y < lack e (l[j]?.getD 0))) (frs e n).length = cnt (fun j => decide ((e (l[j]?.getD 0)).co ≤ 1048576 - (y : Int) - 1)) l.length := by
      rw [hm]
      refine cnt_congr fun j _ => ?_
      rw [decide_eq_decide]
      unfold lack
      omega
    have e4 : cnt (fun t => decide (y < if decide (InF e n t) = true then lack e t else 0)) n = cnt (fun t => decide (InF e n t ∧ (e t).co ≤ 1048576 - (y : Int) - 1)) n := by
      refine cnt_congr fun t _ => ?_
      rw [decide_eq_decide]
      by_cases hF : InF e n t
      · simp only [hF, decide_true, if_true, true_and]
        unfold lack
        omega
      · simp [hF]
    rw [e3, e4]
    exact h1
  omega
end Go.Mz
