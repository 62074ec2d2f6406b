/-
  Plain law: a matching with the most edges, found by trying each edge as the first. No program in sight.
-/
import Derived.Test.YtmaeboaopebaiaaVouS4
import Derived.Test.YtmaeboaopebaiaaPkX
import Derived.Test.YtmaeboaopebaiaaPkM
set_option linter.unusedSimpArgs false
set_option linter.unusedVariables false
namespace Go.Mz

/-- marks among those that are taken, counted over the taken -/
theorem pk_cnt {P T : Nat → Bool} : ∀ {n : Nat}, cnt (fun j => T (lsF (pk P n) j).toNat) (pk P n).length = cnt (fun k => T k && P k) n
  | 0 => rfl
  | n + 1 => by
    have ih := pk_cnt (P := P) (T := T) (n := n)
    show _ = cnt (fun k => T k && P k) n + _
    rw [pk_succ, ← ih]
    by_cases h : P n = true
    · simp only [h, if_true, List.length_append, List.length_singleton]
      show cnt _ (pk P n).length + (if T (lsF (pk P n ++ [n]) (pk P n).length).toNat then 1 else 0) = _
      rw [cnt_congr (q := fun j => T (lsF (pk P n) j).toNat) fun j hj => by rw [lsF_left hj], lsF_last, Int.toNat_natCast, Bool.and_true]
    · simp [h]

theorem pk_tdeg {e : Nat → Edg} {P T : Nat → Bool} {v : Int} : ∀ {n : Nat}, tdeg (sub e (lsF (pk P n))) (fun j => T (lsF (pk P n) j).toNat) (pk P n).length v = tdeg e (fun k => T k && P k) n v
  | 0 => rfl
  | n + 1 => by
    have ih := pk_tdeg (e := e) (P := P) (T := T) (v := v) (n := n)
    show _ = tdeg e (fun k => T k && P k) n v + _
    rw [pk_succ, ← ih]
    have con : ∀ (e' e'' : Nat → Edg) (T' T'' : Nat → Bool) (l : Nat), (∀ j, j < l → e' j = e'' j ∧ T' j = T'' j) → tdeg e' T' l v = tdeg e'' T'' l v := by
      intro e' e'' T' T'' l
      induction l with
      | zero => intro _; rfl
      | succ l ih =>
        intro h
        show tdeg e' T' l v + _ = tdeg e'' T'' l v + _
        rw [ih fun j hj => h j (by omega), (h l (by omega)).1, (h l (by omega)).2]
    by_cases h : P n = true
    · simp only [h, if_true, List.length_append, List.length_singleton]
      show tdeg _ _ (pk P n).length v + (if T (lsF (pk P n ++ [n]) (pk P n).length).toNat then _ else 0) = _
      rw [con _ (sub e (lsF (pk P n))) _ (fun j => T (lsF (pk P n) j).toNat) _ fun j hj => ⟨by unfold sub; rw [lsF_left hj], by rw [lsF_left hj]⟩]
      unfold sub
      rw [lsF_last, Int.toNat_natCast, Bool.and_true]
    · simp [h]

/-- shares no end -/
def apart (x y : Edg) : Bool := decide (x.fr ≠ y.fr) && decide (x.to ≠ y.fr) && decide (x.fr ≠ y.to) && decide (x.to ≠ y.to)

theorem apart_iff {x y : Edg} : apart x y = true ↔ x.fr ≠ y.fr ∧ x.to ≠ y.fr ∧ x.fr ≠ y.to ∧ x.to ≠ y.to := by
  unfold apart
  simp only [Bool.and_eq_true, decide_eq_true_eq, and_assoc]

/-- those behind an edge that share no end with it -/
def whl (e : Nat → Edg) (i n : Nat) : List Nat := pk (fun k => decide (i < k) && apart (e k) (e i)) n

/-- no node is taken twice -/
def Mtc (e : Nat → Edg) (n : Nat) (M : List Nat) : Prop := Ris (lsF M) M.length n ∧ ∀ v, dg e (lsF M) M.length v ≤ 1

/-- a matching with the most edges -/
def Mst (e : Nat → Edg) (n : Nat) (M : List Nat) : Prop := Mtc e n M ∧ ∀ T, (∀ v, tdeg e T n v ≤ 1) → cnt T n ≤ M.length

theorem tdeg_at {e : Nat → Edg} {T : Nat → Bool} {v : Int} {k : Nat} (hk : T k = true) : ∀ {n : Nat}, k < n → (if (e k).fr = v then 1 else 0) + (if (e k).to = v then 1 else 0) ≤ tdeg e T n v
  | n + 1, h => by
    show _ ≤ tdeg e T n v + _
    by_cases e1 : k = n
    · subst e1; rw [if_pos hk]; omega
    · have := tdeg_at (e := e) (v := v) hk (n := n) (by omega); omega

theorem tdeg_two {e : Nat → Edg} {T : Nat → Bool} {v : Int} {k l : Nat} (hk : T k = true) (hl : T l = true) (hkl : k < l) : ∀ {n : Nat}, l < n → (if (e k).fr = v then 1 else 0) + (if (e k).to = v then 1 else 0) + ((if (e l).fr = v then 1 else 0) + (if (e l).to = v then 1 else 0)) ≤ tdeg e T n v
  | n + 1, h => by
    show _ ≤ tdeg e T n v + _
    by_cases e1 : l = n
    · subst e1; rw [if_pos hl]
      have := tdeg_at (e := e) (v := v) hk hkl; omega
    · have := tdeg_two (e := e) (v := v) hk hl hkl (n := n) (by omega); omega

theorem tdeg_le {e : Nat → Edg} {T T' : Nat → Bool} {v : Int} (h : ∀ k, T k = true → T' k = true) : ∀ {n : Nat}, tdeg e T n v ≤ tdeg e T' n v
  | 0 => Nat.le_refl _
  | n + 1 => by
    have ih := tdeg_le (e := e) (v := v) h (n := n)
    show tdeg e T n v + _ ≤ tdeg e T' n v + _
    by_cases hn : T n = true
    · rw [if_pos hn, if_pos (h n hn)]; omega
    · rw [if_neg hn]; omega

/-- the edges behind the first that are left apart from it -/
theorem most_first {e : Nat → Edg} {n i : Nat} {T : Nat → Bool} (hi : i < n) (hT : ∀ v, tdeg e T n v ≤ 1) (hTi : T i = true) (hfirst : ∀ k, k < i → T k = false) {M : List Nat} (hM : Mst (sub e (lsF (whl e i n))) (whl e i n).length M) : cnt T n ≤ M.length + 1 := by
  let P : Nat → Bool := fun k => decide (i < k) && apart (e k) (e i)
  have h1 := hM.2 (fun j => T (lsF (whl e i n) j).toNat) fun v => by
    have : tdeg (sub e (lsF (pk P n))) (fun j => T (lsF (pk P n) j).toNat) (pk P n).length v = tdeg e (fun k => T k && P k) n v := pk_tdeg
    have h2 : tdeg e (fun k => T k && P k) n v ≤ tdeg e T n v := tdeg_le fun k hk => by simp only [Bool.and_eq_true] at hk; exact hk.1
    have h3 := hT v
    show tdeg (sub e (lsF (pk P n))) (fun j => T (lsF (pk P n) j).toNat) (pk P n).length v ≤ 1
    omega
  have h2 : cnt (fun j => T (lsF (pk P n) j).toNat) (pk P n).length = cnt (fun k => T k && P k) n := pk_cnt
  have h3 : cnt T n = cnt (fun k => T k && P k) n + 1 := by
    refine cnt_less hi hTi (by simp [P]) fun k hk hne => ?_
    cases hTk : T k with
    | false => rfl
    | true =>
      have hik : i < k := by
        rcases Nat.lt_trichotomy k i with h | h | h
        · rw [hfirst k h] at hTk; cases hTk
        · exact absurd h hne
        · exact h
      have t1 := tdeg_two (e := e) (v := (e i).fr) hTi hTk hik hk
      have t2 := tdeg_two (e := e) (v := (e i).to) hTi hTk hik hk
      have b1 := hT (e i).fr
      have b2 := hT (e i).to
      rw [if_pos rfl] at t1
      rw [if_pos (show (e i).to = (e i).to from rfl)] at t2
      have : apart (e k) (e i) = true := by
        rw [apart_iff]
        refine ⟨fun h => ?_, fun h => ?_, fun h => ?_, fun h => ?_⟩
        · rw [if_pos h] at t1; omega
        · rw [if_pos h] at t1; omega
        · rw [if_pos h] at t2; omega
        · rw [if_pos h] at t2; omega
      simp [P, hik, this]
  have h4 : cnt (fun j => T (lsF (whl e i n) j).toNat) (whl e i n).length = cnt (fun j => T (lsF (pk P n) j).toNat) (pk P n).length := rfl
  omega

theorem whl_at {e : Nat → Edg} {i n j : Nat} (hj : j < (whl e i n).length) : ∃ x : Nat, lsF (whl e i n) j = x ∧ i < x ∧ x < n ∧ apart (e x) (e i) = true := by
  refine ⟨(whl e i n)[j], lsF_get hj, ?_⟩
  have := pk_mem.1 (List.getElem_mem hj)
  simp only [Bool.and_eq_true, decide_eq_true_eq] at this
  exact ⟨this.2.1, this.1, this.2.2⟩

/-- an edge, and a matching of those that are left -/
def consW (w : List Nat) (i : Nat) (M : List Nat) : List Nat := i :: M.map fun j => (lsF w j).toNat

theorem lsF_consW {w M : List Nat} {i j : Nat} (h : j < M.length) : lsF (consW w i M) (j + 1) = (((lsF w (lsF M j).toNat).toNat : Nat) : Int) := by
  unfold consW
  have : (lsF M j).toNat = M[j] := by rw [lsF_get h]; simp
  rw [this]
  unfold lsF
  rw [List.getElem?_cons_succ, List.getElem?_map, List.getElem?_eq_getElem h]
  rfl

theorem dg_consW {e : Nat → Edg} {w M : List Nat} {i : Nat} {v : Int} : ∀ {k : Nat}, k ≤ M.length → dg e (lsF (consW w i M)) (k + 1) v = (if (e i).fr = v then 1 else 0) + (if (e i).to = v then 1 else 0) + dg (sub e (lsF w)) (lsF M) k v
  | 0, _ => by
    rw [dg_succ]
    show 0 + _ + _ = _ + _ + 0
    have : lsF (consW w i M) 0 = (i : Int) := rfl
    rw [this, Int.toNat_natCast]; omega
  | k + 1, h => by
    rw [dg_succ, dg_consW (k := k) (by omega), lsF_consW (by omega), Int.toNat_natCast, dg_succ (e := sub e (lsF w))]
    unfold sub
    omega

theorem mtc_cons {e : Nat → Edg} {n i : Nat} {M : List Nat} (hi : i < n) (hl : ¬ lp (e i)) (hM : Mtc (sub e (lsF (whl e i n))) (whl e i n).length M) : Mtc e n (consW (whl e i n) i M) := by
  have hw : Ris (lsF (whl e i n)) (whl e i n).length n := pk_ris
  have hlen : (consW (whl e i n) i M).length = M.length + 1 := by simp [consW]
  obtain ⟨hr, hd⟩ := hM
  have mid : ∀ j, j < M.length → ∃ y : Nat, lsF M j = y ∧ y < (whl e i n).length := fun j hj => by
    have := hr j hj
    exact ⟨(lsF M j).toNat, by omega, by omega⟩
  refine ⟨?_, fun v => ?_⟩
  · rw [hlen]
    intro j hj
    rcases j with _ | j
    · have : lsF (consW (whl e i n) i M) 0 = (i : Int) := rfl
      rw [this]
      exact ⟨by omega, by omega, fun h => by omega⟩
    · obtain ⟨y, hy, hyl⟩ := mid j (by omega)
      obtain ⟨x, hx, x1, x2, _⟩ := whl_at hyl
      rw [lsF_consW (by omega), hy, Int.toNat_natCast, hx, Int.toNat_natCast]
      refine ⟨by omega, by omega, fun _ => ?_⟩
      rw [Nat.add_sub_cancel]
      rcases j with _ | j
      · have : lsF (consW (whl e i n) i M) 0 = (i : Int) := rfl
        rw [this]; omega
      · obtain ⟨y', hy', hyl'⟩ := mid j (by omega)
        obtain ⟨x', hx', _⟩ := whl_at hyl'
        rw [lsF_consW (by omega), hy', Int.toNat_natCast, hx', Int.toNat_natCast]
        have h1 := (hr (j + 1) (by omega)).2.2 (by omega)
        rw [Nat.add_sub_cancel, hy, hy'] at h1
        have h2 := hw.lt (i := y') (j := y) (by omega) hyl
        rw [hx, hx'] at h2
        omega
  · rw [hlen, dg_consW (Nat.le_refl _)]
    have hv := hd v
    have none : ((e i).fr = v ∨ (e i).to = v) → dg (sub e (lsF (whl e i n))) (lsF M) M.length v = 0 := fun h => by
      have : ∀ k, k ≤ M.length → dg (sub e (lsF (whl e i n))) (lsF M) k v = 0 := by
        intro k
        induction k with
        | zero => intro _; rfl
        | succ k ih =>
          intro hk
          obtain ⟨y, hy, hyl⟩ := mid k (by omega)
          obtain ⟨x, hx, _, _, ha⟩ := whl_at hyl
          rw [apart_iff] at ha
          rw [dg_succ, ih (by omega), hy, Int.toNat_natCast]
          unfold sub
          rw [hx, Int.toNat_natCast]
          rcases h with h | h
          · rw [if_neg (fun h' => ha.1 (h'.trans h.symm)), if_neg (fun h' => ha.2.1 (h'.trans h.symm))]
          · rw [if_neg (fun h' => ha.2.2.1 (h'.trans h.symm)), if_neg (fun h' => ha.2.2.2 (h'.trans h.symm))]
      exact this _ (Nat.le_refl _)
    by_cases h1 : (e i).fr = v
    · rw [none (.inl h1), if_pos h1, if_neg (fun h2 => hl (h1.trans h2.symm))]; omega
    · by_cases h2 : (e i).to = v
      · rw [none (.inr h2), if_neg h1, if_pos h2]; omega
      · rw [if_neg h1, if_neg h2]; omega
end Go.Mz
