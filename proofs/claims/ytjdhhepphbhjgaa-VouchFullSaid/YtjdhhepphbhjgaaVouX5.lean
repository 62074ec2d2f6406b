/-
  Plain law: with two sides, as few nodes as a matching has edges cover all edges (after König). No program in sight.
-/
import Derived.Test.YtjdhhepphbhjgaaVouX4
import Derived.Test.YtjdhhepphbhjgaaPkV
set_option linter.unusedSimpArgs false
set_option linter.unusedVariables false
namespace Go.Mz

theorem cnt_const (n : Nat) : cnt (fun _ => false) n = 0 := cnt_none fun _ _ => rfl

section
variable {N : Int} {n : Nat} {e : Nat → Edg}

theorem adj_cg {W W' : Nat → Bool} (hr : Right N n e) (h : ∀ v, v < N.toNat → W v = W' v) : Adj e n W = Adj e n W' := by
  have ok : ∀ j, j < n → okE W (e j) = okE W' (e j) := fun j hj => by
    have hx := hr.ed j hj
    have hf0 := hx.f0; have hf1 := hx.f1; have ht0 := hx.t0; have ht1 := hx.t1
    unfold okE
    rw [h _ (by omega), h _ (by omega)]
  funext u v
  apply propext
  constructor
  · rintro ⟨j, hj, h1, h2⟩; exact ⟨j, hj, by rw [← ok j hj]; exact h1, h2⟩
  · rintro ⟨j, hj, h1, h2⟩; exact ⟨j, hj, by rw [ok j hj]; exact h1, h2⟩

theorem oddN_cg {W W' : Nat → Bool} (hr : Right N n e) (h : ∀ v, v < N.toNat → W v = W' v) : oddN N n e W = oddN N n e W' := by
  have ha := adj_cg hr h
  unfold oddN
  rw [ha]
  have : ∀ s, s ≤ N.toNat → oddB (Adj e n W') W N.toNat s = oddB (Adj e n W') W' N.toNat s := by
    intro s
    induction s with
    | zero => intro _; rfl
    | succ s ih =>
      intro hs
      have hf : Fst (Adj e n W') W s ↔ Fst (Adj e n W') W' s := by unfold Fst; rw [h s (by omega)]
      show oddB (Adj e n W') W N.toNat s + _ = oddB (Adj e n W') W' N.toNat s + _
      rw [ih (by omega)]
      congr 1
      by_cases hq : Fst (Adj e n W') W s
      · rw [if_pos hq, if_pos (hf.1 hq)]
      · rw [if_neg hq, if_neg (fun h => hq (hf.2 h))]
  exact this _ (Nat.le_refl _)

open Classical in
theorem konig {left : Int} (hr : Right N n e) (hbip : ∀ i, i < n → ¬ ((e i).fr < left ↔ (e i).to < left)) {T : Nat → Bool} (hT : Mxw e n (fun _ => false) T) :
    ∃ C : Nat → Bool, (∀ i, i < n → C (e i).fr.toNat = true ∨ C (e i).to.toNat = true) ∧ cnt C N.toNat ≤ cnt T n := by
  have hN0 := hr.N0
  obtain ⟨U, _, hEq⟩ := berge hr _ (fun _ => false) rfl T hT
  rw [cnt_const] at hEq
  let R := Adj e n U
  let col : Nat → Bool := fun v => decide ((v : Int) < left)
  let A := fun s => cnt (fun v => decide (Cn R s v) && col v) N.toNat
  let B := fun s => cnt (fun v => decide (Cn R s v) && !col v) N.toNat
  let mn : Nat → Bool := fun s => decide (A s ≤ B s)
  let C : Nat → Bool := fun v => U v || decide (∃ s, Fst R U s ∧ Cn R s v ∧ col v = mn s)
  have hsz : ∀ s, csz R N.toNat s = A s + B s := fun s => cnt_split (p := fun v => decide (Cn R s v)) (q := col)
  have hmn : ∀ s, 2 * sm (fun v => if Fst R U s ∧ Cn R s v ∧ col v = mn s then 1 else 0) N.toNat + (if Fst R U s then csz R N.toNat s % 2 else 0) ≤ if Fst R U s then csz R N.toNat s else 0 := fun s => by
    by_cases hf : Fst R U s
    · rw [if_pos hf, if_pos hf, hsz]
      by_cases hab : A s ≤ B s
      · have : sm (fun v => if Fst R U s ∧ Cn R s v ∧ col v = mn s then 1 else 0) N.toNat = A s := by
          show _ = cnt _ _
          rw [cnt_sm]
          refine sm_congr fun v _ => ?_
          have : mn s = true := decide_eq_true hab
          rw [this]
          by_cases h : Cn R s v <;> by_cases h' : col v = true <;> simp [hf, h, h']
        omega
      · have : sm (fun v => if Fst R U s ∧ Cn R s v ∧ col v = mn s then 1 else 0) N.toNat = B s := by
          show _ = cnt _ _
          rw [cnt_sm]
          refine sm_congr fun v _ => ?_
          have : mn s = false := decide_eq_false hab
          rw [this]
          by_cases h : Cn R s v <;> by_cases h' : col v = true <;> simp [hf, h, h']
        omega
    · rw [if_neg hf, if_neg hf, sm_zero fun v _ => if_neg fun h => hf h.1]
      exact Nat.le_refl _
  -- the parts hold all that is not in the set
  have hall : sm (fun s => if Fst R U s then csz R N.toNat s else 0) N.toNat + cnt U N.toNat = N.toNat := by
    have e1 : sm (fun s => if Fst R U s then csz R N.toNat s else 0) N.toNat = sm (fun v => if U v then 0 else 1) N.toNat := by
      rw [sm_congr (g := fun s => sm (fun v => if Fst R U s ∧ Cn R s v then 1 else 0) N.toNat) fun s _ => by
        by_cases hf : Fst R U s
        · rw [if_pos hf]
          show cnt _ _ = _
          rw [cnt_sm]
          exact sm_congr fun v _ => by by_cases h : Cn R s v <;> simp [hf, h]
        · rw [if_neg hf]; exact (sm_zero fun v _ => by simp [hf]).symm, sm_swap]
      refine sm_congr fun v hv => ?_
      by_cases hU : U v = true
      · rw [if_pos hU]
        refine sm_zero fun s _ => if_neg fun ⟨hf, hc⟩ => ?_
        have := (cn_W hc).symm.trans hf.1
        rw [hU] at this; cases this
      · rw [if_neg hU]
        obtain ⟨s, hs, hf, hc⟩ := fst_ex (e := e) (n := n) (W := U) (v := v) (by simpa using hU)
        have h0 := sm_one (f := fun s => if Fst R U s ∧ Cn R s v then 1 else 0) (g := fun _ => 0) (n := N.toNat) (b := s) (by omega) fun i _ hne => if_neg fun ⟨h1, h2⟩ => hne (fst_uniq h1 hf h2 hc)
        rw [sm_zero (f := fun _ => 0) fun _ _ => rfl, if_pos ⟨hf, hc⟩] at h0
        omega
    have hone : ∀ M, sm (fun _ => 1) M = M := by
      intro M
      induction M with
      | zero => rfl
      | succ M ih => show sm _ M + 1 = _; rw [ih]
    rw [e1, cnt_sm, ← sm_add]
    refine Eq.trans (sm_congr (g := fun _ => 1) fun v _ => ?_) (hone _)
    cases U v <;> simp
  have hC : cnt C N.toNat ≤ cnt U N.toNat + sm (fun s => sm (fun v => if Fst R U s ∧ Cn R s v ∧ col v = mn s then 1 else 0) N.toNat) N.toNat := by
    rw [sm_swap, cnt_sm, cnt_sm, ← sm_add]
    refine sm_le fun v hv => ?_
    by_cases hU : U v = true
    · have : C v = true := by simp [C, hU]
      rw [if_pos this, if_pos hU]; omega
    · by_cases hc : ∃ s, Fst R U s ∧ Cn R s v ∧ col v = mn s
      · obtain ⟨s, h1, h2, h3⟩ := hc
        have hs : s < N.toNat := by
          rcases Nat.lt_or_ge v s with h | h
          · exact (h1.2 v h h2.symm).elim
          · omega
        have h0 := sm_one (f := fun s => if Fst R U s ∧ Cn R s v ∧ col v = mn s then 1 else 0) (g := fun s' => if s' = s then 0 else (if Fst R U s' ∧ Cn R s' v ∧ col v = mn s' then 1 else 0)) (n := N.toNat) (b := s) hs fun i _ hne => by rw [if_neg hne]
        rw [if_pos rfl, if_pos ⟨h1, h2, h3⟩] at h0
        split <;> omega
      · have : C v = false := by
          have hU' : U v = false := by simpa using hU
          show (U v || decide _) = false
          rw [hU', decide_eq_false hc]; rfl
        rw [this, if_neg hU]
        simp
  have hodd : oddN N n e U = sm (fun s => if Fst R U s then csz R N.toNat s % 2 else 0) N.toNat := by
    show oddB _ _ _ _ = _
    rw [oddB_sm]
  have hsum : 2 * sm (fun s => sm (fun v => if Fst R U s ∧ Cn R s v ∧ col v = mn s then 1 else 0) N.toNat) N.toNat + oddN N n e U ≤ sm (fun s => if Fst R U s then csz R N.toNat s else 0) N.toNat := by
    have := sm_le (n := N.toNat) fun s _ => hmn s
    rw [sm_add, ← hodd] at this
    have h2 : ∀ (f : Nat → Nat) M, sm (fun s => 2 * f s) M = 2 * sm f M := by
      intro f M
      induction M with
      | zero => rfl
      | succ M ih => show sm _ M + 2 * f M = 2 * (sm f M + f M); rw [ih]; omega
    rw [h2] at this
    exact this
  refine ⟨C, fun i hi => ?_, by omega⟩
  by_cases h1 : U (e i).fr.toNat = true
  · exact .inl (by simp [C, h1])
  by_cases h2 : U (e i).to.toNat = true
  · exact .inr (by simp [C, h2])
  have h1' : U (e i).fr.toNat = false := by simpa using h1
  have h2' : U (e i).to.toNat = false := by simpa using h2
  have hx := hr.ed i hi
  have hf0 := hx.f0; have ht0 := hx.t0
  have hadj : R (e i).fr.toNat (e i).to.toNat := ⟨i, hi, by simp [okE, h1', h2'], .inl ⟨rfl, rfl⟩⟩
  obtain ⟨s, _, hf, hc⟩ := fst_ex (e := e) (n := n) h1'
  have hc2 : Cn R s (e i).to.toNat := hc.trans (.edge hadj)
  have hcol : col (e i).fr.toNat ≠ col (e i).to.toNat := fun h => hbip i hi (by
    have := decide_eq_decide.1 h
    rw [show (((e i).fr.toNat : Nat) : Int) = (e i).fr by omega, show (((e i).to.toNat : Nat) : Int) = (e i).to by omega] at this
    exact this)
  by_cases h : col (e i).fr.toNat = mn s
  · left
    have : ∃ s, Fst R U s ∧ Cn R s (e i).fr.toNat ∧ col (e i).fr.toNat = mn s := ⟨s, hf, hc, h⟩
    show (U _ || decide _) = true
    rw [decide_eq_true this, Bool.or_true]
  · right
    have h3 : col (e i).to.toNat = mn s := by
      revert h hcol
      cases col (e i).fr.toNat <;> cases col (e i).to.toNat <;> cases mn s <;> simp
    have : ∃ s, Fst R U s ∧ Cn R s (e i).to.toNat ∧ col (e i).to.toNat = mn s := ⟨s, hf, hc2, h3⟩
    show (U _ || decide _) = true
    rw [decide_eq_true this, Bool.or_true]
end

/-! ### Lists of the marked -/

theorem in_pk {P : Nat → Bool} {n v : Nat} : In (lsF (pk P n)) (pk P n).length (v : Int) ↔ v < n ∧ P v = true := by
  rw [← pk_mem]
  constructor
  · rintro ⟨i, hi, h⟩
    rw [lsF_get hi] at h
    have : (pk P n)[i] = v := by omega
    rw [← this]
    exact List.getElem_mem hi
  · intro h
    obtain ⟨i, hi, h⟩ := List.getElem_of_mem h
    exact ⟨i, hi, by rw [lsF_get hi, h]⟩

/-- a largest matching, told by a list, is one by marks -/
theorem mst_mxw {e : Nat → Edg} {n : Nat} {M : List Nat} (hM : Mst e n M) : ∃ T, Mxw e n (fun _ => false) T ∧ cnt T n = M.length := by
  classical
  have h1 : ∀ v, tdeg e (fun i => decide (In (lsF M) M.length (i : Int))) n v ≤ 1 := fun v => by rw [rise_deg hM.1.1]; exact hM.1.2 v
  have h2 := rise_cnt hM.1.1
  exact ⟨_, ⟨⟨h1, fun k _ _ => rfl⟩, fun T' hT' => by rw [h2]; exact hM.2 T' hT'.1⟩, h2⟩
end Go.Mz
