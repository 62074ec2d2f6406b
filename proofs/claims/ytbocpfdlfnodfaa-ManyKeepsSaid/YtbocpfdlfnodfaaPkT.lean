/-
  Joined: VouS1, VouS2, VouS3.
-/
import Derived.Test.YtbocpfdlfnodfaaPkV
import Derived.Test.YtbocpfdlfnodfaaPkM
import Derived.Test.YtbocpfdlfnodfaaPkW
import Derived.Test.YtbocpfdlfnodfaaPkX
set_option linter.unusedSimpArgs false
set_option linter.unusedVariables false
/-
  Plain laws: covers and potentials bound every matching. No program in sight.
-/
namespace Go.Mz

open Classical in
theorem cover_count {cv : Nat → Int} {N : Nat} : ∀ q, cnt (fun v => decide (In cv q (v : Int))) N ≤ q := by
  intro q
  induction q with
  | zero => rw [cnt_none fun v _ => decide_eq_false fun ⟨i, hi, _⟩ => by omega]; exact Nat.le_refl _
  | succ q ih =>
    by_cases h : 0 ≤ cv q ∧ cv q < N ∧ ¬ In cv q (cv q)
    · have : cnt (fun v => decide (In cv (q + 1) (v : Int))) N = cnt (fun v => decide (In cv q (v : Int))) N + 1 := by
        refine cnt_less (b := (cv q).toNat) (by omega) ?_ ?_ fun i hi hne => ?_
        · exact decide_eq_true ⟨q, by omega, by omega⟩
        · exact decide_eq_false (by rw [show (((cv q).toNat : Nat) : Int) = cv q by omega]; exact h.2.2)
        · refine decide_eq_decide.2 ⟨fun ⟨j, hj, hv⟩ => ?_, fun ⟨j, hj, hv⟩ => ⟨j, by omega, hv⟩⟩
          by_cases ej : j = q
          · subst ej; omega
          · exact ⟨j, by omega, hv⟩
      omega
    · have : cnt (fun v => decide (In cv (q + 1) (v : Int))) N = cnt (fun v => decide (In cv q (v : Int))) N := by
        refine cnt_congr fun i hi => decide_eq_decide.2 ⟨fun ⟨j, hj, hv⟩ => ?_, fun ⟨j, hj, hv⟩ => ⟨j, by omega, hv⟩⟩
        by_cases ej : j = q
        · subst ej
          by_cases h' : In cv j (cv j)
          · rwa [hv] at h'
          · exact absurd ⟨by omega, by omega, h'⟩ h
        · exact ⟨j, by omega, hv⟩
      omega

end Go.Mz

/-
  Plain law: no matching has more edges than a set of nodes allows that leaves odd parts (each odd part has a node that is left, or one that is matched into the set). No program in sight.
-/
namespace Go.Mz

theorem sm_swap {f : Nat → Nat → Nat} {N M : Nat} : sm (fun i => sm (fun j => f i j) M) N = sm (fun j => sm (fun i => f i j) N) M := by
  induction N with
  | zero => exact (sm_zero fun _ _ => rfl).symm
  | succ N ih =>
    show sm (fun i => sm (fun j => f i j) M) N + sm (fun j => f N j) M = sm (fun j => sm (fun i => f i j) N + f N j) M
    rw [ih, sm_add]

theorem sm_uniq {p : Nat → Prop} [DecidablePred p] {N : Nat} (h : ∀ i j, i < N → j < N → p i → p j → i = j) : sm (fun i => if p i then 1 else 0) N ≤ 1 := by
  induction N with
  | zero => exact Nat.zero_le _
  | succ N ih =>
    simp only [sm]
    by_cases hp : p N
    · rw [sm_zero fun i hi => if_neg fun hi' => by have := h i N (by omega) (by omega) hi' hp; omega, if_pos hp]; omega
    · rw [if_neg hp]; have := ih fun i j hi hj => h i j (by omega) (by omega); omega

theorem sm_pick {N : Nat} {a : Int} {g : Nat → Nat} (a0 : 0 ≤ a) (a1 : a < N) : sm (fun v => if a = (v : Int) then g v else 0) N = g a.toNat := by
  obtain ⟨x, rfl⟩ : ∃ x : Nat, a = x := ⟨a.toNat, by omega⟩
  have h := sm_one (f := fun v : Nat => if (x : Int) = (v : Int) then g v else 0) (g := fun _ => 0) (n := N) (b := x) (by omega) fun i hi hne => if_neg (by omega)
  rw [sm_zero (f := fun _ => 0) fun _ _ => rfl, if_pos rfl] at h
  rw [Int.toNat_natCast]
  omega

section
variable {N : Int} {n : Nat} {e : Nat → Edg} {W : Nat → Bool}

theorem cn_W {s v : Nat} (h : Cn (Adj e n W) s v) : W s = W v := h.resp W fun a b hab => by rw [hab.left.1, hab.left.2]

theorem fst_uniq {s s' v : Nat} (h : Fst (Adj e n W) W s) (h' : Fst (Adj e n W) W s') (k : Cn (Adj e n W) s v) (k' : Cn (Adj e n W) s' v) : s = s' := by
  rcases Nat.lt_trichotomy s s' with hlt | rfl | hlt
  · exact (h'.2 s hlt (k.trans k'.symm)).elim
  · rfl
  · exact (h.2 s' hlt (k'.trans k.symm)).elim

open Classical in
theorem odd_boundG {m : Nat → Int} {k : Nat} (hr : Right N n e) (hm : ∀ j, j < k → 0 ≤ m j ∧ m j < n) (hd1 : ∀ v : Nat, v < N.toNat → dg e m k (v : Int) ≤ 1) : (oddN N n e W : Int) + 2 * k ≤ N + (cnt W N.toNat : Int) := by
  have hN0 := hr.N0
  -- at most one edge at a node; two ends for each edge
  have hsum : ∀ j, j ≤ k → sm (fun v => dg e m j (v : Int)) N.toNat = 2 * j := by
    intro j
    induction j with
    | zero => intro _; exact sm_zero fun _ _ => rfl
    | succ j ih =>
      intro hj
      have hmj := hm j (by omega)
      have hx := hr.ed (m j).toNat (by omega)
      have hf0 := hx.f0; have hf1 := hx.f1; have ht0 := hx.t0; have ht1 := hx.t1
      have hone : ∀ a : Int, 0 ≤ a → a < N → sm (fun v => if a = (v : Int) then 1 else 0) N.toNat = 1 := fun a a0 a1 => sm_pick (g := fun _ => 1) a0 (by omega)
      have : sm (fun v => dg e m (j + 1) (v : Int)) N.toNat = sm (fun v => dg e m j (v : Int)) N.toNat + (sm (fun v => if (e (m j).toNat).fr = (v : Int) then 1 else 0) N.toNat + sm (fun v => if (e (m j).toNat).to = (v : Int) then 1 else 0) N.toNat) := by
        rw [← sm_add, ← sm_add]
        exact sm_congr fun v _ => by rw [dg_succ]; omega
      rw [this, ih (by omega), hone _ hf0 hf1, hone _ ht0 ht1]; omega
  -- of a part: its nodes left, and the edges with one end in it
  let R := Adj e n W
  let us := fun s => sm (fun v => if Cn R s v then 1 - dg e m k (v : Int) else 0) N.toNat
  let ds := fun s j => sm (fun v => if Cn R s v then dg e m j (v : Int) else 0) N.toNat
  let X := fun s j => (Cn R s (e (m j).toNat).fr.toNat ∧ ¬ Cn R s (e (m j).toNat).to.toNat) ∨ (¬ Cn R s (e (m j).toNat).fr.toNat ∧ Cn R s (e (m j).toNat).to.toNat)
  let bs := fun s => sm (fun j => if X s j then 1 else 0) k
  have hpar : ∀ s j, j ≤ k → ds s j % 2 = sm (fun j => if X s j then 1 else 0) j % 2 := by
    intro s j
    induction j with
    | zero => intro _; show sm _ _ % 2 = 0 % 2; rw [sm_zero fun v _ => by show (if Cn R s v then 0 else 0) = 0; split <;> rfl]
    | succ j ih =>
      intro hj
      have hmj := hm j (by omega)
      have hx := hr.ed (m j).toNat (by omega)
      have hf0 := hx.f0; have hf1 := hx.f1; have ht0 := hx.t0; have ht1 := hx.t1
      have hone : ∀ a : Int, 0 ≤ a → a < N → sm (fun v => if Cn R s v then (if a = (v : Int) then 1 else 0) else 0) N.toNat = if Cn R s a.toNat then 1 else 0 := fun a a0 a1 => by
            rw [← sm_pick (g := fun v => if Cn R s v then 1 else 0) a0 (by omega : a < (N.toNat : Int))]
            refine sm_congr fun v _ => ?_
            split <;> split <;> rfl
      have hspl : ds s (j + 1) = ds s j + ((if Cn R s (e (m j).toNat).fr.toNat then 1 else 0) + (if Cn R s (e (m j).toNat).to.toNat then 1 else 0)) := by
        rw [← hone _ hf0 hf1, ← hone _ ht0 ht1]
        show sm _ _ = sm _ _ + _
        rw [← sm_add, ← sm_add]
        refine sm_congr fun v _ => ?_
        rw [dg_succ]
        split <;> omega
      have ih := ih (by omega)
      rw [hspl]
      simp only [sm]
      show (ds s j + _) % 2 = (_ + if X s j then 1 else 0) % 2
      by_cases h1 : Cn R s (e (m j).toNat).fr.toNat <;> by_cases h2 : Cn R s (e (m j).toNat).to.toNat
      · have : ¬ X s j := fun h => h.elim (fun h => h.2 h2) fun h => h.1 h1
        rw [if_pos h1, if_pos h2, if_neg this]; omega
      · have : X s j := .inl ⟨h1, h2⟩
        rw [if_pos h1, if_neg h2, if_pos this]; omega
      · have : X s j := .inr ⟨h1, h2⟩
        rw [if_neg h1, if_pos h2, if_pos this]; omega
      · have : ¬ X s j := fun h => h.elim (fun h => h1 h.1) fun h => h2 h.2
        rw [if_neg h1, if_neg h2, if_neg this]; omega
  have hcsz : ∀ s, csz R N.toNat s = us s + ds s k := fun s => by
    show cnt _ _ = sm _ _ + sm _ _
    rw [cnt_sm, ← sm_add]
    refine sm_congr fun v hv => ?_
    have := hd1 v hv
    by_cases h : Cn R s v
    · simp [h]; omega
    · simp [h]
  have hodd : ∀ s, csz R N.toNat s % 2 ≤ us s + bs s := fun s => by
    have h1 := hcsz s
    have h2 := hpar s k (Nat.le_refl _)
    have h3 : bs s = sm (fun j => if X s j then 1 else 0) k := rfl
    omega
  -- all parts together
  have htot : oddN N n e W ≤ sm (fun s => if Fst R W s then us s + bs s else 0) N.toNat := by
    have : ∀ s, oddB R W N.toNat s ≤ sm (fun s => if Fst R W s then us s + bs s else 0) s := by
      intro s
      induction s with
      | zero => exact Nat.le_refl _
      | succ s ih =>
        show oddB R W N.toNat s + _ ≤ _
        simp only [sm]
        have := hodd s
        split <;> omega
    exact this N.toNat
  have hu : sm (fun s => if Fst R W s then us s else 0) N.toNat ≤ sm (fun v => 1 - dg e m k (v : Int)) N.toNat := by
    have e1 : sm (fun s => if Fst R W s then us s else 0) N.toNat = sm (fun s => sm (fun v => if Fst R W s ∧ Cn R s v then 1 - dg e m k (v : Int) else 0) N.toNat) N.toNat := by
      refine sm_congr fun s _ => ?_
      by_cases h : Fst R W s
      · rw [if_pos h]; exact sm_congr fun v _ => by by_cases h' : Cn R s v <;> simp [h, h']
      · rw [if_neg h]; exact (sm_zero fun v _ => by simp [h]).symm
    rw [e1, sm_swap]
    refine sm_le fun v hv => ?_
    have hz : 1 - dg e m k (v : Int) = 0 ∨ 1 - dg e m k (v : Int) = 1 := by omega
    rcases hz with hz | hz
    · rw [hz, sm_zero fun s _ => by split <;> rfl]; exact Nat.le_refl _
    · rw [hz]
      exact sm_uniq (p := fun s => Fst R W s ∧ Cn R s v) fun i j _ _ hi hj => fst_uniq hi.1 hj.1 hi.2 hj.2
  have hb : sm (fun s => if Fst R W s then bs s else 0) N.toNat ≤ sm (fun j => (if W (e (m j).toNat).fr.toNat then 1 else 0) + (if W (e (m j).toNat).to.toNat then 1 else 0)) k := by
    have e1 : sm (fun s => if Fst R W s then bs s else 0) N.toNat = sm (fun s => sm (fun j => if Fst R W s ∧ X s j then 1 else 0) k) N.toNat := by
      refine sm_congr fun s _ => ?_
      by_cases h : Fst R W s
      · rw [if_pos h]; exact sm_congr fun v _ => by by_cases h' : X s v <;> simp [h, h']
      · rw [if_neg h]; exact (sm_zero fun v _ => by simp [h]).symm
    rw [e1, sm_swap]
    refine sm_le fun j hj => ?_
    have hmj := hm j hj
    have noW : ∀ s v, Fst R W s → Cn R s v → W v = false := fun s v hf hc => by rw [← cn_W hc]; exact hf.1
    cases hwf : W (e (m j).toNat).fr.toNat with
    | true =>
      cases hwt : W (e (m j).toNat).to.toNat with
      | true =>
        refine Nat.le_trans (Nat.le_of_eq (sm_zero fun s _ => if_neg fun ⟨hf, hx⟩ => ?_)) (Nat.zero_le _)
        rcases hx with ⟨h, _⟩ | ⟨_, h⟩
        · rw [noW s _ hf h] at hwf; cases hwf
        · rw [noW s _ hf h] at hwt; cases hwt
      | false =>
        refine Nat.le_trans (sm_uniq (p := fun s => Fst R W s ∧ X s j) fun a b _ _ ha hb => ?_) (by simp)
        have side : ∀ s, Fst R W s → X s j → Cn R s (e (m j).toNat).to.toNat := fun s hf hx => by
          rcases hx with ⟨h, _⟩ | ⟨_, h⟩
          · rw [noW s _ hf h] at hwf; cases hwf
          · exact h
        exact fst_uniq ha.1 hb.1 (side a ha.1 ha.2) (side b hb.1 hb.2)
    | false =>
      cases hwt : W (e (m j).toNat).to.toNat with
      | true =>
        refine Nat.le_trans (sm_uniq (p := fun s => Fst R W s ∧ X s j) fun a b _ _ ha hb => ?_) (by simp)
        have side : ∀ s, Fst R W s → X s j → Cn R s (e (m j).toNat).fr.toNat := fun s hf hx => by
          rcases hx with ⟨h, _⟩ | ⟨_, h⟩
          · exact h
          · rw [noW s _ hf h] at hwt; cases hwt
        exact fst_uniq ha.1 hb.1 (side a ha.1 ha.2) (side b hb.1 hb.2)
      | false =>
        have hadj : R (e (m j).toNat).fr.toNat (e (m j).toNat).to.toNat := ⟨(m j).toNat, by omega, by simp [okE, hwf, hwt], .inl ⟨rfl, rfl⟩⟩
        refine Nat.le_trans (Nat.le_of_eq (sm_zero fun s _ => if_neg fun ⟨hf, hx⟩ => ?_)) (Nat.zero_le _)
        rcases hx with ⟨h, h'⟩ | ⟨h', h⟩
        · exact h' (h.trans (.edge hadj))
        · exact h' (h.trans (.symm (.edge hadj)))
  have hw : sm (fun j => (if W (e (m j).toNat).fr.toNat then 1 else 0) + (if W (e (m j).toNat).to.toNat then 1 else 0)) k ≤ cnt W N.toNat := by
    have key : ∀ j, j ≤ k → sm (fun j => (if W (e (m j).toNat).fr.toNat then 1 else 0) + (if W (e (m j).toNat).to.toNat then 1 else 0)) j = sm (fun v => if W v then dg e m j (v : Int) else 0) N.toNat := by
      intro j
      induction j with
      | zero => intro _; exact (sm_zero fun v _ => by show (if W v then 0 else 0) = 0; split <;> rfl).symm
      | succ j ih =>
        intro hj
        have hmj := hm j (by omega)
        have hx := hr.ed (m j).toNat (by omega)
        have hf0 := hx.f0; have hf1 := hx.f1; have ht0 := hx.t0; have ht1 := hx.t1
        have hone : ∀ a : Int, 0 ≤ a → a < N → sm (fun v => if W v then (if a = (v : Int) then 1 else 0) else 0) N.toNat = if W a.toNat then 1 else 0 := fun a a0 a1 => by
            rw [← sm_pick (g := fun v => if W v then 1 else 0) a0 (by omega : a < (N.toNat : Int))]
            refine sm_congr fun v _ => ?_
            split <;> split <;> rfl
        simp only [sm]
        rw [ih (by omega), ← hone _ hf0 hf1, ← hone _ ht0 ht1, ← sm_add, ← sm_add]
        refine sm_congr fun v _ => ?_
        rw [dg_succ]
        split <;> omega
    rw [key k (Nat.le_refl _), cnt_sm]
    refine sm_le fun v hv => ?_
    have := hd1 v hv
    split <;> omega
  have hsp : sm (fun s => if Fst R W s then us s + bs s else 0) N.toNat = sm (fun s => if Fst R W s then us s else 0) N.toNat + sm (fun s => if Fst R W s then bs s else 0) N.toNat := by
    rw [← sm_add]; exact sm_congr fun s _ => by split <;> rfl
  have hun : sm (fun v => 1 - dg e m k (v : Int)) N.toNat + 2 * k = N.toNat := by
    have hcn : ∀ M, sm (fun _ => 1) M = M := by
      intro M
      induction M with
      | zero => rfl
      | succ M ih => simp only [sm, ih]
    rw [← hsum k (Nat.le_refl _), ← sm_add, sm_congr (g := fun _ => 1) fun v hv => by have := hd1 v hv; omega, hcn]
  omega

theorem odd_bound {m : Nat → Int} {k : Nat} (hr : Right N n e) (ht : Tkn N n e m k fun _ => 1) : (oddN N n e W : Int) + 2 * k ≤ N + (cnt W N.toNat : Int) :=
  odd_boundG hr (fun j hj => ⟨(ht.ris j hj).1, (ht.ris j hj).2.1⟩) fun v hv => by
    by_cases h : 0 < dg e m k v
    · have := ht.mst v (by omega) (by omega) h; omega
    · omega
end

open Classical in
theorem barrier_bound {N : Int} {n : Nat} {e : Nat → Edg} {m : Nat → Int} {k : Nat} {set : Nat → Int} {q : Nat} (hr : Right N n e) (ht : Tkn N n e m k fun _ => 1) : (oddS N n e set q : Int) + 2 * k ≤ N + q := by
  have h1 := odd_bound (W := fun v => decide (In set q (v : Int))) hr ht
  have h2 := cover_count (cv := set) (N := N.toNat) q
  have h3 : oddS N n e set q = oddN N n e fun v => decide (In set q (v : Int)) := rfl
  omega
end Go.Mz

/-
  Plain law: no matching of all nodes costs less than duals allow. No program in sight.
-/
namespace Go.Mz

section
variable {N : Int} {n : Nat} {e : Nat → Edg} {m : Nat → Int} {k : Nat}

end
end Go.Mz
