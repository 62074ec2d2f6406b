/-
  Plain law of layer 8: the nearest node first. No program in sight.
-/
import Derived.Test.YtajgpmohnbjpcaaPkB
import Derived.Test.YtajgpmohnbjpcaaPkH
set_option linter.unusedSimpArgs false
set_option linter.unusedVariables false
namespace Go.Mz

/-- the least number that will do, or nothing -/
noncomputable def lm (p : Nat → Prop) : Nat := by
  classical
  exact if h : ∃ k, p k then Classical.choose (least_of (Classical.choose_spec h)) else 0

theorem lm_of {p : Nat → Prop} {k : Nat} (h : p k) : p (lm p) ∧ lm p ≤ k := by
  have hex : ∃ k, p k := ⟨k, h⟩
  have hs := Classical.choose_spec (least_of (Classical.choose_spec hex))
  have e : lm p = Classical.choose (least_of (Classical.choose_spec hex)) := by unfold lm; rw [dif_pos hex]
  rw [e]
  refine ⟨hs.2.1, ?_⟩
  by_cases hl : Classical.choose (least_of (Classical.choose_spec hex)) ≤ k
  · exact hl
  · exact (hs.2.2 k (by omega) h).elim

/-- where the search stands: S: held, dn: given out, dl: the last distance given out, T: edges of the node at hand that are still to be looked at -/
structure Dst (M n : Nat) (a b : Nat → Nat) (c : Nat → Int) (s : Nat) (d via : Nat → Int) (S dn : Nat → Bool) (rk : Nat → Nat) (dl : Int) (T : Nat → Prop) : Prop where
  src : via s = -1 ∧ d s = 0
  cls : ∀ v, v < M → (d v < Far ↔ S v = true ∨ dn v = true)
  dis : ∀ v, S v = true → dn v = true → False
  via1 : ∀ v, v < M → via v = -1 → v = s ∨ d v = Far
  edg : ∀ v, v < M → via v ≠ -1 → ∃ i, i < n ∧ via v = (i : Int) ∧ b i = v ∧ dn (a i) = true ∧ d (a i) + c i = d v ∧ d v < Far ∧ (dn v = true → rk (a i) < rk v)
  sat : ∀ i, i < n → dn (a i) = true → ¬ T i → d (b i) ≤ d (a i) + c i
  lo : ∀ u, u < M → dn u = true → d u ≤ dl
  up : ∀ v, v < M → dn v = false → dl ≤ d v
  bnd : ∀ v, v < M → d v = Far ∨ (0 ≤ d v ∧ d v ≤ 1048576 * (cnt dn M : Int))
  rkl : ∀ v, v < M → dn v = true → rk v < cnt dn M
  bdn : ∀ v, v < M → dn v = true → d v ≤ 1048576 * (rk v : Int)
  low : ∀ P : Nat → Int, (∀ v, v < M → P v ≤ dz s v) → (∀ i, i < n → P (b i) ≤ P (a i) + c i) → ∀ v, v < M → P v ≤ d v

section
variable {M n s : Nat} {a b : Nat → Nat} {c d via : Nat → Int} {S dn : Nat → Bool} {rk : Nat → Nat} {dl : Int} {T : Nat → Prop}

theorem Dst.start (hs : s < M) : Dst M n a b c s (dz s) (fun _ => -1) (upf (fun _ => false) s true) (fun _ => false) (fun _ => 0) 0 (fun _ => False) where
  src := ⟨rfl, if_pos rfl⟩
  cls := fun v hv => by
    unfold dz
    by_cases e : v = s
    · subst e
      rw [if_pos rfl, upf_same]
      exact ⟨fun _ => .inl rfl, fun _ => by decide⟩
    · rw [if_neg e, upf_ne e]
      exact ⟨fun h => by omega, fun h => by rcases h with h | h <;> cases h⟩
  dis := fun v _ h => by cases h
  via1 := fun v hv _ => by
    unfold dz
    by_cases e : v = s
    · exact .inl e
    · rw [if_neg e]; exact .inr rfl
  edg := fun v hv h => (h rfl).elim
  sat := fun i _ h => by cases h
  lo := fun u _ h => by cases h
  up := fun v hv _ => by
    have hF : Far = 4611686018427387904 := rfl
    rcases dz_or (s := s) v with h | h <;> omega
  bnd := fun v hv => by
    rcases dz_or (s := s) v with h | h
    · right; omega
    · exact .inl h
  rkl := fun v _ h => by cases h
  bdn := fun v _ h => by cases h
  low := fun P h _ v hv => h v hv

/-- the nearest one is given out -/
theorem Dst.pop (hG : Gr M n a b c) (h : Dst M n a b c s d via S dn rk dl T) (hT : ∀ i, i < n → ¬ T i) {w : Nat} (hw : w < M) (hS : S w = true) (hl : ∀ v, v < M → S v = true → d w ≤ d v) :
    Dst M n a b c s d via (upf S w false) (upf dn w true) (upf rk w (cnt dn M)) (d w) (fun i => a i = w) := by
  have hdw : dn w = false := by
    cases hd : dn w with
    | false => rfl
    | true => exact (h.dis w hS hd).elim
  have hc : cnt (upf dn w true) M = cnt dn M + 1 := cnt_less hw upf_same hdw fun i _ hne => upf_ne hne
  have hwf : d w < Far := (h.cls w hw).2 (.inl hS)
  refine ⟨h.src, fun v hv => ?_, fun v h1 h2 => ?_, h.via1, fun v hv hvia => ?_, fun i hi h1 h2 => ?_, fun u hu h1 => ?_, fun v hv h1 => ?_, fun v hv => ?_, fun v hv h1 => ?_, fun v hv h1 => ?_, h.low⟩
  · rw [h.cls v hv]
    by_cases e : v = w
    · subst e; rw [upf_same, upf_same]; exact ⟨fun _ => .inr rfl, fun _ => .inl hS⟩
    · rw [upf_ne e, upf_ne e]
  · by_cases e : v = w
    · subst e; rw [upf_same] at h1; cases h1
    · rw [upf_ne e] at h1 h2; exact h.dis v h1 h2
  · obtain ⟨i, hi, g1, g2, g3, g4, g5, g6⟩ := h.edg v hv hvia
    have hne : a i ≠ w := fun e => by rw [e, hdw] at g3; cases g3
    refine ⟨i, hi, g1, g2, by rw [upf_ne hne]; exact g3, g4, g5, fun h1 => ?_⟩
    rw [upf_ne hne]
    by_cases e : v = w
    · subst e; rw [upf_same]
      exact h.rkl _ (hG.ra i hi) g3
    · rw [upf_ne e]
      rw [upf_ne e] at h1
      exact g6 h1
  · by_cases e : a i = w
    · exact (h2 e).elim
    · rw [upf_ne e] at h1; exact h.sat i hi h1 (hT i hi)
  · by_cases e : u = w
    · subst e; exact Int.le_refl _
    · rw [upf_ne e] at h1
      exact Int.le_trans (h.lo u hu h1) (h.up w hw hdw)
  · have e : v ≠ w := fun e => by rw [e, upf_same] at h1; cases h1
    rw [upf_ne e] at h1
    by_cases hf : d v < Far
    · rcases (h.cls v hv).1 hf with h2 | h2
      · exact hl v hv h2
      · rw [h1] at h2; cases h2
    · omega
  · rcases h.bnd v hv with h1 | h1
    · exact .inl h1
    · right; rw [hc]; omega
  · rw [hc]
    by_cases e : v = w
    · subst e; rw [upf_same]; omega
    · rw [upf_ne e] at h1 ⊢
      have := h.rkl v hv h1
      omega
  · by_cases e : v = w
    · subst e; rw [upf_same]
      rcases h.bnd v hv with h2 | h2 <;> omega
    · rw [upf_ne e] at h1 ⊢
      exact h.bdn v hv h1

/-- an edge that makes nothing nearer -/
theorem Dst.skip (h : Dst M n a b c s d via S dn rk dl T) {i : Nat} (hi : i < n) (hs : d (b i) ≤ d (a i) + c i) {T' : Nat → Prop} (hT : ∀ j, j < n → T j → T' j ∨ j = i) : Dst M n a b c s d via S dn rk dl T' :=
  ⟨h.src, h.cls, h.dis, h.via1, h.edg, fun j hj h1 h2 => by
    by_cases e : j = i
    · subst e; exact hs
    · refine h.sat j hj h1 fun h3 => ?_
      rcases hT j hj h3 with h4 | h4
      · exact h2 h4
      · exact e h4, h.lo, h.up, h.bnd, h.rkl, h.bdn, h.low⟩

/-- one that does -/
theorem Dst.lower (hG : Gr M n a b c) (h : Dst M n a b c s d via S dn rk dl T) {i : Nat} (hi : i < n) (hc : 0 ≤ c i) (ha : dn (a i) = true) (hda : d (a i) = dl) (hs : s < M) (hl : d (a i) + c i < d (b i)) {T' : Nat → Prop} (hT : ∀ j, j < n → T j → T' j ∨ j = i) :
    dn (b i) = false ∧ (S (b i) = true ↔ d (b i) ≠ Far) ∧ Dst M n a b c s (upf d (b i) (d (a i) + c i)) (upf via (b i) (i : Int)) (upf S (b i) true) dn rk dl T' := by
  have hx := hG.ra i hi
  have hy := hG.rb i hi
  have hF : Far = 4611686018427387904 := rfl
  have hdy : dn (b i) = false := by
    cases hd : dn (b i) with
    | false => rfl
    | true => have := h.lo _ hy hd; omega
  have hne : a i ≠ b i := fun e => by rw [e, hdy] at ha; cases ha
  have hbx : 0 ≤ d (a i) ∧ d (a i) ≤ 1048576 * (cnt dn M : Int) := by
    have hf := (h.cls _ hx).2 (.inr ha)
    rcases h.bnd _ hx with h1 | h1
    · omega
    · exact h1
  have hr := h.rkl _ hx ha
  have hcl := cnt_le dn M
  have hM1 := hG.M1
  have hci := hG.hi i hi
  have hlf : d (a i) + c i < Far := by omega
  have hsy : b i ≠ s := fun e => by have := h.src.2; rw [← e] at this; omega
  have hyb : d (b i) ≤ Far := by
    rcases h.bnd _ hy with h1 | h1 <;> omega
  refine ⟨hdy, ⟨fun hS => ?_, fun hf => ?_⟩, ⟨?_, ?_⟩, fun v hv => ?_, fun v h1 h2 => ?_, fun v hv hvia => ?_, fun v hv hvia => ?_, fun j hj h1 h2 => ?_, fun u hu h1 => ?_, fun v hv h1 => ?_, fun v hv => ?_, h.rkl, fun v hv h1 => ?_, fun P h1 h2 v hv => ?_⟩
  · have := (h.cls _ hy).2 (.inl hS); omega
  · rcases (h.cls _ hy).1 (by omega) with h1 | h1
    · exact h1
    · rw [hdy] at h1; cases h1
  · rw [upf_ne (fun e => hsy e.symm)]; exact h.src.1
  · rw [upf_ne (fun e => hsy e.symm)]; exact h.src.2
  · by_cases e : v = b i
    · subst e; rw [upf_same, upf_same]; exact ⟨fun _ => .inl rfl, fun _ => hlf⟩
    · rw [upf_ne e, upf_ne e]; exact h.cls v hv
  · by_cases e : v = b i
    · subst e; rw [hdy] at h2; cases h2
    · rw [upf_ne e] at h1; exact h.dis v h1 h2
  · by_cases e : v = b i
    · subst e; rw [upf_same] at hvia; omega
    · rw [upf_ne e] at hvia ⊢; exact h.via1 v hv hvia
  · by_cases e : v = b i
    · subst e
      exact ⟨i, hi, upf_same, rfl, ha, by rw [upf_same, upf_ne hne], by rw [upf_same]; exact hlf, fun h1 => by rw [hdy] at h1; cases h1⟩
    · rw [upf_ne e] at hvia
      obtain ⟨j, hj, g1, g2, g3, g4, g5, g6⟩ := h.edg v hv hvia
      have hj' : a j ≠ b i := fun e' => by rw [e', hdy] at g3; cases g3
      exact ⟨j, hj, by rw [upf_ne e]; exact g1, g2, g3, by rw [upf_ne e, upf_ne hj']; exact g4, by rw [upf_ne e]; exact g5, g6⟩
  · have hj' : a j ≠ b i := fun e' => by rw [e', hdy] at h1; cases h1
    rw [upf_ne hj']
    have key : j ≠ i → d (b j) ≤ d (a j) + c j := fun e => h.sat j hj h1 fun h3 => by
      rcases hT j hj h3 with h4 | h4
      · exact h2 h4
      · exact e h4
    by_cases e : j = i
    · subst e; rw [upf_same]; exact Int.le_refl _
    · by_cases e' : b j = b i
      · rw [e', upf_same]
        have := key e
        rw [e'] at this; omega
      · rw [upf_ne e']; exact key e
  · have hu' : u ≠ b i := fun e' => by rw [e', hdy] at h1; cases h1
    rw [upf_ne hu']; exact h.lo u hu h1
  · by_cases e : v = b i
    · subst e; rw [upf_same]; omega
    · rw [upf_ne e]; exact h.up v hv h1
  · by_cases e : v = b i
    · subst e
      rw [upf_same]
      right
      -- the bound grows with what is given out: one more stands at hand
      have := h.bdn _ hx ha
      omega
    · rw [upf_ne e]; exact h.bnd v hv
  · have hv' : v ≠ b i := fun e' => by rw [e', hdy] at h1; cases h1
    rw [upf_ne hv']; exact h.bdn v hv h1
  · by_cases e : v = b i
    · subst e; rw [upf_same]
      have := h.low P h1 h2 _ hx
      have := h2 i hi
      omega
    · rw [upf_ne e]; exact h.low P h1 h2 v hv

end
end Go.Mz
