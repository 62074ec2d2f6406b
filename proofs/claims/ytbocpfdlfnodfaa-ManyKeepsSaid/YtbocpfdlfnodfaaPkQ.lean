/-
  Joined: BlK, BnP, BnA.
-/
import Derived.Test.YtbocpfdlfnodfaaPkU
import Derived.Test.YtbocpfdlfnodfaaVouS4
import Derived.Test.YtbocpfdlfnodfaaPkX
import Derived.Test.YtbocpfdlfnodfaaPkM
import Derived.Test.YtbocpfdlfnodfaaGBma
set_option linter.unusedSimpArgs false
set_option linter.unusedVariables false
/-
  Matchings in any graph, in plain words: lists of edges and matchings; edges that bear other numbers; rising lists with the same elements. No program in sight.
-/
namespace Go.Mz

theorem dg_two {e : Nat → Edg} {m : Nat → Int} {v : Int} {i j k : Nat} (hij : i < j) (hj : j < k) (hi' : (e (m i).toNat).fr = v ∨ (e (m i).toNat).to = v) (hj' : (e (m j).toNat).fr = v ∨ (e (m j).toNat).to = v) : 2 ≤ dg e m k v := by
  have one : ∀ t, ((e (m t).toNat).fr = v ∨ (e (m t).toNat).to = v) → dg e m t v + 1 ≤ dg e m (t + 1) v := fun t ht => by
    show dg e m t v + 1 ≤ dg e m t v + (if _ then 1 else 0) + (if _ then 1 else 0)
    rcases ht with ht | ht
    · rw [if_pos ht]; omega
    · rw [if_pos ht]; omega
  have h1 := one i hi'
  have h2 := one j hj'
  have h3 := dg_mono (e := e) (m := m) (v := v) (j := i + 1) (k := j) (by omega)
  have h4 := dg_mono (e := e) (m := m) (v := v) (j := j + 1) (k := k) (by omega)
  omega

section
variable {M n : Nat} {e : Nat → Edg}

/-- a node is taken out, with its mate -/
theorem MM.drop {n : Nat} {fr to : Nat → Nat} {b : Nat → Int} (hN : Nds M n fr to) (h : MM M n fr to M b) (v : Nat) : ∃ b2, MM M n fr to M b2 ∧ (v < M → b2 v = -1) ∧ (∀ u, u < M → b2 u = -1 ∨ b2 u = b u) ∧ cnt (fun u => decide (b2 u = -1)) M ≤ cnt (fun u => decide (b u = -1)) M + 2 := by
  by_cases hv : v < M ∧ 0 ≤ b v
  · obtain ⟨hv, h0⟩ := hv
    obtain ⟨i, ei, hi, em, _, hbm, hmm⟩ := h.en hv (by omega) h0
    have hmM := h.ltN hN hv h0
    have hne : mt fr to b v ≠ v := by rw [em]; exact hi.ne
    refine ⟨upf (upf b v (-1)) (mt fr to b v) (-1), fun u hu _ => ?_, fun _ => by rw [upf_ne hne.symm, upf_same], fun u hu => ?_, ?_⟩
    · by_cases e1 : u = mt fr to b v
      · left; rw [e1, upf_same]
      · rw [upf_ne e1]
        by_cases e2 : u = v
        · left; rw [e2, upf_same]
        · rw [upf_ne e2]
          rcases h u hu (by omega) with e3 | ⟨j, e3, hj, hjo, hb⟩
          · exact .inl e3
          · right
            have hmu : mt fr to b u = ot fr to j u := by unfold mt; rw [e3, Int.toNat_natCast]
            have h0u : 0 ≤ b u := by omega
            have n1 : ot fr to j u ≠ v := fun hh => e1 (by rw [← hh, ← hmu]; exact ((h.en hu (by omega) h0u).choose_spec.2.2.2.2.2).symm)
            have n2 : ot fr to j u ≠ mt fr to b v := fun hh => e2 (h.inj hu hv h0u h0 (by rw [hmu, hh]))
            exact ⟨j, e3, hj, hjo, by rw [upf_ne n2, upf_ne n1]; exact hb⟩
    · by_cases e1 : u = mt fr to b v
      · left; rw [e1, upf_same]
      · rw [upf_ne e1]
        by_cases e2 : u = v
        · left; rw [e2, upf_same]
        · right; rw [upf_ne e2]
    · have c1 := cnt_less (p := fun u => decide (upf (upf b v (-1)) (mt fr to b v) (-1) u = -1)) (q := fun u => decide (upf b v (-1) u = -1)) hmM (decide_eq_true upf_same) (decide_eq_false (by rw [upf_ne hne, hbm]; omega)) (fun u _ hne' => by rw [upf_ne hne'])
      have c2 := cnt_less (p := fun u => decide (upf b v (-1) u = -1)) (q := fun u => decide (b u = -1)) hv (decide_eq_true upf_same) (decide_eq_false (by omega)) (fun u _ hne' => by rw [upf_ne hne'])
      omega
  · refine ⟨b, h, fun hh => ?_, fun u _ => .inr rfl, by omega⟩
    exact h.neg hh (by omega) (Classical.byContradiction fun hn => hv ⟨hh, by omega⟩)
end
end Go.Mz

/-
  Edges with so many at each node, by a matching of the gadget: what its matched edges say of the graph's. No program in sight.
-/
namespace Go.Mz

/-- no more are counted where each goes to one of its own; two ranges -/
theorem cnt_injN {p q : Nat → Bool} {N N' : Nat} (f : Nat → Nat) (hf : ∀ i, i < N → p i = true → f i < N' ∧ q (f i) = true) (hi : ∀ i j, i < N → j < N → p i = true → p j = true → f i = f j → i = j) : cnt p N ≤ cnt q N' := by
  rw [← cnt_len (p := p)]
  have hmem : ∀ x, x ∈ (List.range N).filter p → x < N ∧ p x = true := fun x hx => by rw [List.mem_filter, List.mem_range] at hx; exact hx
  have hnd : ((List.range N).filter p).Nodup := List.nodup_range.sublist List.filter_sublist
  have := cnt_list (q := q) (N := N') (map_nodup (f := f) hnd fun x hx y hy e => hi x y (hmem x hx).1 (hmem y hy).1 (hmem x hx).2 (hmem y hy).2 e) fun x hx => by
    obtain ⟨y, hy, e⟩ := List.mem_map.1 hx
    rw [← e]
    exact hf y (hmem y hy).1 (hmem y hy).2
  rwa [List.length_map] at this

/-- the gadget's edges, each of one of three kinds -/
def GMid (e : Nat → Edg) (cp : Nat → Int) (N n : Nat) (x : Nat) (i : Nat) : Prop := i < n ∧ ¬ lp (e i) ∧ lsE (gel e cp N n) x = (gnn e cp N i, gnn e cp N i + 1, 0, 0)
def GIn (e : Nat → Edg) (cp : Nat → Int) (N n : Nat) (x : Nat) (i : Nat) (j : Nat) : Prop := i < n ∧ ¬ lp (e i) ∧ (j : Int) < cp (e i).fr.toNat ∧ lsE (gel e cp N n) x = (psum cp (e i).fr.toNat + (j : Int), gnn e cp N i, 0, 0)
def GOut (e : Nat → Edg) (cp : Nat → Int) (N n : Nat) (x : Nat) (i : Nat) (j : Nat) : Prop := i < n ∧ ¬ lp (e i) ∧ (j : Int) < cp (e i).to.toNat ∧ lsE (gel e cp N n) x = (gnn e cp N i + 1, psum cp (e i).to.toNat + (j : Int), 0, 0)

theorem gel_form {e : Nat → Edg} {cp : Nat → Int} {N : Nat} : ∀ {n x : Nat}, x < (gel e cp N n).length → ∃ i, GMid e cp N n x i ∨ (∃ j, GIn e cp N n x i j) ∨ ∃ j, GOut e cp N n x i j := by
  intro n
  induction n with
  | zero => intro x hx; exact absurd hx (Nat.not_lt_zero _)
  | succ n ih =>
    intro x hx
    have old : gel e cp N (n + 1) = gel e cp N n ++ ((gel e cp N (n + 1)).drop (gel e cp N n).length) → x < (gel e cp N n).length → ∃ i, GMid e cp N (n + 1) x i ∨ (∃ j, GIn e cp N (n + 1) x i j) ∨ ∃ j, GOut e cp N (n + 1) x i j := fun hs hlt => by
      have hl : lsE (gel e cp N (n + 1)) x = lsE (gel e cp N n) x := by rw [hs, lsE_left hlt]
      obtain ⟨i, h | ⟨j, h⟩ | ⟨j, h⟩⟩ := ih hlt
      · exact ⟨i, .inl ⟨by have := h.1; omega, h.2.1, by rw [hl]; exact h.2.2⟩⟩
      · exact ⟨i, .inr (.inl ⟨j, by have := h.1; omega, h.2.1, h.2.2.1, by rw [hl]; exact h.2.2.2⟩)⟩
      · exact ⟨i, .inr (.inr ⟨j, by have := h.1; omega, h.2.1, h.2.2.1, by rw [hl]; exact h.2.2.2⟩)⟩
    by_cases hlp : lp (e n)
    · have g1 : gel e cp N (n + 1) = gel e cp N n := by rw [gel_succ, if_pos hlp]
      refine old (by rw [g1]; simp) (by rw [g1] at hx; exact hx)
    · have g1 : gel e cp N (n + 1) = gel e cp N n ++ ([(gnn e cp N n, gnn e cp N n + 1, 0, 0)] ++ (fanI (gnn e cp N n) (psum cp (e n).fr.toNat) (cp (e n).fr.toNat).toNat ++ fanO (gnn e cp N n + 1) (psum cp (e n).to.toNat) (cp (e n).to.toNat).toNat)) := by
        rw [gel_succ, if_neg hlp, List.append_assoc, List.append_assoc]
      by_cases hlt : x < (gel e cp N n).length
      · exact old (by rw [g1]; simp) hlt
      · obtain ⟨y, rfl⟩ : ∃ y, x = (gel e cp N n).length + y := ⟨x - (gel e cp N n).length, by omega⟩
        have hl : lsE (gel e cp N (n + 1)) ((gel e cp N n).length + y) = lsE ([(gnn e cp N n, gnn e cp N n + 1, 0, 0)] ++ (fanI (gnn e cp N n) (psum cp (e n).fr.toNat) (cp (e n).fr.toNat).toNat ++ fanO (gnn e cp N n + 1) (psum cp (e n).to.toNat) (cp (e n).to.toNat).toNat)) y := by rw [g1, lsE_right]
        rw [g1, List.length_append, List.length_append, List.length_append, fanI_len, fanO_len] at hx
        simp only [List.length_cons, List.length_nil] at hx
        refine ⟨n, ?_⟩
        by_cases h0 : y = 0
        · refine .inl ⟨by omega, hlp, ?_⟩
          rw [hl, h0, lsE_left (by simp), lsE_one]
        · obtain ⟨z, rfl⟩ : ∃ z, y = 1 + z := ⟨y - 1, by omega⟩
          have e1 : ∀ (x : Edg) (r : List Edg) (z : Nat), lsE ([x] ++ r) (1 + z) = lsE r z := fun x r z => lsE_right (l := [x])
          rw [e1] at hl
          by_cases h1 : z < (cp (e n).fr.toNat).toNat
          · refine .inr (.inl ⟨z, by omega, hlp, by omega, ?_⟩)
            rw [hl, lsE_left (by rw [fanI_len]; exact h1), lsE_fanI h1]
          · obtain ⟨w, rfl⟩ : ∃ w, z = (cp (e n).fr.toNat).toNat + w := ⟨z - (cp (e n).fr.toNat).toNat, by omega⟩
            have h2 : w < (cp (e n).to.toNat).toNat := by omega
            refine .inr (.inr ⟨w, by omega, hlp, by omega, ?_⟩)
            have := lsE_right (l := fanI (gnn e cp N n) (psum cp (e n).fr.toNat) (cp (e n).fr.toNat).toNat) (r := fanO (gnn e cp N n + 1) (psum cp (e n).to.toNat) (cp (e n).to.toNat).toNat) (x := w)
            rw [fanI_len] at this
            rw [hl, this, lsE_fanO h2]

theorem nol_lt {e : Nat → Edg} {i j : Nat} (h : i < j) (hi : ¬ lp (e i)) : nol e i < nol e j := by
  have h1 : nol e (i + 1) = nol e i + 1 := by show nol e i + (if lp (e i) then 0 else 1) = _; rw [if_neg hi]
  have h2 : ∀ d, nol e (i + 1) ≤ nol e (i + 1 + d) := fun d => by
    induction d with
    | zero => exact Nat.le_refl _
    | succ d ih => exact Nat.le_trans ih (by show _ ≤ nol e (i + 1 + d) + (if _ then 0 else 1); omega)
  have := h2 (j - (i + 1))
  rw [show i + 1 + (j - (i + 1)) = j by omega] at this
  omega

theorem nol_inj {e : Nat → Edg} {i j : Nat} (hi : ¬ lp (e i)) (hj : ¬ lp (e j)) (h : nol e i = nol e j) : i = j := by
  rcases Nat.lt_trichotomy i j with hl | he | hl
  · have := nol_lt hl hi; omega
  · exact he
  · have := nol_lt hl hj; omega

theorem nol_cnt {e : Nat → Edg} : ∀ {n : Nat}, nol e n = cnt (fun i => decide (¬ lp (e i))) n
  | 0 => rfl
  | n + 1 => by
    show nol e n + (if lp (e n) then 0 else 1) = _
    rw [nol_cnt (n := n)]
    simp only [cnt]
    by_cases hl : lp (e n)
    · rw [if_pos hl, if_neg (by simpa using hl)]
    · rw [if_neg hl, if_pos (by simpa using hl)]

theorem cnt_two_n {p q : Nat → Bool} : ∀ {n : Nat}, cnt (fun z => if z % 2 = 0 then p (z / 2) else q (z / 2)) (2 * n) = cnt p n + cnt q n
  | 0 => rfl
  | n + 1 => by
    have e1 : 2 * (n + 1) = 2 * n + 1 + 1 := by omega
    rw [e1]
    simp only [cnt]
    have a1 : (if (2 * n + 1) % 2 = 0 then p ((2 * n + 1) / 2) else q ((2 * n + 1) / 2)) = q n := by rw [if_neg (by omega), show (2 * n + 1) / 2 = n by omega]
    have a2 : (if 2 * n % 2 = 0 then p (2 * n / 2) else q (2 * n / 2)) = p n := by rw [if_pos (by omega), show 2 * n / 2 = n by omega]
    simp only [a1, a2]
    rw [cnt_two_n (n := n)]
    omega

/-- each edge whose both ends in the gadget are matched to copies -/
def TkE (e : Nat → Edg) (cp : Nat → Int) (N n : Nat) (m : Nat → Int) (k : Nat) (i : Nat) : Prop := (∃ x j : Nat, In m k (x : Int) ∧ GIn e cp N n x i j) ∧ ∃ x j : Nat, In m k (x : Int) ∧ GOut e cp N n x i j

section
variable {N : Int} {n : Nat} {e : Nat → Edg} {cp : Nat → Int} {m : Nat → Int} {k : Nat} {set : Nat → Int} {q : Nat}

/-- two edges of a matching share no end -/
theorem Tkn.uniq {g : Nat → Edg} {L : Nat} {G : Int} (h : Tkn G L g m k fun _ => 1) {x y : Nat} {v : Int} (hv0 : 0 ≤ v) (hv1 : v < G) (hx : In m k (x : Int)) (hy : In m k (y : Int)) (hxv : (g x).fr = v ∨ (g x).to = v) (hyv : (g y).fr = v ∨ (g y).to = v) : x = y := by
  obtain ⟨i, hi, ei⟩ := hx
  obtain ⟨j, hj, ej⟩ := hy
  have key : ∀ {i j : Nat}, i < j → j < k → ((g (m i).toNat).fr = v ∨ (g (m i).toNat).to = v) → ((g (m j).toNat).fr = v ∨ (g (m j).toNat).to = v) → False := fun hij hj h1 h2 => by
    have h3 := dg_two (e := g) (m := m) hij hj h1 h2
    have h4 := h.mst v hv0 hv1 (by omega)
    omega
  have e1 : (m i).toNat = x := by omega
  have e2 : (m j).toNat = y := by omega
  rcases Nat.lt_trichotomy i j with hl | he | hl
  · exact (key hl hj (by rw [e1]; exact hxv) (by rw [e2]; exact hyv)).elim
  · subst he; omega
  · exact (key hl hi (by rw [e2]; exact hyv) (by rw [e1]; exact hxv)).elim

theorem In.lt {n : Nat} (h : Ris m k n) {x : Nat} (hx : In m k (x : Int)) : x < n := by
  obtain ⟨i, hi, ei⟩ := hx
  have := (h i hi).2.1
  omega

theorem gnn_at (hr : Right N n e) (hc : ∀ v, v < N.toNat → 0 ≤ cp v) {i : Nat} (hi : i < n) (hl : ¬ lp (e i)) : psum cp N.toNat ≤ gnn e cp N.toNat i ∧ 0 ≤ psum cp N.toNat ∧ gnn e cp N.toNat i + 1 < gnn e cp N.toNat n ∧ (∀ j : Nat, (j : Int) < cp (e i).fr.toNat → 0 ≤ psum cp (e i).fr.toNat + (j : Int) ∧ psum cp (e i).fr.toNat + (j : Int) < psum cp N.toNat) ∧ ∀ j : Nat, (j : Int) < cp (e i).to.toNat → 0 ≤ psum cp (e i).to.toNat + (j : Int) ∧ psum cp (e i).to.toNat + (j : Int) < psum cp N.toNat := by
  have hx := hr.ed i hi
  have hf0 := hx.f0; have hf1 := hx.f1; have ht0 := hx.t0; have ht1 := hx.t1
  have h1 := nol_lt hi hl
  have p0 : ∀ a, a ≤ N.toNat → 0 ≤ psum cp a := fun a ha => psum_mono (f := cp) hc (Nat.zero_le a) ha
  have p1 : ∀ a, a < N.toNat → psum cp a + cp a ≤ psum cp N.toNat := fun a ha => psum_mono (f := cp) hc (show a + 1 ≤ N.toNat by omega) (Nat.le_refl _)
  refine ⟨by unfold gnn; omega, p0 _ (Nat.le_refl _), by unfold gnn; omega, fun j hj => ?_, fun j hj => ?_⟩
  · have := p0 (e i).fr.toNat (by omega); have := p1 (e i).fr.toNat (by omega); omega
  · have := p0 (e i).to.toNat (by omega); have := p1 (e i).to.toNat (by omega); omega

open Classical in
/-- a matching has no more edges than the graph has, and those that are taken -/
theorem tke_le (hr : Right N n e) (hc : ∀ v, v < N.toNat → 0 ≤ cp v) (h : Tkn (gnn e cp N.toNat n) (gel e cp N.toNat n).length (lsE (gel e cp N.toNat n)) m k fun _ => 1) : k ≤ nol e n + cnt (fun i => decide (TkE e cp N.toNat n m k i)) n := by
  have hk := rise_cnt h.ris
  -- which place each matched edge goes to
  obtain ⟨φ, hφ⟩ := Classical.axiomOfChoice (r := fun x (z : Nat) => x < (gel e cp N.toNat n).length → ∃ i, ((GMid e cp N.toNat n x i ∨ (∃ j, GIn e cp N.toNat n x i j) ∨ ((∃ j, GOut e cp N.toNat n x i j) ∧ ¬ TkE e cp N.toNat n m k i)) ∧ z = 2 * i) ∨ ((∃ j, GOut e cp N.toNat n x i j) ∧ TkE e cp N.toNat n m k i ∧ z = 2 * i + 1)) fun x => by
    by_cases hx : x < (gel e cp N.toNat n).length
    · obtain ⟨i, h1 | h1 | h1⟩ := gel_form hx
      · exact ⟨2 * i, fun _ => ⟨i, .inl ⟨.inl h1, rfl⟩⟩⟩
      · exact ⟨2 * i, fun _ => ⟨i, .inl ⟨.inr (.inl h1), rfl⟩⟩⟩
      · by_cases ht : TkE e cp N.toNat n m k i
        · exact ⟨2 * i + 1, fun _ => ⟨i, .inr ⟨h1, ht, rfl⟩⟩⟩
        · exact ⟨2 * i, fun _ => ⟨i, .inl ⟨.inr (.inr ⟨h1, ht⟩), rfl⟩⟩⟩
    · exact ⟨0, fun h => (hx h).elim⟩
  have hle : cnt (fun x => decide (In m k (x : Int))) (gel e cp N.toNat n).length ≤ cnt (fun z => if z % 2 = 0 then decide (¬ lp (e (z / 2))) else decide (TkE e cp N.toNat n m k (z / 2))) (2 * n) := by
    refine cnt_injN φ (fun x hx hp => ?_) fun x y hx hy hpx hpy heq => ?_
    · obtain ⟨i, ⟨h1, h2⟩ | ⟨⟨j, h1⟩, h2, h3⟩⟩ := hφ x hx
      · have hi : i < n ∧ ¬ lp (e i) := by rcases h1 with h1 | ⟨j, h1⟩ | ⟨⟨j, h1⟩, _⟩ <;> exact ⟨h1.1, h1.2.1⟩
        refine ⟨by omega, ?_⟩
        rw [h2, if_pos (by omega), show 2 * i / 2 = i by omega]
        exact decide_eq_true hi.2
      · have hi := h1.1
        refine ⟨by omega, ?_⟩
        rw [h3, if_neg (by omega), show (2 * i + 1) / 2 = i by omega]
        exact decide_eq_true h2
    · have hmx := of_decide_eq_true hpx
      have hmy := of_decide_eq_true hpy
      obtain ⟨i, hxx⟩ := hφ x hx
      obtain ⟨i', hyy⟩ := hφ y hy
      have ei : i = i' := by rcases hxx with ⟨_, h1⟩ | ⟨_, _, h1⟩ <;> rcases hyy with ⟨_, h2⟩ | ⟨_, _, h2⟩ <;> omega
      subst ei
      have hi : i < n ∧ ¬ lp (e i) := by
        rcases hxx with ⟨h1 | ⟨j, h1⟩ | ⟨⟨j, h1⟩, _⟩, _⟩ | ⟨⟨j, h1⟩, _⟩ <;> exact ⟨h1.1, h1.2.1⟩
      obtain ⟨g1, g2, g3, _, _⟩ := gnn_at hr hc hi.1 hi.2
      -- what shares the first middle, or the second
      have sA : ∀ {x y : Nat}, In m k (x : Int) → In m k (y : Int) → (GMid e cp N.toNat n x i ∨ ∃ j, GIn e cp N.toNat n x i j) → (GMid e cp N.toNat n y i ∨ ∃ j, GIn e cp N.toNat n y i j) → x = y := fun {x y} a b c d => by
        refine h.uniq (v := gnn e cp N.toNat i) (by omega) (by omega) a b ?_ ?_
        · rcases c with c | ⟨j, c⟩
          · exact .inl (by rw [c.2.2])
          · exact .inr (by rw [c.2.2.2])
        · rcases d with c | ⟨j, c⟩
          · exact .inl (by rw [c.2.2])
          · exact .inr (by rw [c.2.2.2])
      have sB : ∀ {x y : Nat}, In m k (x : Int) → In m k (y : Int) → (GMid e cp N.toNat n x i ∨ ∃ j, GOut e cp N.toNat n x i j) → (GMid e cp N.toNat n y i ∨ ∃ j, GOut e cp N.toNat n y i j) → x = y := fun {x y} a b c d => by
        refine h.uniq (v := gnn e cp N.toNat i + 1) (by omega) (by omega) a b ?_ ?_
        · rcases c with c | ⟨j, c⟩
          · exact .inr (by rw [c.2.2])
          · exact .inl (by rw [c.2.2.2])
        · rcases d with c | ⟨j, c⟩
          · exact .inr (by rw [c.2.2])
          · exact .inl (by rw [c.2.2.2])
      have tk : ∀ {x y : Nat}, In m k (x : Int) → In m k (y : Int) → (∃ j, GIn e cp N.toNat n x i j) → (∃ j, GOut e cp N.toNat n y i j) → TkE e cp N.toNat n m k i := fun {x y} a b ⟨j, c⟩ ⟨j', d⟩ => ⟨⟨x, j, a, c⟩, y, j', b, d⟩
      rcases hxx with ⟨h1, e1⟩ | ⟨h1, t1, e1⟩ <;> rcases hyy with ⟨h2, e2⟩ | ⟨h2, t2, e2⟩
      · rcases h1 with h1 | h1 | ⟨h1, n1⟩ <;> rcases h2 with h2 | h2 | ⟨h2, n2⟩
        · exact sA hmx hmy (.inl h1) (.inl h2)
        · exact sA hmx hmy (.inl h1) (.inr h2)
        · exact sB hmx hmy (.inl h1) (.inr h2)
        · exact sA hmx hmy (.inr h1) (.inl h2)
        · exact sA hmx hmy (.inr h1) (.inr h2)
        · exact (n2 (tk hmx hmy h1 h2)).elim
        · exact sB hmx hmy (.inr h1) (.inl h2)
        · exact (n1 (tk hmy hmx h2 h1)).elim
        · exact sB hmx hmy (.inr h1) (.inr h2)
      · omega
      · omega
      · exact sB hmx hmy (.inr h1) (.inr h2)
  rw [cnt_two_n (p := fun i => decide (¬ lp (e i))) (q := fun i => decide (TkE e cp N.toNat n m k i)), ← nol_cnt] at hle
  omega

theorem tdeg_cnt {T : Nat → Bool} {v : Int} : ∀ {i : Nat}, (∀ j, j < i → T j = true → ¬ lp (e j)) → tdeg e T i v ≤ cnt (fun j => T j && (decide ((e j).fr = v) || decide ((e j).to = v))) i
  | 0, _ => Nat.zero_le _
  | i + 1, h => by
    have ih := tdeg_cnt (T := T) (v := v) (i := i) fun j hj => h j (by omega)
    show tdeg e T i v + (if T i = true then _ else 0) ≤ _
    simp only [cnt]
    by_cases hT : T i = true
    · have hl := h i (by omega) hT
      unfold lp at hl
      rw [if_pos hT]
      by_cases h1 : (e i).fr = v
      · have h2 : ¬ (e i).to = v := fun hh => hl (h1.trans hh.symm)
        rw [if_pos h1, if_neg h2, if_pos (by simp [hT, h1])]; omega
      · by_cases h2 : (e i).to = v
        · rw [if_neg h1, if_pos h2, if_pos (by simp [hT, h2])]; omega
        · rw [if_neg h1, if_neg h2, if_neg (by simp [h1, h2])]; omega
    · rw [if_neg hT, if_neg (by simp [hT])]; omega

open Classical in
/-- what is taken keeps to the copies -/
theorem tke_deg (hr : Right N n e) (hc : ∀ v, v < N.toNat → 0 ≤ cp v) (h : Tkn (gnn e cp N.toNat n) (gel e cp N.toNat n).length (lsE (gel e cp N.toNat n)) m k fun _ => 1) {a : Nat} (ha : a < N.toNat) : (tdeg e (fun i => decide (TkE e cp N.toNat n m k i)) n (a : Int) : Int) ≤ cp a := by
  have h0 := hc a ha
  have h1 : tdeg e (fun i => decide (TkE e cp N.toNat n m k i)) n (a : Int) ≤ _ := tdeg_cnt fun j hj ht => by
    obtain ⟨⟨x, j', _, hx⟩, _⟩ := of_decide_eq_true ht
    exact hx.2.1
  -- the copy that it is matched to
  obtain ⟨φ, hφ⟩ := Classical.axiomOfChoice (r := fun i (j : Nat) => (TkE e cp N.toNat n m k i ∧ ((e i).fr = (a : Int) ∨ (e i).to = (a : Int))) → ∃ x : Nat, In m k (x : Int) ∧ (j : Int) < cp a ∧ (((e i).fr = (a : Int) ∧ GIn e cp N.toNat n x i j) ∨ ((e i).to = (a : Int) ∧ GOut e cp N.toNat n x i j))) fun i => by
    by_cases hi : TkE e cp N.toNat n m k i ∧ ((e i).fr = (a : Int) ∨ (e i).to = (a : Int))
    · obtain ⟨⟨⟨x, j, hx, gx⟩, y, j', hy, gy⟩, hh | hh⟩ := hi
      · exact ⟨j, fun _ => ⟨x, hx, by have := gx.2.2.1; rwa [hh, Int.toNat_natCast] at this, .inl ⟨hh, gx⟩⟩⟩
      · exact ⟨j', fun _ => ⟨y, hy, by have := gy.2.2.1; rwa [hh, Int.toNat_natCast] at this, .inr ⟨hh, gy⟩⟩⟩
    · exact ⟨0, fun h => (hi h).elim⟩
  have h2 : cnt (fun j => decide (TkE e cp N.toNat n m k j) && (decide ((e j).fr = (a : Int)) || decide ((e j).to = (a : Int)))) n ≤ cnt (fun _ => true) (cp a).toNat := by
    have spl : ∀ i, (decide (TkE e cp N.toNat n m k i) && (decide ((e i).fr = (a : Int)) || decide ((e i).to = (a : Int)))) = true → TkE e cp N.toNat n m k i ∧ ((e i).fr = (a : Int) ∨ (e i).to = (a : Int)) := fun i hh => by
      rw [Bool.and_eq_true, Bool.or_eq_true] at hh
      exact ⟨of_decide_eq_true hh.1, hh.2.imp of_decide_eq_true of_decide_eq_true⟩
    refine cnt_injN φ (fun i hi hp => ?_) fun i i' hi hi' hp hp' heq => ?_
    · obtain ⟨x, _, hj, _⟩ := hφ i (spl i hp)
      exact ⟨by omega, rfl⟩
    · obtain ⟨x, hx, hj, hg⟩ := hφ i (spl i hp)
      obtain ⟨x', hx', hj', hg'⟩ := hφ i' (spl i' hp')
      rw [← heq] at hg' hj'
      have pos : 0 ≤ psum cp a + (φ i : Int) ∧ psum cp a + (φ i : Int) < gnn e cp N.toNat n := by
        rcases hg with ⟨hh, hg⟩ | ⟨hh, hg⟩
        · obtain ⟨g1, g2, g3, g4, _⟩ := gnn_at hr hc hg.1 hg.2.1
          have := g4 (φ i) hg.2.2.1
          rw [hh, Int.toNat_natCast] at this; omega
        · obtain ⟨g1, g2, g3, _, g4⟩ := gnn_at hr hc hg.1 hg.2.1
          have := g4 (φ i) hg.2.2.1
          rw [hh, Int.toNat_natCast] at this; omega
      have at' : ∀ {x i : Nat} {j : Nat}, (((e i).fr = (a : Int) ∧ GIn e cp N.toNat n x i j) ∨ ((e i).to = (a : Int) ∧ GOut e cp N.toNat n x i j)) → (lsE (gel e cp N.toNat n) x).fr = psum cp a + (j : Int) ∨ (lsE (gel e cp N.toNat n) x).to = psum cp a + (j : Int) := fun hg => by
        rcases hg with ⟨hh, hg⟩ | ⟨hh, hg⟩
        · have := hg.2.2.2
          rw [hh, Int.toNat_natCast] at this
          exact .inl (by rw [this])
        · have := hg.2.2.2
          rw [hh, Int.toNat_natCast] at this
          exact .inr (by rw [this])
      have ex := h.uniq pos.1 pos.2 hx hx' (at' hg) (at' hg')
      subst ex
      -- one edge of the gadget is of one edge
      have mids : ∀ {i j : Nat}, (((e i).fr = (a : Int) ∧ GIn e cp N.toNat n x i j) ∨ ((e i).to = (a : Int) ∧ GOut e cp N.toNat n x i j)) → ¬ lp (e i) ∧ ((lsE (gel e cp N.toNat n) x).fr + (lsE (gel e cp N.toNat n) x).to = psum cp a + (j : Int) + psum cp N.toNat + 2 * (nol e i : Int) ∨ (lsE (gel e cp N.toNat n) x).fr + (lsE (gel e cp N.toNat n) x).to = psum cp a + (j : Int) + psum cp N.toNat + 2 * (nol e i : Int) + 1) := fun hg => by
        rcases hg with ⟨hh, hg⟩ | ⟨hh, hg⟩
        · have := hg.2.2.2
          rw [hh, Int.toNat_natCast] at this
          refine ⟨hg.2.1, .inl ?_⟩
          rw [this]; show psum cp a + _ + gnn e cp N.toNat _ = _; unfold gnn; omega
        · have := hg.2.2.2
          rw [hh, Int.toNat_natCast] at this
          refine ⟨hg.2.1, .inr ?_⟩
          rw [this]; show gnn e cp N.toNat _ + 1 + (psum cp a + _) = _; unfold gnn; omega
      obtain ⟨l1, q1⟩ := mids hg
      obtain ⟨l2, q2⟩ := mids hg'
      exact nol_inj l1 l2 (by omega)
  have h3 : cnt (fun _ => true) (cp a).toNat = (cp a).toNat := by
    generalize (cp a).toNat = z
    induction z with
    | zero => rfl
    | succ z ih => simp only [cnt]; rw [ih]; rfl
  omega

open Classical in
/-- what can be taken is at most the gadget's largest matching, less one for each edge -/
theorem many_le {b : Nat → Int} {bn : Nat} {o : Nat → Int} {ko : Nat} (hr : Right N n e) (hb : Bnd N b bn) (hg : Gsz e (cps e n b) N.toNat n) (hL : LrgP (gnn e (cps e n b) N.toNat n) (gel e (cps e n b) N.toNat n).length (lsE (gel e (cps e n b) N.toNat n)) m k set q) (ho : Tkn N n e o ko fun v => b v.toNat) : nol e n + ko ≤ k := by
  have hN0 := hr.N0
  have hbl := hb.len
  have hcb : ∀ v, v < N.toNat → 0 ≤ cps e n b v := fun v hv => (cps_bound (e := e) (n := n) hb (v := v) (by omega)).1
  have hgr := gad_right hr hcb hg
  have hT : ∀ i, i < n → decide (In o ko (i : Int)) = true → ¬ lp (e i) := fun i hi h => by
    obtain ⟨j, hj, he⟩ := of_decide_eq_true h
    have := ho.nl j hj
    rwa [he, Int.toNat_natCast] at this
  have hd : ∀ v : Nat, v < N.toNat → (tdeg e (fun i => decide (In o ko (i : Int))) n (v : Int) : Int) ≤ cps e n b v := fun v hv => by
    have h1 := tdeg_ends (v := (v : Int)) hT
    have h2 := rise_deg (e := e) (v := (v : Int)) ho.ris
    have h3 := hb.bnd v (by omega)
    have h4 := ho.mst (v : Int) (by omega) (by omega)
    rw [Int.toNat_natCast] at h4
    unfold cps
    split
    · by_cases h0 : 0 < dg e o ko (v : Int)
      · have := h4 h0; omega
      · omega
    · omega
  obtain ⟨M, h1, h2, h3, h4, h5⟩ := gad_match hr hcb hT hd n (Nat.le_refl _)
  rw [rise_cnt ho.ris] at h1
  have hE := hL.eq
  generalize cps e n b = cp at *
  have hdg : ∀ v : Nat, v < (gnn e cp N.toNat n).toNat → dg (lsE (gel e cp N.toNat n)) (mf M) M.length (v : Int) ≤ 1 := fun v hv => by
    rw [dg_mf]
    by_cases hp : (v : Int) < psum cp N.toNat
    · obtain ⟨a, j, ha, hj, he⟩ := psum_find (by omega) hp
      rw [he]
      have := h3 a ha j hj
      split at this <;> omega
    · exact h4 v (by omega) (by omega)
  have hB := odd_boundG (W := fun v => decide (In set q (v : Int))) (m := mf M) (k := M.length) hgr (mf_mem h2) hdg
  have hC := cover_count (cv := set) (N := (gnn e cp N.toNat n).toNat) q
  have hO : oddS (gnn e cp N.toNat n) (gel e cp N.toNat n).length (lsE (gel e cp N.toNat n)) set q = oddN (gnn e cp N.toNat n) (gel e cp N.toNat n).length (lsE (gel e cp N.toNat n)) fun v => decide (In set q (v : Int)) := rfl
  omega

open Classical in
/-- marked edges, told as a rising list -/
theorem marks_tkn {T : Nat → Bool} {b : Nat → Int} (hT : ∀ i, i < n → T i = true → ¬ lp (e i)) (hd : ∀ v : Nat, v < N.toNat → (tdeg e T n (v : Int) : Int) ≤ b v) : Tkn N n e (lsF (pk T n)) (pk T n).length fun v => b v.toNat := by
  have hri := pk_ris (P := T) (n := n)
  refine ⟨hri, fun i hi => ?_, fun v h0 h1 _ => ?_⟩
  · have hm : (pk T n)[i] ∈ pk T n := List.getElem_mem hi
    rw [pk_mem] at hm
    rw [lsF_get hi, Int.toNat_natCast]
    exact hT _ hm.1 hm.2
  · obtain ⟨u, rfl⟩ : ∃ u : Nat, v = u := ⟨v.toNat, by omega⟩
    have h2 := rise_deg (e := e) (v := (u : Int)) hri
    have h3 : tdeg e (fun i => decide (In (lsF (pk T n)) (pk T n).length (i : Int))) n (u : Int) = tdeg e T n (u : Int) := by
      have : ∀ k, k ≤ n → tdeg e (fun i => decide (In (lsF (pk T n)) (pk T n).length (i : Int))) k (u : Int) = tdeg e T k (u : Int) := by
        intro k
        induction k with
        | zero => intro _; rfl
        | succ k ih =>
          intro hk
          show tdeg e _ k _ + (if _ then _ else 0) = tdeg e T k _ + (if T k = true then _ else 0)
          have hih := ih (by omega)
          have : decide (In (lsF (pk T n)) (pk T n).length (k : Int)) = T k := by
            cases hk' : T k
            · refine decide_eq_false fun ⟨j, hj, ej⟩ => ?_
              rw [lsF_get hj] at ej
              have hm : (pk T n)[j] ∈ pk T n := List.getElem_mem hj
              rw [pk_mem] at hm
              have : (pk T n)[j] = k := by omega
              rw [this, hk'] at hm; exact Bool.noConfusion hm.2
            · refine decide_eq_true ?_
              have hm : k ∈ pk T n := pk_mem.2 ⟨by omega, hk'⟩
              obtain ⟨j, hj, ej⟩ := List.getElem_of_mem hm
              exact ⟨j, hj, by rw [lsF_get hj, ej]⟩
          rw [hih]
          simp only [this]
      exact this n (Nat.le_refl _)
    have h4 := hd u (by omega)
    rw [Int.toNat_natCast]
    omega

open Classical in
/-- out of a largest matching of the gadget, and what proves it: what is taken is the most, and proved -/
theorem many_got {b : Nat → Int} {bn : Nat} (hr : Right N n e) (hb : Bnd N b bn) (hg : Gsz e (cps e n b) N.toNat n) (hL : LrgP (gnn e (cps e n b) N.toNat n) (gel e (cps e n b) N.toNat n).length (lsE (gel e (cps e n b) N.toNat n)) m k set q) {T : Nat → Bool} (hT : ∀ i, i < n → (T i = true ↔ TkE e (cps e n b) N.toNat n m k i)) : MnyP N n e b (lsF (pk T n)) (pk T n).length set q := by
  have hbl := hb.len
  have hN0 := hr.N0
  have hcb : ∀ v, v < N.toNat → 0 ≤ cps e n b v := fun v hv => (cps_bound (e := e) (n := n) hb (v := v) (by omega)).1
  have eT : ∀ i, i < n → T i = decide (TkE e (cps e n b) N.toNat n m k i) := fun i hi => by
    cases h : T i
    · exact (decide_eq_false fun hh => by rw [(hT i hi).2 hh] at h; cases h).symm
    · exact (decide_eq_true ((hT i hi).1 h)).symm
  have dT : ∀ v j, j ≤ n → tdeg e T j v = tdeg e (fun i => decide (TkE e (cps e n b) N.toNat n m k i)) j v := fun v j => by
    induction j with
    | zero => intro _; rfl
    | succ j ih =>
      intro hj
      show tdeg e T j v + (if T j = true then _ else 0) = tdeg e _ j v + (if _ = true then _ else 0)
      rw [ih (by omega), eT j (by omega)]
  have h1 := tke_le hr hcb hL.tk
  have h2 := marks_tkn (N := N) (b := b) (T := T) (e := e) (n := n) (fun i hi ht => by
    obtain ⟨⟨x, j, _, hx⟩, _⟩ := (hT i hi).1 ht
    exact hx.2.1) fun v hv => by
      rw [dT _ _ (Nat.le_refl _)]
      have := tke_deg hr hcb hL.tk hv
      have := (cps_bound (e := e) (n := n) hb (v := v) (by omega)).2.2
      omega
  have h3 := many_le hr hb hg hL h2
  have h4 : cnt T n = cnt (fun i => decide (TkE e (cps e n b) N.toNat n m k i)) n := cnt_congr fun i hi => eT i hi
  have h5 := hL.eq
  have h6 := pk_len (P := T) (n := n)
  exact ⟨h2, hL.ris, by omega⟩
end
end Go.Mz

/-
  Walks of layer 19: Solve.
-/
namespace Go.Mz

/-- a middle node of the gadget that one of the first matched edges joins to a copy -/
def FoE (gl : Nat → Edg) (first : Int) (g : Nat → Int) (x : Nat) (v : Int) : Prop := ∃ y, y < x ∧ ((gl (g y).toNat).fr < first ∨ (gl (g y).toNat).to < first) ∧ (if (gl (g y).toNat).fr < (gl (g y).toNat).to then (gl (g y).toNat).to else (gl (g y).toNat).fr) = v

theorem foe_in {N : Int} {n : Nat} {e : Nat → Edg} {cp : Nat → Int} {g : Nat → Int} {k : Nat} (hr : Right N n e) (hc : ∀ v, v < N.toNat → 0 ≤ cp v) (hri : Ris g k (gel e cp N.toNat n).length) {i : Nat} (hi : i < n) (hl : ¬ lp (e i)) :
    (FoE (lsE (gel e cp N.toNat n)) (psum cp N.toNat) g k (gnn e cp N.toNat i) ↔ ∃ x j : Nat, In g k (x : Int) ∧ GIn e cp N.toNat n x i j) ∧ (FoE (lsE (gel e cp N.toNat n)) (psum cp N.toNat) g k (gnn e cp N.toNat i + 1) ↔ ∃ x j : Nat, In g k (x : Int) ∧ GOut e cp N.toNat n x i j) := by
  obtain ⟨g1, g2, g3, g4, g5⟩ := gnn_at hr hc hi hl
  have form : ∀ {v : Int}, FoE (lsE (gel e cp N.toNat n)) (psum cp N.toNat) g k v → ∃ x : Nat, In g k (x : Int) ∧ ∃ i', (v = gnn e cp N.toNat i' ∧ ∃ j, GIn e cp N.toNat n x i' j) ∨ (v = gnn e cp N.toNat i' + 1 ∧ ∃ j, GOut e cp N.toNat n x i' j) := fun {v} ⟨y, hy, hlt, hv⟩ => by
    have hry := hri y hy
    have hx : (g y).toNat < (gel e cp N.toNat n).length := by omega
    refine ⟨(g y).toNat, ⟨y, hy, by omega⟩, ?_⟩
    obtain ⟨i', h1 | ⟨j, h1⟩ | ⟨j, h1⟩⟩ := gel_form hx
    · obtain ⟨a1, a2, a3, a4, a5⟩ := gnn_at hr hc h1.1 h1.2.1
      rw [h1.2.2] at hlt
      have : (gnn e cp N.toNat i' < psum cp N.toNat ∨ gnn e cp N.toNat i' + 1 < psum cp N.toNat) := hlt
      omega
    · obtain ⟨a1, a2, a3, a4, a5⟩ := gnn_at hr hc h1.1 h1.2.1
      have b1 := a4 j h1.2.2.1
      rw [h1.2.2.2] at hv
      have hv' : (if psum cp (e i').fr.toNat + (j : Int) < gnn e cp N.toNat i' then gnn e cp N.toNat i' else psum cp (e i').fr.toNat + (j : Int)) = v := hv
      rw [if_pos (by omega)] at hv'
      exact ⟨i', .inl ⟨hv'.symm, j, h1⟩⟩
    · obtain ⟨a1, a2, a3, a4, a5⟩ := gnn_at hr hc h1.1 h1.2.1
      have b1 := a5 j h1.2.2.1
      rw [h1.2.2.2] at hv
      have hv' : (if gnn e cp N.toNat i' + 1 < psum cp (e i').to.toNat + (j : Int) then psum cp (e i').to.toNat + (j : Int) else gnn e cp N.toNat i' + 1) = v := hv
      rw [if_neg (by omega)] at hv'
      exact ⟨i', .inr ⟨hv'.symm, j, h1⟩⟩
  have same : ∀ {i'}, ¬ lp (e i') → gnn e cp N.toNat i = gnn e cp N.toNat i' → i' = i := fun {i'} h1 h2 => nol_inj h1 hl (by unfold gnn at h2; omega)
  have ne : ∀ {i'}, gnn e cp N.toNat i ≠ gnn e cp N.toNat i' + 1 := fun {i'} h => by unfold gnn at h; omega
  have ne2 : ∀ {i'}, gnn e cp N.toNat i + 1 ≠ gnn e cp N.toNat i' := fun {i'} h => by unfold gnn at h; omega
  refine ⟨⟨fun h => ?_, fun ⟨x, j, ⟨y, hy, ey⟩, hx⟩ => ?_⟩, ⟨fun h => ?_, fun ⟨x, j, ⟨y, hy, ey⟩, hx⟩ => ?_⟩⟩
  · obtain ⟨x, hx, i', ⟨e1, j, h1⟩ | ⟨e1, _⟩⟩ := form h
    · have := same h1.2.1 e1
      subst this
      exact ⟨x, j, hx, h1⟩
    · exact (ne e1).elim
  · have b1 := g4 j hx.2.2.1
    have ex : (g y).toNat = x := by omega
    refine ⟨y, hy, ?_, ?_⟩
    · rw [ex, hx.2.2.2]; exact .inl b1.2
    · rw [ex, hx.2.2.2]
      exact if_pos (show psum cp (e i).fr.toNat + (j : Int) < gnn e cp N.toNat i by omega)
  · obtain ⟨x, hx, i', ⟨e1, _⟩ | ⟨e1, j, h1⟩⟩ := form h
    · exact (ne2 e1).elim
    · have := same h1.2.1 (by omega)
      subst this
      exact ⟨x, j, hx, h1⟩
  · have b1 := g5 j hx.2.2.1
    have ex : (g y).toNat = x := by omega
    refine ⟨y, hy, ?_, ?_⟩
    · rw [ex, hx.2.2.2]; exact .inr b1.2
    · rw [ex, hx.2.2.2]
      exact if_neg (show ¬ gnn e cp N.toNat i + 1 < psum cp (e i).to.toNat + (j : Int) by omega)

/-- what is told of an answer of Solve's -/
def MnF (N : Int) (n : Nat) (e : Nat → Edg) (b : Nat → Int) (bn : Nat) (mn : Nat) (g : Nat → Int) (sn : Nat) (cv : Nat → Int) (c : Int) : Prop :=
  (GadB N n e b bn c ∧ mn = 0 ∧ sn = 0) ∨ (c = 0 ∧ Right N n e ∧ Bnd N b bn ∧ Gsz e (cps e n b) N.toNat n ∧ MnyP N n e b g mn cv sn)

section
variable {E : Value → Hp → Prop}

/-- the edges that are taken, one by one -/
theorem bnend {N : Int} {n ec : Nat} {e : Nat → Edg} {b : Nat → Int} {ep : Option Addr} {op sp : Option Addr} {oc sn sc G : Nat} {f : Nat → Int} {T : Nat → Bool} {H : Hp} {K : Option Addr → Nat → Nat → Option Addr → Nat → Nat → Int → Hp → Prop} (he : Rdr H ep n e) (hr : Right N n e) (hc : ∀ v, v < N.toNat → 0 ≤ cps e n b v) (hG : (G : Int) = gnn e (cps e n b) N.toNat n) (hG1 : G ≤ 1024) (ro : Row H op G oc f)
    (hf : ∀ v, v < G → f v = 0 ∨ f v = 1) (hT : ∀ i, i < n → (T i = true ↔ ¬ lp (e i) ∧ f (gnn e (cps e n b) N.toNat i).toNat = 1 ∧ f (gnn e (cps e n b) N.toNat i + 1).toNat = 1))
    (kk : ∀ H' mp mc, Step (fun _ => False) H H' → Row H' mp (pk T n).length mc (lsF (pk T n)) → (∀ y, fpS mp y → H y = none) → K mp (pk T n).length mc sp sn sc 0 H') :
    bmatch_Solve.l3 none 0 0 sp sn sc op G oc (psum (cps e n b) N.toNat) ep n ec (n : Int) 0 E H K := by
  have hn1 := hr.n1
  generalize hcp : cps e n b = cp at *
  have hlen : ∀ v, (pk T v).length ≤ v := fun v => by rw [pk_len]; exact cnt_le _ _
  refine bmatch_Solve.l3_rule (fun mp mn mc sp' sn' sc' op' on' oc' at16 tp tn tc t89 t90 H' => sp' = sp ∧ sn' = sn ∧ sc' = sc ∧ op' = op ∧ on' = G ∧ oc' = oc ∧ tp = ep ∧ tn = n ∧ t89 = n ∧ ∃ i : Nat, t90 = i ∧ i ≤ n ∧ at16 = gnn e cp N.toNat i ∧ mn = (pk T i).length ∧ Step (fun _ => False) H H' ∧ Row H' mp mn mc (lsF (pk T i)) ∧ (∀ y, fpS mp y → H y = none))
    (fun mp mn mc sp' sn' sc' op' on' oc' at16 tp tn tc t89 t90 H' => n - t90.toNat) ?_ ⟨rfl, rfl, rfl, rfl, rfl, rfl, rfl, rfl, rfl, 0, rfl, Nat.zero_le _, by unfold gnn; show _ = _ + 2 * ((0 : Nat) : Int); omega, rfl, .refl, Row.nil, fun y h => by rw [fpS_none] at h; exact h.elim⟩
  rintro mp mn mc sp' sn' sc' op' on' oc' at16 tp tn tc t89 t90 H1 ⟨rfl, rfl, rfl, rfl, rfl, rfl, rfl, rfl, rfl, i, rfl, hi, rfl, rfl, s1, rm, fm⟩ X hX
  refine bmatch_Solve.b3_eq ?_
  unfold bmatch_Solve.b3_t
  refine bc (fun hlt => ?_) fun hge => ?_
  · have hin : i < tn := by omega
    refine (he.keep s1 fun _ _ _ h => h).edge (by omega) (by omega) ?_
    rw [Int.toNat_natCast]
    refine nwst rfl rfl fun b4 H4 hb4 e4 s4 => ?_
    have s14 := s1.and s4
    have ro4 := ro.keep s14 fun _ _ h => h
    have rm4 := rm.keep s4 fun _ _ h => h
    have next : ∀ {H5 : Hp} {mp5 : Option Addr} {mc5 : Nat} {a : Int}, a = gnn e cp N.toNat (i + 1) → Step (fun _ => False) H H5 → Row H5 mp5 (pk T (i + 1)).length mc5 (lsF (pk T (i + 1))) → (∀ y, fpS mp5 y → H y = none) → bmatch_Solve.j7 mp5 (pk T (i + 1)).length mc5 sp' sn' sc' op' on' oc' a tp tn tc (tn : Int) (i : Int) X E H5 K := by
      intro H5 mp5 mc5 a ha s5 r5 f5
      refine bmatch_Solve.j7_eq ?_
      unfold bmatch_Solve.j7_t
      rw [i64w (by omega) (by omega)]
      exact hX _ _ _ _ _ _ _ _ _ _ _ _ _ _ _ _ ⟨rfl, rfl, rfl, rfl, rfl, rfl, rfl, rfl, rfl, i + 1, by omega, by omega, ha, rfl, s5, r5, f5⟩ (by omega)
    have skip : ∀ {a : Int}, T i = false → a = gnn e cp N.toNat (i + 1) → bmatch_Solve.j7 mp (pk T i).length mc sp' sn' sc' op' on' oc' a tp tn tc (tn : Int) (i : Int) X E H4 K := fun {a} hh ha => by
      have e1 : pk T (i + 1) = pk T i := by rw [pk_succ, if_neg (by rw [hh]; decide)]
      have := next (mp5 := mp) (mc5 := mc) ha s14 (by rw [e1]; exact rm4) fm
      rwa [e1] at this
    simp only [get_at e4, List.getElem?_cons_zero, List.getElem?_cons_succ, ldI_mk]
    have fls : ¬ (T i = true) → T i = false := fun h => by cases hh : T i; rfl; exact (h hh).elim
    refine bc (fun hl => ?_) fun hl => ?_
    · have hl' : lp (e i) := hl
      refine skip (fls fun h => ((hT i hin).1 h).1 hl') ?_
      unfold gnn; show _ = _ + 2 * ((nol e i + (if lp (e i) then 0 else 1) : Nat) : Int); rw [if_pos hl']; omega
    · have hl' : ¬ lp (e i) := hl
      obtain ⟨g1, g2, g3, g4, g5⟩ := gnn_at hr hc hin hl'
      have ha1 : gnn e cp N.toNat (i + 1) = gnn e cp N.toNat i + 2 := by
        unfold gnn; show _ + 2 * ((nol e i + (if lp (e i) then 0 else 1) : Nat) : Int) = _; rw [if_neg hl']; omega
      have q1 := hf (gnn e cp N.toNat i).toNat (by omega)
      have q2 := hf (gnn e cp N.toNat i + 1).toNat (by omega)
      refine ro4.ixI (by omega) (by omega) ?_
      rw [i64w (n := gnn e cp N.toNat i + 1) (by omega) (by omega)]
      refine ro4.ixI (by omega) (by omega) ?_
      rw [i64w (by omega) (by omega)]
      refine bc (fun h2 => ?_) fun h2 => ?_
      · have hin' : T i = true := (hT i hin).2 ⟨hl', by omega, by omega⟩
        have e1 : pk T (i + 1) = pk T i ++ [i] := by rw [pk_succ, if_pos hin']
        have hl1 : (pk T i).length + 1 = (pk T (i + 1)).length := by rw [e1]; simp
        have := hlen i
        refine rm4.appI _ (by omega) fun p5 c5 H5 r5 s5 f5 => ?_
        rw [hl1] at r5 ⊢
        refine bmatch_Solve.j6_eq ?_
        unfold bmatch_Solve.j6_t
        rw [i64w (by omega) (by omega)]
        refine next ha1.symm (s14.trans s5 fun y hy => .inr (fm y hy)) (r5.congr fun x hx => ?_) fun y hy => (f5 y hy).elim (fm y) (s14.mono y)
        rw [e1]
        by_cases ex : x = (pk T i).length
        · rw [ex, upf_same, lsF_last]
        · rw [upf_ne ex, lsF_left (by omega)]
      · refine bmatch_Solve.j6_eq ?_
        unfold bmatch_Solve.j6_t
        rw [i64w (by omega) (by omega)]
        refine skip (fls fun h => ?_) ha1.symm
        have := (hT i hin).1 h
        omega
  · have hin : i = tn := by omega
    subst hin
    refine bmatch_Solve.j8_eq ?_
    unfold bmatch_Solve.j8_t
    exact kk H1 mp mc s1 rm fm

theorem sMany {N : Int} {ep : Option Addr} {n ec : Nat} {e : Nat → Edg} {bp : Option Addr} {bn bk : Nat} {b : Nat → Int} {H : Hp} {K : Option Addr → Nat → Nat → Option Addr → Nat → Nat → Int → Hp → Prop}
    (he : Rdr H ep n e) (hn : n < 2 ^ 63) (hb : Rdr H bp bn b) (hbn : bn < 2 ^ 63)
    (kk : ∀ H' mp mn mc g sp sn sc cv c, Step (fun _ => False) H H' → Row H' mp mn mc g → Row H' sp sn sc cv → (∀ y, fpS mp y → H y = none) → (∀ y, fpS sp y → H y = none) → (∀ y, fpS sp y → ¬ fpS mp y) → mn < 2 ^ 62 → sn < 2 ^ 62 → MnF N n e b bn mn g sn cv c → K mp mn mc sp sn sc c H') :
    bmatch_Solve.call N ep n ec bp bn bk E H K := by
  refine bmatch_Solve.of (bmatch_Solve.run_eq ?_)
  unfold bmatch_Solve.run_t
  refine nwk fun b1 H1 hb1 e1 s1 => ?_
  simp only [get_at e1, List.getElem?_cons_zero, List.getElem?_cons_succ, ldI_mk, ldS_mk]
  have nn : ∀ y, fpS none y → False := fun y h => by rwa [fpS_none] at h
  refine vGadget (he.keep s1 fun _ _ _ h => h) hn (hb.keep s1 fun _ _ _ h => h) hbn (fun H2 op oc s2 hr hbd hgs ro fo => ?_) fun H2 c s2 hbad => ?_
  · refine nwst rfl rfl fun b2 H4 hb2 e4 s4 => ?_
    refine bcn (fun h => (h rfl).elim) fun _ => ?_
    have e14 := (s2.and s4).keep _ _ e1 fun h => h
    have s04 := (s1.and s2).and s4
    simp only [get_at e4, List.getElem?_cons_zero, List.getElem?_cons_succ, ldI_mk, ldS_mk]
    have hbl := hbd.len
    have hcb : ∀ v, v < N.toNat → 0 ≤ cps e n b v := fun v hv => (cps_bound (e := e) (n := n) hbd (v := v) (by omega)).1
    have hgr := gad_right hr hcb hgs
    have ro4 := ro.keep s4 fun _ _ h => h
    refine sBlo ro4.rdr (by have := hgs.2; omega) fun H5 mp mn mc g sp sn sc cv s5 r1 r2 f1 f2 f12 l1 l2 hF => ?_
    rcases hF with ⟨h0, _⟩ | ⟨h0, _, hA⟩
    · exact (h0 (chk_zero.2 hgr)).elim
    · rw [h0]
      refine bcn (fun h => (h rfl).elim) fun _ => ?_
      have e45 := s5.keep _ _ e4 fun h => h
      have e15 := s5.keep _ _ e14 fun h => h
      have s05 := s04.and s5
      simp only [get_at e45, get_at e15, List.getElem?_cons_zero, List.getElem?_cons_succ, ldI_mk, ldS_mk]
      have hG0 := hgr.N0
      have hL := hA.lrg
      rw [show ((gnn e (cps e n b) N.toNat n).toNat : Int) = gnn e (cps e n b) N.toNat n by omega] at hL
      have hn1 := hr.n1
      have hg1 := hgs.1
      have hg2 := hgs.2
      have hp0 : 0 ≤ psum (cps e n b) N.toNat := psum_mono (f := cps e n b) hcb (Nat.zero_le _) (Nat.le_refl _)
      obtain ⟨G, hG⟩ : ∃ G : Nat, gnn e (cps e n b) N.toNat n = (G : Int) := ⟨_, by rw [← Int.toNat_of_nonneg hG0]⟩
      have e1' : ∀ i, i ≤ n → nol e i ≤ nol e n := fun i hi => by
        have : ∀ d, nol e i ≤ nol e (i + d) := fun d => by
          induction d with
          | zero => exact Nat.le_refl _
          | succ d ih => exact Nat.le_trans ih (Nat.le_add_right _ _)
        have := this (n - i)
        rwa [show i + (n - i) = n by omega] at this
      -- how many copies
      refine bmatch_Solve.l1_rule (fun g2 m4 m4n m4c s5' s5n s5c h7 f8 f8n f8c first tp tn tc t41 t42 H' => g2 = b1 ∧ m4 = none ∧ m4n = 0 ∧ m4c = 0 ∧ s5' = sp ∧ s5n = sn ∧ s5c = sc ∧ h7 = b2 ∧ f8 = mp ∧ f8n = mn ∧ f8c = mc ∧ tp = ep ∧ tn = n ∧ t41 = n ∧ ∃ i : Nat, t42 = i ∧ i ≤ n ∧ first = gnn e (cps e n b) N.toNat n - 2 * (nol e i : Int) ∧ Step (fun _ => False) H5 H')
        (fun g2 m4 m4n m4c s5' s5n s5c h7 f8 f8n f8c first tp tn tc t41 t42 H' => n - t42.toNat) ?_ ⟨rfl, rfl, rfl, rfl, rfl, rfl, rfl, rfl, rfl, rfl, rfl, rfl, rfl, rfl, 0, rfl, Nat.zero_le _, by show _ = _ - 2 * ((0 : Nat) : Int); omega, .refl⟩
      rintro g2 m4 m4n m4c s5' s5n s5c h7 f8 f8n f8c first tp tn tc t41 t42 H6 ⟨rfl, rfl, rfl, rfl, rfl, rfl, rfl, rfl, rfl, rfl, rfl, rfl, rfl, rfl, i, rfl, hi, rfl, s6⟩ X hX
      refine bmatch_Solve.b1_eq ?_
      unfold bmatch_Solve.b1_t
      refine bc (fun hlt => ?_) fun hge => ?_
      · have hin : i < tn := by omega
        refine (he.keep (s05.and s6) fun _ _ _ h => h).edge (by omega) (by omega) ?_
        rw [Int.toNat_natCast]
        refine nwst rfl rfl fun b7 H7 hb7 e7 s7 => ?_
        simp only [get_at e7, List.getElem?_cons_zero, List.getElem?_cons_succ, ldI_mk]
        have h1 := e1' (i + 1) (by omega)
        have h2 := e1' i (by omega)
        have hge0 : 0 ≤ gnn e (cps e tn b) N.toNat tn - 2 * (nol e (i + 1) : Int) := by
          have : gnn e (cps e tn b) N.toNat tn = psum (cps e tn b) N.toNat + 2 * (nol e tn : Int) := rfl
          omega
        have next : ∀ {a : Int}, a = gnn e (cps e tn b) N.toNat tn - 2 * (nol e (i + 1) : Int) → bmatch_Solve.j1 g2 none 0 0 s5' s5n s5c h7 f8 f8n f8c a tp tn tc (tn : Int) (i : Int) X E H7 K := by
          intro a ha
          refine bmatch_Solve.j1_eq ?_
          unfold bmatch_Solve.j1_t
          rw [i64w (by omega) (by omega)]
          exact hX _ _ _ _ _ _ _ _ _ _ _ _ _ _ _ _ _ _ ⟨rfl, rfl, rfl, rfl, rfl, rfl, rfl, rfl, rfl, rfl, rfl, rfl, rfl, rfl, i + 1, by omega, by omega, ha, s6.and s7⟩ (by omega)
        have hns : (nol e (i + 1) : Int) = nol e i + (if lp (e i) then 0 else 1) := by
          show ((nol e i + (if lp (e i) then 0 else 1) : Nat) : Int) = _
          split <;> omega
        refine bcn (fun hl => ?_) fun hl => ?_
        · have hl' : ¬ lp (e i) := hl
          rw [if_neg hl'] at hns
          rw [i64w (by omega) (by omega)]
          exact next (by omega)
        · have hl' : lp (e i) := hl
          rw [if_pos hl'] at hns
          exact next (by omega)
      · clear hX
        have hin : i = tn := by omega
        subst hin
        have ef : gnn e (cps e i b) N.toNat i - 2 * (nol e i : Int) = psum (cps e i b) N.toNat := by unfold gnn; omega
        rw [ef]
        have e46 := s6.keep _ _ e45 fun h => h
        refine bmatch_Solve.j2_eq ?_
        unfold bmatch_Solve.j2_t
        simp only [get_at e46, List.getElem?_cons_zero, List.getElem?_cons_succ, ldI_mk, ldS_mk]
        refine Row.mkI (by omega) (by omega) fun b7 H7 hb7 r7 s7 => ?_
        rw [hG, Int.toNat_natCast] at r7 ⊢
        have e47 := s7.keep _ _ e46 fun h => h
        have e17 := (s6.and s7).keep _ _ e15 fun h => h
        have s57 := s6.and s7
        have rg7 := ro4.keep (s5.and s57) fun _ _ h => h
        have rm7 := r1.keep s57 fun _ _ h => h
        have rs7 := r2.keep s57 fun _ _ h => h
        have hlen := hL.tk.ris.len
        have hri := hL.tk.ris
        have f7n : H5 b7 = none := s6.mono _ hb7
        -- the middles that go to copies
        refine bmatch_Solve.l2_rule (fun g2' m4 m4n m4c s5x s5nx s5cx h7x first op' on' oc' tp tn tc t58 t59 H' => g2' = g2 ∧ m4 = none ∧ m4n = 0 ∧ m4c = 0 ∧ s5x = s5' ∧ s5nx = s5n ∧ s5cx = s5c ∧ h7x = h7 ∧ first = psum (cps e i b) N.toNat ∧ op' = some ⟨b7, 0, none⟩ ∧ on' = G ∧ oc' = G ∧ tp = f8 ∧ tn = f8n ∧ t58 = f8n ∧ ∃ (x : Nat) (f : Nat → Int), t59 = x ∧ x ≤ f8n ∧ Row H' (some ⟨b7, 0, none⟩) G G f ∧ (∀ v, v < G → (f v = 0 ∨ f v = 1) ∧ (f v = 1 ↔ FoE (lsE (gel e (cps e i b) N.toNat i)) (psum (cps e i b) N.toNat) g x (v : Int))) ∧ Step (fun y => y = b7) H7 H')
          (fun g2' m4 m4n m4c s5x s5nx s5cx h7x first op' on' oc' tp tn tc t58 t59 H' => f8n - t59.toNat) ?_ ⟨rfl, rfl, rfl, rfl, rfl, rfl, rfl, rfl, rfl, rfl, rfl, rfl, rfl, rfl, rfl, 0, _, rfl, Nat.zero_le _, r7, fun v hv => ⟨.inl rfl, fun h => (by cases h), fun ⟨y, hy, _⟩ => by omega⟩, .refl⟩
        rintro g2' m4 m4n m4c s5x s5nx s5cx h7x first op' on' oc' tp tn tc t58 t59 H8 ⟨rfl, rfl, rfl, rfl, rfl, rfl, rfl, rfl, rfl, rfl, rfl, rfl, rfl, rfl, rfl, x, f, rfl, hx, r8, hf, s8⟩ Y hY
        have d7 : ∀ {y : Nat} {z : Blk}, H7 y = some z → y ≠ b7 → H8 y = some z := fun h hne => s8.keep _ _ h hne
        have hne4 : h7x ≠ b7 := fun h => by have := s6.keep _ _ e45 fun h => h; rw [h, hb7] at this; cases this
        have hne1 : g2' ≠ b7 := fun h => by have := s6.keep _ _ e15 fun h => h; rw [h, hb7] at this; cases this
        have e48 := d7 e47 hne4
        have e18 := d7 e17 hne1
        have own : ∀ {y : Nat}, H5 y ≠ none → y ≠ b7 := fun h hh => h (hh ▸ f7n)
        refine bmatch_Solve.b2_eq ?_
        unfold bmatch_Solve.b2_t
        refine bc (fun hlt2 => ?_) fun hge2 => ?_
        · have hxk : x < tn := by omega
          have hrx := hri x hxk
          refine (rm7.keep s8 fun y hy h => own (r1.live hy) h).ixI (by omega) (by omega) ?_
          rw [Int.toNat_natCast]
          simp only [get_at e48, List.getElem?_cons_zero, List.getElem?_cons_succ, ldI_mk, ldS_mk]
          refine (rg7.keep s8 fun y hy h => own (s5.live (ro4.live hy)) h).rdr.edge (by omega) (by omega) ?_
          refine nwst rfl rfl fun b9 H9 hb9 e9 s9 => ?_
          simp only [get_at e9, List.getElem?_cons_zero, List.getElem?_cons_succ, ldI_mk]
          have r9 := r8.keep s9 fun _ _ h => h
          have next : ∀ {H10 : Hp} {f' : Nat → Int}, Row H10 (some ⟨b7, 0, none⟩) oc' oc' f' → (∀ v, v < oc' → (f' v = 0 ∨ f' v = 1) ∧ (f' v = 1 ↔ FoE (lsE (gel e (cps e i b) N.toNat i)) (psum (cps e i b) N.toNat) g (x + 1) (v : Int))) → Step (fun y => y = b7) H7 H10 → bmatch_Solve.j4 g2' none 0 0 s5x s5nx s5cx h7x (psum (cps e i b) N.toNat) (some ⟨b7, 0, none⟩) oc' oc' tp tn tc (tn : Int) (x : Int) Y E H10 K := by
            intro H10 f' r10 hf' s10
            refine bmatch_Solve.j4_eq ?_
            unfold bmatch_Solve.j4_t
            rw [i64w (by omega) (by omega)]
            exact hY _ _ _ _ _ _ _ _ _ _ _ _ _ _ _ _ _ _ ⟨rfl, rfl, rfl, rfl, rfl, rfl, rfl, rfl, rfl, rfl, rfl, rfl, rfl, rfl, rfl, x + 1, f', by omega, by omega, r10, hf', s10⟩ (by omega)
          have hed := hgr.ed (g x).toNat (by omega)
          have q1 := hed.f0; have q2 := hed.f1; have q3 := hed.t0; have q4 := hed.t1
          rw [hG] at q2 q4
          have put : ((lsE (gel e (cps e i b) N.toNat i) (g x).toNat).fr < psum (cps e i b) N.toNat ∨ (lsE (gel e (cps e i b) N.toNat i) (g x).toNat).to < psum (cps e i b) N.toNat) → bmatch_Solve.j3 g2' none 0 0 s5x s5nx s5cx h7x (psum (cps e i b) N.toNat) (some ⟨b7, 0, none⟩) oc' oc' b9 tp tn tc (tn : Int) (x : Int) Y E H9 K := fun hlo => by
            refine bmatch_Solve.j3_eq ?_
            unfold bmatch_Solve.j3_t
            simp only [get_at e9, List.getElem?_cons_zero, List.getElem?_cons_succ, ldI_mk]
            obtain ⟨mx, hmx⟩ : ∃ mx, mx = (if (lsE (gel e (cps e i b) N.toNat i) (g x).toNat).fr < (lsE (gel e (cps e i b) N.toNat i) (g x).toNat).to then (lsE (gel e (cps e i b) N.toNat i) (g x).toNat).to else (lsE (gel e (cps e i b) N.toNat i) (g x).toNat).fr) := ⟨_, rfl⟩
            have hm1 : 0 ≤ mx ∧ mx < oc' := by rw [hmx]; split <;> omega
            rw [← hmx]
            refine r9.stI (by omega) (by omega) 1 fun H10 r10 s10 => ?_
            refine next r10 (fun v hv => ?_) ((s8.and s9).trans s10 fun y hy => .inl (fpS_mk.1 hy))
            by_cases ev : v = mx.toNat
            · rw [← ev, upf_same]
              refine ⟨.inr rfl, fun _ => ⟨x, by omega, hlo, ?_⟩, fun _ => rfl⟩
              rw [← hmx]; omega
            · rw [upf_ne ev]
              refine ⟨(hf v hv).1, fun h => ?_, fun ⟨y, hy, h1, h2⟩ => ?_⟩
              · obtain ⟨y, hy, h1⟩ := (hf v hv).2.1 h
                exact ⟨y, by omega, h1⟩
              · by_cases ey : y = x
                · subst ey; rw [← hmx] at h2; exact (ev (by omega)).elim
                · exact (hf v hv).2.2 ⟨y, by omega, h1, h2⟩
          refine bc (fun h => put (.inl h)) fun h1 => ?_
          try simp only [get_at e9, List.getElem?_cons_zero, List.getElem?_cons_succ, ldI_mk]
          refine bc (fun h => put (.inr h)) fun h2 => ?_
          refine next r9 (fun v hv => ⟨(hf v hv).1, fun h => ?_, fun ⟨y, hy, h3, h4⟩ => ?_⟩) (s8.and s9)
          · obtain ⟨y, hy, h1⟩ := (hf v hv).2.1 h
            exact ⟨y, by omega, h1⟩
          · by_cases ey : y = x
            · subst ey; omega
            · exact (hf v hv).2.2 ⟨y, by omega, h3, h4⟩
        · clear hY
          have hxk : x = tn := by omega
          subst hxk
          refine bmatch_Solve.j5_eq ?_
          unfold bmatch_Solve.j5_t
          simp only [get_at e18, List.getElem?_cons_zero, List.getElem?_cons_succ, ldI_mk, ldS_mk]
          have s58 : Step (fun _ => False) H5 H8 := s57.own s8 fun y hy => hy ▸ f7n
          have hTex : ∃ T : Nat → Bool, ∀ j, T j = true ↔ ¬ lp (e j) ∧ f (gnn e (cps e i b) N.toNat j).toNat = 1 ∧ f (gnn e (cps e i b) N.toNat j + 1).toNat = 1 := ⟨fun j => @decide _ (Classical.propDecidable _), fun j => @decide_eq_true_iff _ (Classical.propDecidable _)⟩
          obtain ⟨T, hT⟩ := hTex
          refine bnend (T := T) (he.keep (s05.and s58) fun _ _ _ h => h) hr hcb hG.symm (by omega) r8 (fun v hv => (hf v hv).1) (fun j hj => hT j) fun H9 mp9 mc9 s9 r9 f9 => ?_
          have hgot := many_got hr hbd hgs hL (T := T) fun j hj => by
            rw [hT j]
            constructor
            · rintro ⟨h1, h2, h3⟩
              obtain ⟨a1, a2, a3, _⟩ := gnn_at hr hcb hj h1
              obtain ⟨c1, c2⟩ := foe_in hr hcb hri hj h1
              have h4 := ((hf _ (by omega)).2).1 h2
              have h5 := ((hf _ (by omega)).2).1 h3
              rw [Int.toNat_of_nonneg (by omega)] at h4 h5
              exact ⟨c1.1 h4, c2.1 h5⟩
            · rintro ⟨h1, h2⟩
              have hl' : ¬ lp (e j) := by obtain ⟨y, jj, _, hh⟩ := h1; exact hh.2.1
              obtain ⟨a1, a2, a3, _⟩ := gnn_at hr hcb hj hl'
              obtain ⟨c1, c2⟩ := foe_in hr hcb hri hj hl'
              have h4 := c1.2 h1
              have h5 := c2.2 h2
              refine ⟨hl', ((hf _ (by omega)).2).2 ?_, ((hf _ (by omega)).2).2 ?_⟩ <;> rw [Int.toNat_of_nonneg (by omega)]
              · exact h4
              · exact h5
          have q1 := hgot.tk.ris.len
          have q2 := hgot.ris.len
          exact kk H9 mp9 _ mc9 _ s5x s5nx s5cx cv 0 ((s05.and s58).and s9) r9 (rs7.keep (s8.and s9) fun y hy h => own (r2.live hy) h) (fun y hy => (s05.and s58).mono y (f9 y hy)) (fun y hy => s04.mono y (f2 y hy)) (fun y hy hh => (s58.live (r2.live hy)) (f9 y hh)) (by omega) (by omega) (.inr ⟨rfl, hr, hbd, hgs, hgot⟩)
  · refine nwst rfl rfl fun b2 H4 hb2 e4 s4 => ?_
    refine bcn (fun _ => ?_) fun h => (hbad.ne h).elim
    exact kk H4 none 0 0 (fun _ => 0) none 0 0 (fun _ => 0) c ((s1.and s2).and s4) Row.nil Row.nil (fun y h => (nn y h).elim) (fun y h => (nn y h).elim) (fun y h => (nn y h).elim) (by decide) (by decide) (.inl ⟨hbad, rfl, rfl⟩)
end
end Go.Mz
