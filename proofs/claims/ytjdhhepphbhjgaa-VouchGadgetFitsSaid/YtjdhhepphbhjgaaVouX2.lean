/-
  Plain law: a matching of the gadget takes no more edges than the graph has that are no loops, and those that can be taken. No program in sight.
-/
import Derived.Test.YtjdhhepphbhjgaaVouX1
set_option linter.unusedSimpArgs false
set_option linter.unusedVariables false
namespace Go.Mz

theorem cnt_add {p : Nat → Bool} {m : Nat} : ∀ {k : Nat}, cnt p (m + k) = cnt p m + cnt (fun j => p (m + j)) k
  | 0 => rfl
  | k + 1 => by
    show cnt p (m + k) + _ = cnt p m + (cnt (fun j => p (m + j)) k + _)
    rw [cnt_add, Nat.add_assoc]
    rfl

theorem tdeg_add {g : Nat → Edg} {T : Nat → Bool} {m : Nat} {v : Int} : ∀ {k : Nat}, tdeg g T (m + k) v = tdeg g T m v + tdeg (fun j => g (m + j)) (fun j => T (m + j)) k v
  | 0 => rfl
  | k + 1 => by
    show tdeg g T (m + k) v + _ = tdeg g T m v + (tdeg (fun j => g (m + j)) (fun j => T (m + j)) k v + _)
    rw [tdeg_add, Nat.add_assoc]
    rfl

theorem tdeg_cg {g g' : Nat → Edg} {T T' : Nat → Bool} {v : Int} : ∀ {k : Nat}, (∀ j, j < k → g j = g' j ∧ T j = T' j) → tdeg g T k v = tdeg g' T' k v
  | 0, _ => rfl
  | k + 1, h => by
    show tdeg g T k v + _ = tdeg g' T' k v + _
    rw [tdeg_cg (k := k) fun j hj => h j (by omega), (h k (by omega)).1, (h k (by omega)).2]

theorem tdeg_ge {g : Nat → Edg} {T : Nat → Bool} {v : Int} : ∀ {k : Nat}, (∀ j, j < k → (g j).fr = v ∨ (g j).to = v) → cnt T k ≤ tdeg g T k v
  | 0, _ => Nat.le_refl _
  | k + 1, h => by
    have ih := tdeg_ge (T := T) (k := k) fun j hj => h j (by omega)
    show cnt T k + _ ≤ tdeg g T k v + _
    cases hT : T k with
    | false => simp only [Bool.false_eq_true, if_false]; omega
    | true =>
      rw [if_pos rfl, if_pos rfl]
      rcases h k (by omega) with h | h
      · rw [if_pos h]; omega
      · rw [if_pos h]; omega

theorem sm_lt {F F' : Nat → Nat} {j0 : Nat} (h0 : F j0 + 1 ≤ F' j0) : ∀ {k : Nat}, (∀ j, j < k → F j ≤ F' j) → j0 < k → sm F k + 1 ≤ sm F' k
  | k + 1, h, hj => by
    have hk := h k (by omega)
    show sm F k + F k + 1 ≤ sm F' k + F' k
    by_cases e : j0 = k
    · subst e
      have := sm_le (n := j0) fun j hj => h j (by omega)
      omega
    · have := sm_lt h0 (k := k) (fun j hj => h j (by omega)) (by omega)
      omega

theorem cnt_ex {p : Nat → Bool} : ∀ {k : Nat}, 0 < cnt p k → ∃ j, j < k ∧ p j = true
  | k + 1, h => by
    by_cases hk : p k = true
    · exact ⟨k, by omega, hk⟩
    · have : cnt p (k + 1) = cnt p k := by show cnt p k + (if p k then 1 else 0) = _; rw [if_neg hk]; rfl
      obtain ⟨j, hj, hp⟩ := cnt_ex (p := p) (k := k) (by omega)
      exact ⟨j, by omega, hp⟩

theorem gel_pre {e : Nat → Edg} {cp : Nat → Int} {N i : Nat} : ∀ d, ∃ r, gel e cp N (i + d) = gel e cp N i ++ r
  | 0 => ⟨[], by simp⟩
  | d + 1 => by
    obtain ⟨r, hr⟩ := gel_pre (e := e) (cp := cp) (N := N) (i := i) d
    show ∃ r, gel e cp N (i + d + 1) = _
    rw [gel_succ, hr]
    split
    · exact ⟨r, rfl⟩
    · exact ⟨_, by simp only [List.append_assoc]; rfl⟩

/-- which edges are taken, by a matching of the gadget: those with one edge to each of their two nodes -/
def revT (e : Nat → Edg) (cp : Nat → Int) (N : Nat) (T : Nat → Bool) (i : Nat) : Bool :=
  !decide (lp (e i)) && decide (0 < cnt (fun j => T ((gel e cp N i).length + 1 + j)) (cp (e i).fr.toNat).toNat) && decide (0 < cnt (fun j => T ((gel e cp N i).length + 1 + (cp (e i).fr.toNat).toNat + j)) (cp (e i).to.toNat).toNat)

theorem gad_rev {N : Int} {n : Nat} {e : Nat → Edg} {cp : Nat → Int} {T : Nat → Bool} (hr : Right N n e) (hc : ∀ v, v < N.toNat → 0 ≤ cp v) (hT : ∀ v, tdeg (lsE (gel e cp N.toNat n)) T (gel e cp N.toNat n).length v ≤ 1) :
    ∀ i, i ≤ n → cnt T (gel e cp N.toNat i).length ≤ nol e i + cnt (revT e cp N.toNat T) i ∧
      ∀ v : Nat, v < N.toNat → tdeg e (revT e cp N.toNat T) i (v : Int) ≤ sm (fun j => tdeg (lsE (gel e cp N.toNat n)) T (gel e cp N.toNat i).length (psum cp v + (j : Int))) (cp v).toNat := by
  intro i
  induction i with
  | zero => intro _; exact ⟨Nat.zero_le _, fun v _ => Nat.zero_le _⟩
  | succ i ih =>
    intro hi
    obtain ⟨h1, h2⟩ := ih (by omega)
    have hx := hr.ed i (by omega)
    have hf0 := hx.f0; have hf1 := hx.f1; have ht0 := hx.t0; have ht1 := hx.t1
    have hN0 := hr.N0
    by_cases hl : lp (e i)
    · have g1 : gel e cp N.toNat (i + 1) = gel e cp N.toNat i := by rw [gel_succ, if_pos hl]
      have g2 : nol e (i + 1) = nol e i := by show nol e i + (if lp (e i) then 0 else 1) = _; rw [if_pos hl]; rfl
      have g4 : revT e cp N.toNat T i = false := by simp [revT, hl]
      have g5 : cnt (revT e cp N.toNat T) (i + 1) = cnt (revT e cp N.toNat T) i := by show cnt _ i + (if revT e cp N.toNat T i then 1 else 0) = _; rw [g4]; rfl
      have g6 : ∀ v, tdeg e (revT e cp N.toNat T) (i + 1) v = tdeg e (revT e cp N.toNat T) i v := fun v => by show tdeg e _ i v + (if revT e cp N.toNat T i then _ else 0) = _; rw [g4]; rfl
      simp only [g1, g2, g5, g6]
      exact ⟨h1, h2⟩
    · have g2 : nol e (i + 1) = nol e i + 1 := by show nol e i + (if lp (e i) then 0 else 1) = _; rw [if_neg hl]
      obtain ⟨a, ha⟩ : ∃ a : Nat, (e i).fr = a := ⟨(e i).fr.toNat, by omega⟩
      obtain ⟨d, hdd⟩ : ∃ d : Nat, (e i).to = d := ⟨(e i).to.toNat, by omega⟩
      have hne : a ≠ d := fun h => hl (by show (e i).fr = (e i).to; rw [ha, hdd, h])
      obtain ⟨A, hA⟩ : ∃ A, gnn e cp N.toNat i = A := ⟨_, rfl⟩
      obtain ⟨G, hG⟩ : ∃ G, gel e cp N.toNat i = G := ⟨_, rfl⟩
      obtain ⟨g, hg⟩ : ∃ g, lsE (gel e cp N.toNat n) = g := ⟨_, rfl⟩
      obtain ⟨x, hxc⟩ : ∃ x, (cp a).toNat = x := ⟨_, rfl⟩
      obtain ⟨y, hyc⟩ : ∃ y, (cp d).toNat = y := ⟨_, rfl⟩
      have g1 : gel e cp N.toNat (i + 1) = G ++ ([(A, A + 1, 0, 0)] ++ (fanI A (psum cp a) x ++ fanO (A + 1) (psum cp d) y)) := by
        rw [gel_succ, if_neg hl, ha, hdd, hA, hG, ← hxc, ← hyc]; simp
      obtain ⟨r, hrr⟩ := gel_pre (e := e) (cp := cp) (N := N.toNat) (i := i + 1) (n - (i + 1))
      rw [show i + 1 + (n - (i + 1)) = n by omega, g1] at hrr
      have fl : (fanI A (psum cp a) x).length = x := by simp [fanI]
      have e1 : g G.length = (A, A + 1, 0, 0) := by
        rw [← hg, hrr, lsE_left (by simp), show G.length = G.length + 0 from rfl, lsE_right, lsE_left (by simp), lsE_one]
      have e2 : ∀ j, j < x → g (G.length + 1 + j) = (psum cp a + (j : Int), A, 0, 0) := fun j hj => by
        rw [← hg, hrr, lsE_left (by simp [fanI, fanO]; omega), Nat.add_assoc, lsE_right, show 1 + j = [((A, A + 1, 0, 0) : Edg)].length + j from rfl, lsE_right, lsE_left (by omega), lsE_fanI hj]
      have e3 : ∀ j, j < y → g (G.length + 1 + x + j) = (A + 1, psum cp d + (j : Int), 0, 0) := fun j hj => by
        rw [← hg, hrr, lsE_left (by simp [fanI, fanO]; omega), show G.length + 1 + x + j = G.length + (1 + (x + j)) by omega, lsE_right, show 1 + (x + j) = [((A, A + 1, 0, 0) : Edg)].length + (x + j) from rfl, lsE_right, show x + j = (fanI A (psum cp a) x).length + j by rw [fl], lsE_right, lsE_fanO hj]
      have hlen : (gel e cp N.toNat (i + 1)).length = G.length + 1 + x + y := by rw [g1]; simp [fanI, fanO]; omega
      obtain ⟨X, hX⟩ : ∃ X, cnt (fun j => T (G.length + 1 + j)) x = X := ⟨_, rfl⟩
      obtain ⟨Yc, hY⟩ : ∃ Y, cnt (fun j => T (G.length + 1 + x + j)) y = Y := ⟨_, rfl⟩
      have hrev : revT e cp N.toNat T i = (decide (0 < X) && decide (0 < Yc)) := by
        unfold revT
        rw [ha, hdd, Int.toNat_natCast, Int.toNat_natCast, hG, hxc, hyc, hX, hY]
        simp [hl]
      have hcnt : cnt T (G.length + 1 + x + y) = cnt T G.length + (if T G.length then 1 else 0) + X + Yc := by
        rw [cnt_add, cnt_add, hX, hY]; rfl
      -- at the edge's two nodes
      have hdeg : ∀ v, tdeg g T (G.length + 1 + x + y) v = tdeg g T G.length v + (if T G.length then (if A = v then 1 else 0) + (if A + 1 = v then 1 else 0) else 0) + tdeg (fun j => (psum cp a + (j : Int), A, 0, 0)) (fun j => T (G.length + 1 + j)) x v + tdeg (fun j => (A + 1, psum cp d + (j : Int), 0, 0)) (fun j => T (G.length + 1 + x + j)) y v := fun v => by
        rw [tdeg_add, tdeg_add, tdeg_cg (k := x) (g' := fun j => (psum cp a + (j : Int), A, 0, 0)) (T' := fun j => T (G.length + 1 + j)) fun j hj => ⟨e2 j hj, rfl⟩, tdeg_cg (k := y) (g' := fun j => (A + 1, psum cp d + (j : Int), 0, 0)) (T' := fun j => T (G.length + 1 + x + j)) fun j hj => ⟨e3 j hj, rfl⟩]
        congr 2
        show tdeg g T G.length v + _ = _
        rw [e1]
      have hup : ∀ v, tdeg g T (G.length + 1 + x + y) v ≤ 1 := fun v => by
        have hm := gel_mono (e := e) (cp := cp) (N := N.toNat) (i := i + 1) (n - (i + 1))
        rw [show i + 1 + (n - (i + 1)) = n by omega, hlen] at hm
        have h3 := tdeg_mono (e := g) (T := T) (v := v) (i := G.length + 1 + x + y) ((gel e cp N.toNat n).length - (G.length + 1 + x + y))
        rw [show G.length + 1 + x + y + ((gel e cp N.toNat n).length - (G.length + 1 + x + y)) = (gel e cp N.toNat n).length by omega] at h3
        have h4 := hT v
        rw [hg] at h4
        omega
      have dA := hdeg A
      have dB := hdeg (A + 1)
      have uA := hup A
      have uB := hup (A + 1)
      have kA : X ≤ tdeg (fun j => (psum cp a + (j : Int), A, 0, 0)) (fun j => T (G.length + 1 + j)) x A := by rw [← hX]; exact tdeg_ge fun j _ => .inr rfl
      have kB : Yc ≤ tdeg (fun j => (A + 1, psum cp d + (j : Int), 0, 0)) (fun j => T (G.length + 1 + x + j)) y (A + 1) := by rw [← hY]; exact tdeg_ge fun j _ => .inl rfl
      rw [hG] at h1 h2
      rw [hlen, hg]
      rw [hg] at h2
      constructor
      · show _ ≤ nol e (i + 1) + (cnt _ i + (if revT e cp N.toNat T i then 1 else 0))
        rw [g2, hcnt, hrev]
        cases hTG : T G.length with
        | true =>
          rw [hTG, if_pos rfl, if_pos rfl] at dA
          rw [hTG, if_pos rfl, if_neg (by omega), if_pos rfl] at dB
          rw [if_pos rfl]
          omega
        | false =>
          rw [hTG] at dA dB
          simp only [Bool.false_eq_true, if_false] at dA dB ⊢
          have x1 : X ≤ 1 := by omega
          have y1 : Yc ≤ 1 := by omega
          by_cases hX0 : 0 < X <;> by_cases hY0 : 0 < Yc <;> simp [hX0, hY0] <;> omega
      · intro v hv
        have hold := h2 v hv
        show tdeg e _ i (v : Int) + (if revT e cp N.toNat T i then _ else 0) ≤ _
        rw [ha, hdd]
        have mono : ∀ j, j < (cp v).toNat → tdeg g T G.length (psum cp v + (j : Int)) ≤ tdeg g T (G.length + 1 + x + y) (psum cp v + (j : Int)) := fun j _ => by
          rw [hdeg]; omega
        have hle := sm_le mono
        by_cases hR : revT e cp N.toNat T i = true
        · rw [if_pos hR]
          rw [hrev, Bool.and_eq_true, decide_eq_true_eq, decide_eq_true_eq] at hR
          by_cases hva : a = v
          · subst hva
            rw [if_pos rfl, if_neg (by omega)]
            obtain ⟨j0, hj0, hm0⟩ := cnt_ex (p := fun j => T (G.length + 1 + j)) (k := x) (by omega)
            have := sm_lt (F := fun j => tdeg g T G.length (psum cp a + (j : Int))) (F' := fun j => tdeg g T (G.length + 1 + x + y) (psum cp a + (j : Int))) (j0 := j0) (by
              show _ ≤ tdeg g T (G.length + 1 + x + y) (psum cp a + (j0 : Int))
              rw [hdeg]
              have := tdeg_at (e := fun j => (psum cp a + (j : Int), A, 0, 0)) (T := fun j => T (G.length + 1 + j)) (k := j0) (n := x) (v := psum cp a + (j0 : Int)) hm0 hj0
              rw [if_pos rfl] at this
              omega) mono (by omega)
            omega
          · rw [if_neg (show ¬ (a : Int) = (v : Int) by omega)]
            by_cases hvd : d = v
            · subst hvd
              rw [if_pos rfl]
              obtain ⟨j0, hj0, hm0⟩ := cnt_ex (p := fun j => T (G.length + 1 + x + j)) (k := y) (by omega)
              have := sm_lt (F := fun j => tdeg g T G.length (psum cp d + (j : Int))) (F' := fun j => tdeg g T (G.length + 1 + x + y) (psum cp d + (j : Int))) (j0 := j0) (by
                show _ ≤ tdeg g T (G.length + 1 + x + y) (psum cp d + (j0 : Int))
                rw [hdeg]
                have : (if A + 1 = psum cp d + (j0 : Int) then 1 else 0) + (if psum cp d + (j0 : Int) = psum cp d + (j0 : Int) then 1 else 0) ≤ tdeg (fun j => (A + 1, psum cp d + (j : Int), 0, 0)) (fun j => T (G.length + 1 + x + j)) y (psum cp d + (j0 : Int)) := tdeg_at (e := fun j => (A + 1, psum cp d + (j : Int), 0, 0)) (T := fun j => T (G.length + 1 + x + j)) (k := j0) (n := y) (v := psum cp d + (j0 : Int)) hm0 hj0
                rw [if_pos (rfl : psum cp d + (j0 : Int) = psum cp d + (j0 : Int))] at this
                omega) mono (by omega)
              omega
            · rw [if_neg (show ¬ (d : Int) = (v : Int) by omega)]; omega
        · rw [if_neg hR]; omega

/-- marks of the edges that are told by a list -/
theorem marks {g : Nat → Edg} {L : Nat} : ∀ {M : List Nat}, (∀ x ∈ M, x < L) → (∀ v, dgl g M v ≤ 1) → ∃ T : Nat → Bool, (∀ v, tdeg g T L v = dgl g M v) ∧ cnt T L = M.length ∧ ∀ k, T k = true → k ∈ M
  | [], _, _ => ⟨fun _ => false, fun v => tdeg_none fun _ _ => rfl, cnt_none fun _ _ => rfl, fun k h => by cases h⟩
  | x :: M, h, hd => by
    obtain ⟨T, h1, h2, h3⟩ := marks (g := g) (L := L) (M := M) (fun y hy => h y (by simp [hy])) fun v => by
      have := hd v
      rw [dgl_cons] at this; omega
    have hxL := h x (by simp)
    have hx : T x = false := by
      cases hh : T x with
      | false => rfl
      | true =>
        have t := tdeg_at (e := g) (v := (g x).fr) hh hxL
        have := hd (g x).fr
        rw [dgl_cons, ← h1] at this
        rw [if_pos rfl] at t this
        omega
    refine ⟨fun k => T k || decide (k = x), fun v => ?_, ?_, fun k hk => ?_⟩
    · rw [tdeg_one hx (fun i => rfl), h1, if_pos hxL, dgl_cons]; omega
    · rw [cnt_less (q := T) hxL (by simp) hx fun i _ hne => by simp [hne], h2]; rfl
    · simp only [Bool.or_eq_true, decide_eq_true_eq] at hk
      rcases hk with hk | rfl
      · exact List.mem_cons_of_mem _ (h3 k hk)
      · simp

open Classical in
/-- a matching of the gadget with the most edges has as many as there are no loops, and the most that can be taken -/
theorem gad_fits {N : Int} {n : Nat} {e : Nat → Edg} {b : Nat → Int} {bn : Nat} {M : List Nat} {x : Nat} (hr : Right N n e) (hb : Bnd N b bn) (hg : Gsz e (cps e n b) N.toNat n)
    (hM : Mst (lsE (gel e (cps e n b) N.toNat n)) (gel e (cps e n b) N.toNat n).length M)
    (hat : ∃ T, (∀ i, i < n → T i = true → ¬ lp (e i)) ∧ (∀ v : Nat, v < N.toNat → (tdeg e T n (v : Int) : Int) ≤ b v) ∧ cnt T n = x)
    (hup : ∀ T, (∀ i, i < n → T i = true → ¬ lp (e i)) → (∀ v : Nat, v < N.toNat → (tdeg e T n (v : Int) : Int) ≤ b v) → cnt T n ≤ x) : M.length = nol e n + x := by
  have hN0 := hr.N0
  have hbl := hb.len
  have hcb : ∀ v, v < N.toNat → 0 ≤ cps e n b v := fun v hv => (cps_bound (e := e) (n := n) hb (v := v) (by omega)).1
  have hgr := gad_right hr hcb hg
  have hub : M.length ≤ nol e n + x := by
    have h1 : ∀ v, tdeg (lsE (gel e (cps e n b) N.toNat n)) (fun i => decide (In (lsF M) M.length (i : Int))) (gel e (cps e n b) N.toNat n).length v ≤ 1 := fun v => by
      have := rise_deg (e := lsE (gel e (cps e n b) N.toNat n)) (v := v) hM.1.1
      have h2 := hM.1.2 v
      omega
    obtain ⟨h2, h3⟩ := gad_rev hr hcb h1 n (Nat.le_refl _)
    have h4 := rise_cnt hM.1.1
    have h5 := hup (revT e (cps e n b) N.toNat fun i => decide (In (lsF M) M.length (i : Int))) (fun i _ hi => by
      unfold revT at hi
      simp only [Bool.and_eq_true, Bool.not_eq_true', decide_eq_false_iff_not] at hi
      exact hi.1.1) fun v hv => by
      have h6 := h3 v hv
      have h7 := sm_le (f := fun j => tdeg (lsE (gel e (cps e n b) N.toNat n)) (fun i => decide (In (lsF M) M.length (i : Int))) (gel e (cps e n b) N.toNat n).length (psum (cps e n b) v + (j : Int))) (g := fun _ => 1) (n := (cps e n b v).toNat) fun j _ => h1 _
      have h8 : ∀ k, sm (fun _ => 1) k = k := by
        intro k
        induction k with
        | zero => rfl
        | succ k ih => show sm _ k + 1 = _; rw [ih]
      rw [h8] at h7
      have h9 := (cps_bound (e := e) (n := n) hb (v := v) (by omega))
      have h10 := Nat.le_trans h6 h7
      omega
    omega
  have hlb : nol e n + x ≤ M.length := by
    obtain ⟨T, t1, t2, t3⟩ := hat
    obtain ⟨M', m1, m2, m3, m4, m5⟩ := gad_match hr hcb t1 (fun v hv => by
      have h1 := tdeg_ends (v := (v : Int)) t1
      have h2 := t2 v hv
      unfold cps
      split <;> omega) n (Nat.le_refl _)
    generalize hcp : cps e n b = cp at *
    have hdg : ∀ v, dgl (lsE (gel e cp N.toNat n)) M' v ≤ 1 := fun v => by
      by_cases hv0 : v < 0
      · have : dgl (lsE (gel e cp N.toNat n)) M' v = 0 := by
          clear m1 m3 m4 m5
          induction M' with
          | nil => rfl
          | cons x M ih =>
            have hx := hgr.ed x (m2 x (by simp))
            have hf0 := hx.f0; have ht0 := hx.t0
            rw [dgl_cons, ih fun y hy => m2 y (by simp [hy]), if_neg (by omega), if_neg (by omega)]
        omega
      · by_cases hp : v < psum cp N.toNat
        · obtain ⟨a, j, ha, hj, he⟩ := psum_find (by omega) hp
          rw [he]
          have := m3 a ha j hj
          split at this <;> omega
        · by_cases hg : v < gnn e cp N.toNat n
          · exact m4 v (by omega) hg
          · rw [m5 v (by omega)]; omega
    obtain ⟨T', q1, q2, _⟩ := marks m2 hdg
    have := hM.2 T' fun v => by rw [q1]; exact hdg v
    omega
  omega
end Go.Mz
