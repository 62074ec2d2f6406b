/-
  The document's functions of layer 17, walked: Missed and Set.
-/
import Derived.Test.YtmaeboaopebaiaaPkQ
import Derived.Test.YtmaeboaopebaiaaRefK
import Derived.Test.YtmaeboaopebaiaaMzZ
import Derived.Test.YtmaeboaopebaiaaGRee
set_option linter.unusedSimpArgs false
set_option linter.unusedVariables false
namespace Go.Mz

/-- no more are counted where each goes to one of its own; two ranges -/
theorem cnt_inj2 {p q : Nat → Bool} {N N' : Nat} (f : Nat → Nat) (hf : ∀ i, i < N → p i = true → f i < N' ∧ q (f i) = true) (hi : ∀ i j, i < N → j < N → p i = true → p j = true → f i = f j → i = j) : cnt p N ≤ cnt q N' := by
  rw [← cnt_len (p := p)]
  have hmem : ∀ x, x ∈ (List.range N).filter p → x < N ∧ p x = true := fun x hx => by rw [List.mem_filter, List.mem_range] at hx; exact hx
  have hnd : ((List.range N).filter p).Nodup := List.nodup_range.sublist List.filter_sublist
  have := cnt_list (q := q) (N := N') (map_nodup (f := f) hnd fun x hx y hy e => hi x y (hmem x hx).1 (hmem y hy).1 (hmem x hx).2 (hmem y hy).2 e) fun x hx => by
    obtain ⟨y, hy, e⟩ := List.mem_map.1 hx
    rw [← e]
    exact hf y (hmem y hy).1 (hmem y hy).2
  rwa [List.length_map] at this

section
variable {M n : Nat} {e : Nat → Edg}

theorem tdeg_only {T : Nat → Bool} {v : Int} {x : Nat} : ∀ {i : Nat}, (∀ j, j < i → T j = true → ¬ lp (e j)) → (∀ j, j < i → T j = true → ((e j).fr = v ∨ (e j).to = v) → j = x) → tdeg e T i v ≤ 1
  | 0, _, _ => Nat.zero_le _
  | i + 1, h1, h2 => by
    show tdeg e T i v + (if T i = true then _ else 0) ≤ 1
    have ih := tdeg_only (i := i) (fun j hj => h1 j (by omega)) fun j hj => h2 j (by omega)
    by_cases hT : T i = true
    · rw [if_pos hT]
      have hl := h1 i (by omega) hT
      unfold lp at hl
      by_cases ht : (e i).fr = v ∨ (e i).to = v
      · have hx := h2 i (by omega) hT ht
        have h0 : tdeg e T i v = 0 := by
          have : ∀ k, k ≤ i → tdeg e T k v = 0 := by
            intro k
            induction k with
            | zero => intro _; rfl
            | succ k ih' =>
              intro hk
              show tdeg e T k v + (if T k = true then _ else 0) = 0
              rw [ih' (by omega)]
              by_cases hTk : T k = true
              · rw [if_pos hTk]
                have n1 : ¬ (e k).fr = v := fun hh => by have := h2 k (by omega) hTk (.inl hh); omega
                have n2 : ¬ (e k).to = v := fun hh => by have := h2 k (by omega) hTk (.inr hh); omega
                rw [if_neg n1, if_neg n2]
              · rw [if_neg hTk]
          exact this i (Nat.le_refl _)
        rw [h0]
        split <;> split <;> first | omega | (rename_i a b; exact absurd (a.trans b.symm) hl)
      · have n1 : ¬ (e i).fr = v := fun hh => ht (.inl hh)
        have n2 : ¬ (e i).to = v := fun hh => ht (.inr hh)
        rw [if_neg n1, if_neg n2]; omega
    · rw [if_neg hT]; omega

/-- a matching, as marks on edges -/
theorem MM.marks (hr : Right (M : Int) n e) {b : Nat → Int} (h : MM M n (ef e) (et e) M b) : ∃ T : Nat → Bool, (∀ v, tdeg e T n v ≤ 1) ∧ ∀ k, cnt (fun u => decide (b u = -1)) M + 2 * k = M → k ≤ cnt T n := by
  classical
  have hN := hr.nds
  have both : ∀ (j v : Nat), v < M → b v = (j : Int) → j < n ∧ ef e j ≠ et e j ∧ b (ef e j) = j ∧ b (et e j) = j := fun j v hv hj => by
    obtain ⟨i, ei, hi, em, _, hbm, _⟩ := h.en hv (by omega) (by omega)
    have : i = j := by omega
    subst this
    rw [em] at hbm
    refine ⟨hi.1, hi.2.1, ?_⟩
    rcases hi.2.2 with hh | hh
    · have : ot (ef e) (et e) i v = et e i := by unfold ot; omega
      rw [this] at hbm; rw [← hh]; exact ⟨hj, hbm⟩
    · have : ot (ef e) (et e) i v = ef e i := by unfold ot; omega
      rw [this] at hbm; rw [← hh]; exact ⟨hbm, hj⟩
  refine ⟨fun j => decide (∃ v, v < M ∧ b v = (j : Int)), fun v => ?_, fun k hk => ?_⟩
  · refine tdeg_only (x := (b v.toNat).toNat) (fun j hj hT => ?_) fun j hj hT ht => ?_
    · obtain ⟨u, hu, hb⟩ := of_decide_eq_true hT
      obtain ⟨_, h2, _⟩ := both j u hu hb
      obtain ⟨a, b⟩ := hr.ends hj
      unfold lp; omega
    · obtain ⟨u, hu, hb⟩ := of_decide_eq_true hT
      obtain ⟨_, _, h3, h4⟩ := both j u hu hb
      obtain ⟨a, b⟩ := hr.ends hj
      rcases ht with ht | ht
      · have : v.toNat = ef e j := by omega
        rw [this, h3]; omega
      · have : v.toNat = et e j := by omega
        rw [this, h4]; omega
  · have h1 := h.count hN
    have h2 : cnt (fun v => decide (0 ≤ b v ∧ v < mt (ef e) (et e) b v)) M ≤ cnt (fun j => decide (∃ v, v < M ∧ b v = (j : Int))) n := by
      refine cnt_inj2 (fun v => (b v).toNat) (fun v hv hh => ?_) fun v w hv hw h1 h2 heq => ?_
      · obtain ⟨h0, _⟩ := of_decide_eq_true hh
        obtain ⟨i, ei, hi, _⟩ := h.en hv (by omega) h0
        exact ⟨by have := hi.1; omega, decide_eq_true ⟨v, hv, by omega⟩⟩
      · obtain ⟨a1, a2⟩ := of_decide_eq_true h1
        obtain ⟨b1, b2⟩ := of_decide_eq_true h2
        obtain ⟨i, ei, hi, em, _⟩ := h.en hv (by omega) a1
        obtain ⟨j, ej, hj, en', _⟩ := h.en hw (by omega) b1
        have : i = j := by omega
        subst this
        refine Classical.byContradiction fun hne => ?_
        have h3 : w = ot (ef e) (et e) i v := hi.two hj (fun hh => hne hh.symm)
        have h4 : v = ot (ef e) (et e) i w := hj.two hi hne
        omega
    omega

/-- the longest list of edges apart has as many as the largest matching -/
theorem Mst.len (hr : Right (M : Int) n e) {L : List Nat} (h : Mst e n L) : (∃ b', MM M n (ef e) (et e) M b' ∧ cnt (fun u => decide (b' u = -1)) M + 2 * L.length = M) ∧ ∀ b', MM M n (ef e) (et e) M b' → ∀ k, cnt (fun u => decide (b' u = -1)) M + 2 * k = M → k ≤ L.length := by
  constructor
  · have htk : Tkn (M : Int) n e (lsF L) L.length fun _ => 1 := ⟨h.1.1, fun i hi hl => by
      have h1 := h.1.2 (e (lsF L i).toNat).fr
      have h2 : dg e (lsF L) (i + 1) (e (lsF L i).toNat).fr ≤ dg e (lsF L) L.length (e (lsF L i).toNat).fr := dg_mono hi
      have h3 : 2 ≤ dg e (lsF L) (i + 1) (e (lsF L i).toNat).fr := by
        show 2 ≤ dg e (lsF L) i _ + (if _ then 1 else 0) + (if _ then 1 else 0)
        rw [if_pos rfl, if_pos (by unfold lp at hl; exact hl.symm)]; omega
      omega, fun v _ _ _ => by have := h.1.2 v; omega⟩
    obtain ⟨b', hb', hc, _⟩ := htk.mm hr
    exact ⟨b', hb', hc⟩
  · intro b' hb' k hk
    obtain ⟨T, hT, hle⟩ := hb'.marks hr
    exact Nat.le_trans (hle k hk) (h.2 T hT)

/-- a node may be left out just if the graph without its edges has a matching as large -/
theorem Dv.iff {n' k v : Nat} {e' : Nat → Edg} {L : List Nat} (hr : Right (M : Int) n e) (hr' : Right (M : Int) n' e') (hmx : ∀ b', MM M n (ef e) (et e) M b' → M ≤ cnt (fun u => decide (b' u = -1)) M + 2 * k) (hL : Mst e' n' L) (hv : v < M) (hall : ∀ x, x < n' → ∃ j, j < n ∧ e' x = e j ∧ (e j).fr ≠ (v : Int) ∧ (e j).to ≠ (v : Int)) (hhas : ∀ j, j < n → (e j).fr ≠ (v : Int) → (e j).to ≠ (v : Int) → ∃ x, x < n' ∧ e' x = e j) :
    Dv M n (ef e) (et e) k v ↔ L.length = k := by
  classical
  obtain ⟨⟨b1, hb1, hc1⟩, hmax⟩ := hL.len hr'
  obtain ⟨π, hπ⟩ := Classical.axiomOfChoice (r := fun x j => x < n' → j < n ∧ e' x = e j ∧ (e j).fr ≠ (v : Int) ∧ (e j).to ≠ (v : Int)) fun x => by
    by_cases hx : x < n'
    · obtain ⟨j, hj⟩ := hall x hx; exact ⟨j, fun _ => hj⟩
    · exact ⟨0, fun h => (hx h).elim⟩
  obtain ⟨h2, h3⟩ := hb1.ren (n' := n) (fr' := ef e) (to' := et e) π (fun u i hu hi => by
    obtain ⟨j, ej, hj, _⟩ := hb1.en hu (by omega) (by omega)
    have : i = j := by omega
    subst this
    obtain ⟨a, b, _⟩ := hπ i hj.1
    exact ⟨a, .inl ⟨by unfold ef; rw [b], by unfold et; rw [b]⟩⟩) hr'.nds
  have h4 : cnt (fun u => decide ((if b1 u < 0 then -1 else (π (b1 u).toNat : Int)) = -1)) M = cnt (fun u => decide (b1 u = -1)) M := cnt_congr fun u hu => by rw [decide_eq_decide]; exact h3 u hu
  have hle : L.length ≤ k := by have := hmx _ h2; omega
  constructor
  · rintro ⟨b', hb', hbv, hc⟩
    -- the edges of this matching are all there
    obtain ⟨ψ, hψ⟩ := Classical.axiomOfChoice (r := fun j x => j < n → (e j).fr ≠ (v : Int) → (e j).to ≠ (v : Int) → x < n' ∧ e' x = e j) fun j => by
      by_cases hj : j < n ∧ (e j).fr ≠ (v : Int) ∧ (e j).to ≠ (v : Int)
      · obtain ⟨x, hx⟩ := hhas j hj.1 hj.2.1 hj.2.2; exact ⟨x, fun _ _ _ => hx⟩
      · exact ⟨0, fun a b c => (hj ⟨a, b, c⟩).elim⟩
    obtain ⟨h5, h6⟩ := hb'.ren (n' := n') (fr' := ef e') (to' := et e') ψ (fun u i hu hi => by
      obtain ⟨j, ej, hj, em, _, hbm, _⟩ := hb'.en hu (by omega) (by omega)
      have : i = j := by omega
      subst this
      rw [em] at hbm
      obtain ⟨a1, a2⟩ := hr.ends hj.1
      have h7 := hj.2.2
      have n1 : ef e i ≠ v := fun hh => by
        by_cases huv : u = v
        · rw [huv, hbv] at ej; omega
        · have : ot (ef e) (et e) i u = v := by unfold ot; omega
          rw [this, hbv] at hbm; omega
      have n2 : et e i ≠ v := fun hh => by
        by_cases huv : u = v
        · rw [huv, hbv] at ej; omega
        · have : ot (ef e) (et e) i u = v := by unfold ot; omega
          rw [this, hbv] at hbm; omega
      obtain ⟨a, b⟩ := hψ i hj.1 (by omega) (by omega)
      exact ⟨a, .inl ⟨by unfold ef; rw [b], by unfold et; rw [b]⟩⟩) hr.nds
    have h7 : cnt (fun u => decide ((if b' u < 0 then -1 else (ψ (b' u).toNat : Int)) = -1)) M = cnt (fun u => decide (b' u = -1)) M := cnt_congr fun u hu => by rw [decide_eq_decide]; exact h6 u hu
    have := hmax _ h5 k (by omega)
    omega
  · intro hk
    refine ⟨_, h2, (h3 v hv).2 ?_, by omega⟩
    rcases hb1 v hv (by omega) with e1 | ⟨i, e1, hi, _⟩
    · exact e1
    · exfalso
      obtain ⟨a, b, c, d⟩ := hπ i hi.1
      obtain ⟨f1, f2⟩ := hr'.ends hi.1
      rw [b] at f1 f2
      have := hi.2.2
      omega
end

section
variable {E : Value → Hp → Prop}

open Classical in
theorem rmissed {M n k u ec : Nat} {ep : Option Addr} {e : Nat → Edg} {H : Hp} {K : Bool → Hp → Prop} (he : Rdr H ep n e) (hr : Right (M : Int) n e) (hu : u < M) (hmx : ∀ b', MM M n (ef e) (et e) M b' → M ≤ cnt (fun u => decide (b' u = -1)) M + 2 * k) (hex : ∃ b', MM M n (ef e) (et e) M b' ∧ cnt (fun u => decide (b' u = -1)) M + 2 * k = M)
    (kk : ∀ H', Step (fun _ => False) H H' → K (decide (Dv M n (ef e) (et e) k u)) H') : compassref17_Missed.call (M : Int) ep n ec (u : Int) E H K := by
  have hn1 := hr.n1
  refine compassref17_Missed.of (compassref17_Missed.run_eq ?_)
  unfold compassref17_Missed.run_t
  refine nwk fun b1 H1 hb1 e1 s1 => ?_
  simp only [get_at e1, List.getElem?_cons_zero, List.getElem?_cons_succ, ldI_mk, ldS_mk]
  refine nwst rfl rfl fun b2 H3 hb2 e2 s2 => ?_
  have e13 := s2.keep _ _ e1 fun h => h
  have s03 := s1.and s2
  have d12 : b1 ≠ b2 := fun h => by rw [← h, e1] at hb2; cases hb2
  have fb2 : H b2 = none := s1.mono _ hb2
  refine compassref17_Missed.l1_rule (fun v1 g2 l5 i6 H' => v1 = (u : Int) ∧ g2 = b1 ∧ l5 = b2 ∧ ∃ (i : Nat) (lp' : Option Addr) (ln lc : Nat) (f : Nat → Edg), i6 = i ∧ i ≤ n ∧ ln ≤ i ∧ Step (fun y => y = b2) H3 H' ∧ H' b2 = some ⟨[.int .i64 (M : Int), .slice lp' ln lc], 24⟩ ∧ Row H' lp' ln lc f ∧ (∀ y, fpS lp' y → H3 y = none) ∧
      (∀ x, x < ln → ∃ j, j < n ∧ f x = e j ∧ (e j).fr ≠ (u : Int) ∧ (e j).to ≠ (u : Int)) ∧ ∀ j, j < i → (e j).fr ≠ (u : Int) → (e j).to ≠ (u : Int) → ∃ x, x < ln ∧ f x = e j)
    (fun v1 g2 l5 i6 H' => n - i6.toNat) ?_ ⟨rfl, rfl, rfl, 0, none, 0, 0, fun _ => (0, 0, 0, 0), rfl, Nat.zero_le _, Nat.zero_le _, .refl, e2, Row.nil, fun y h => by rw [fpS_none] at h; exact h.elim, fun t ht => by omega, fun j hj => by omega⟩
  rintro v1 g2 l5 i6 H4 ⟨rfl, rfl, rfl, i, lp', ln, lc, f, rfl, hi, hli, s4, e24, rl, fl, hall, hhas⟩ X hX
  have e14 := s4.keep _ _ e13 d12
  have s04 := s03.own s4 fun y hy => hy ▸ fb2
  have g4 := he.keep s04 fun _ _ _ h => h
  refine compassref17_Missed.b1_eq ?_
  unfold compassref17_Missed.b1_t
  simp only [get_at e14, List.getElem?_cons_zero, List.getElem?_cons_succ, ldI_mk, ldS_mk]
  have next : ∀ (H5 : Hp) (lp2 : Option Addr) (ln2 lc2 : Nat) (f2 : Nat → Edg), i < n → ln2 ≤ i + 1 → Step (fun y => y = l5) H3 H5 → H5 l5 = some ⟨[.int .i64 (M : Int), .slice lp2 ln2 lc2], 24⟩ → Row H5 lp2 ln2 lc2 f2 → (∀ y, fpS lp2 y → H3 y = none) → (∀ x, x < ln2 → ∃ j, j < n ∧ f2 x = e j ∧ (e j).fr ≠ (u : Int) ∧ (e j).to ≠ (u : Int)) → (∀ j, j < i + 1 → (e j).fr ≠ (u : Int) → (e j).to ≠ (u : Int) → ∃ x, x < ln2 ∧ f2 x = e j) →
      compassref17_Missed.j1 (u : Int) g2 l5 (i : Int) X E H5 K := fun H5 lp2 ln2 lc2 f2 hin h1 h2 h3 h4 h5 h6 h7 => by
    refine compassref17_Missed.j1_eq ?_
    unfold compassref17_Missed.j1_t
    rw [i64w (by omega) (by omega)]
    exact hX _ _ _ _ _ ⟨rfl, rfl, rfl, i + 1, lp2, ln2, lc2, f2, by omega, by omega, h1, h2, h3, h4, h5, h6, h7⟩ (by omega)
  refine bc (fun hlt => ?_) fun hge => ?_
  · have hin : i < n := by omega
    have skip : ((e i).fr = (u : Int) ∨ (e i).to = (u : Int)) → compassref17_Missed.j1 (u : Int) g2 l5 (i : Int) X E H4 K := fun hs => next H4 lp' ln lc f hin (by omega) s4 e24 rl fl hall fun j hj h1 h2 => by
      by_cases ej : j = i
      · rw [ej] at h1 h2; exact (hs.elim h1 h2).elim
      · exact hhas j (by omega) h1 h2
    refine g4.edgeF (by omega) (by omega) ?_
    rw [Int.toNat_natCast]
    refine bcn (fun c1 => ?_) fun c1 => skip (.inl c1)
    try simp only [get_at e14, List.getElem?_cons_zero, List.getElem?_cons_succ, ldI_mk, ldS_mk]
    refine g4.edgeT (by omega) (by omega) ?_
    rw [Int.toNat_natCast]
    refine bcn (fun c2 => ?_) fun c2 => skip (.inr c2)
    simp only [get_at e14, get_at e24, List.getElem?_cons_zero, List.getElem?_cons_succ, ldI_mk, ldS_mk]
    refine g4.edge (by omega) (by omega) ?_
    rw [Int.toNat_natCast]
    refine Row.appW (α := Edg) rl (e i) rfl (by omega) (by omega) fun p9 c9 H6 r9 s6 f9 => ?_
    have n9 : ¬ fpS lp' l5 := fun h => by have := fl _ h; rw [e2] at this; cases this
    have m9 : ¬ fpS p9 l5 := fun h => (f9 _ h).elim n9 fun h' => by rw [e24] at h'; cases h'
    have e26 := s6.keep _ _ e24 n9
    refine stp e26 (by simp) rfl fun H7 e27 s7 => ?_
    replace e27 : H7 l5 = some ⟨[.int .i64 (M : Int), .slice p9 (ln + 1) c9], 24⟩ := e27
    refine next H7 p9 (ln + 1) c9 (upf f ln (e i)) hin (by omega) ((s4.trans s6 fun y hy => .inr (fl y hy)).trans s7 fun y hy => .inl hy) e27 (r9.keep s7 fun y hy h => m9 (h ▸ hy)) (fun y hy => (f9 y hy).elim (fl y) (s4.mono y)) (fun x hx => ?_) fun j hj h1 h2 => ?_
    · by_cases ex : x = ln
      · rw [ex, upf_same]; exact ⟨i, hin, rfl, c1, c2⟩
      · rw [upf_ne ex]; exact hall x (by omega)
    · by_cases ej : j = i
      · exact ⟨ln, by omega, by rw [ej, upf_same]⟩
      · obtain ⟨x, hx, ex⟩ := hhas j (by omega) h1 h2
        exact ⟨x, by omega, by rw [upf_ne (by omega)]; exact ex⟩
  · clear hX next
    have hin : i = n := by omega
    subst hin
    refine compassref17_Missed.j2_eq ?_
    unfold compassref17_Missed.j2_t
    simp only [get_at e14, get_at e24, List.getElem?_cons_zero, List.getElem?_cons_succ, ldI_mk, ldS_mk]
    refine rmost ln (by omega) rl.rdr fun H5 p5 c5 L1 s5 hL1 _ => ?_
    have e15 := s5.keep _ _ e14 fun h => h
    simp only [get_at e15, List.getElem?_cons_zero, List.getElem?_cons_succ, ldI_mk, ldS_mk]
    refine ⟨trivial, ?_⟩
    have s05 := s04.and s5
    refine rmost i hn1 (he.keep s05 fun _ _ _ h => h) fun H6 p6 c6 L2 s6 hL2 _ => ?_
    have hr2 : Right (M : Int) ln f := ⟨hr.N0, hr.N1, by omega, fun x hx => by obtain ⟨j, hj, ej, _⟩ := hall x hx; rw [ej]; exact hr.ed j hj⟩
    have hk2 : L2.length = k := by
      obtain ⟨⟨b2, hb2', hc2⟩, hm2⟩ := hL2.len hr
      obtain ⟨b', hb', hc'⟩ := hex
      have h1 := hm2 b' hb' k hc'
      have h2 := hmx b2 hb2'
      omega
    have hd := Dv.iff hr hr2 hmx hL1 hu hall fun j hj h1 h2 => hhas j hj h1 h2
    have : decide ((L1.length : Int) = (L2.length : Int)) = decide (Dv M i (ef e) (et e) k u) := by
      rw [decide_eq_decide, hd, hk2]; omega
    rw [this]
    exact kk H6 (s05.and s6)

/-- some edge before this place leads to a node that may be left out -/
def NrD (M n : Nat) (e : Nat → Edg) (k v i : Nat) : Prop := ∃ j, j < i ∧ En n (ef e) (et e) j v ∧ Dv M n (ef e) (et e) k (ot (ef e) (et e) j v)

open Classical in
theorem rset {M n k ec : Nat} {ep : Option Addr} {e : Nat → Edg} {H : Hp} {K : Option Addr → Nat → Nat → Hp → Prop} (he : Rdr H ep n e) (hr : Right (M : Int) n e) (hmx : ∀ b', MM M n (ef e) (et e) M b' → M ≤ cnt (fun u => decide (b' u = -1)) M + 2 * k) (hex : ∃ b', MM M n (ef e) (et e) M b' ∧ cnt (fun u => decide (b' u = -1)) M + 2 * k = M)
    (kk : ∀ H' p q c g, Step (fun _ => False) H H' → Row H' p q c g → q ≤ M → Ris g q (M : Int) → (∀ v : Nat, In g q (v : Int) ↔ SetP M n (ef e) (et e) k v) → K p q c H') : compassref17_Set.call (M : Int) ep n ec E H K := by
  have hn1 := hr.n1
  have hM1 := hr.N1
  have hS : ∃ S : Nat → Bool, ∀ v, S v = true ↔ SetP M n (ef e) (et e) k v := ⟨fun v => decide (SetP M n (ef e) (et e) k v), fun v => decide_eq_true_iff⟩
  obtain ⟨S, hS⟩ := hS
  have hlen : ∀ v, (pk S v).length ≤ v := fun v => by rw [pk_len]; exact cnt_le _ _
  refine compassref17_Set.of (compassref17_Set.run_eq ?_)
  unfold compassref17_Set.run_t
  refine nwk fun b1 H1 hb1 e1 s1 => ?_
  refine compassref17_Set.l1_rule (fun g1 p q c v4 H' => g1 = b1 ∧ ∃ (v : Nat) (g : Nat → Int), v4 = v ∧ v ≤ M ∧ q = (pk S v).length ∧ Step (fun _ => False) H1 H' ∧ Row H' p q c g ∧ (∀ i, i < q → g i = lsF (pk S v) i) ∧ (∀ y, fpS p y → H1 y = none))
    (fun g1 p q c v4 H' => M - v4.toNat) ?_ ⟨rfl, 0, fun _ => 0, rfl, Nat.zero_le _, rfl, .refl, Row.nil, fun i hi => by omega, fun y h => by rw [fpS_none] at h; exact h.elim⟩
  rintro g1 p q c v4 H2 ⟨rfl, v, g, rfl, hv, rfl, s2, r2, hg, f2⟩ X hX
  have e12 := s2.keep _ _ e1 fun h => h
  have s02 := s1.and s2
  refine compassref17_Set.b1_eq ?_
  unfold compassref17_Set.b1_t
  simp only [get_at e12, List.getElem?_cons_zero, List.getElem?_cons_succ, ldI_mk, ldS_mk]
  refine bc (fun hlt => ?_) fun hge => ?_
  · have hvM : v < M := by omega
    refine compassref17_Set.l2_rule (fun g1' p' q' c' v4' near i6 H' => g1' = g1 ∧ p' = p ∧ q' = (pk S v).length ∧ c' = c ∧ v4' = v ∧ ∃ i : Nat, i6 = i ∧ i ≤ n ∧ (near = true ↔ NrD M n e k v i) ∧ Step (fun _ => False) H2 H')
      (fun g1' p' q' c' v4' near i6 H' => n - i6.toNat) ?_ ⟨rfl, rfl, rfl, rfl, rfl, 0, rfl, Nat.zero_le _, ⟨fun h => (by cases h), fun ⟨j, hj, _⟩ => by omega⟩, .refl⟩
    rintro g1' p' q' c' v4' near i6 H3 ⟨rfl, rfl, rfl, rfl, rfl, i, rfl, hi, hnear, s3⟩ Y hY
    have e13 := s3.keep _ _ e12 fun h => h
    have s03 := s02.and s3
    have r3 := r2.keep s3 fun _ _ h => h
    have g3 := he.keep s03 fun _ _ _ h => h
    refine compassref17_Set.b2_eq ?_
    unfold compassref17_Set.b2_t
    simp only [get_at e13, List.getElem?_cons_zero, List.getElem?_cons_succ, ldI_mk, ldS_mk]
    refine bc (fun hlt2 => ?_) fun hge2 => ?_
    · have hin : i < n := by omega
      refine g3.edge (by omega) (by omega) ?_
      rw [Int.toNat_natCast]
      refine nwst rfl rfl fun b4 H4 hb4 e4 s4 => ?_
      have e14 := s4.keep _ _ e13 fun h => h
      have s04 := s03.and s4
      have next : ∀ {near' : Bool} {H5 : Hp}, (near' = true ↔ NrD M n e k v (i + 1)) → Step (fun _ => False) H4 H5 → compassref17_Set.j1 g1' p' (pk S v).length c' (v : Int) near' (i : Int) X Y E H5 K := by
        intro near' H5 hn' s5
        refine compassref17_Set.j1_eq ?_
        unfold compassref17_Set.j1_t
        rw [i64w (by omega) (by omega)]
        exact hY _ _ _ _ _ _ _ _ ⟨rfl, rfl, rfl, rfl, rfl, i + 1, by omega, by omega, hn', (s3.and s4).and s5⟩ (by omega)
      have hit : ∀ {H5 : Hp}, En n (ef e) (et e) i v → Dv M n (ef e) (et e) k (ot (ef e) (et e) i v) → Step (fun _ => False) H4 H5 → compassref17_Set.j1 g1' p' (pk S v).length c' (v : Int) true (i : Int) X Y E H5 K := fun h1 h2 s5 => next ⟨fun _ => ⟨i, by omega, h1, h2⟩, fun _ => rfl⟩ s5
      have skip : ∀ {H5 : Hp}, (En n (ef e) (et e) i v → ¬ Dv M n (ef e) (et e) k (ot (ef e) (et e) i v)) → Step (fun _ => False) H4 H5 → compassref17_Set.j1 g1' p' (pk S v).length c' (v : Int) near (i : Int) X Y E H5 K := fun h1 s5 => next ⟨fun hh => by obtain ⟨j, hj, hr⟩ := hnear.1 hh; exact ⟨j, by omega, hr⟩, fun ⟨j, hj, ha, hb⟩ => hnear.2 (by
        by_cases ej : j = i
        · subst ej; exact (h1 ha hb).elim
        · exact ⟨j, by omega, ha, hb⟩)⟩ s5
      obtain ⟨hf, ht⟩ := hr.ends hin
      have hN := hr.nds i hin
      simp only [get_at e4, get_at e14, List.getElem?_cons_zero, List.getElem?_cons_succ, ldI_mk, ldS_mk]
      -- the second half: this node is where the edge ends
      refine bc (fun c1 => ?_) fun c1 => ?_
      · refine bcn (fun c2 => ?_) fun c2 => ?_
        · have h1 : En n (ef e) (et e) i v := ⟨hin, by omega, by omega⟩
          have eo : (e i).to = ((ot (ef e) (et e) i v : Nat) : Int) := by unfold ot; omega
          have eo' : ot (ef e) (et e) i v < M := by unfold ot; omega
          rw [eo]
          refine rmissed (he.keep s04 fun _ _ _ h => h) hr eo' hmx hex fun H5 s5 => ?_
          refine bcb (fun c3 => ?_) fun c3 => ?_
          · exact hit h1 (of_decide_eq_true c3) s5
          · have e45 := s5.keep _ _ e4 fun h => h
            simp only [get_at e45, List.getElem?_cons_zero, List.getElem?_cons_succ, ldI_mk, ldS_mk]
            exact bc (fun c4 => (c2 c4).elim) fun _ => skip (fun _ => of_decide_eq_false c3) s5
        · refine bc (fun _ => ?_) fun c3 => (c3 c2).elim
          refine bcn (fun c4 => (c4 c1).elim) fun _ => ?_
          exact skip (fun hh => by have := hh.2.1; omega) .refl
      · refine bc (fun c3 => ?_) fun c3 => ?_
        · refine bcn (fun _ => ?_) fun c4 => (c1 c4).elim
          have h1 : En n (ef e) (et e) i v := ⟨hin, by omega, by omega⟩
          have eo : (e i).fr = ((ot (ef e) (et e) i v : Nat) : Int) := by unfold ot; omega
          have eo' : ot (ef e) (et e) i v < M := by unfold ot; omega
          rw [eo]
          refine rmissed (he.keep s04 fun _ _ _ h => h) hr eo' hmx hex fun H5 s5 => ?_
          refine bcb (fun c5 => hit h1 (of_decide_eq_true c5) s5) fun c5 => skip (fun _ => of_decide_eq_false c5) s5
        · exact skip (fun hh => by have := hh.2.2; omega) .refl
    · clear hY
      have hin : i = n := by omega
      subst hin
      have next : ∀ {H4 : Hp} {p4 : Option Addr} {c4 : Nat} {g4 : Nat → Int}, Step (fun _ => False) H1 H4 → Row H4 p4 (pk S (v + 1)).length c4 g4 → (∀ i, i < (pk S (v + 1)).length → g4 i = lsF (pk S (v + 1)) i) → (∀ y, fpS p4 y → H1 y = none) → compassref17_Set.j3 g1' p4 (pk S (v + 1)).length c4 (v : Int) X E H4 K := by
        intro H4 p4 c4 g4 s4 r4 hg4 f4
        refine compassref17_Set.j3_eq ?_
        unfold compassref17_Set.j3_t
        rw [i64w (by omega) (by omega)]
        exact hX _ _ _ _ _ _ ⟨rfl, v + 1, g4, by omega, by omega, rfl, s4, r4, hg4, f4⟩ (by omega)
      have skip : ∀ {H4 : Hp}, ¬ SetP M i (ef e) (et e) k v → Step (fun _ => False) H3 H4 → compassref17_Set.j3 g1' p' (pk S v).length c' (v : Int) X E H4 K := fun hno s4 => by
        have e5 : pk S (v + 1) = pk S v := by
          rw [pk_succ, if_neg]
          intro hh; exact hno ((hS v).1 hh)
        have := next ((s2.and s3).and s4) (p4 := p') (c4 := c') (g4 := g) (by rw [e5]; exact r3.keep s4 fun _ _ h => h) (by rw [e5]; exact hg) f2
        rwa [e5] at this
      refine compassref17_Set.j2_eq ?_
      unfold compassref17_Set.j2_t
      refine bcb (fun c1 => ?_) fun c1 => ?_
      · simp only [get_at e13, List.getElem?_cons_zero, List.getElem?_cons_succ, ldI_mk, ldS_mk]
        refine rmissed g3 hr hvM hmx hex fun H4 s4 => ?_
        refine bcb (fun c2 => ?_) fun c2 => ?_
        · have hnd : ¬ Dv M i (ef e) (et e) k v := by
            intro hd
            rw [decide_eq_true hd] at c2; cases c2
          obtain ⟨j, hj, ha, hb⟩ := hnear.1 c1
          have hin : S v = true := (hS v).2 ⟨hvM, hnd, j, ha, hb⟩
          have e5 : pk S (v + 1) = pk S v ++ [v] := by rw [pk_succ, if_pos hin]
          have hl1 : (pk S v).length + 1 = (pk S (v + 1)).length := by rw [e5]; simp
          have := hlen v
          refine (r3.keep s4 fun _ _ h => h).appI _ (by omega) fun p5 c5 H5 r5 s5 f5 => ?_
          rw [hl1] at r5 ⊢
          refine next (((s2.and s3).and s4).trans s5 fun y hy => .inr (f2 y hy)) r5 (fun x hx => ?_) fun y hy => (f5 y hy).elim (f2 y) (((s2.and s3).and s4).mono y)
          rw [e5]
          by_cases ex : x = (pk S v).length
          · rw [ex, upf_same, lsF_last]
          · rw [upf_ne ex, lsF_left (by omega)]; exact hg x (by omega)
        · refine skip (fun hs => hs.2.1 ?_) s4
          have : decide (Dv M i (ef e) (et e) k v) = true := by
            cases hd : decide (Dv M i (ef e) (et e) k v)
            · rw [hd] at c2; cases c2
            · rfl
          exact of_decide_eq_true this
      · refine skip (fun hs => ?_) .refl
        obtain ⟨_, _, j, ha, hb⟩ := hs
        have := hnear.2 ⟨j, ha.1, ha, hb⟩
        rw [c1] at this; cases this
  · clear hX
    have hvM : v = M := by omega
    subst hvM
    have hri := pk_ris (P := S) (n := v)
    refine kk H2 p _ c g s02 r2 (hlen v) (fun x hx => ?_) fun u => ?_
    · have h1 := hri x hx
      rw [hg x hx]
      refine ⟨h1.1, h1.2.1, fun h0 => ?_⟩
      rw [hg (x - 1) (by omega)]; exact h1.2.2 h0
    · rw [← hS u]
      constructor
      · rintro ⟨x, hx, ex⟩
        rw [hg x hx, lsF_get hx] at ex
        have hm : (pk S v)[x] ∈ pk S v := List.getElem_mem hx
        rw [pk_mem] at hm
        have : (pk S v)[x] = u := by omega
        rw [← this]; exact hm.2
      · intro hu
        have hm : u ∈ pk S v := pk_mem.2 ⟨((hS u).1 hu).1, hu⟩
        obtain ⟨x, hx, ex⟩ := List.getElem_of_mem hm
        exact ⟨x, hx, by rw [hg x hx, lsF_get hx, ex]⟩
end
end Go.Mz
