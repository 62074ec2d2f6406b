/-
  ManyGrows, walked: whatever the graph, the room and the list, it answers true and leaves what was there as it was.
-/
import Derived.Test.YtbocpfdlfnodfaaLMaA
import Derived.Test.YtbocpfdlfnodfaaRefA
import Derived.Test.YtbocpfdlfnodfaaPkM
import Derived.Test.YtbocpfdlfnodfaaMzZ
import Derived.Test.YtbocpfdlfnodfaaGLMG
set_option linter.unusedSimpArgs false
set_option linter.unusedVariables false
namespace Go.Mz

/-- so many more at the end of a new list of none, out of a list that is but read -/
theorem Rdr.dup {α : Type} [El α] {H : Hp} {p2 : Option Addr} {m b0 : Nat} {g : Nat → α} (h2 : Rdr H p2 m g) {t : BT} (e0 : H b0 = some ⟨[], t⟩) {e : TypeId} {ks : List CK} {bytes : Nat} {K : Option Addr → Nat → Nat → Hp → Prop}
    (hk : ks.length = El.w α) (hm0 : 0 < m) (hm : (m + (m + 768) / 4 + 512) * bytes ≤ 2 ^ 48) (hm2 : m < 2 ^ 63)
    (k : ∀ p' c' H', Row H' p' m c' g → Step (fun _ => False) H H' → (∀ b, fpS p' b → H b = none) → K p' m c' H') :
    appM e ks bytes (some ⟨b0, 0, none⟩) 0 0 p2 m H K := by
  have hw := El.pos (α := α)
  unfold appM
  rw [hk]
  obtain ⟨b, o, rfl, _⟩ := h2 0 hm0
  have hb := h2.live (b := b) ⟨o, rfl⟩ hm0
  cases hx : H b with
  | none => exact (hb hx).elim
  | some x =>
    have get : ∀ i, i < m → ∀ j, j < El.w α → x.cells[o + i * El.w α + j]? = (El.enc (g i))[j]? := fun i hi j hj => by
      obtain ⟨b', o', e', hg⟩ := h2 i hi
      cases e'
      have := hg j hj
      simpa [Hp.get, hx] using this
    have hl : o + m * El.w α ≤ x.cells.length := by
      have h1 := get (m - 1) (by omega) (El.w α - 1) (by omega)
      have hl1 := El.len (g (m - 1))
      rw [List.getElem?_eq_getElem (by omega : El.w α - 1 < (El.enc (g (m - 1))).length)] at h1
      obtain ⟨h3, _⟩ := List.getElem?_eq_some_iff.1 h1
      have h4 : (m - 1) * El.w α + El.w α = m * El.w α := by rw [← Nat.succ_mul]; congr 1; omega
      omega
    have hsl : ((x.cells.drop o).take (m * El.w α)).length = m * El.w α := by simp; omega
    have hsg : ∀ i, i < m → ∀ j, j < El.w α → ((x.cells.drop o).take (m * El.w α))[i * El.w α + j]? = (El.enc (g i))[j]? := fun i hi j hj => by
      have : (i + 1) * El.w α ≤ m * El.w α := Nat.mul_le_mul_right _ hi
      rw [Nat.add_mul] at this
      rw [List.getElem?_take_of_lt (by omega), List.getElem?_drop, ← Nat.add_assoc]
      exact get i hi j hj
    refine ⟨x, hx, hl, src_one hsl hsg, ?_⟩
    rw [if_neg (by omega)]
    have hroom := room_fine (0 + m) 0 (by omega)
    refine ⟨⟨by omega, Nat.le_trans (Nat.mul_le_mul_right _ (by omega)) hm⟩, ⟨_, e0, by simp, fun c' b' hc' hc2 hb' => ?_⟩⟩
    rw [Nat.zero_add] at hc' ⊢
    refine k _ _ _ ⟨hc', hc2, .inr ⟨b', 0, _, rfl, upd_same, ⟨?_, rfl⟩, ?_⟩⟩ (Step.new hb') fun y hy => by rw [fpS_mk.1 hy]; exact hb'
    · have : m * El.w α ≤ c' * El.w α := Nat.mul_le_mul_right _ hc'
      simp only [List.drop_nil, List.take_nil, List.nil_append, List.length_append, hsl, zr_length, hk, Nat.sub_mul]
      omega
    · intro i hi j hj
      have : (i + 1) * El.w α ≤ m * El.w α := Nat.mul_le_mul_right _ hi
      rw [Nat.add_mul] at this
      simp only [List.drop_nil, List.take_nil, List.nil_append, Nat.zero_add]
      rw [List.getElem?_append_left (by rw [hsl]; omega)]
      exact hsg i hi j hj

/-- one edge less is taken with a room for one less at a node -/
theorem Tkn.less {N : Int} {n : Nat} {e : Nat → Edg} {b b' : Nat → Int} {o : Nat → Int} {ko x : Nat} (h : Tkn N n e o ko fun v => b' v.toNat) (h0 : ∀ v : Nat, v < N.toNat → 0 ≤ b v) (hb : ∀ v : Nat, v < N.toNat → v ≠ x → b' v = b v) (hx : b' x = b x + 1) : ∃ o' ko', Tkn N n e o' ko' (fun v => b v.toNat) ∧ ko ≤ ko' + 1 := by
  classical
  obtain ⟨T, hT⟩ : ∃ T : Nat → Bool, ∀ i, T i = decide (In o ko (i : Int)) := ⟨_, fun _ => rfl⟩
  have hTf : T = fun i : Nat => decide (In o ko (i : Int)) := funext hT
  have hcnt : cnt T n = ko := by rw [hTf]; exact rise_cnt h.ris
  have hdeg : ∀ v, tdeg e T n v = dg e o ko v := fun v => by rw [hTf]; exact rise_deg h.ris
  have hnl : ∀ i, i < n → T i = true → ¬ lp (e i) := fun i hi ht => by
    rw [hT i] at ht
    obtain ⟨j, hj, ej⟩ := of_decide_eq_true ht
    have := h.nl j hj
    rwa [ej, Int.toNat_natCast] at this
  have hle : ∀ v : Nat, v < N.toNat → 0 ≤ b' v → (tdeg e T n (v : Int) : Int) ≤ b' v := fun v hv hb0 => by
    rw [hdeg]
    have h1 := h.mst (v : Int) (by omega) (by omega)
    rw [Int.toNat_natCast] at h1
    by_cases hz : 0 < dg e o ko (v : Int)
    · exact h1 hz
    · omega
  have hb0 : ∀ v : Nat, v < N.toNat → 0 ≤ b' v := fun v hv => by
    have := h0 v hv
    by_cases ev : v = x
    · subst ev; omega
    · rw [hb v hv ev]; exact this
  by_cases hfull : ∃ i, i < n ∧ T i = true ∧ ((e i).fr = (x : Int) ∨ (e i).to = (x : Int))
  · obtain ⟨i, hi, hTi, hend⟩ := hfull
    obtain ⟨T', hT'⟩ : ∃ T' : Nat → Bool, ∀ j, T' j = (T j && !decide (j = i)) := ⟨_, fun _ => rfl⟩
    have hTT : ∀ j, T j = (T' j || decide (j = i)) := fun j => by
      rw [hT' j]
      by_cases ej : j = i
      · subst ej; simp [hTi]
      · simp [ej]
    have h1 := fun v => tdeg_one (e := e) (v := v) (T := T) (T' := T') (x := i) (by rw [hT' i]; simp) hTT n
    have hmk := marks_tkn (N := N) (n := n) (e := e) (b := b) (T := T') (fun j hj ht => hnl j hj (by rw [hTT j, ht]; rfl)) fun v hv => by
      have h2 := h1 (v : Int)
      rw [if_pos hi] at h2
      have h3 := hle v hv (hb0 v hv)
      by_cases ev : v = x
      · subst ev
        have h4 : 1 ≤ (if (e i).fr = (v : Int) then 1 else 0) + (if (e i).to = (v : Int) then 1 else 0) := by
          rcases hend with hh | hh <;> rw [if_pos hh] <;> omega
        omega
      · rw [hb v hv ev] at h3; omega
    refine ⟨_, _, hmk, ?_⟩
    rw [pk_len]
    have h5 := cnt_less (p := T) (q := T') hi hTi (by rw [hT' i]; simp) (fun j _ hne => by rw [hT' j]; simp [hne])
    omega
  · have hmk := marks_tkn (N := N) (n := n) (e := e) (b := b) (T := T) hnl fun v hv => by
      have h3 := hle v hv (hb0 v hv)
      by_cases ev : v = x
      · subst ev
        have hz : tdeg e T n (v : Int) = 0 := by
          have : ∀ k, k ≤ n → tdeg e T k (v : Int) = 0 := by
            intro k
            induction k with
            | zero => intro _; rfl
            | succ k ih =>
              intro hk
              show tdeg e T k _ + (if T k = true then _ else 0) = 0
              rw [ih (by omega)]
              by_cases hTk : T k = true
              · rw [if_pos hTk, if_neg fun hh => hfull ⟨k, by omega, hTk, .inl hh⟩, if_neg fun hh => hfull ⟨k, by omega, hTk, .inr hh⟩]
              · rw [if_neg hTk]
          exact this n (Nat.le_refl _)
        have := h0 v hv
        omega
      · rw [hb v hv ev] at h3; exact h3
    refine ⟨_, _, hmk, ?_⟩
    rw [pk_len]; omega

section
variable {E : Value → Hp → Prop}

theorem lmgrows {N nd : Int} {ep : Option Addr} {n ec : Nat} {e : Nat → Edg} {bp : Option Addr} {bn bk : Nat} {b : Nat → Int} {op : Option Addr} {on ok : Nat} {o : Nat → Int} {H : Hp} {K : Bool → Hp → Prop} (he : Rdr H ep n e) (hn : n < 2 ^ 62) (hb : Rdr H bp bn b) (hbn : bn < 2 ^ 62) (ho : Rdr H op on o) (hon : on < 2 ^ 62)
    (kk : ∀ H', Step (fun _ => False) H H' → K true H') : compasslaw19_ManyGrows.call N ep n ec bp bn bk nd op on ok E H K := by
  refine compasslaw19_ManyGrows.of (compasslaw19_ManyGrows.run_eq ?_)
  unfold compasslaw19_ManyGrows.run_t
  refine nwk fun b1 H0 hb1 e1 s1 => ?_
  refine nwk fun b2 H1 hb2 e2 s2 => ?_
  refine lawake19 fun H2 s3 => ?_
  have e12 := (s2.and s3).keep _ _ e1 fun h => h
  have e22 := s3.keep _ _ e2 fun h => h
  have s02 := (s1.and s2).and s3
  refine bcb (fun h => by cases h) fun _ => ?_
  simp only [get_at e12, get_at e22, List.getElem?_cons_zero, List.getElem?_cons_succ, ldI_mk, ldS_mk]
  refine sMany (he.keep s02 fun _ _ _ h => h) (by omega) (hb.keep s02 fun _ _ _ h => h) (by omega) fun H3 mp mn mc g cp cn cc cv c s4 r1 r2 f1 f2 f12 l1 l2 hF => ?_
  have e13 := s4.keep _ _ e12 fun h => h
  have e23 := s4.keep _ _ e22 fun h => h
  have s03 := s02.and s4
  rcases hF with ⟨hbad, h0, _⟩ | ⟨hc, hr, hbd, hgs, hP⟩
  · refine bcn (fun _ => ?_) fun h => (hbad.ne h).elim
    rw [decide_eq_true (by omega)]
    exact kk H3 s03
  · refine bcn (fun h => (h hc).elim) fun _ => ?_
    have hbl := hbd.len
    have hN0 := hr.N0; have hN1 := hr.N1
    have hb0 : ∀ v : Nat, v < N.toNat → 0 ≤ b v := fun v hv => (hbd.bnd v (by omega)).1
    have rest : ∀ {H4 : Hp}, Step (fun _ => False) H3 H4 → compasslaw19_ManyGrows.j1 b1 b2 mp mn mc E H4 K := by
      intro H4 s5
      have e14 := s5.keep _ _ e13 fun h => h
      have e24 := s5.keep _ _ e23 fun h => h
      have s04 := s03.and s5
      refine compasslaw19_ManyGrows.j1_eq ?_
      unfold compasslaw19_ManyGrows.j1_t
      simp only [get_at e14, get_at e24, List.getElem?_cons_zero, List.getElem?_cons_succ, ldI_mk, ldS_mk]
      refine bc (fun _ => kk H4 s04) fun hnd0 => ?_
      try simp only [get_at e14, get_at e24, List.getElem?_cons_zero, List.getElem?_cons_succ, ldI_mk, ldS_mk]
      refine bc (fun _ => kk H4 s04) fun hnd1 => ?_
      refine nwk fun b5 H5 hb5 e5 s6 => ?_
      have e15 := s6.keep _ _ e14 fun h => h
      have e25 := s6.keep _ _ e24 fun h => h
      have s05 := s04.and s6
      simp only [get_at e15, get_at e25, List.getElem?_cons_zero, List.getElem?_cons_succ, ldI_mk, ldS_mk]
      refine Rdr.dup (α := Int) (hb.keep s05 fun _ _ _ h => h) e5 rfl (by omega) (by omega) (by omega) fun p6 c6 H6 r6 s7 f6 => ?_
      have e16 := s7.keep _ _ e15 fun h => h
      have e26 := s7.keep _ _ e25 fun h => h
      have s06 := s05.and s7
      simp only [get_at e16, get_at e26, List.getElem?_cons_zero, List.getElem?_cons_succ, ldI_mk, ldS_mk]
      refine r6.ixI (by omega) (by omega) ?_
      have hbv := hbd.bnd nd.toNat (by omega)
      rw [i64w (by omega) (by omega)]
      refine r6.stI (by omega) (by omega) _ fun H7 r7 s8 => ?_
      have n1 : ¬ fpS p6 b1 := fun h => by have := f6 _ h; rw [e15] at this; cases this
      have e17 := s8.keep _ _ e16 n1
      have s07 : Step (fun _ => False) H H7 := s06.own s8 fun y hy => s05.mono y (f6 y hy)
      simp only [get_at e17, List.getElem?_cons_zero, List.getElem?_cons_succ, ldI_mk, ldS_mk]
      refine sMany (he.keep s07 fun _ _ _ h => h) (by omega) r7.rdr (by omega) fun H8 mp' mn' mc' g' cp' cn' cc' cv' c' s9 r1' r2' f1' f2' f12' l1' l2' hF' => ?_
      have s08 := s07.and s9
      rcases hF' with ⟨hbad, h0', _⟩ | ⟨hc', _, hbd', hgs', hP'⟩
      · refine bc (fun _ => kk H8 s08) fun h130 => ?_
        refine bc (fun _ => kk H8 s08) fun h3 => ?_
        rcases hbad with ⟨a1, a2⟩ | ⟨a, _⟩ | ⟨a, _⟩
        · exact (a2 (by rw [a1]; exact chk_zero.2 hr)).elim
        · exact (h130 a).elim
        · exact (h3 a).elim
      · refine bc (fun _ => kk H8 s08) fun h130 => ?_
        refine bc (fun _ => kk H8 s08) fun h3 => ?_
        refine bc (fun _ => ?_) fun h => (h hc').elim
        have up : mn ≤ mn' := by
          refine many_bound hr hbd' hgs' hP' ⟨hP.tk.ris, hP.tk.nl, fun v h0 h1 hz => ?_⟩
          have h2 := hP.tk.mst v h0 h1 hz
          by_cases ev : v.toNat = nd.toNat
          · simp only [ev, upf_same]
            simp only [ev] at h2
            omega
          · simp only [upf_ne ev]; exact h2
        have dn : mn' ≤ mn + 1 := by
          obtain ⟨o', ko', ht, hle⟩ := hP'.tk.less (b := b) (x := nd.toNat) hb0 (fun v hv hne => upf_ne hne) upf_same
          have := many_bound hr hbd hgs hP ht
          omega
        refine bc (fun _ => kk H8 s08) fun hne => ?_
        rw [i64w (by omega) (by omega), decide_eq_true (by omega)]
        exact kk H8 s08
    simp only [get_at e13, get_at e23, List.getElem?_cons_zero, List.getElem?_cons_succ, ldI_mk, ldS_mk]
    refine rtaken (he.keep s03 fun _ _ _ h => h) hr (ho.keep s03 fun _ _ _ h => h) (by omega) (hb.keep s03 fun _ _ _ h => h) (by omega) hb0 (fun H4 s5 ht => ?_) fun H4 s5 ht => ?_
    · refine bcb (fun _ => ?_) fun h => by cases h
      refine bc (fun hlt => ?_) fun _ => rest s5
      have := many_bound hr hbd hgs hP ht
      omega
    · refine bcb (fun h => by cases h) fun _ => rest s5
end
end Go.Mz
