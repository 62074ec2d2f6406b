/-
  The document's functions of layer 10, walked: Ahead, Upto, Forest, Neck.
-/
import Derived.Test.YthcehonpfnmpiaaGreatPkT
import Derived.Test.YthcehonpfnmpiaaGreatLSpH
import Derived.Test.YthcehonpfnmpiaaGreatGR10
set_option linter.unusedSimpArgs false
set_option linter.unusedVariables false
namespace Go.Mz

/-- the edges up to one -/
def upl (e : Nat → Edg) (k : Nat) (wi : Bool) (m : Nat) : List Nat := (List.range m).filter fun i => decide (ahd e i k ∨ (wi = true ∧ i = k))

theorem upl_succ {e : Nat → Edg} {k m : Nat} {wi : Bool} : upl e k wi (m + 1) = if ahd e m k ∨ (wi = true ∧ m = k) then upl e k wi m ++ [m] else upl e k wi m := by
  unfold upl
  rw [List.range_succ, List.filter_append]
  by_cases h : ahd e m k ∨ (wi = true ∧ m = k)
  · rw [if_pos h]
    simp [h]
  · rw [if_neg h]
    simp [h]

theorem upl_mem {e : Nat → Edg} {k m x : Nat} {wi : Bool} : x ∈ upl e k wi m ↔ x < m ∧ (ahd e x k ∨ (wi = true ∧ x = k)) := by
  unfold upl
  rw [List.mem_filter, List.mem_range, decide_eq_true_iff]

theorem upl_len {e : Nat → Edg} {k m : Nat} {wi : Bool} : (upl e k wi m).length ≤ m := by
  have := List.length_filter_le (fun i => decide (ahd e i k ∨ (wi = true ∧ i = k))) (List.range m)
  unfold upl
  simpa using this

section
variable {E : Value → Hp → Prop}

theorem rahead10 {N : Int} {ep : Option Addr} {n ec a b : Nat} {e : Nat → Edg} {H : Hp} {K : Bool → Hp → Prop} (he : Rdr H ep n e) (ha : a < n) (hb : b < n)
    (k : ∀ H', Step (fun _ => False) H H' → K (decide (ahd e a b)) H') : compassref10_Ahead.call N ep n ec (a : Int) (b : Int) E H K := by
  refine compassref10_Ahead.of (compassref10_Ahead.run_eq ?_)
  unfold compassref10_Ahead.run_t
  refine nwk fun b1 H1 hb1 e1 s1 => ?_
  have k := k H1 s1
  simp only [get_at e1, List.getElem?_cons_zero, List.getElem?_cons_succ, ldI_mk, ldS_mk]
  have he1 := he.keep s1 fun _ _ _ h => h
  refine he1.edgeC (by omega) (by omega) ?_
  refine he1.edgeC (by omega) (by omega) ?_
  simp only [Int.toNat_natCast]
  refine bc (fun h => ?_) fun h => ?_
  · rwa [decide_eq_true (show ahd e a b from .inl h)] at k
  · refine he1.edgeC (by omega) (by omega) ?_
    refine he1.edgeC (by omega) (by omega) ?_
    simp only [Int.toNat_natCast]
    refine bc (fun h2 => ?_) fun h2 => ?_
    · rwa [show decide (ahd e a b) = decide ((a : Int) < (b : Int)) from decide_eq_decide.2 (by unfold ahd; omega)] at k
    · rwa [decide_eq_false (show ¬ ahd e a b by unfold ahd; omega)] at k

theorem rupto10 {N : Int} {ep : Option Addr} {n ec k : Nat} {wi : Bool} {e : Nat → Edg} {H : Hp} {K : Int → Option Addr → Nat → Nat → Hp → Prop} (he : Rdr H ep n e) (hn : n ≤ 4096) (hk : k < n)
    (kk : ∀ H' p c es, Step (fun _ => False) H H' → Row H' p (upl e k wi n).length c es → (∀ i, i < (upl e k wi n).length → es i = lsG e (upl e k wi n) i) → K N p (upl e k wi n).length c H') : compassref10_Upto.call N ep n ec (k : Int) wi E H K := by
  refine compassref10_Upto.of (compassref10_Upto.run_eq ?_)
  unfold compassref10_Upto.run_t
  refine nwk fun b1 H1 hb1 e1 s1 => ?_
  refine nwk fun b2 H2 hb2 e2 s2 => ?_
  have e12 := s2.keep _ _ e1 fun h => h
  simp only [get_at e12, List.getElem?_cons_zero, List.getElem?_cons_succ, ldI_mk, ldS_mk]
  refine nwst rfl rfl fun b3 H3 hb3 e3 s3 => ?_
  have e13 := s3.keep _ _ e12 fun h => h
  have e23 := s3.keep _ _ e2 fun h => h
  have f2 : H b2 = none := s1.mono _ hb2
  have f3 : H b3 = none := (s1.and s2).mono _ hb3
  have n13 : b1 ≠ b3 := ne_of_live hb3 (by rw [e12]; exact fun h => by cases h)
  have n23 : b2 ≠ b3 := ne_of_live hb3 (by rw [e2]; exact fun h => by cases h)
  have hst : Step (fun _ => False) H H3 := (s1.and s2).and s3
  refine compassref10_Upto.l1_rule (fun k' wi' g3 t6 o7 i8 H' => k' = (k : Int) ∧ wi' = wi ∧ g3 = b1 ∧ t6 = b2 ∧ o7 = b3 ∧ ∃ i : Nat, i8 = i ∧ i ≤ n ∧ Step (fun _ => False) H H' ∧ H' b1 = some ⟨[.int .i64 N, .slice ep n ec], 24⟩ ∧ H' b2 = some ⟨[.int .i64 0, .slice none 0 0], 24⟩ ∧ ∃ p c es, H' b3 = some ⟨[.int .i64 N, .slice p (upl e k wi i).length c], 24⟩ ∧ Row H' p (upl e k wi i).length c es ∧ (∀ j, j < (upl e k wi i).length → es j = lsG e (upl e k wi i) j) ∧ (∀ y, fpS p y → H y = none) ∧ ¬ fpS p b1 ∧ ¬ fpS p b2 ∧ ¬ fpS p b3)
    (fun k' wi' g3 t6 o7 i8 H' => n - i8.toNat) ?_ ⟨rfl, rfl, rfl, rfl, rfl, 0, rfl, Nat.zero_le _, hst, e13, e23, none, 0, fun _ => (0, 0, 0, 0), e3, Row.nil, fun j hj => by simp [upl] at hj, fun y hy => by rw [fpS_none] at hy; exact hy.elim, by rw [fpS_none]; exact fun h => h, by rw [fpS_none]; exact fun h => h, by rw [fpS_none]; exact fun h => h⟩
  clear hst e3 e13 e23
  rintro k' wi' g3 t6 o7 i8 H4 ⟨rfl, rfl, rfl, rfl, rfl, i, rfl, hi, s4, e14, e24, p, c, es, e34, r4, hes, fp, q1, q2, q3⟩ X hX
  have hsl := upl_len (e := e) (k := k) (m := i) (wi := wi')
  refine compassref10_Upto.b1_eq ?_
  unfold compassref10_Upto.b1_t
  simp only [get_at e14, List.getElem?_cons_zero, List.getElem?_cons_succ, ldI_mk, ldS_mk]
  refine bc (fun hlt => ?_) fun hge => ?_
  · try simp only [get_at e14, List.getElem?_cons_zero, List.getElem?_cons_succ, ldI_mk, ldS_mk]
    refine rahead10 (he.keep s4 fun _ _ _ h => h) (by omega) hk fun H5 s5 => ?_
    have s05 := s4.and s5
    have e15 := s5.keep _ _ e14 fun h => h
    have e25 := s5.keep _ _ e24 fun h => h
    have e35 := s5.keep _ _ e34 fun h => h
    have r5 := r4.keep s5 fun _ _ h => h
    have hsu := upl_succ (e := e) (k := k) (m := i) (wi := wi')
    have next : ∀ (H' : Hp) p' c' es', Step (fun _ => False) H H' → H' g3 = some ⟨[.int .i64 N, .slice ep n ec], 24⟩ → H' t6 = some ⟨[.int .i64 0, .slice none 0 0], 24⟩ → H' o7 = some ⟨[.int .i64 N, .slice p' (upl e k wi' (i + 1)).length c'], 24⟩ → Row H' p' (upl e k wi' (i + 1)).length c' es' → (∀ j, j < (upl e k wi' (i + 1)).length → es' j = lsG e (upl e k wi' (i + 1)) j) → (∀ y, fpS p' y → H y = none) → ¬ fpS p' g3 → ¬ fpS p' t6 → ¬ fpS p' o7 →
        compassref10_Upto.j2 (k : Int) wi' g3 t6 o7 (i : Int) X E H' K := fun H' p' c' es' w1 w2 w3 w4 w5 w6 w7 w8 w9 w10 => by
      refine compassref10_Upto.j2_eq ?_
      unfold compassref10_Upto.j2_t
      rw [i64w (by omega) (by omega)]
      exact hX _ _ _ _ _ _ _ ⟨rfl, rfl, rfl, rfl, rfl, i + 1, by omega, by omega, w1, w2, w3, p', c', es', w4, w5, w6, w7, w8, w9, w10⟩ (by omega)
    have skip : ¬ (ahd e i k ∨ (wi' = true ∧ i = k)) → compassref10_Upto.j2 (k : Int) wi' g3 t6 o7 (i : Int) X E H5 K := fun h => by
      rw [if_neg h] at hsu
      exact next H5 p c es s05 e15 e25 (by rw [hsu]; exact e35) (by rw [hsu]; exact r5) (by rw [hsu]; exact hes) fp q1 q2 q3
    have push : (ahd e i k ∨ (wi' = true ∧ i = k)) → compassref10_Upto.j1 (k : Int) wi' g3 t6 o7 (i : Int) X E H5 K := fun h => by
      rw [if_pos h] at hsu
      refine compassref10_Upto.j1_eq ?_
      unfold compassref10_Upto.j1_t
      simp only [get_at e15, get_at e35, List.getElem?_cons_zero, List.getElem?_cons_succ, ldI_mk, ldS_mk]
      refine (he.keep s05 fun _ _ _ h => h).edge (by omega) (by omega) ?_
      rw [Int.toNat_natCast]
      refine Row.appW (α := Edg) r5 (e i) rfl (by omega) (by omega) fun p6 c6 H6 r6 s6 f6 => ?_
      have e16 := s6.keep _ _ e15 q1
      have e26 := s6.keep _ _ e25 q2
      have e36 := s6.keep _ _ e35 q3
      have nq : ∀ y, (y = g3 ∨ y = t6 ∨ y = o7) → ¬ fpS p y → ¬ fpS p6 y := fun y hy hn' h => by
        rcases f6 y h with h | h
        · exact hn' h
        · rcases hy with rfl | rfl | rfl
          · rw [e15] at h; cases h
          · rw [e25] at h; cases h
          · rw [e35] at h; cases h
      have w1 := nq g3 (.inl rfl) q1
      have w2 := nq t6 (.inr (.inl rfl)) q2
      have w3 := nq o7 (.inr (.inr rfl)) q3
      refine stp e36 (by simp) rfl fun H7 e7 s7 => ?_
      replace e7 : H7 o7 = some ⟨[.int .i64 N, .slice p6 ((upl e k wi' i).length + 1) c6], 24⟩ := e7
      have fp6 : ∀ y, fpS p6 y → H y = none := fun y hy => (f6 y hy).elim (fp y) (s05.mono y)
      refine next H7 p6 c6 _ ((s05.own s6 fp).own s7 fun y hy => hy ▸ f3) (s7.keep _ _ e16 fun h => n13 h) (s7.keep _ _ e26 fun h => n23 h) (by rw [hsu, List.length_append]; exact e7) (by rw [hsu, List.length_append]; exact r6.keep s7 fun y hy h => w3 (h ▸ hy)) (fun j hj => ?_) fp6 w1 w2 w3
      rw [hsu, List.length_append] at hj
      rw [hsu]
      have hj : j < (upl e k wi' i).length + 1 := by simpa using hj
      by_cases ej : j = (upl e k wi' i).length
      · rw [ej, upf_same, ← lsG_snoc (by omega), upf_same]
      · rw [upf_ne ej, hes j (by omega), ← lsG_snoc (by omega), upf_ne ej]
    refine bc (fun ha => push (.inl ha)) fun ha => ?_
    cases wi' with
    | true =>
      refine bcb (fun _ => ?_) fun h => by cases h
      refine bc (fun hik => push (.inr ⟨rfl, by omega⟩)) fun hik => skip fun h => h.elim ha fun h => hik (by omega)
    | false =>
      refine bcb (fun h => by cases h) fun _ => ?_
      exact skip fun h => h.elim ha fun h => by cases h.1
  · have : i = n := by omega
    subst this
    refine compassref10_Upto.j3_eq ?_
    unfold compassref10_Upto.j3_t
    simp only [get_at e34, List.getElem?_cons_zero, List.getElem?_cons_succ, ldI_mk, ldS_mk]
    refine stk e24 rfl rfl fun H5 e5 s5 => ?_
    simp only [get_at e5, List.getElem?_cons_zero, List.getElem?_cons_succ, ldI_mk, ldS_mk]
    exact kk H5 p c es (s4.own s5 fun y hy => hy ▸ f2) (r4.keep s5 fun y hy h => q2 (h ▸ hy)) hes

/-- the parts of the graph up to an edge -/
theorem rupparts {N : Int} {ep : Option Addr} {n ec k : Nat} {wi : Bool} {e : Nat → Edg} {H : Hp} {K : Option Addr → Nat → Nat → Hp → Prop} (he : Rdr H ep n e) (hr : Right N n e) (hk : k < n)
    (kk : ∀ H' b L, Step (fun _ => False) H H' → Row H' (some ⟨b, 0, none⟩) N.toNat N.toNat (fun v => (pno L v : Int)) → (∀ u v, (pno L u : Int) = (pno L v : Int) ↔ Cn (Sel (ePr e) n fun t => ahd e t k ∨ (wi = true ∧ t = k)) u v) → K (some ⟨b, 0, none⟩) N.toNat N.toNat H') :
    compassref10_Upto.call N ep n ec (k : Int) wi E H fun r_1 r_2 r_3 r_4 H_1 => compassref04_Parts.call r_1 r_2 r_3 r_4 E H_1 fun r_5 r_6 r_7 r_8 H_2 => K r_5 r_6 r_7 H_2 := by
  have hn1 := hr.n1
  refine rupto10 he hr.n1 hk fun H1 p c es s1 r1 hes => ?_
  have hlt : ∀ x ∈ upl e k wi n, x < n := fun x hx => (upl_mem.1 hx).1
  have hlen := upl_len (e := e) (k := k) (m := n) (wi := wi)
  have hr1 := right_sel hr hlt (by omega) hes
  obtain ⟨L, hL⟩ := lst_ex (Prs (ePr es) (upl e k wi n).length)
  refine rparts4 r1.rdr hr1 hL fun b H2 s2 hb r2 => ?_
  refine kk H2 b L (s1.and s2) r2 fun u v => ?_
  have h1 : Cn (Prs (ePr es) (upl e k wi n).length) u v ↔ Cn (Sel (ePr e) n fun t => ahd e t k ∨ (wi = true ∧ t = k)) u v :=
    (prs_sel hlt hes).trans ⟨fun h => Sel.mono (fun t _ ht => (upl_mem.1 ht).2) h, fun h => Sel.mono (fun t ht hh => upl_mem.2 ⟨ht, hh⟩) h⟩
  rw [← h1, ← hL.iff]
  constructor
  · intro h; exact pno_inj hL (by omega)
  · intro h; unfold pno; rw [h]

theorem upto_false {e : Nat → Edg} {n k u v : Nat} : Cn (Sel (ePr e) n fun t => ahd e t k ∨ (false = true ∧ t = k)) u v ↔ Cn (Sel (ePr e) n fun t => ahd e t k) u v :=
  ⟨fun h => Sel.mono (fun t _ ht => ht.resolve_right fun h => by cases h.1) h, fun h => Sel.mono (fun t _ ht => .inl ht) h⟩
theorem upto_true {e : Nat → Edg} {n k u v : Nat} : Cn (Sel (ePr e) n fun t => ahd e t k ∨ (true = true ∧ t = k)) u v ↔ Cn (Sel (ePr e) n fun t => ahd e t k ∨ t = k) u v :=
  ⟨fun h => Sel.mono (fun t _ ht => ht.imp id fun h => h.2) h, fun h => Sel.mono (fun t _ ht => ht.imp id fun h => ⟨rfl, h⟩) h⟩

end
end Go.Mz
