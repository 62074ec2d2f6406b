/-
  The document's functions of layer 12, walked, more: without, Most.
-/
import Derived.Test.YtmaeboaopebaiaaVouX1
import Derived.Test.YtmaeboaopebaiaaGReg
set_option linter.unusedSimpArgs false
set_option linter.unusedVariables false
namespace Go.Mz
section
variable {E : Value → Hp → Prop}

theorem rwithout {N : Int} {ep : Option Addr} {n ec i : Nat} {e : Nat → Edg} {H : Hp} {K : Int → Option Addr → Nat → Nat → Option Addr → Nat → Nat → Hp → Prop} (he : Rdr H ep n e) (hn : n ≤ 4096) (hi : i < n)
    (kk : ∀ H' op oc wp wc, Step (fun _ => False) H H' → Row H' op (whl e i n).length oc (sub e (lsF (whl e i n))) → Row H' wp (whl e i n).length wc (lsF (whl e i n)) → K N op (whl e i n).length oc wp (whl e i n).length wc H') :
    compassref12_without.call N ep n ec i E H K := by
  refine compassref12_without.of (compassref12_without.run_eq ?_)
  unfold compassref12_without.run_t
  refine nwk fun b1 H1 hb1 e1 s1 => ?_
  refine nwk fun b2 H2 hb2 e2 s2 => ?_
  have e12 := s2.keep _ _ e1 fun h => h
  simp only [get_at e12, List.getElem?_cons_zero, List.getElem?_cons_succ, ldI_mk, ldS_mk]
  refine nwst rfl rfl fun b3 H3 hb3 e3 s3 => ?_
  have e13 := s3.keep _ _ e12 fun h => h
  have e23 := s3.keep _ _ e2 fun h => h
  have s03 := (s1.and s2).and s3
  have f2 : H b2 = none := s1.mono _ hb2
  have f3 : H b3 = none := (s1.and s2).mono _ hb3
  have ne23 : b2 ≠ b3 := fun h => by rw [h, hb3] at e2; cases e2
  have ne13 : b1 ≠ b3 := fun h => by rw [h, hb3] at e12; cases e12
  simp only [get_at e13, List.getElem?_cons_zero, List.getElem?_cons_succ, ldI_mk, ldS_mk]
  have he3 := he.keep s03 fun _ _ _ h => h
  refine he3.edgeF (by omega) (by omega) ?_
  try simp only [get_at e13, List.getElem?_cons_zero, List.getElem?_cons_succ, ldI_mk, ldS_mk]
  refine he3.edgeT (by omega) (by omega) ?_
  simp only [Int.toNat_natCast]
  rw [i64w (by omega) (by omega)]
  let P : Nat → Bool := fun k => decide (i < k) && apart (e k) (e i)
  have hP : ∀ k, pk P k = pk P k := fun _ => rfl
  have h0 : pk P (i + 1) = [] := List.eq_nil_iff_forall_not_mem.2 fun x hx => by
    have := pk_mem.1 hx
    simp [P] at this
    omega
  refine compassref12_without.l1_rule (fun g2 t4 o6 wp wn wc a8 b9 k10 H' => b1 = g2 ∧ b2 = t4 ∧ b3 = o6 ∧ (e i).fr = a8 ∧ (e i).to = b9 ∧ ∃ k : Nat, k10 = k ∧ i + 1 ≤ k ∧ k ≤ n ∧ (pk P k).length = wn ∧ Step (fun _ => False) H H' ∧ H' b1 = some ⟨[.int .i64 N, .slice ep n ec], 24⟩ ∧ H' b2 = some ⟨[.int .i64 0, .slice none 0 0], 24⟩ ∧
      ∃ op oc, H' b3 = some ⟨[.int .i64 N, .slice op (pk P k).length oc], 24⟩ ∧ Row H' op (pk P k).length oc (sub e (lsF (pk P k))) ∧ Row H' wp (pk P k).length wc (lsF (pk P k)) ∧ (∀ y, fpS op y → H y = none ∧ y ≠ b1 ∧ y ≠ b2 ∧ y ≠ b3 ∧ ¬ fpS wp y) ∧ ∀ y, fpS wp y → H y = none ∧ y ≠ b1 ∧ y ≠ b2 ∧ y ≠ b3)
    (fun g2 t4 o6 wp wn wc a8 b9 k10 H' => n - k10.toNat) ?_ ⟨rfl, rfl, rfl, rfl, rfl, i + 1, by omega, by omega, by omega, by rw [h0]; rfl, s03, e13, e23, none, 0, by rw [h0]; exact e3, by rw [h0]; exact Row.nil, by rw [h0]; exact Row.nil, fun y hy => (by rw [fpS_none] at hy; exact hy.elim), fun y hy => (by rw [fpS_none] at hy; exact hy.elim)⟩
  clear e3 e13 e23 s3 hb3 e12 e2 hb2 s2 e1 hb1 s1 s03 he3 h0
  rintro g2 t4 o6 wp wn wc a8 b9 k10 H4 ⟨rfl, rfl, rfl, rfl, rfl, k, rfl, hk1, hk, rfl, s4, g1, g2, op, oc, g3, ro, rw', ho, hw⟩ X hX
  have hlen : (pk P k).length ≤ 4096 := by rw [pk_len]; have := cnt_le P k; omega
  refine compassref12_without.b1_eq ?_
  unfold compassref12_without.b1_t
  simp only [get_at g1, List.getElem?_cons_zero, List.getElem?_cons_succ, ldI_mk, ldS_mk]
  refine bc (fun hlt => ?_) fun hge => ?_
  · refine (he.keep s4 fun _ _ _ h => h).edge (by omega) (by omega) ?_
    simp only [Int.toNat_natCast]
    refine nwst rfl rfl fun b5 H5 hb5 e5 s5 => ?_
    have g15 := s5.keep _ _ g1 fun h => h
    have g25 := s5.keep _ _ g2 fun h => h
    have g35 := s5.keep _ _ g3 fun h => h
    simp only [get_at e5, List.getElem?_cons_zero, List.getElem?_cons_succ, ldI_mk, ldS_mk]
    have skip : apart (e k) (e i) = false → compassref12_without.j1 b1 b2 b3 wp (pk P k).length wc (e i).fr (e i).to (k : Int) X E H5 K := fun h => by
      have hp : pk P (k + 1) = pk P k := by rw [pk_succ, if_neg (by simp [P, h])]
      refine compassref12_without.j1_eq ?_
      unfold compassref12_without.j1_t
      rw [i64w (by omega) (by omega)]
      refine hX _ _ _ _ _ _ _ _ _ _ ⟨rfl, rfl, rfl, rfl, rfl, k + 1, by omega, by omega, by omega, by rw [hp], s4.and s5, g15, g25, op, oc, by rw [hp]; exact g35, by rw [hp]; exact ro.keep s5 fun _ _ h => h, by rw [hp]; exact rw'.keep s5 fun _ _ h => h, ho, hw⟩ (by omega)
    have no : ∀ (h : apart (e k) (e i) = true → False), apart (e k) (e i) = false := fun h => by
      cases hh : apart (e k) (e i) with
      | false => rfl
      | true => exact (h hh).elim
    refine bcn (fun q1 => ?_) fun q1 => skip (no fun h => (apart_iff.1 h).1 q1)
    try simp only [get_at e5, List.getElem?_cons_zero, List.getElem?_cons_succ, ldI_mk, ldS_mk]
    refine bcn (fun q2 => ?_) fun q2 => skip (no fun h => (apart_iff.1 h).2.1 q2)
    try simp only [get_at e5, List.getElem?_cons_zero, List.getElem?_cons_succ, ldI_mk, ldS_mk]
    refine bcn (fun q3 => ?_) fun q3 => skip (no fun h => (apart_iff.1 h).2.2.1 q3)
    try simp only [get_at e5, List.getElem?_cons_zero, List.getElem?_cons_succ, ldI_mk, ldS_mk]
    refine bcn (fun q4 => ?_) fun q4 => skip (no fun h => (apart_iff.1 h).2.2.2 q4)
    have hp : pk P (k + 1) = pk P k ++ [k] := by rw [pk_succ, if_pos (by simp [P, apart_iff.2 ⟨q1, q2, q3, q4⟩]; omega)]
    simp only [get_at e5, get_at g35, List.getElem?_cons_zero, List.getElem?_cons_succ, ldI_mk, ldS_mk]
    have s45 := s4.and s5
    refine (ro.keep s5 fun _ _ h => h).app (α := Edg) (e k) rfl (by omega) (by decide) fun op' oc' H6 r6 s6 f6 => ?_
    have nb : ∀ b, (b = b1 ∨ b = b2 ∨ b = b3) → ¬ fpS op b := fun b hb h => by
      have := ho b h
      rcases hb with rfl | rfl | rfl
      · exact this.2.1 rfl
      · exact this.2.2.1 rfl
      · exact this.2.2.2.1 rfl
    have g16 := s6.keep _ _ g15 (nb _ (.inl rfl))
    have g26 := s6.keep _ _ g25 (nb _ (.inr (.inl rfl)))
    have g36 := s6.keep _ _ g35 (nb _ (.inr (.inr rfl)))
    have s46 := s45.own s6 fun y hy => (ho y hy).1
    have w6 := (rw'.keep s5 fun _ _ h => h).keep s6 fun y hy h => (ho y h).2.2.2.2 hy
    have ho6 : ∀ y, fpS op' y → H y = none ∧ y ≠ b1 ∧ y ≠ b2 ∧ y ≠ b3 ∧ ¬ fpS wp y := fun y hy => by
      rcases f6 y hy with h | h
      · exact ho y h
      · refine ⟨s45.mono _ h, fun q => ?_, fun q => ?_, fun q => ?_, fun q => (rw'.keep s5 fun _ _ h => h).live q h⟩
        · rw [q, g15] at h; cases h
        · rw [q, g25] at h; cases h
        · rw [q, g35] at h; cases h
    refine stp g36 (by simp) rfl fun H7 e7 s7 => ?_
    replace e7 : H7 b3 = some ⟨[.int .i64 N, .slice op' ((pk P k).length + 1) oc'], 24⟩ := e7
    have g17 := s7.keep _ _ g16 ne13
    have g27 := s7.keep _ _ g26 ne23
    have s47 := s46.own s7 fun y hy => hy ▸ f3
    have r7 := r6.keep s7 fun y hy h => (ho6 y hy).2.2.2.1 h
    have w7 := w6.keep s7 fun y hy h => (hw y hy).2.2.2 h
    refine w7.app (α := Int) (k : Int) rfl (by omega) (by decide) fun wp' wc' H8 w8 s8 f8 => ?_
    have nw' : ∀ b, (b = b1 ∨ b = b2 ∨ b = b3) → ¬ fpS wp b := fun b hb h => by
      have := hw b h
      rcases hb with rfl | rfl | rfl
      · exact this.2.1 rfl
      · exact this.2.2.1 rfl
      · exact this.2.2.2 rfl
    have g18 := s8.keep _ _ g17 (nw' _ (.inl rfl))
    have g28 := s8.keep _ _ g27 (nw' _ (.inr (.inl rfl)))
    have g38 := s8.keep _ _ e7 (nw' _ (.inr (.inr rfl)))
    have s48 := s47.own s8 fun y hy => (hw y hy).1
    have r8 := r7.keep s8 fun y hy h => (ho6 y hy).2.2.2.2 h
    have hw8 : ∀ y, fpS wp' y → (H y = none ∧ y ≠ b1 ∧ y ≠ b2 ∧ y ≠ b3) ∧ ¬ fpS op' y := fun y hy => by
      rcases f8 y hy with h | h
      · exact ⟨hw y h, fun q => (ho6 y q).2.2.2.2 h⟩
      · refine ⟨⟨s47.mono _ h, fun q => ?_, fun q => ?_, fun q => ?_⟩, fun q => r7.live q h⟩
        · rw [q, g17] at h; cases h
        · rw [q, g27] at h; cases h
        · rw [q, e7] at h; cases h
    refine compassref12_without.j1_eq ?_
    unfold compassref12_without.j1_t
    rw [i64w (by omega) (by omega)]
    have hpl : (pk P (k + 1)).length = (pk P k).length + 1 := by rw [hp]; simp
    refine hX _ _ _ _ _ _ _ _ _ _ ⟨rfl, rfl, rfl, rfl, rfl, k + 1, by omega, by omega, by omega, hpl, s48, g18, g28, op', oc', by rw [hpl]; exact g38, ?_, ?_, fun y hy => ⟨(ho6 y hy).1, (ho6 y hy).2.1, (ho6 y hy).2.2.1, (ho6 y hy).2.2.2.1, fun q => (hw8 y q).2 hy⟩, fun y hy => (hw8 y hy).1⟩ (by omega)
    · rw [hpl]
      refine r8.congr fun j hj => ?_
      rw [hp]
      unfold sub
      by_cases ej : j = (pk P k).length
      · subst ej; rw [upf_same, lsF_last, Int.toNat_natCast]
      · rw [upf_ne ej, lsF_left (by omega)]
    · rw [hpl, hp, ← lsF_app]; exact w8
  · have : k = n := by omega
    subst this
    clear hX
    refine compassref12_without.j2_eq ?_
    unfold compassref12_without.j2_t
    simp only [get_at g3, List.getElem?_cons_zero, List.getElem?_cons_succ, ldI_mk, ldS_mk]
    refine stk g2 rfl rfl fun H5 e5 s5 => ?_
    simp only [get_at e5, List.getElem?_cons_zero, List.getElem?_cons_succ, ldI_mk, ldS_mk]
    exact kk _ _ _ _ _ (s4.own s5 fun y hy => hy ▸ f2) (ro.keep s5 fun y hy h => (ho y hy).2.2.1 h) (rw'.keep s5 fun y hy h => (hw y hy).2.2.1 h)
end
end Go.Mz
