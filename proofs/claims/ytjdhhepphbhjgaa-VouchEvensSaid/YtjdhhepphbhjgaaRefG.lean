/-
  plain, of the laws of layer 12: duals are copied set by set, however many there are.
-/
import Derived.Test.YtjdhhepphbhjgaaPkW
import Derived.Test.YtjdhhepphbhjgaaMzZ
import Derived.Test.YtjdhhepphbhjgaaGLawDu
set_option linter.unusedSimpArgs false
set_option linter.unusedVariables false
namespace Go.Mz
section
variable {E : Value → Hp → Prop}

theorem rplain {yp : Option Addr} {yn yc : Nat} {sp : Option Addr} {sn sc : Nat} {Y : Nat → Int} {z : Nat → Int} {sl : Nat → Sl} {nd : Nat → Nat → Int} {H : Hp} {K : Option Addr → Nat → Nat → Option Addr → Nat → Nat → Hp → Prop}
    (hd : DualR H yp yn sp sn Y z sl nd) (hsz : sn * 32 ≤ reachBytes)
    (kk : ∀ H' sp' sc', Step (fun _ => False) H H' → DualR H' yp yn sp' sn Y z sl nd → K yp yn yc sp' sn sc' H') : compasslaw12_plain.call yp yn yc sp sn sc E H K := by
  have hsn : sn ≤ 4398046511104 := by unfold reachBytes at hsz; omega
  refine compasslaw12_plain.of (compasslaw12_plain.run_eq ?_)
  unfold compasslaw12_plain.run_t
  refine nwk fun b1 H1 hb1 e1 s1 => ?_
  refine nwk fun b2 H2 hb2 e2 s2 => ?_
  have e12 := s2.keep _ _ e1 fun h => h
  simp only [get_at e12, List.getElem?_cons_zero, List.getElem?_cons_succ, ldI_mk, ldS_mk]
  refine nwst rfl rfl fun b3 H3 hb3 e3 s3 => ?_
  have e13 := s3.keep _ _ e12 fun h => h
  have e23 := s3.keep _ _ e2 fun h => h
  simp only [get_at e13, List.getElem?_cons_zero, List.getElem?_cons_succ, ldI_mk, ldS_mk]
  have s03 := (s1.and s2).and s3
  have f2 : H b2 = none := s1.mono _ hb2
  have f3 : H b3 = none := (s1.and s2).mono _ hb3
  have ne23 : b2 ≠ b3 := fun h => by rw [h, hb3] at e2; cases e2
  refine compasslaw12_plain.l1_rule (fun t2 o3 tp tn tc t11 t12 H' => b2 = t2 ∧ b3 = o3 ∧ sp = tp ∧ sn = tn ∧ t11 = sn ∧ ∃ i : Nat, t12 = i ∧ i ≤ sn ∧ Step (fun _ => False) H H' ∧ H' b2 = some ⟨[.slice none 0 0, .slice none 0 0], 45⟩ ∧
      ∃ ap ac, H' b3 = some ⟨[.slice yp yn yc, .slice ap i ac], 45⟩ ∧ Row H' ap i ac (fun j => (sl j, z j)) ∧ ∀ y, fpS ap y → H y = none ∧ y ≠ b2 ∧ y ≠ b3)
    (fun t2 o3 tp tn tc t11 t12 H' => sn - t12.toNat) ?_ ⟨rfl, rfl, rfl, rfl, rfl, 0, rfl, by omega, s03, e23, none, 0, e3, Row.nil, fun y hy => (by rw [fpS_none] at hy; exact hy.elim)⟩
  clear e3 e13 e23 s3 hb3 e12 e2 hb2 s2 e1 hb1 s1 s03
  rintro t2 o3 tp tn tc t11 t12 H4 ⟨rfl, rfl, rfl, rfl, rfl, i, rfl, hi, s4, g2, ap, ac, g3, ra, ha⟩ X hX
  refine compasslaw12_plain.b1_eq ?_
  unfold compasslaw12_plain.b1_t
  refine bc (fun hlt => ?_) fun hge => ?_
  · refine (hd.keep s4).s.slz (by omega) (by omega) ?_
    simp only [Int.toNat_natCast]
    refine nwst rfl rfl fun b5 H5 hb5 e5 s5 => ?_
    have g25 := s5.keep _ _ g2 fun h => h
    have g35 := s5.keep _ _ g3 fun h => h
    simp only [get_at e5, get_at g35, List.getElem?_cons_zero, List.getElem?_cons_succ, ldI_mk, ldS_mk]
    have ra5 := ra.keep s5 fun _ _ h => h
    refine ra5.appW (α := Sl × Int) (sl i, z i) rfl (by omega) (by omega) fun ap' ac' H6 r6 s6 f6 => ?_
    have n2 : ¬ fpS ap b2 := fun h => (ha _ h).2.1 rfl
    have n3 : ¬ fpS ap b3 := fun h => (ha _ h).2.2 rfl
    have g26 := s6.keep _ _ g25 n2
    have g36 := s6.keep _ _ g35 n3
    have s46 := (s4.and s5).own s6 fun y hy => (ha y hy).1
    refine stp g36 (by simp) rfl fun H7 e7 s7 => ?_
    replace e7 : H7 b3 = some ⟨[.slice yp yn yc, .slice ap' (i + 1) ac'], 45⟩ := e7
    have hnew : ∀ y, fpS ap' y → H y = none ∧ y ≠ b2 ∧ y ≠ b3 := fun y hy => by
      rcases f6 y hy with h | h
      · exact ha y h
      · refine ⟨(s4.and s5).mono _ h, fun e => ?_, fun e => ?_⟩
        · rw [e, g25] at h; cases h
        · rw [e, g35] at h; cases h
    rw [i64w (by omega) (by omega)]
    refine hX _ _ _ _ _ _ _ _ ⟨rfl, rfl, rfl, rfl, rfl, i + 1, by omega, by omega, s46.own s7 fun y hy => hy ▸ f3, s7.keep _ _ g26 ne23, ap', ac', e7, ?_, hnew⟩ (by omega)
    refine (r6.congr fun j hj => ?_).keep s7 fun y hy h => (hnew y hy).2.2 h
    by_cases ej : j = i
    · subst ej; rw [upf_same]
    · rw [upf_ne ej]
  · have : i = sn := by omega
    subst this
    refine compasslaw12_plain.j1_eq ?_
    unfold compasslaw12_plain.j1_t
    simp only [get_at g3, List.getElem?_cons_zero, List.getElem?_cons_succ, ldI_mk, ldS_mk]
    refine stk g2 rfl rfl fun H5 e5 s5 => ?_
    simp only [get_at e5, List.getElem?_cons_zero, List.getElem?_cons_succ, ldI_mk, ldS_mk]
    have s05 := s4.own s5 fun y hy => hy ▸ f2
    have h5 := hd.keep s05
    exact kk _ _ _ s05 ⟨h5.y, (ra.keep s5 fun y hy h => (ha y hy).2.1 h).rdr, h5.nd⟩
end
end Go.Mz
