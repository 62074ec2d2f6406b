/-
  A slice that is handed in, copied whole by an append to a new list of none; where it begins, even if it has no element.
-/
import Derived.Test.YtmaeboaopebaiaaMzW
import Derived.Test.YtmaeboaopebaiaaPkM
import Derived.Test.YtmaeboaopebaiaaMzZ
set_option linter.unusedSimpArgs false
set_option linter.unusedVariables false
namespace Go.Mz

/-- a slice's address is none, or a place in a block or at its end -/
def SlAt (H : Hp) (p : Option Addr) : Prop := p = none ∨ ∃ b o x, p = some ⟨b, o, none⟩ ∧ H b = some x ∧ o ≤ x.cells.length

theorem SlAt.keep {H H' : Hp} {p : Option Addr} (h : SlAt H p) (s : Step (fun _ => False) H H') : SlAt H' p := by
  rcases h with h | ⟨b, o, x, h1, h2, h3⟩
  · exact .inl h
  · exact .inr ⟨b, o, x, h1, s.keep _ _ h2 fun h => h, h3⟩

/-- so many more at the end of a new list of none, out of a list that is but read -/
theorem Rdr.dupZ {α : Type} [El α] {H : Hp} {p2 : Option Addr} {m b0 : Nat} {g : Nat → α} (h2 : Rdr H p2 m g) (ha : SlAt H p2) {t : BT} (e0 : H b0 = some ⟨[], t⟩) (ht : t.fz = (0, 0)) {e : TypeId} {ks : List CK} {bytes : Nat} {K : Option Addr → Nat → Nat → Hp → Prop}
    (hk : ks.length = El.w α) (hm : (m + (m + 768) / 4 + 512) * bytes ≤ 2 ^ 48) (hm2 : m < 2 ^ 63)
    (k : ∀ p' c' H', Row H' p' m c' g → Step (fun y => y = b0) H H' → (∀ b, fpS p' b → b = b0 ∨ H b = none) → K p' m c' H') :
    appM e ks bytes (some ⟨b0, 0, none⟩) 0 0 p2 m H K := by
  have hw := El.pos (α := α)
  unfold appM
  rw [hk]
  rcases Nat.eq_zero_or_pos m with hm0 | hm0
  · subst hm0
    have fin : (∀ v ∈ ([] : List Value), v.oneC = true) ∧ (if 0 + 0 ≤ 0 then (stC H b0 (0 + 0 * El.w α) [] fun H' => K (some ⟨b0, 0, none⟩) (0 + 0) 0 H') else ((0 + 0 < 2 ^ 63 ∧ Builtin.nextslicecap (0 + 0) 0 * bytes ≤ 2 ^ 48) ∧ rdN H (some ⟨b0, 0, none⟩) (0 * El.w α) fun old => ∀ c' b, 0 + 0 ≤ c' → c' < 2 ^ 63 → H b = none → K (some ⟨b, 0, none⟩) (0 + 0) c' (H.upd b ⟨old ++ [] ++ zr (c' - (0 + 0)) ks, e⟩))) := by
      refine ⟨fun v hv => (by cases hv), ?_⟩
      rw [if_pos (by omega)]
      refine ⟨_, e0, ⟨by simp, ht⟩, k _ _ _ ⟨Nat.le_refl _, by decide, .inr ⟨b0, 0, _, rfl, upd_same, ⟨by simp, ht⟩, fun i hi => by omega⟩⟩ (Step.wr e0 rfl) fun b hb => .inl (fpS_mk.1 hb)⟩
    simp only [Nat.zero_mul]
    rcases ha with rfl | ⟨b, o, x, rfl, hx, hl⟩
    · refine ⟨rfl, ?_⟩
      have := fin
      simp only [Nat.zero_mul] at this
      exact this
    · refine ⟨x, hx, by omega, ?_⟩
      rw [List.take_zero]
      have := fin
      simp only [Nat.zero_mul] at this
      exact this
  · obtain ⟨b, o, rfl, _⟩ := h2 0 hm0
    have hb := h2.live (b := b) ⟨o, rfl⟩ hm0
    cases hx : H b with
    | none => exact (hb hx).elim
    | some x =>
      have get : ∀ i, i < m → ∀ j, j < El.w α → x.cells[o + i * El.w α + j]? = (El.enc (g i))[j]? := fun i hi j hj => by
        obtain ⟨b', o', e', hg⟩ := h2 i hi
        cases e'
        have := hg j hj
        simpa [Hp.get, hx] using this
      have hl : o + m * El.w α ≤ x.cells.length := by
        have h1 := get (m - 1) (by omega) (El.w α - 1) (by omega)
        have hl1 := El.len (g (m - 1))
        rw [List.getElem?_eq_getElem (by omega : El.w α - 1 < (El.enc (g (m - 1))).length)] at h1
        obtain ⟨h3, _⟩ := List.getElem?_eq_some_iff.1 h1
        have h4 : (m - 1) * El.w α + El.w α = m * El.w α := by rw [← Nat.succ_mul]; congr 1; omega
        omega
      have hsl : ((x.cells.drop o).take (m * El.w α)).length = m * El.w α := by simp; omega
      have hsg : ∀ i, i < m → ∀ j, j < El.w α → ((x.cells.drop o).take (m * El.w α))[i * El.w α + j]? = (El.enc (g i))[j]? := fun i hi j hj => by
        have : (i + 1) * El.w α ≤ m * El.w α := Nat.mul_le_mul_right _ hi
        rw [Nat.add_mul] at this
        rw [List.getElem?_take_of_lt (by omega), List.getElem?_drop, ← Nat.add_assoc]
        exact get i hi j hj
      refine ⟨x, hx, hl, src_one hsl hsg, ?_⟩
      rw [if_neg (by omega)]
      have hroom := room_fine (0 + m) 0 (by omega)
      refine ⟨⟨by omega, Nat.le_trans (Nat.mul_le_mul_right _ (by omega)) hm⟩, ⟨_, e0, by simp, fun c' b' hc' hc2 hb' => ?_⟩⟩
      rw [Nat.zero_add] at hc' ⊢
      refine k _ _ _ ⟨hc', hc2, .inr ⟨b', 0, _, rfl, upd_same, ⟨?_, rfl⟩, ?_⟩⟩ (Step.new hb') fun y hy => .inr (by rw [fpS_mk.1 hy]; exact hb')
      · have : m * El.w α ≤ c' * El.w α := Nat.mul_le_mul_right _ hc'
        simp only [List.drop_nil, List.take_nil, List.nil_append, List.length_append, hsl, zr_length, hk, Nat.sub_mul]
        omega
      · intro i hi j hj
        have : (i + 1) * El.w α ≤ m * El.w α := Nat.mul_le_mul_right _ hi
        rw [Nat.add_mul] at this
        simp only [List.drop_nil, List.take_nil, List.nil_append, Nat.zero_add]
        rw [List.getElem?_append_left (by rw [hsl]; omega)]
        exact hsg i hi j hj
end Go.Mz
