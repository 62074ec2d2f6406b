/-
  What the reading of a slice, as an argument, tells. It proves nothing of the program by itself.
-/
import Derived.Test.YthcehonpfnmpiaaGreatMzW
set_option linter.unusedSimpArgs false
set_option linter.unusedVariables false
namespace Go.Mz
open Go.RowKit

/-- a slice of numbers or edges: so long at most, and each element -/
theorem sl_of' {β : Type} [El β] {Q : World → β → Prop} {w : World} {p : Option Addr} {n c : Nat} (h : SlR Q w ⟨p, n, c⟩) : n < 2 ^ 63 ∧ ∃ f : Nat → β, Rdr (hp w) p n f := by
  obtain ⟨h1, h2, f, hf, _⟩ := h
  simp only at h1 h2 hf
  unfold maxLen at h2
  exact ⟨by omega, f, hf⟩

/-- an array of two -/
theorem TyR.arr2 {P : Program} {t e : TypeId} {α : Type} [El α] {Q : World → α → Prop} (ht : P.underlying t = some (.array 2 e)) (hw : P.cellsOf t = El.w α + El.w α) (he : TyR P e α Q) : TyR P t (α × α) (fun w a => Q w a.1 ∧ Q w a.2) :=
  ⟨hw, fun enc w base sp held fuel cs x hx => by
    obtain ⟨xs, m, _, _, hl, hlen, hf⟩ := DataW.trod_array ht hx
    have h0 := hf 0 (by decide)
    have h1 := hf 1 (by decide)
    rw [List.getElem?_eq_getElem (by omega)] at h0 h1
    obtain ⟨a, ha, qa⟩ := he.read _ _ _ _ _ _ _ _ h0
    obtain ⟨b, hb, qb⟩ := he.read _ _ _ _ _ _ _ _ h1
    refine ⟨(a, b), ?_, qa, qb⟩
    show cs = El.enc a ++ El.enc b
    rw [← ha, ← hb, he.w, Nat.zero_mul, Nat.one_mul, List.drop_zero, List.take_of_length_le (l := cs.drop _) (by simp; omega), List.take_append_drop]⟩

theorem okWide_array {P : Program} {w : World} {r : Reach} {base n : Nat} {t e : TypeId} {v : Value} (ht : P.underlying t = some (.array n e)) (h : Value.okWide P w r base t v) : ∃ cs, v = .agg cs ∧ cs.size = P.cellsOf t := by
  simp only [Value.okWide, ht] at h
  obtain ⟨cs, h1, h2, _⟩ := h
  exact ⟨cs, h1, h2⟩
end Go.Mz
