/-
  Rows out of lists that are written down.
-/
import Derived.Test.YtmaeboaopebaiaaMzU
set_option linter.unusedSimpArgs false
set_option linter.unusedVariables false
namespace Go.Mz

theorem row_ls {H : Hp} {b : Nat} {l : List Int} {t : BT} (e : H b = some ⟨l.map (Value.int .i64), t⟩) (ht : t.fz = (0, 0)) (hl : l.length < 2 ^ 63) : Row H (some ⟨b, 0, none⟩) l.length l.length (fun i => l[i]?.getD 0) := by
  refine ⟨Nat.le_refl _, hl, .inr ⟨b, 0, _, rfl, e, ⟨by simp [El.w], ht⟩, fun i hi j hj => ?_⟩⟩
  have : j = 0 := by have : El.w Int = 1 := rfl; omega
  subst this
  have hw : El.w Int = 1 := rfl
  rw [hw]
  simp [El.enc, hi]

end Go.Mz
