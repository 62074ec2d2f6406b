/-
  What the reading of duals and of metrics, as arguments, tells of their cells. It proves nothing of the program by itself.
-/
import Derived.Test.YtjdhhepphbhjgaaPkX
import Derived.Test.YtjdhhepphbhjgaaMzW
set_option linter.unusedSimpArgs false
set_option linter.unusedVariables false
namespace Go.Mz
open Go.RowKit

instance : Inhabited Sl := ⟨⟨none, 0, 0⟩⟩

theorem dual_of {w : World} {yp : Option Addr} {yn yc : Nat} {sp : Option Addr} {sn sc : Nat} (hy : SlR (β := Int) (fun _ n => rng64 n) w ⟨yp, yn, yc⟩) (hs : SlR (β := Sl × Int) (fun w a => SlR (β := Int) (fun _ n => rng64 n) w a.1 ∧ rng64 a.2) w ⟨sp, sn, sc⟩) :
    yn < 2 ^ 63 ∧ sn < 2 ^ 63 ∧ ∃ Y z sl nd, DualR (hp w) yp yn sp sn Y z sl nd := by
  obtain ⟨h1, h2, Y, hY, _⟩ := hy
  obtain ⟨h3, h4, f, hf, hq⟩ := hs
  simp only at h1 h2 h3 h4 hY hf hq
  unfold maxLen at h2 h4
  have each : ∀ i, ∃ g : Nat → Int, i < sn → Rdr (hp w) (f i).1.p (f i).1.n g ∧ (f i).1.n < 2 ^ 63 := fun i => by
    by_cases hi : i < sn
    · obtain ⟨⟨a1, a2, g, hg, _⟩, _⟩ := hq i hi
      unfold maxLen at a2
      exact ⟨g, fun _ => ⟨hg, by omega⟩⟩
    · exact ⟨fun _ => 0, fun h => (hi h).elim⟩
  obtain ⟨nd, hnd⟩ := Classical.axiomOfChoice each
  exact ⟨by omega, by omega, Y, fun i => (f i).2, fun i => (f i).1, nd, hY, hf, fun i hi => hnd i hi⟩

theorem dist_of {w : World} {dp : Option Addr} {dn dc : Nat} (hd : SlR (β := Sl) (fun w a => SlR (β := Int) (fun _ n => rng64 n) w a) w ⟨dp, dn, dc⟩) : dn < 2 ^ 63 ∧ ∃ dl row, DistR (hp w) dp dn dl row := by
  obtain ⟨h3, h4, f, hf, hq⟩ := hd
  simp only at h3 h4 hf hq
  unfold maxLen at h4
  have each : ∀ i, ∃ g : Nat → Int, i < dn → Rdr (hp w) (f i).p (f i).n g ∧ (f i).n < 2 ^ 63 := fun i => by
    by_cases hi : i < dn
    · obtain ⟨a1, a2, g, hg, _⟩ := hq i hi
      unfold maxLen at a2
      exact ⟨g, fun _ => ⟨hg, by omega⟩⟩
    · exact ⟨fun _ => 0, fun h => (hi h).elim⟩
  obtain ⟨row, hrow⟩ := Classical.axiomOfChoice each
  exact ⟨by omega, f, row, hf, fun i hi => hrow i hi⟩

/-- a slice of numbers or edges: so long at most, and each element -/
theorem sl_of {β : Type} [El β] {Q : World → β → Prop} {w : World} {p : Option Addr} {n c : Nat} (h : SlR Q w ⟨p, n, c⟩) : n < 2 ^ 63 ∧ ∃ f : Nat → β, Rdr (hp w) p n f := by
  obtain ⟨h1, h2, f, hf, _⟩ := h
  simp only at h1 h2 hf
  unfold maxLen at h2
  exact ⟨by omega, f, hf⟩
end Go.Mz
