/-
  What the reading of a slice, as an argument, tells. It proves nothing of the program by itself.
-/
import Derived.Test.YtndgjfbibkdokaaMzW
set_option linter.unusedSimpArgs false
set_option linter.unusedVariables false
namespace Go.Mz
open Go.RowKit
theorem sl_of' {β:Type} [El β] {Q:World→β→Prop} {w:World} {p:OA} {n c:Nat} (h:SlR Q w ⟨p,n,c⟩):n<2 ^ 63∧∃f:Nat→β,Rdr (hp w) p n f:=by
  obtain ⟨h1,h2,f,hf,_⟩:=h
  simp only at h1 h2 hf
  unfold maxLen at h2
  exact ⟨by omega,f,hf⟩
end Go.Mz
