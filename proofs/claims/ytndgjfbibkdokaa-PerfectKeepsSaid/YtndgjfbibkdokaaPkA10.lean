/-
  Joined: TbW.
-/
import Derived.Test.YtndgjfbibkdokaaPkA08
import Derived.Test.YtndgjfbibkdokaaMzW
set_option linter.unusedSimpArgs false
set_option linter.unusedVariables false
/-
  What the reading of a table, as an argument, tells of its cells. It proves nothing of the program by itself.
-/
namespace Go.Mz
open Go.RowKit
instance:Inhabited Sl:=⟨⟨none,0,0⟩⟩
theorem tab_of {w:World} {dp:OA} {dn dc:Nat} (hd:SlR (β:=Sl) (fun w a=>SlR (β:=Int) (fun _ n=>rng64 n) w a) w ⟨dp,dn,dc⟩):dn<2 ^ 63∧∃dl row,TabR (hp w) dp dn dl row:=by
  obtain ⟨h3,h4,f,hf,hq⟩:=hd
  simp only at h3 h4 hf hq
  unfold maxLen at h4
  have each:∀i,∃g:Nat→Int,i<dn→Rdr (hp w) (f i).p (f i).n g∧(f i).n<2 ^ 63:=fun i=>by
    by_cases hi:i<dn
    · obtain ⟨a1,a2,g,hg,_⟩:=hq i hi
      unfold maxLen at a2
      exact ⟨g,fun _=>⟨hg,by omega⟩⟩
    · exact ⟨fun _=>0,fun h=>(hi h).elim⟩
  obtain ⟨row,hrow⟩:=Classical.axiomOfChoice each
  exact ⟨by omega,f,row,hf,fun i hi=>hrow i hi⟩
end Go.Mz
