/-
  No cell of these rows narrows 'for every input' (looked for: loops, veiled, ifaces, maps, wideKeys, modest, calm, conditions, laid).
  DERIVED. THE GIVEN ROWS OF THIS SEAT. 6 by the template 'for every input the law returns true; each argument reads behind the call as it read before'; 0 by the template 'total and deterministic' (their statements: YtbocpfdlfnodfaaTotals.lean).
  GIVEN WITH THE SEED: the statements are not yours to turn. If you find one false, say at which input.
  Laid BY PROGRAM, IN A SANDBOX (cutbox-rows.mjs): the forced cells as the released guide's own fill.sh prints them over the translation a482cb00cd3d8045… (all of the seat's roots in one cut). By AI agents, Wed Nov 11 2026. No macro, syntax, notation, axiom, sorry.
-/
import Derived.Test.YtbocpfdlfnodfaaChecked
import GoSem.Claim
import GoSem.ClaimJoined
import GoSem.ClaimMapViews
import Derived.JoinedTies
import Derived.KernelRfl
namespace Go.Proofs.Ytbocpfdlfnodfaa
/- THE CELL 'sum', in the pinned program and in every row, IS THE sha256 OF THE DUMP (.gsa) THAT YtbocpfdlfnodfaaProg.lean LOADS. Nothing in Lean hashes anything: it is a label: what it is worth is what the hold of that sum in a sandbox is worth. -/
noncomputable def Try.pinned : Pinned := { name := "ytbocpfdlfnodfaa", sum := "a482cb00cd3d8045828bd73808b282e01b1a45b21a451bd33edd95d721759494", checked := Try.checked }
namespace Rows
def none {H : Type} : Left H := { results := [], args := [] }

/-- 'compasslaw19.ManySolves': WHATEVER THE INPUT: true; the input reads as it did. -/
def manySolvesSpec : ChangeSpec := { name := "manySolves", fn := fun _ => fun
  | [d1, d2] => { results := [.lit (.bool true)], args := [d1, d2] }
  | _ => none }
def manySolvesRow : OpenClaim := { program := "ytbocpfdlfnodfaa", sum := "a482cb00cd3d8045828bd73808b282e01b1a45b21a451bd33edd95d721759494", func := "compass/compasslaw19.ManySolves", spec := "manySolves", unfollowed := true, recurses := true, apart := false }
def ManySolvesSaid : Prop := manySolvesRow.holds Try.pinned (OpenSpec.ofChange manySolvesSpec)

/-- ITS FALSE NEIGHBOUR: 'it returns false'. Refute it at one input. -/
def manySolvesWrong : ChangeSpec := { name := "manySolves", fn := fun _ => fun
  | [d1, d2] => { results := [.lit (.bool false)], args := [d1, d2] }
  | _ => none }
def ManySolvesWrongFalsely : Prop := manySolvesRow.holds Try.pinned (OpenSpec.ofChange manySolvesWrong)

/-- 'compasslaw19.ManySmall': WHATEVER THE INPUT: true; the input reads as it did. -/
def manySmallSpec : ChangeSpec := { name := "manySmall", fn := fun _ => fun
  | [d1, d2] => { results := [.lit (.bool true)], args := [d1, d2] }
  | _ => none }
def manySmallRow : OpenClaim := { program := "ytbocpfdlfnodfaa", sum := "a482cb00cd3d8045828bd73808b282e01b1a45b21a451bd33edd95d721759494", func := "compass/compasslaw19.ManySmall", spec := "manySmall", unfollowed := true, recurses := true, apart := false }
def ManySmallSaid : Prop := manySmallRow.holds Try.pinned (OpenSpec.ofChange manySmallSpec)

/-- ITS FALSE NEIGHBOUR: 'it returns false'. Refute it at one input. -/
def manySmallWrong : ChangeSpec := { name := "manySmall", fn := fun _ => fun
  | [d1, d2] => { results := [.lit (.bool false)], args := [d1, d2] }
  | _ => none }
def ManySmallWrongFalsely : Prop := manySmallRow.holds Try.pinned (OpenSpec.ofChange manySmallWrong)

/-- 'compasslaw19.ManyGrows': WHATEVER THE INPUT: true; the input reads as it did. -/
def manyGrowsSpec : ChangeSpec := { name := "manyGrows", fn := fun _ => fun
  | [d1, d2, d3] => { results := [.lit (.bool true)], args := [d1, d2, d3] }
  | _ => none }
def manyGrowsRow : OpenClaim := { program := "ytbocpfdlfnodfaa", sum := "a482cb00cd3d8045828bd73808b282e01b1a45b21a451bd33edd95d721759494", func := "compass/compasslaw19.ManyGrows", spec := "manyGrows", unfollowed := true, recurses := true, apart := false }
def ManyGrowsSaid : Prop := manyGrowsRow.holds Try.pinned (OpenSpec.ofChange manyGrowsSpec)

/-- ITS FALSE NEIGHBOUR: 'it returns false'. Refute it at one input. -/
def manyGrowsWrong : ChangeSpec := { name := "manyGrows", fn := fun _ => fun
  | [d1, d2, d3] => { results := [.lit (.bool false)], args := [d1, d2, d3] }
  | _ => none }
def ManyGrowsWrongFalsely : Prop := manyGrowsRow.holds Try.pinned (OpenSpec.ofChange manyGrowsWrong)

/-- 'compasslaw19.ManyProved': WHATEVER THE INPUT: true; the input reads as it did. -/
def manyProvedSpec : ChangeSpec := { name := "manyProved", fn := fun _ => fun
  | [d1, d2] => { results := [.lit (.bool true)], args := [d1, d2] }
  | _ => none }
def manyProvedRow : OpenClaim := { program := "ytbocpfdlfnodfaa", sum := "a482cb00cd3d8045828bd73808b282e01b1a45b21a451bd33edd95d721759494", func := "compass/compasslaw19.ManyProved", spec := "manyProved", unfollowed := true, recurses := true, apart := false }
def ManyProvedSaid : Prop := manyProvedRow.holds Try.pinned (OpenSpec.ofChange manyProvedSpec)

/-- ITS FALSE NEIGHBOUR: 'it returns false'. Refute it at one input. -/
def manyProvedWrong : ChangeSpec := { name := "manyProved", fn := fun _ => fun
  | [d1, d2] => { results := [.lit (.bool false)], args := [d1, d2] }
  | _ => none }
def ManyProvedWrongFalsely : Prop := manyProvedRow.holds Try.pinned (OpenSpec.ofChange manyProvedWrong)

/-- 'compasslaw19.ManyKeeps': WHATEVER THE INPUT: true; the input reads as it did. -/
def manyKeepsSpec : ChangeSpec := { name := "manyKeeps", fn := fun _ => fun
  | [d1, d2] => { results := [.lit (.bool true)], args := [d1, d2] }
  | _ => none }
def manyKeepsRow : OpenClaim := { program := "ytbocpfdlfnodfaa", sum := "a482cb00cd3d8045828bd73808b282e01b1a45b21a451bd33edd95d721759494", func := "compass/compasslaw19.ManyKeeps", spec := "manyKeeps", unfollowed := true, recurses := true, apart := false }
def ManyKeepsSaid : Prop := manyKeepsRow.holds Try.pinned (OpenSpec.ofChange manyKeepsSpec)

/-- ITS FALSE NEIGHBOUR: 'it returns false'. Refute it at one input. -/
def manyKeepsWrong : ChangeSpec := { name := "manyKeeps", fn := fun _ => fun
  | [d1, d2] => { results := [.lit (.bool false)], args := [d1, d2] }
  | _ => none }
def ManyKeepsWrongFalsely : Prop := manyKeepsRow.holds Try.pinned (OpenSpec.ofChange manyKeepsWrong)

/-- 'compasstop.WholeMany': WHATEVER THE INPUT: true; the input reads as it did. -/
def wholeManySpec : ChangeSpec := { name := "wholeMany", fn := fun _ => fun
  | [d1, d2] => { results := [.lit (.bool true)], args := [d1, d2] }
  | _ => none }
def wholeManyRow : OpenClaim := { program := "ytbocpfdlfnodfaa", sum := "a482cb00cd3d8045828bd73808b282e01b1a45b21a451bd33edd95d721759494", func := "compass/compasstop.WholeMany", spec := "wholeMany", unfollowed := true, recurses := true, apart := false }
def WholeManySaid : Prop := wholeManyRow.holds Try.pinned (OpenSpec.ofChange wholeManySpec)

/-- ITS FALSE NEIGHBOUR: 'it returns false'. Refute it at one input. -/
def wholeManyWrong : ChangeSpec := { name := "wholeMany", fn := fun _ => fun
  | [d1, d2] => { results := [.lit (.bool false)], args := [d1, d2] }
  | _ => none }
def WholeManyWrongFalsely : Prop := wholeManyRow.holds Try.pinned (OpenSpec.ofChange wholeManyWrong)

/- THE SECOND FORM. 'bulk': how many values and letters a reading holds, each counted each time it is reached (what is shared counts as often as it is met; a slice's spare places count too). A statement '..UptoSaid' is the law's where the arguments, and the package variables that the reading takes, are together of bulk at most 1048576: NARROWER than '..Said'. Prove '..Said' where nothing that the law and all that it calls make is longer than what came in: it says more and counts as full. Else prove '..UptoSaid'. A law counts once. -/
mutual
def uptoBulk {H : Type} : DataW H → Nat
  | .lit (.string bytes) => bytes.length + 1
  | .lit _ => 1
  | .nil => 1
  | .ptr d => uptoBulk d + 1
  | .slice elems spare => uptoBulkAll elems + uptoBulkAll spare + 1
  | .agg parts => uptoBulkAll parts + 1
  | .iface _ d => uptoBulk d + 1
  | .map entries => uptoBulkEntries entries + 1
  | .held _ => 1
def uptoBulkAll {H : Type} : List (DataW H) → Nat
  | [] => 0
  | d :: r => uptoBulk d + uptoBulkAll r
def uptoBulkEntries {H : Type} : List (Lit × DataW H) → Nat
  | [] => 0
  | x :: r => uptoBulkEntry x + uptoBulkEntries r
def uptoBulkEntry {H : Type} : Lit × DataW H → Nat
  | (.string bytes, d) => bytes.length + uptoBulk d + 1
  | (_, d) => uptoBulk d + 1
 end
def uptoSmall : (H : Type) → List (DataW H) → Bool := fun _ ds => decide (uptoBulkAll ds ≤ 1048576)
def OpenSpec.upto (s : _root_.Go.ChangeSpec) : _root_.Go.OpenSpec := { _root_.Go.OpenSpec.ofChange s with cond := some uptoSmall }

/-- 'compasslaw19.ManySolves', WHERE WHAT IT READS IS OF BULK AT MOST 1048576: true; the input reads as it did. -/
def manySolvesUptoRow : OpenClaim := { program := "ytbocpfdlfnodfaa", sum := "a482cb00cd3d8045828bd73808b282e01b1a45b21a451bd33edd95d721759494", func := "compass/compasslaw19.ManySolves", spec := "manySolves", unfollowed := true, recurses := true, apart := false, narrowed := true }
def ManySolvesUptoSaid : Prop := manySolvesUptoRow.holds Try.pinned (OpenSpec.upto manySolvesSpec)

/-- 'compasslaw19.ManySmall', WHERE WHAT IT READS IS OF BULK AT MOST 1048576: true; the input reads as it did. -/
def manySmallUptoRow : OpenClaim := { program := "ytbocpfdlfnodfaa", sum := "a482cb00cd3d8045828bd73808b282e01b1a45b21a451bd33edd95d721759494", func := "compass/compasslaw19.ManySmall", spec := "manySmall", unfollowed := true, recurses := true, apart := false, narrowed := true }
def ManySmallUptoSaid : Prop := manySmallUptoRow.holds Try.pinned (OpenSpec.upto manySmallSpec)

/-- 'compasslaw19.ManyGrows', WHERE WHAT IT READS IS OF BULK AT MOST 1048576: true; the input reads as it did. -/
def manyGrowsUptoRow : OpenClaim := { program := "ytbocpfdlfnodfaa", sum := "a482cb00cd3d8045828bd73808b282e01b1a45b21a451bd33edd95d721759494", func := "compass/compasslaw19.ManyGrows", spec := "manyGrows", unfollowed := true, recurses := true, apart := false, narrowed := true }
def ManyGrowsUptoSaid : Prop := manyGrowsUptoRow.holds Try.pinned (OpenSpec.upto manyGrowsSpec)

/-- 'compasslaw19.ManyProved', WHERE WHAT IT READS IS OF BULK AT MOST 1048576: true; the input reads as it did. -/
def manyProvedUptoRow : OpenClaim := { program := "ytbocpfdlfnodfaa", sum := "a482cb00cd3d8045828bd73808b282e01b1a45b21a451bd33edd95d721759494", func := "compass/compasslaw19.ManyProved", spec := "manyProved", unfollowed := true, recurses := true, apart := false, narrowed := true }
def ManyProvedUptoSaid : Prop := manyProvedUptoRow.holds Try.pinned (OpenSpec.upto manyProvedSpec)

/-- 'compasslaw19.ManyKeeps', WHERE WHAT IT READS IS OF BULK AT MOST 1048576: true; the input reads as it did. -/
def manyKeepsUptoRow : OpenClaim := { program := "ytbocpfdlfnodfaa", sum := "a482cb00cd3d8045828bd73808b282e01b1a45b21a451bd33edd95d721759494", func := "compass/compasslaw19.ManyKeeps", spec := "manyKeeps", unfollowed := true, recurses := true, apart := false, narrowed := true }
def ManyKeepsUptoSaid : Prop := manyKeepsUptoRow.holds Try.pinned (OpenSpec.upto manyKeepsSpec)

/-- 'compasstop.WholeMany', WHERE WHAT IT READS IS OF BULK AT MOST 1048576: true; the input reads as it did. -/
def wholeManyUptoRow : OpenClaim := { program := "ytbocpfdlfnodfaa", sum := "a482cb00cd3d8045828bd73808b282e01b1a45b21a451bd33edd95d721759494", func := "compass/compasstop.WholeMany", spec := "wholeMany", unfollowed := true, recurses := true, apart := false, narrowed := true }
def WholeManyUptoSaid : Prop := wholeManyUptoRow.holds Try.pinned (OpenSpec.upto wholeManySpec)

end Rows
end Go.Proofs.Ytbocpfdlfnodfaa
