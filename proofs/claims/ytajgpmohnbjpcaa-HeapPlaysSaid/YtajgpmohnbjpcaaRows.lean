/-
  No cell of these rows narrows 'for every input' (looked for: loops, veiled, ifaces, maps, wideKeys, modest, calm, conditions, laid).
  DERIVED. THE GIVEN ROWS OF THIS SEAT. 11 by the template 'for every input the law returns true; each argument reads behind the call as it read before'; 0 by the template 'total and deterministic' (their statements: YtajgpmohnbjpcaaTotals.lean).
  GIVEN WITH THE SEED: the statements are not yours to turn. If you find one false, say at which input.
  Laid BY PROGRAM, IN A SANDBOX (cutbox-rows.mjs): the forced cells as the released guide's own fill.sh prints them over the translation 1c8b3bafa527a4f7… (all of the seat's roots in one cut). By AI agents, Wed Nov 11 2026. No macro, syntax, notation, axiom, sorry.
-/
import Derived.Test.YtajgpmohnbjpcaaChecked
import GoSem.Claim
import GoSem.ClaimJoined
import GoSem.ClaimMapViews
import Derived.JoinedTies
import Derived.KernelRfl
namespace Go.Proofs.Ytajgpmohnbjpcaa
/- THE CELL 'sum', in the pinned program and in every row, IS THE sha256 OF THE DUMP (.gsa) THAT YtajgpmohnbjpcaaProg.lean LOADS. Nothing in Lean hashes anything: it is a label: what it is worth is what the hold of that sum in a sandbox is worth. -/
noncomputable def Try.pinned : Pinned := { name := "ytajgpmohnbjpcaa", sum := "1c8b3bafa527a4f7a570014dc34b00a7f7deff7b39ae3e1d8690f588755f192b", checked := Try.checked }
namespace Rows
def none {H : Type} : Left H := { results := [], args := [] }

/-- 'compasslaw05.HeapSorts': WHATEVER THE INPUT: true; the input reads as it did. -/
def heapSortsSpec : ChangeSpec := { name := "heapSorts", fn := fun _ => fun
  | [d1, d2] => { results := [.lit (.bool true)], args := [d1, d2] }
  | _ => none }
def heapSortsRow : OpenClaim := { program := "ytajgpmohnbjpcaa", sum := "1c8b3bafa527a4f7a570014dc34b00a7f7deff7b39ae3e1d8690f588755f192b", func := "compass/compasslaw05.HeapSorts", spec := "heapSorts", unfollowed := true, recurses := true, apart := false }
def HeapSortsSaid : Prop := heapSortsRow.holds Try.pinned (OpenSpec.ofChange heapSortsSpec)

/-- ITS FALSE NEIGHBOUR: 'it returns false'. Refute it at one input. -/
def heapSortsWrong : ChangeSpec := { name := "heapSorts", fn := fun _ => fun
  | [d1, d2] => { results := [.lit (.bool false)], args := [d1, d2] }
  | _ => none }
def HeapSortsWrongFalsely : Prop := heapSortsRow.holds Try.pinned (OpenSpec.ofChange heapSortsWrong)

/-- 'compasslaw05.HeapAlike': WHATEVER THE INPUT: true; the input reads as it did. -/
def heapAlikeSpec : ChangeSpec := { name := "heapAlike", fn := fun _ => fun
  | [d1, d2, d3] => { results := [.lit (.bool true)], args := [d1, d2, d3] }
  | _ => none }
def heapAlikeRow : OpenClaim := { program := "ytajgpmohnbjpcaa", sum := "1c8b3bafa527a4f7a570014dc34b00a7f7deff7b39ae3e1d8690f588755f192b", func := "compass/compasslaw05.HeapAlike", spec := "heapAlike", unfollowed := true, recurses := true, apart := false }
def HeapAlikeSaid : Prop := heapAlikeRow.holds Try.pinned (OpenSpec.ofChange heapAlikeSpec)

/-- ITS FALSE NEIGHBOUR: 'it returns false'. Refute it at one input. -/
def heapAlikeWrong : ChangeSpec := { name := "heapAlike", fn := fun _ => fun
  | [d1, d2, d3] => { results := [.lit (.bool false)], args := [d1, d2, d3] }
  | _ => none }
def HeapAlikeWrongFalsely : Prop := heapAlikeRow.holds Try.pinned (OpenSpec.ofChange heapAlikeWrong)

/-- 'compasslaw05.HeapPlays': WHATEVER THE INPUT: true; the input reads as it did. -/
def heapPlaysSpec : ChangeSpec := { name := "heapPlays", fn := fun _ => fun
  | [d1, d2, d3] => { results := [.lit (.bool true)], args := [d1, d2, d3] }
  | _ => none }
def heapPlaysRow : OpenClaim := { program := "ytajgpmohnbjpcaa", sum := "1c8b3bafa527a4f7a570014dc34b00a7f7deff7b39ae3e1d8690f588755f192b", func := "compass/compasslaw05.HeapPlays", spec := "heapPlays", unfollowed := true, recurses := true, apart := false }
def HeapPlaysSaid : Prop := heapPlaysRow.holds Try.pinned (OpenSpec.ofChange heapPlaysSpec)

/-- ITS FALSE NEIGHBOUR: 'it returns false'. Refute it at one input. -/
def heapPlaysWrong : ChangeSpec := { name := "heapPlays", fn := fun _ => fun
  | [d1, d2, d3] => { results := [.lit (.bool false)], args := [d1, d2, d3] }
  | _ => none }
def HeapPlaysWrongFalsely : Prop := heapPlaysRow.holds Try.pinned (OpenSpec.ofChange heapPlaysWrong)

/-- 'compasslaw05.HeapLowers': WHATEVER THE INPUT: true; the input reads as it did. -/
def heapLowersSpec : ChangeSpec := { name := "heapLowers", fn := fun _ => fun
  | [d1, d2, d3] => { results := [.lit (.bool true)], args := [d1, d2, d3] }
  | _ => none }
def heapLowersRow : OpenClaim := { program := "ytajgpmohnbjpcaa", sum := "1c8b3bafa527a4f7a570014dc34b00a7f7deff7b39ae3e1d8690f588755f192b", func := "compass/compasslaw05.HeapLowers", spec := "heapLowers", unfollowed := true, recurses := true, apart := false }
def HeapLowersSaid : Prop := heapLowersRow.holds Try.pinned (OpenSpec.ofChange heapLowersSpec)

/-- ITS FALSE NEIGHBOUR: 'it returns false'. Refute it at one input. -/
def heapLowersWrong : ChangeSpec := { name := "heapLowers", fn := fun _ => fun
  | [d1, d2, d3] => { results := [.lit (.bool false)], args := [d1, d2, d3] }
  | _ => none }
def HeapLowersWrongFalsely : Prop := heapLowersRow.holds Try.pinned (OpenSpec.ofChange heapLowersWrong)

/-- 'compasslaw08.ShortTrees': WHATEVER THE INPUT: true; the input reads as it did. -/
def shortTreesSpec : ChangeSpec := { name := "shortTrees", fn := fun _ => fun
  | [d1, d2, d3] => { results := [.lit (.bool true)], args := [d1, d2, d3] }
  | _ => none }
def shortTreesRow : OpenClaim := { program := "ytajgpmohnbjpcaa", sum := "1c8b3bafa527a4f7a570014dc34b00a7f7deff7b39ae3e1d8690f588755f192b", func := "compass/compasslaw08.ShortTrees", spec := "shortTrees", unfollowed := true, recurses := true, apart := false }
def ShortTreesSaid : Prop := shortTreesRow.holds Try.pinned (OpenSpec.ofChange shortTreesSpec)

/-- ITS FALSE NEIGHBOUR: 'it returns false'. Refute it at one input. -/
def shortTreesWrong : ChangeSpec := { name := "shortTrees", fn := fun _ => fun
  | [d1, d2, d3] => { results := [.lit (.bool false)], args := [d1, d2, d3] }
  | _ => none }
def ShortTreesWrongFalsely : Prop := shortTreesRow.holds Try.pinned (OpenSpec.ofChange shortTreesWrong)

/-- 'compasslaw08.ShortBellmans': WHATEVER THE INPUT: true; the input reads as it did. -/
def shortBellmansSpec : ChangeSpec := { name := "shortBellmans", fn := fun _ => fun
  | [d1, d2] => { results := [.lit (.bool true)], args := [d1, d2] }
  | _ => none }
def shortBellmansRow : OpenClaim := { program := "ytajgpmohnbjpcaa", sum := "1c8b3bafa527a4f7a570014dc34b00a7f7deff7b39ae3e1d8690f588755f192b", func := "compass/compasslaw08.ShortBellmans", spec := "shortBellmans", unfollowed := true, recurses := true, apart := false }
def ShortBellmansSaid : Prop := shortBellmansRow.holds Try.pinned (OpenSpec.ofChange shortBellmansSpec)

/-- ITS FALSE NEIGHBOUR: 'it returns false'. Refute it at one input. -/
def shortBellmansWrong : ChangeSpec := { name := "shortBellmans", fn := fun _ => fun
  | [d1, d2] => { results := [.lit (.bool false)], args := [d1, d2] }
  | _ => none }
def ShortBellmansWrongFalsely : Prop := shortBellmansRow.holds Try.pinned (OpenSpec.ofChange shortBellmansWrong)

/-- 'compasslaw08.ShortWays': WHATEVER THE INPUT: true; the input reads as it did. -/
def shortWaysSpec : ChangeSpec := { name := "shortWays", fn := fun _ => fun
  | [d1, d2, d3] => { results := [.lit (.bool true)], args := [d1, d2, d3] }
  | _ => none }
def shortWaysRow : OpenClaim := { program := "ytajgpmohnbjpcaa", sum := "1c8b3bafa527a4f7a570014dc34b00a7f7deff7b39ae3e1d8690f588755f192b", func := "compass/compasslaw08.ShortWays", spec := "shortWays", unfollowed := true, recurses := true, apart := false }
def ShortWaysSaid : Prop := shortWaysRow.holds Try.pinned (OpenSpec.ofChange shortWaysSpec)

/-- ITS FALSE NEIGHBOUR: 'it returns false'. Refute it at one input. -/
def shortWaysWrong : ChangeSpec := { name := "shortWays", fn := fun _ => fun
  | [d1, d2, d3] => { results := [.lit (.bool false)], args := [d1, d2, d3] }
  | _ => none }
def ShortWaysWrongFalsely : Prop := shortWaysRow.holds Try.pinned (OpenSpec.ofChange shortWaysWrong)

/-- 'compasslaw08.ShortAlike': WHATEVER THE INPUT: true; the input reads as it did. -/
def shortAlikeSpec : ChangeSpec := { name := "shortAlike", fn := fun _ => fun
  | [d1, d2, d3] => { results := [.lit (.bool true)], args := [d1, d2, d3] }
  | _ => none }
def shortAlikeRow : OpenClaim := { program := "ytajgpmohnbjpcaa", sum := "1c8b3bafa527a4f7a570014dc34b00a7f7deff7b39ae3e1d8690f588755f192b", func := "compass/compasslaw08.ShortAlike", spec := "shortAlike", unfollowed := true, recurses := true, apart := false }
def ShortAlikeSaid : Prop := shortAlikeRow.holds Try.pinned (OpenSpec.ofChange shortAlikeSpec)

/-- ITS FALSE NEIGHBOUR: 'it returns false'. Refute it at one input. -/
def shortAlikeWrong : ChangeSpec := { name := "shortAlike", fn := fun _ => fun
  | [d1, d2, d3] => { results := [.lit (.bool false)], args := [d1, d2, d3] }
  | _ => none }
def ShortAlikeWrongFalsely : Prop := shortAlikeRow.holds Try.pinned (OpenSpec.ofChange shortAlikeWrong)

/-- 'compasslaw08.ShortPotentials': WHATEVER THE INPUT: true; the input reads as it did. -/
def shortPotentialsSpec : ChangeSpec := { name := "shortPotentials", fn := fun _ => fun
  | [d] => { results := [.lit (.bool true)], args := [d] }
  | _ => none }
def shortPotentialsRow : OpenClaim := { program := "ytajgpmohnbjpcaa", sum := "1c8b3bafa527a4f7a570014dc34b00a7f7deff7b39ae3e1d8690f588755f192b", func := "compass/compasslaw08.ShortPotentials", spec := "shortPotentials", unfollowed := true, recurses := true, apart := false }
def ShortPotentialsSaid : Prop := shortPotentialsRow.holds Try.pinned (OpenSpec.ofChange shortPotentialsSpec)

/-- ITS FALSE NEIGHBOUR: 'it returns false'. Refute it at one input. -/
def shortPotentialsWrong : ChangeSpec := { name := "shortPotentials", fn := fun _ => fun
  | [d] => { results := [.lit (.bool false)], args := [d] }
  | _ => none }
def ShortPotentialsWrongFalsely : Prop := shortPotentialsRow.holds Try.pinned (OpenSpec.ofChange shortPotentialsWrong)

/-- 'compasslaw08.ShortTight': WHATEVER THE INPUT: true; the input reads as it did. -/
def shortTightSpec : ChangeSpec := { name := "shortTight", fn := fun _ => fun
  | [d1, d2] => { results := [.lit (.bool true)], args := [d1, d2] }
  | _ => none }
def shortTightRow : OpenClaim := { program := "ytajgpmohnbjpcaa", sum := "1c8b3bafa527a4f7a570014dc34b00a7f7deff7b39ae3e1d8690f588755f192b", func := "compass/compasslaw08.ShortTight", spec := "shortTight", unfollowed := true, recurses := true, apart := false }
def ShortTightSaid : Prop := shortTightRow.holds Try.pinned (OpenSpec.ofChange shortTightSpec)

/-- ITS FALSE NEIGHBOUR: 'it returns false'. Refute it at one input. -/
def shortTightWrong : ChangeSpec := { name := "shortTight", fn := fun _ => fun
  | [d1, d2] => { results := [.lit (.bool false)], args := [d1, d2] }
  | _ => none }
def ShortTightWrongFalsely : Prop := shortTightRow.holds Try.pinned (OpenSpec.ofChange shortTightWrong)

/-- 'compasslaw08.ShortKeeps': WHATEVER THE INPUT: true; the input reads as it did. -/
def shortKeepsSpec : ChangeSpec := { name := "shortKeeps", fn := fun _ => fun
  | [d1, d2, d3] => { results := [.lit (.bool true)], args := [d1, d2, d3] }
  | _ => none }
def shortKeepsRow : OpenClaim := { program := "ytajgpmohnbjpcaa", sum := "1c8b3bafa527a4f7a570014dc34b00a7f7deff7b39ae3e1d8690f588755f192b", func := "compass/compasslaw08.ShortKeeps", spec := "shortKeeps", unfollowed := true, recurses := true, apart := false }
def ShortKeepsSaid : Prop := shortKeepsRow.holds Try.pinned (OpenSpec.ofChange shortKeepsSpec)

/-- ITS FALSE NEIGHBOUR: 'it returns false'. Refute it at one input. -/
def shortKeepsWrong : ChangeSpec := { name := "shortKeeps", fn := fun _ => fun
  | [d1, d2, d3] => { results := [.lit (.bool false)], args := [d1, d2, d3] }
  | _ => none }
def ShortKeepsWrongFalsely : Prop := shortKeepsRow.holds Try.pinned (OpenSpec.ofChange shortKeepsWrong)

/- THE SECOND FORM. 'bulk': how many values and letters a reading holds, each counted each time it is reached (what is shared counts as often as it is met; a slice's spare places count too). A statement '..UptoSaid' is the law's where the arguments, and the package variables that the reading takes, are together of bulk at most 1048576: NARROWER than '..Said'. Prove '..Said' where nothing that the law and all that it calls make is longer than what came in: it says more and counts as full. Else prove '..UptoSaid'. A law counts once. -/
mutual
def uptoBulk {H : Type} : DataW H → Nat
  | .lit (.string bytes) => bytes.length + 1
  | .lit _ => 1
  | .nil => 1
  | .ptr d => uptoBulk d + 1
  | .slice elems spare => uptoBulkAll elems + uptoBulkAll spare + 1
  | .agg parts => uptoBulkAll parts + 1
  | .iface _ d => uptoBulk d + 1
  | .map entries => uptoBulkEntries entries + 1
  | .held _ => 1
def uptoBulkAll {H : Type} : List (DataW H) → Nat
  | [] => 0
  | d :: r => uptoBulk d + uptoBulkAll r
def uptoBulkEntries {H : Type} : List (Lit × DataW H) → Nat
  | [] => 0
  | x :: r => uptoBulkEntry x + uptoBulkEntries r
def uptoBulkEntry {H : Type} : Lit × DataW H → Nat
  | (.string bytes, d) => bytes.length + uptoBulk d + 1
  | (_, d) => uptoBulk d + 1
 end
def uptoSmall : (H : Type) → List (DataW H) → Bool := fun _ ds => decide (uptoBulkAll ds ≤ 1048576)
def OpenSpec.upto (s : _root_.Go.ChangeSpec) : _root_.Go.OpenSpec := { _root_.Go.OpenSpec.ofChange s with cond := some uptoSmall }

/-- 'compasslaw05.HeapSorts', WHERE WHAT IT READS IS OF BULK AT MOST 1048576: true; the input reads as it did. -/
def heapSortsUptoRow : OpenClaim := { program := "ytajgpmohnbjpcaa", sum := "1c8b3bafa527a4f7a570014dc34b00a7f7deff7b39ae3e1d8690f588755f192b", func := "compass/compasslaw05.HeapSorts", spec := "heapSorts", unfollowed := true, recurses := true, apart := false, narrowed := true }
def HeapSortsUptoSaid : Prop := heapSortsUptoRow.holds Try.pinned (OpenSpec.upto heapSortsSpec)

/-- 'compasslaw05.HeapAlike', WHERE WHAT IT READS IS OF BULK AT MOST 1048576: true; the input reads as it did. -/
def heapAlikeUptoRow : OpenClaim := { program := "ytajgpmohnbjpcaa", sum := "1c8b3bafa527a4f7a570014dc34b00a7f7deff7b39ae3e1d8690f588755f192b", func := "compass/compasslaw05.HeapAlike", spec := "heapAlike", unfollowed := true, recurses := true, apart := false, narrowed := true }
def HeapAlikeUptoSaid : Prop := heapAlikeUptoRow.holds Try.pinned (OpenSpec.upto heapAlikeSpec)

/-- 'compasslaw05.HeapPlays', WHERE WHAT IT READS IS OF BULK AT MOST 1048576: true; the input reads as it did. -/
def heapPlaysUptoRow : OpenClaim := { program := "ytajgpmohnbjpcaa", sum := "1c8b3bafa527a4f7a570014dc34b00a7f7deff7b39ae3e1d8690f588755f192b", func := "compass/compasslaw05.HeapPlays", spec := "heapPlays", unfollowed := true, recurses := true, apart := false, narrowed := true }
def HeapPlaysUptoSaid : Prop := heapPlaysUptoRow.holds Try.pinned (OpenSpec.upto heapPlaysSpec)

/-- 'compasslaw05.HeapLowers', WHERE WHAT IT READS IS OF BULK AT MOST 1048576: true; the input reads as it did. -/
def heapLowersUptoRow : OpenClaim := { program := "ytajgpmohnbjpcaa", sum := "1c8b3bafa527a4f7a570014dc34b00a7f7deff7b39ae3e1d8690f588755f192b", func := "compass/compasslaw05.HeapLowers", spec := "heapLowers", unfollowed := true, recurses := true, apart := false, narrowed := true }
def HeapLowersUptoSaid : Prop := heapLowersUptoRow.holds Try.pinned (OpenSpec.upto heapLowersSpec)

/-- 'compasslaw08.ShortTrees', WHERE WHAT IT READS IS OF BULK AT MOST 1048576: true; the input reads as it did. -/
def shortTreesUptoRow : OpenClaim := { program := "ytajgpmohnbjpcaa", sum := "1c8b3bafa527a4f7a570014dc34b00a7f7deff7b39ae3e1d8690f588755f192b", func := "compass/compasslaw08.ShortTrees", spec := "shortTrees", unfollowed := true, recurses := true, apart := false, narrowed := true }
def ShortTreesUptoSaid : Prop := shortTreesUptoRow.holds Try.pinned (OpenSpec.upto shortTreesSpec)

/-- 'compasslaw08.ShortBellmans', WHERE WHAT IT READS IS OF BULK AT MOST 1048576: true; the input reads as it did. -/
def shortBellmansUptoRow : OpenClaim := { program := "ytajgpmohnbjpcaa", sum := "1c8b3bafa527a4f7a570014dc34b00a7f7deff7b39ae3e1d8690f588755f192b", func := "compass/compasslaw08.ShortBellmans", spec := "shortBellmans", unfollowed := true, recurses := true, apart := false, narrowed := true }
def ShortBellmansUptoSaid : Prop := shortBellmansUptoRow.holds Try.pinned (OpenSpec.upto shortBellmansSpec)

/-- 'compasslaw08.ShortWays', WHERE WHAT IT READS IS OF BULK AT MOST 1048576: true; the input reads as it did. -/
def shortWaysUptoRow : OpenClaim := { program := "ytajgpmohnbjpcaa", sum := "1c8b3bafa527a4f7a570014dc34b00a7f7deff7b39ae3e1d8690f588755f192b", func := "compass/compasslaw08.ShortWays", spec := "shortWays", unfollowed := true, recurses := true, apart := false, narrowed := true }
def ShortWaysUptoSaid : Prop := shortWaysUptoRow.holds Try.pinned (OpenSpec.upto shortWaysSpec)

/-- 'compasslaw08.ShortAlike', WHERE WHAT IT READS IS OF BULK AT MOST 1048576: true; the input reads as it did. -/
def shortAlikeUptoRow : OpenClaim := { program := "ytajgpmohnbjpcaa", sum := "1c8b3bafa527a4f7a570014dc34b00a7f7deff7b39ae3e1d8690f588755f192b", func := "compass/compasslaw08.ShortAlike", spec := "shortAlike", unfollowed := true, recurses := true, apart := false, narrowed := true }
def ShortAlikeUptoSaid : Prop := shortAlikeUptoRow.holds Try.pinned (OpenSpec.upto shortAlikeSpec)

/-- 'compasslaw08.ShortPotentials', WHERE WHAT IT READS IS OF BULK AT MOST 1048576: true; the input reads as it did. -/
def shortPotentialsUptoRow : OpenClaim := { program := "ytajgpmohnbjpcaa", sum := "1c8b3bafa527a4f7a570014dc34b00a7f7deff7b39ae3e1d8690f588755f192b", func := "compass/compasslaw08.ShortPotentials", spec := "shortPotentials", unfollowed := true, recurses := true, apart := false, narrowed := true }
def ShortPotentialsUptoSaid : Prop := shortPotentialsUptoRow.holds Try.pinned (OpenSpec.upto shortPotentialsSpec)

/-- 'compasslaw08.ShortTight', WHERE WHAT IT READS IS OF BULK AT MOST 1048576: true; the input reads as it did. -/
def shortTightUptoRow : OpenClaim := { program := "ytajgpmohnbjpcaa", sum := "1c8b3bafa527a4f7a570014dc34b00a7f7deff7b39ae3e1d8690f588755f192b", func := "compass/compasslaw08.ShortTight", spec := "shortTight", unfollowed := true, recurses := true, apart := false, narrowed := true }
def ShortTightUptoSaid : Prop := shortTightUptoRow.holds Try.pinned (OpenSpec.upto shortTightSpec)

/-- 'compasslaw08.ShortKeeps', WHERE WHAT IT READS IS OF BULK AT MOST 1048576: true; the input reads as it did. -/
def shortKeepsUptoRow : OpenClaim := { program := "ytajgpmohnbjpcaa", sum := "1c8b3bafa527a4f7a570014dc34b00a7f7deff7b39ae3e1d8690f588755f192b", func := "compass/compasslaw08.ShortKeeps", spec := "shortKeeps", unfollowed := true, recurses := true, apart := false, narrowed := true }
def ShortKeepsUptoSaid : Prop := shortKeepsUptoRow.holds Try.pinned (OpenSpec.upto shortKeepsSpec)

end Rows
end Go.Proofs.Ytajgpmohnbjpcaa
