/-
  No cell of these rows narrows 'for every input' (looked for: loops, veiled, ifaces, maps, wideKeys, modest, calm, conditions, laid).
  DERIVED. THE GIVEN ROWS OF THIS SEAT. 8 by the template 'for every input the law returns true; each argument reads behind the call as it read before'; 0 by the template 'total and deterministic' (their statements: YtndgjfbibkdokaaTotals.lean).
  GIVEN WITH THE SEED: the statements are not yours to turn. If you find one false, say at which input.
  Laid BY PROGRAM, IN A SANDBOX (cutbox-rows.mjs): the forced cells as the released guide's own fill.sh prints them over the translation b1243a2b6ddd42d7… (all of the seat's roots in one cut). By AI agents, Wed Nov 11 2026. No macro, syntax, notation, axiom, sorry.
-/
import Derived.Test.YtndgjfbibkdokaaChecked
import GoSem.Claim
import GoSem.ClaimJoined
import GoSem.ClaimMapViews
import Derived.JoinedTies
import Derived.KernelRfl
namespace Go.Proofs.Ytndgjfbibkdokaa
/- THE CELL 'sum', in the pinned program and in every row, IS THE sha256 OF THE DUMP (.gsa) THAT YtndgjfbibkdokaaProg.lean LOADS. Nothing in Lean hashes anything: it is a label: what it is worth is what the hold of that sum in a sandbox is worth. -/
noncomputable def Try.pinned : Pinned := { name := "ytndgjfbibkdokaa", sum := "b1243a2b6ddd42d7d22cf8e0e5b10abe7ecbb343ba3156a55dcb7867e514034d", checked := Try.checked }
namespace Rows
def none {H : Type} : Left H := { results := [], args := [] }

/-- 'compasslaw18.PerfectSolves': WHATEVER THE INPUT: true; the input reads as it did. -/
def perfectSolvesSpec : ChangeSpec := { name := "perfectSolves", fn := fun _ => fun
  | [d] => { results := [.lit (.bool true)], args := [d] }
  | _ => none }
def perfectSolvesRow : OpenClaim := { program := "ytndgjfbibkdokaa", sum := "b1243a2b6ddd42d7d22cf8e0e5b10abe7ecbb343ba3156a55dcb7867e514034d", func := "compass/compasslaw18.PerfectSolves", spec := "perfectSolves", unfollowed := true, recurses := true, apart := false }
def PerfectSolvesSaid : Prop := perfectSolvesRow.holds Try.pinned (OpenSpec.ofChange perfectSolvesSpec)

/-- ITS FALSE NEIGHBOUR: 'it returns false'. Refute it at one input. -/
def perfectSolvesWrong : ChangeSpec := { name := "perfectSolves", fn := fun _ => fun
  | [d] => { results := [.lit (.bool false)], args := [d] }
  | _ => none }
def PerfectSolvesWrongFalsely : Prop := perfectSolvesRow.holds Try.pinned (OpenSpec.ofChange perfectSolvesWrong)

/-- 'compasslaw18.PerfectSmall': WHATEVER THE INPUT: true; the input reads as it did. -/
def perfectSmallSpec : ChangeSpec := { name := "perfectSmall", fn := fun _ => fun
  | [d] => { results := [.lit (.bool true)], args := [d] }
  | _ => none }
def perfectSmallRow : OpenClaim := { program := "ytndgjfbibkdokaa", sum := "b1243a2b6ddd42d7d22cf8e0e5b10abe7ecbb343ba3156a55dcb7867e514034d", func := "compass/compasslaw18.PerfectSmall", spec := "perfectSmall", unfollowed := true, recurses := true, apart := false }
def PerfectSmallSaid : Prop := perfectSmallRow.holds Try.pinned (OpenSpec.ofChange perfectSmallSpec)

/-- ITS FALSE NEIGHBOUR: 'it returns false'. Refute it at one input. -/
def perfectSmallWrong : ChangeSpec := { name := "perfectSmall", fn := fun _ => fun
  | [d] => { results := [.lit (.bool false)], args := [d] }
  | _ => none }
def PerfectSmallWrongFalsely : Prop := perfectSmallRow.holds Try.pinned (OpenSpec.ofChange perfectSmallWrong)

/-- 'compasslaw18.PerfectTurns': WHATEVER THE INPUT: true; the input reads as it did. -/
def perfectTurnsSpec : ChangeSpec := { name := "perfectTurns", fn := fun _ => fun
  | [d1, d2, d3] => { results := [.lit (.bool true)], args := [d1, d2, d3] }
  | _ => none }
def perfectTurnsRow : OpenClaim := { program := "ytndgjfbibkdokaa", sum := "b1243a2b6ddd42d7d22cf8e0e5b10abe7ecbb343ba3156a55dcb7867e514034d", func := "compass/compasslaw18.PerfectTurns", spec := "perfectTurns", unfollowed := true, recurses := true, apart := false }
def PerfectTurnsSaid : Prop := perfectTurnsRow.holds Try.pinned (OpenSpec.ofChange perfectTurnsSpec)

/-- ITS FALSE NEIGHBOUR: 'it returns false'. Refute it at one input. -/
def perfectTurnsWrong : ChangeSpec := { name := "perfectTurns", fn := fun _ => fun
  | [d1, d2, d3] => { results := [.lit (.bool false)], args := [d1, d2, d3] }
  | _ => none }
def PerfectTurnsWrongFalsely : Prop := perfectTurnsRow.holds Try.pinned (OpenSpec.ofChange perfectTurnsWrong)

/-- 'compasslaw18.PerfectBeats': WHATEVER THE INPUT: true; the input reads as it did. -/
def perfectBeatsSpec : ChangeSpec := { name := "perfectBeats", fn := fun _ => fun
  | [d1, d2] => { results := [.lit (.bool true)], args := [d1, d2] }
  | _ => none }
def perfectBeatsRow : OpenClaim := { program := "ytndgjfbibkdokaa", sum := "b1243a2b6ddd42d7d22cf8e0e5b10abe7ecbb343ba3156a55dcb7867e514034d", func := "compass/compasslaw18.PerfectBeats", spec := "perfectBeats", unfollowed := true, recurses := true, apart := false }
def PerfectBeatsSaid : Prop := perfectBeatsRow.holds Try.pinned (OpenSpec.ofChange perfectBeatsSpec)

/-- ITS FALSE NEIGHBOUR: 'it returns false'. Refute it at one input. -/
def perfectBeatsWrong : ChangeSpec := { name := "perfectBeats", fn := fun _ => fun
  | [d1, d2] => { results := [.lit (.bool false)], args := [d1, d2] }
  | _ => none }
def PerfectBeatsWrongFalsely : Prop := perfectBeatsRow.holds Try.pinned (OpenSpec.ofChange perfectBeatsWrong)

/-- 'compasslaw18.PerfectTables': WHATEVER THE INPUT: true; the input reads as it did. -/
def perfectTablesSpec : ChangeSpec := { name := "perfectTables", fn := fun _ => fun
  | [d] => { results := [.lit (.bool true)], args := [d] }
  | _ => none }
def perfectTablesRow : OpenClaim := { program := "ytndgjfbibkdokaa", sum := "b1243a2b6ddd42d7d22cf8e0e5b10abe7ecbb343ba3156a55dcb7867e514034d", func := "compass/compasslaw18.PerfectTables", spec := "perfectTables", unfollowed := true, recurses := true, apart := false }
def PerfectTablesSaid : Prop := perfectTablesRow.holds Try.pinned (OpenSpec.ofChange perfectTablesSpec)

/-- ITS FALSE NEIGHBOUR: 'it returns false'. Refute it at one input. -/
def perfectTablesWrong : ChangeSpec := { name := "perfectTables", fn := fun _ => fun
  | [d] => { results := [.lit (.bool false)], args := [d] }
  | _ => none }
def PerfectTablesWrongFalsely : Prop := perfectTablesRow.holds Try.pinned (OpenSpec.ofChange perfectTablesWrong)

/-- 'compasslaw18.PerfectAlike': WHATEVER THE INPUT: true; the input reads as it did. -/
def perfectAlikeSpec : ChangeSpec := { name := "perfectAlike", fn := fun _ => fun
  | [d] => { results := [.lit (.bool true)], args := [d] }
  | _ => none }
def perfectAlikeRow : OpenClaim := { program := "ytndgjfbibkdokaa", sum := "b1243a2b6ddd42d7d22cf8e0e5b10abe7ecbb343ba3156a55dcb7867e514034d", func := "compass/compasslaw18.PerfectAlike", spec := "perfectAlike", unfollowed := true, recurses := true, apart := false }
def PerfectAlikeSaid : Prop := perfectAlikeRow.holds Try.pinned (OpenSpec.ofChange perfectAlikeSpec)

/-- ITS FALSE NEIGHBOUR: 'it returns false'. Refute it at one input. -/
def perfectAlikeWrong : ChangeSpec := { name := "perfectAlike", fn := fun _ => fun
  | [d] => { results := [.lit (.bool false)], args := [d] }
  | _ => none }
def PerfectAlikeWrongFalsely : Prop := perfectAlikeRow.holds Try.pinned (OpenSpec.ofChange perfectAlikeWrong)

/-- 'compasslaw18.PerfectKeeps': WHATEVER THE INPUT: true; the input reads as it did. -/
def perfectKeepsSpec : ChangeSpec := { name := "perfectKeeps", fn := fun _ => fun
  | [d1, d2] => { results := [.lit (.bool true)], args := [d1, d2] }
  | _ => none }
def perfectKeepsRow : OpenClaim := { program := "ytndgjfbibkdokaa", sum := "b1243a2b6ddd42d7d22cf8e0e5b10abe7ecbb343ba3156a55dcb7867e514034d", func := "compass/compasslaw18.PerfectKeeps", spec := "perfectKeeps", unfollowed := true, recurses := true, apart := false }
def PerfectKeepsSaid : Prop := perfectKeepsRow.holds Try.pinned (OpenSpec.ofChange perfectKeepsSpec)

/-- ITS FALSE NEIGHBOUR: 'it returns false'. Refute it at one input. -/
def perfectKeepsWrong : ChangeSpec := { name := "perfectKeeps", fn := fun _ => fun
  | [d1, d2] => { results := [.lit (.bool false)], args := [d1, d2] }
  | _ => none }
def PerfectKeepsWrongFalsely : Prop := perfectKeepsRow.holds Try.pinned (OpenSpec.ofChange perfectKeepsWrong)

/-- 'compasslaw18.PerfectProved': WHATEVER THE INPUT: true; the input reads as it did. -/
def perfectProvedSpec : ChangeSpec := { name := "perfectProved", fn := fun _ => fun
  | [d] => { results := [.lit (.bool true)], args := [d] }
  | _ => none }
def perfectProvedRow : OpenClaim := { program := "ytndgjfbibkdokaa", sum := "b1243a2b6ddd42d7d22cf8e0e5b10abe7ecbb343ba3156a55dcb7867e514034d", func := "compass/compasslaw18.PerfectProved", spec := "perfectProved", unfollowed := true, recurses := true, apart := false }
def PerfectProvedSaid : Prop := perfectProvedRow.holds Try.pinned (OpenSpec.ofChange perfectProvedSpec)

/-- ITS FALSE NEIGHBOUR: 'it returns false'. Refute it at one input. -/
def perfectProvedWrong : ChangeSpec := { name := "perfectProved", fn := fun _ => fun
  | [d] => { results := [.lit (.bool false)], args := [d] }
  | _ => none }
def PerfectProvedWrongFalsely : Prop := perfectProvedRow.holds Try.pinned (OpenSpec.ofChange perfectProvedWrong)

/- THE SECOND FORM. 'bulk': how many values and letters a reading holds, each counted each time it is reached (what is shared counts as often as it is met; a slice's spare places count too). A statement '..UptoSaid' is the law's where the arguments, and the package variables that the reading takes, are together of bulk at most 1048576: NARROWER than '..Said'. Prove '..Said' where nothing that the law and all that it calls make is longer than what came in: it says more and counts as full. Else prove '..UptoSaid'. A law counts once. -/
mutual
def uptoBulk {H : Type} : DataW H → Nat
  | .lit (.string bytes) => bytes.length + 1
  | .lit _ => 1
  | .nil => 1
  | .ptr d => uptoBulk d + 1
  | .slice elems spare => uptoBulkAll elems + uptoBulkAll spare + 1
  | .agg parts => uptoBulkAll parts + 1
  | .iface _ d => uptoBulk d + 1
  | .map entries => uptoBulkEntries entries + 1
  | .held _ => 1
def uptoBulkAll {H : Type} : List (DataW H) → Nat
  | [] => 0
  | d :: r => uptoBulk d + uptoBulkAll r
def uptoBulkEntries {H : Type} : List (Lit × DataW H) → Nat
  | [] => 0
  | x :: r => uptoBulkEntry x + uptoBulkEntries r
def uptoBulkEntry {H : Type} : Lit × DataW H → Nat
  | (.string bytes, d) => bytes.length + uptoBulk d + 1
  | (_, d) => uptoBulk d + 1
 end
def uptoSmall : (H : Type) → List (DataW H) → Bool := fun _ ds => decide (uptoBulkAll ds ≤ 1048576)
def OpenSpec.upto (s : _root_.Go.ChangeSpec) : _root_.Go.OpenSpec := { _root_.Go.OpenSpec.ofChange s with cond := some uptoSmall }

/-- 'compasslaw18.PerfectSolves', WHERE WHAT IT READS IS OF BULK AT MOST 1048576: true; the input reads as it did. -/
def perfectSolvesUptoRow : OpenClaim := { program := "ytndgjfbibkdokaa", sum := "b1243a2b6ddd42d7d22cf8e0e5b10abe7ecbb343ba3156a55dcb7867e514034d", func := "compass/compasslaw18.PerfectSolves", spec := "perfectSolves", unfollowed := true, recurses := true, apart := false, narrowed := true }
def PerfectSolvesUptoSaid : Prop := perfectSolvesUptoRow.holds Try.pinned (OpenSpec.upto perfectSolvesSpec)

/-- 'compasslaw18.PerfectSmall', WHERE WHAT IT READS IS OF BULK AT MOST 1048576: true; the input reads as it did. -/
def perfectSmallUptoRow : OpenClaim := { program := "ytndgjfbibkdokaa", sum := "b1243a2b6ddd42d7d22cf8e0e5b10abe7ecbb343ba3156a55dcb7867e514034d", func := "compass/compasslaw18.PerfectSmall", spec := "perfectSmall", unfollowed := true, recurses := true, apart := false, narrowed := true }
def PerfectSmallUptoSaid : Prop := perfectSmallUptoRow.holds Try.pinned (OpenSpec.upto perfectSmallSpec)

/-- 'compasslaw18.PerfectTurns', WHERE WHAT IT READS IS OF BULK AT MOST 1048576: true; the input reads as it did. -/
def perfectTurnsUptoRow : OpenClaim := { program := "ytndgjfbibkdokaa", sum := "b1243a2b6ddd42d7d22cf8e0e5b10abe7ecbb343ba3156a55dcb7867e514034d", func := "compass/compasslaw18.PerfectTurns", spec := "perfectTurns", unfollowed := true, recurses := true, apart := false, narrowed := true }
def PerfectTurnsUptoSaid : Prop := perfectTurnsUptoRow.holds Try.pinned (OpenSpec.upto perfectTurnsSpec)

/-- 'compasslaw18.PerfectBeats', WHERE WHAT IT READS IS OF BULK AT MOST 1048576: true; the input reads as it did. -/
def perfectBeatsUptoRow : OpenClaim := { program := "ytndgjfbibkdokaa", sum := "b1243a2b6ddd42d7d22cf8e0e5b10abe7ecbb343ba3156a55dcb7867e514034d", func := "compass/compasslaw18.PerfectBeats", spec := "perfectBeats", unfollowed := true, recurses := true, apart := false, narrowed := true }
def PerfectBeatsUptoSaid : Prop := perfectBeatsUptoRow.holds Try.pinned (OpenSpec.upto perfectBeatsSpec)

/-- 'compasslaw18.PerfectTables', WHERE WHAT IT READS IS OF BULK AT MOST 1048576: true; the input reads as it did. -/
def perfectTablesUptoRow : OpenClaim := { program := "ytndgjfbibkdokaa", sum := "b1243a2b6ddd42d7d22cf8e0e5b10abe7ecbb343ba3156a55dcb7867e514034d", func := "compass/compasslaw18.PerfectTables", spec := "perfectTables", unfollowed := true, recurses := true, apart := false, narrowed := true }
def PerfectTablesUptoSaid : Prop := perfectTablesUptoRow.holds Try.pinned (OpenSpec.upto perfectTablesSpec)

/-- 'compasslaw18.PerfectAlike', WHERE WHAT IT READS IS OF BULK AT MOST 1048576: true; the input reads as it did. -/
def perfectAlikeUptoRow : OpenClaim := { program := "ytndgjfbibkdokaa", sum := "b1243a2b6ddd42d7d22cf8e0e5b10abe7ecbb343ba3156a55dcb7867e514034d", func := "compass/compasslaw18.PerfectAlike", spec := "perfectAlike", unfollowed := true, recurses := true, apart := false, narrowed := true }
def PerfectAlikeUptoSaid : Prop := perfectAlikeUptoRow.holds Try.pinned (OpenSpec.upto perfectAlikeSpec)

/-- 'compasslaw18.PerfectKeeps', WHERE WHAT IT READS IS OF BULK AT MOST 1048576: true; the input reads as it did. -/
def perfectKeepsUptoRow : OpenClaim := { program := "ytndgjfbibkdokaa", sum := "b1243a2b6ddd42d7d22cf8e0e5b10abe7ecbb343ba3156a55dcb7867e514034d", func := "compass/compasslaw18.PerfectKeeps", spec := "perfectKeeps", unfollowed := true, recurses := true, apart := false, narrowed := true }
def PerfectKeepsUptoSaid : Prop := perfectKeepsUptoRow.holds Try.pinned (OpenSpec.upto perfectKeepsSpec)

/-- 'compasslaw18.PerfectProved', WHERE WHAT IT READS IS OF BULK AT MOST 1048576: true; the input reads as it did. -/
def perfectProvedUptoRow : OpenClaim := { program := "ytndgjfbibkdokaa", sum := "b1243a2b6ddd42d7d22cf8e0e5b10abe7ecbb343ba3156a55dcb7867e514034d", func := "compass/compasslaw18.PerfectProved", spec := "perfectProved", unfollowed := true, recurses := true, apart := false, narrowed := true }
def PerfectProvedUptoSaid : Prop := perfectProvedUptoRow.holds Try.pinned (OpenSpec.upto perfectProvedSpec)

end Rows
end Go.Proofs.Ytndgjfbibkdokaa
