/-
  No cell of these rows narrows 'for every input' (looked for: loops, veiled, ifaces, maps, wideKeys, modest, calm, conditions, laid).
  DERIVED. THE GIVEN ROWS OF THIS SEAT. 12 by the template 'for every input the law returns true; each argument reads behind the call as it read before'; 0 by the template 'total and deterministic' (their statements: YtmaeboaopebaiaaTotals.lean).
  GIVEN WITH THE SEED: the statements are not yours to turn. If you find one false, say at which input.
  Laid BY PROGRAM, IN A SANDBOX (cutbox-rows.mjs): the forced cells as the released guide's own fill.sh prints them over the translation 3e5fe517174b1fa5… (all of the seat's roots in one cut). By AI agents, Wed Nov 11 2026. No macro, syntax, notation, axiom, sorry.
-/
import Derived.Test.YtmaeboaopebaiaaChecked
import GoSem.Claim
import GoSem.ClaimJoined
import GoSem.ClaimMapViews
import Derived.JoinedTies
import Derived.KernelRfl
namespace Go.Proofs.Ytmaeboaopebaiaa
/- THE CELL 'sum', in the pinned program and in every row, IS THE sha256 OF THE DUMP (.gsa) THAT YtmaeboaopebaiaaProg.lean LOADS. Nothing in Lean hashes anything: it is a label: what it is worth is what the hold of that sum in a sandbox is worth. -/
noncomputable def Try.pinned : Pinned := { name := "ytmaeboaopebaiaa", sum := "3e5fe517174b1fa58552cd016cd7012c6cba894ea9e0e6a56fce0262b43dcf85", checked := Try.checked }
namespace Rows
def none {H : Type} : Left H := { results := [], args := [] }

/-- 'compasslaw17.BlossomSolves': WHATEVER THE INPUT: true; the input reads as it did. -/
def blossomSolvesSpec : ChangeSpec := { name := "blossomSolves", fn := fun _ => fun
  | [d] => { results := [.lit (.bool true)], args := [d] }
  | _ => none }
def blossomSolvesRow : OpenClaim := { program := "ytmaeboaopebaiaa", sum := "3e5fe517174b1fa58552cd016cd7012c6cba894ea9e0e6a56fce0262b43dcf85", func := "compass/compasslaw17.BlossomSolves", spec := "blossomSolves", unfollowed := true, recurses := true, apart := false }
def BlossomSolvesSaid : Prop := blossomSolvesRow.holds Try.pinned (OpenSpec.ofChange blossomSolvesSpec)

/-- ITS FALSE NEIGHBOUR: 'it returns false'. Refute it at one input. -/
def blossomSolvesWrong : ChangeSpec := { name := "blossomSolves", fn := fun _ => fun
  | [d] => { results := [.lit (.bool false)], args := [d] }
  | _ => none }
def BlossomSolvesWrongFalsely : Prop := blossomSolvesRow.holds Try.pinned (OpenSpec.ofChange blossomSolvesWrong)

/-- 'compasslaw17.BlossomSmall': WHATEVER THE INPUT: true; the input reads as it did. -/
def blossomSmallSpec : ChangeSpec := { name := "blossomSmall", fn := fun _ => fun
  | [d] => { results := [.lit (.bool true)], args := [d] }
  | _ => none }
def blossomSmallRow : OpenClaim := { program := "ytmaeboaopebaiaa", sum := "3e5fe517174b1fa58552cd016cd7012c6cba894ea9e0e6a56fce0262b43dcf85", func := "compass/compasslaw17.BlossomSmall", spec := "blossomSmall", unfollowed := true, recurses := true, apart := false }
def BlossomSmallSaid : Prop := blossomSmallRow.holds Try.pinned (OpenSpec.ofChange blossomSmallSpec)

/-- ITS FALSE NEIGHBOUR: 'it returns false'. Refute it at one input. -/
def blossomSmallWrong : ChangeSpec := { name := "blossomSmall", fn := fun _ => fun
  | [d] => { results := [.lit (.bool false)], args := [d] }
  | _ => none }
def BlossomSmallWrongFalsely : Prop := blossomSmallRow.holds Try.pinned (OpenSpec.ofChange blossomSmallWrong)

/-- 'compasslaw17.BlossomTurns': WHATEVER THE INPUT: true; the input reads as it did. -/
def blossomTurnsSpec : ChangeSpec := { name := "blossomTurns", fn := fun _ => fun
  | [d1, d2] => { results := [.lit (.bool true)], args := [d1, d2] }
  | _ => none }
def blossomTurnsRow : OpenClaim := { program := "ytmaeboaopebaiaa", sum := "3e5fe517174b1fa58552cd016cd7012c6cba894ea9e0e6a56fce0262b43dcf85", func := "compass/compasslaw17.BlossomTurns", spec := "blossomTurns", unfollowed := true, recurses := true, apart := false }
def BlossomTurnsSaid : Prop := blossomTurnsRow.holds Try.pinned (OpenSpec.ofChange blossomTurnsSpec)

/-- ITS FALSE NEIGHBOUR: 'it returns false'. Refute it at one input. -/
def blossomTurnsWrong : ChangeSpec := { name := "blossomTurns", fn := fun _ => fun
  | [d1, d2] => { results := [.lit (.bool false)], args := [d1, d2] }
  | _ => none }
def BlossomTurnsWrongFalsely : Prop := blossomTurnsRow.holds Try.pinned (OpenSpec.ofChange blossomTurnsWrong)

/-- 'compasslaw17.BlossomBeats': WHATEVER THE INPUT: true; the input reads as it did. -/
def blossomBeatsSpec : ChangeSpec := { name := "blossomBeats", fn := fun _ => fun
  | [d1, d2] => { results := [.lit (.bool true)], args := [d1, d2] }
  | _ => none }
def blossomBeatsRow : OpenClaim := { program := "ytmaeboaopebaiaa", sum := "3e5fe517174b1fa58552cd016cd7012c6cba894ea9e0e6a56fce0262b43dcf85", func := "compass/compasslaw17.BlossomBeats", spec := "blossomBeats", unfollowed := true, recurses := true, apart := false }
def BlossomBeatsSaid : Prop := blossomBeatsRow.holds Try.pinned (OpenSpec.ofChange blossomBeatsSpec)

/-- ITS FALSE NEIGHBOUR: 'it returns false'. Refute it at one input. -/
def blossomBeatsWrong : ChangeSpec := { name := "blossomBeats", fn := fun _ => fun
  | [d1, d2] => { results := [.lit (.bool false)], args := [d1, d2] }
  | _ => none }
def BlossomBeatsWrongFalsely : Prop := blossomBeatsRow.holds Try.pinned (OpenSpec.ofChange blossomBeatsWrong)

/-- 'compasslaw15.PairSolves': WHATEVER THE INPUT: true; the input reads as it did. -/
def pairSolvesSpec : ChangeSpec := { name := "pairSolves", fn := fun _ => fun
  | [d1, d2, d3] => { results := [.lit (.bool true)], args := [d1, d2, d3] }
  | _ => none }
def pairSolvesRow : OpenClaim := { program := "ytmaeboaopebaiaa", sum := "3e5fe517174b1fa58552cd016cd7012c6cba894ea9e0e6a56fce0262b43dcf85", func := "compass/compasslaw15.PairSolves", spec := "pairSolves", unfollowed := true, recurses := true, apart := false }
def PairSolvesSaid : Prop := pairSolvesRow.holds Try.pinned (OpenSpec.ofChange pairSolvesSpec)

/-- ITS FALSE NEIGHBOUR: 'it returns false'. Refute it at one input. -/
def pairSolvesWrong : ChangeSpec := { name := "pairSolves", fn := fun _ => fun
  | [d1, d2, d3] => { results := [.lit (.bool false)], args := [d1, d2, d3] }
  | _ => none }
def PairSolvesWrongFalsely : Prop := pairSolvesRow.holds Try.pinned (OpenSpec.ofChange pairSolvesWrong)

/-- 'compasslaw15.PairTurns': WHATEVER THE INPUT: true; the input reads as it did. -/
def pairTurnsSpec : ChangeSpec := { name := "pairTurns", fn := fun _ => fun
  | [d1, d2, d3] => { results := [.lit (.bool true)], args := [d1, d2, d3] }
  | _ => none }
def pairTurnsRow : OpenClaim := { program := "ytmaeboaopebaiaa", sum := "3e5fe517174b1fa58552cd016cd7012c6cba894ea9e0e6a56fce0262b43dcf85", func := "compass/compasslaw15.PairTurns", spec := "pairTurns", unfollowed := true, recurses := true, apart := false }
def PairTurnsSaid : Prop := pairTurnsRow.holds Try.pinned (OpenSpec.ofChange pairTurnsSpec)

/-- ITS FALSE NEIGHBOUR: 'it returns false'. Refute it at one input. -/
def pairTurnsWrong : ChangeSpec := { name := "pairTurns", fn := fun _ => fun
  | [d1, d2, d3] => { results := [.lit (.bool false)], args := [d1, d2, d3] }
  | _ => none }
def PairTurnsWrongFalsely : Prop := pairTurnsRow.holds Try.pinned (OpenSpec.ofChange pairTurnsWrong)

/-- 'compasslaw15.PairHall': WHATEVER THE INPUT: true; the input reads as it did. -/
def pairHallSpec : ChangeSpec := { name := "pairHall", fn := fun _ => fun
  | [d1, d2, d3] => { results := [.lit (.bool true)], args := [d1, d2, d3] }
  | _ => none }
def pairHallRow : OpenClaim := { program := "ytmaeboaopebaiaa", sum := "3e5fe517174b1fa58552cd016cd7012c6cba894ea9e0e6a56fce0262b43dcf85", func := "compass/compasslaw15.PairHall", spec := "pairHall", unfollowed := true, recurses := true, apart := false }
def PairHallSaid : Prop := pairHallRow.holds Try.pinned (OpenSpec.ofChange pairHallSpec)

/-- ITS FALSE NEIGHBOUR: 'it returns false'. Refute it at one input. -/
def pairHallWrong : ChangeSpec := { name := "pairHall", fn := fun _ => fun
  | [d1, d2, d3] => { results := [.lit (.bool false)], args := [d1, d2, d3] }
  | _ => none }
def PairHallWrongFalsely : Prop := pairHallRow.holds Try.pinned (OpenSpec.ofChange pairHallWrong)

/-- 'compasslaw15.PairEnds': WHATEVER THE INPUT: true; the input reads as it did. -/
def pairEndsSpec : ChangeSpec := { name := "pairEnds", fn := fun _ => fun
  | [d1, d2] => { results := [.lit (.bool true)], args := [d1, d2] }
  | _ => none }
def pairEndsRow : OpenClaim := { program := "ytmaeboaopebaiaa", sum := "3e5fe517174b1fa58552cd016cd7012c6cba894ea9e0e6a56fce0262b43dcf85", func := "compass/compasslaw15.PairEnds", spec := "pairEnds", unfollowed := true, recurses := true, apart := false }
def PairEndsSaid : Prop := pairEndsRow.holds Try.pinned (OpenSpec.ofChange pairEndsSpec)

/-- ITS FALSE NEIGHBOUR: 'it returns false'. Refute it at one input. -/
def pairEndsWrong : ChangeSpec := { name := "pairEnds", fn := fun _ => fun
  | [d1, d2] => { results := [.lit (.bool false)], args := [d1, d2] }
  | _ => none }
def PairEndsWrongFalsely : Prop := pairEndsRow.holds Try.pinned (OpenSpec.ofChange pairEndsWrong)

/-- 'compasslaw15.PairProved': WHATEVER THE INPUT: true; the input reads as it did. -/
def pairProvedSpec : ChangeSpec := { name := "pairProved", fn := fun _ => fun
  | [d1, d2] => { results := [.lit (.bool true)], args := [d1, d2] }
  | _ => none }
def pairProvedRow : OpenClaim := { program := "ytmaeboaopebaiaa", sum := "3e5fe517174b1fa58552cd016cd7012c6cba894ea9e0e6a56fce0262b43dcf85", func := "compass/compasslaw15.PairProved", spec := "pairProved", unfollowed := true, recurses := true, apart := false }
def PairProvedSaid : Prop := pairProvedRow.holds Try.pinned (OpenSpec.ofChange pairProvedSpec)

/-- ITS FALSE NEIGHBOUR: 'it returns false'. Refute it at one input. -/
def pairProvedWrong : ChangeSpec := { name := "pairProved", fn := fun _ => fun
  | [d1, d2] => { results := [.lit (.bool false)], args := [d1, d2] }
  | _ => none }
def PairProvedWrongFalsely : Prop := pairProvedRow.holds Try.pinned (OpenSpec.ofChange pairProvedWrong)

/-- 'compasslaw15.PairKeeps': WHATEVER THE INPUT: true; the input reads as it did. -/
def pairKeepsSpec : ChangeSpec := { name := "pairKeeps", fn := fun _ => fun
  | [d1, d2, d3] => { results := [.lit (.bool true)], args := [d1, d2, d3] }
  | _ => none }
def pairKeepsRow : OpenClaim := { program := "ytmaeboaopebaiaa", sum := "3e5fe517174b1fa58552cd016cd7012c6cba894ea9e0e6a56fce0262b43dcf85", func := "compass/compasslaw15.PairKeeps", spec := "pairKeeps", unfollowed := true, recurses := true, apart := false }
def PairKeepsSaid : Prop := pairKeepsRow.holds Try.pinned (OpenSpec.ofChange pairKeepsSpec)

/-- ITS FALSE NEIGHBOUR: 'it returns false'. Refute it at one input. -/
def pairKeepsWrong : ChangeSpec := { name := "pairKeeps", fn := fun _ => fun
  | [d1, d2, d3] => { results := [.lit (.bool false)], args := [d1, d2, d3] }
  | _ => none }
def PairKeepsWrongFalsely : Prop := pairKeepsRow.holds Try.pinned (OpenSpec.ofChange pairKeepsWrong)

/-- 'compasslaw17.BlossomKeeps': WHATEVER THE INPUT: true; the input reads as it did. -/
def blossomKeepsSpec : ChangeSpec := { name := "blossomKeeps", fn := fun _ => fun
  | [d] => { results := [.lit (.bool true)], args := [d] }
  | _ => none }
def blossomKeepsRow : OpenClaim := { program := "ytmaeboaopebaiaa", sum := "3e5fe517174b1fa58552cd016cd7012c6cba894ea9e0e6a56fce0262b43dcf85", func := "compass/compasslaw17.BlossomKeeps", spec := "blossomKeeps", unfollowed := true, recurses := true, apart := false }
def BlossomKeepsSaid : Prop := blossomKeepsRow.holds Try.pinned (OpenSpec.ofChange blossomKeepsSpec)

/-- ITS FALSE NEIGHBOUR: 'it returns false'. Refute it at one input. -/
def blossomKeepsWrong : ChangeSpec := { name := "blossomKeeps", fn := fun _ => fun
  | [d] => { results := [.lit (.bool false)], args := [d] }
  | _ => none }
def BlossomKeepsWrongFalsely : Prop := blossomKeepsRow.holds Try.pinned (OpenSpec.ofChange blossomKeepsWrong)

/-- 'compasslaw17.BlossomProved': WHATEVER THE INPUT: true; the input reads as it did. -/
def blossomProvedSpec : ChangeSpec := { name := "blossomProved", fn := fun _ => fun
  | [d1, d2] => { results := [.lit (.bool true)], args := [d1, d2] }
  | _ => none }
def blossomProvedRow : OpenClaim := { program := "ytmaeboaopebaiaa", sum := "3e5fe517174b1fa58552cd016cd7012c6cba894ea9e0e6a56fce0262b43dcf85", func := "compass/compasslaw17.BlossomProved", spec := "blossomProved", unfollowed := true, recurses := true, apart := false }
def BlossomProvedSaid : Prop := blossomProvedRow.holds Try.pinned (OpenSpec.ofChange blossomProvedSpec)

/-- ITS FALSE NEIGHBOUR: 'it returns false'. Refute it at one input. -/
def blossomProvedWrong : ChangeSpec := { name := "blossomProved", fn := fun _ => fun
  | [d1, d2] => { results := [.lit (.bool false)], args := [d1, d2] }
  | _ => none }
def BlossomProvedWrongFalsely : Prop := blossomProvedRow.holds Try.pinned (OpenSpec.ofChange blossomProvedWrong)

/- THE SECOND FORM. 'bulk': how many values and letters a reading holds, each counted each time it is reached (what is shared counts as often as it is met; a slice's spare places count too). A statement '..UptoSaid' is the law's where the arguments, and the package variables that the reading takes, are together of bulk at most 1048576: NARROWER than '..Said'. Prove '..Said' where nothing that the law and all that it calls make is longer than what came in: it says more and counts as full. Else prove '..UptoSaid'. A law counts once. -/
mutual
def uptoBulk {H : Type} : DataW H → Nat
  | .lit (.string bytes) => bytes.length + 1
  | .lit _ => 1
  | .nil => 1
  | .ptr d => uptoBulk d + 1
  | .slice elems spare => uptoBulkAll elems + uptoBulkAll spare + 1
  | .agg parts => uptoBulkAll parts + 1
  | .iface _ d => uptoBulk d + 1
  | .map entries => uptoBulkEntries entries + 1
  | .held _ => 1
def uptoBulkAll {H : Type} : List (DataW H) → Nat
  | [] => 0
  | d :: r => uptoBulk d + uptoBulkAll r
def uptoBulkEntries {H : Type} : List (Lit × DataW H) → Nat
  | [] => 0
  | x :: r => uptoBulkEntry x + uptoBulkEntries r
def uptoBulkEntry {H : Type} : Lit × DataW H → Nat
  | (.string bytes, d) => bytes.length + uptoBulk d + 1
  | (_, d) => uptoBulk d + 1
 end
def uptoSmall : (H : Type) → List (DataW H) → Bool := fun _ ds => decide (uptoBulkAll ds ≤ 1048576)
def OpenSpec.upto (s : _root_.Go.ChangeSpec) : _root_.Go.OpenSpec := { _root_.Go.OpenSpec.ofChange s with cond := some uptoSmall }

/-- 'compasslaw17.BlossomSolves', WHERE WHAT IT READS IS OF BULK AT MOST 1048576: true; the input reads as it did. -/
def blossomSolvesUptoRow : OpenClaim := { program := "ytmaeboaopebaiaa", sum := "3e5fe517174b1fa58552cd016cd7012c6cba894ea9e0e6a56fce0262b43dcf85", func := "compass/compasslaw17.BlossomSolves", spec := "blossomSolves", unfollowed := true, recurses := true, apart := false, narrowed := true }
def BlossomSolvesUptoSaid : Prop := blossomSolvesUptoRow.holds Try.pinned (OpenSpec.upto blossomSolvesSpec)

/-- 'compasslaw17.BlossomSmall', WHERE WHAT IT READS IS OF BULK AT MOST 1048576: true; the input reads as it did. -/
def blossomSmallUptoRow : OpenClaim := { program := "ytmaeboaopebaiaa", sum := "3e5fe517174b1fa58552cd016cd7012c6cba894ea9e0e6a56fce0262b43dcf85", func := "compass/compasslaw17.BlossomSmall", spec := "blossomSmall", unfollowed := true, recurses := true, apart := false, narrowed := true }
def BlossomSmallUptoSaid : Prop := blossomSmallUptoRow.holds Try.pinned (OpenSpec.upto blossomSmallSpec)

/-- 'compasslaw17.BlossomTurns', WHERE WHAT IT READS IS OF BULK AT MOST 1048576: true; the input reads as it did. -/
def blossomTurnsUptoRow : OpenClaim := { program := "ytmaeboaopebaiaa", sum := "3e5fe517174b1fa58552cd016cd7012c6cba894ea9e0e6a56fce0262b43dcf85", func := "compass/compasslaw17.BlossomTurns", spec := "blossomTurns", unfollowed := true, recurses := true, apart := false, narrowed := true }
def BlossomTurnsUptoSaid : Prop := blossomTurnsUptoRow.holds Try.pinned (OpenSpec.upto blossomTurnsSpec)

/-- 'compasslaw17.BlossomBeats', WHERE WHAT IT READS IS OF BULK AT MOST 1048576: true; the input reads as it did. -/
def blossomBeatsUptoRow : OpenClaim := { program := "ytmaeboaopebaiaa", sum := "3e5fe517174b1fa58552cd016cd7012c6cba894ea9e0e6a56fce0262b43dcf85", func := "compass/compasslaw17.BlossomBeats", spec := "blossomBeats", unfollowed := true, recurses := true, apart := false, narrowed := true }
def BlossomBeatsUptoSaid : Prop := blossomBeatsUptoRow.holds Try.pinned (OpenSpec.upto blossomBeatsSpec)

/-- 'compasslaw15.PairSolves', WHERE WHAT IT READS IS OF BULK AT MOST 1048576: true; the input reads as it did. -/
def pairSolvesUptoRow : OpenClaim := { program := "ytmaeboaopebaiaa", sum := "3e5fe517174b1fa58552cd016cd7012c6cba894ea9e0e6a56fce0262b43dcf85", func := "compass/compasslaw15.PairSolves", spec := "pairSolves", unfollowed := true, recurses := true, apart := false, narrowed := true }
def PairSolvesUptoSaid : Prop := pairSolvesUptoRow.holds Try.pinned (OpenSpec.upto pairSolvesSpec)

/-- 'compasslaw15.PairTurns', WHERE WHAT IT READS IS OF BULK AT MOST 1048576: true; the input reads as it did. -/
def pairTurnsUptoRow : OpenClaim := { program := "ytmaeboaopebaiaa", sum := "3e5fe517174b1fa58552cd016cd7012c6cba894ea9e0e6a56fce0262b43dcf85", func := "compass/compasslaw15.PairTurns", spec := "pairTurns", unfollowed := true, recurses := true, apart := false, narrowed := true }
def PairTurnsUptoSaid : Prop := pairTurnsUptoRow.holds Try.pinned (OpenSpec.upto pairTurnsSpec)

/-- 'compasslaw15.PairHall', WHERE WHAT IT READS IS OF BULK AT MOST 1048576: true; the input reads as it did. -/
def pairHallUptoRow : OpenClaim := { program := "ytmaeboaopebaiaa", sum := "3e5fe517174b1fa58552cd016cd7012c6cba894ea9e0e6a56fce0262b43dcf85", func := "compass/compasslaw15.PairHall", spec := "pairHall", unfollowed := true, recurses := true, apart := false, narrowed := true }
def PairHallUptoSaid : Prop := pairHallUptoRow.holds Try.pinned (OpenSpec.upto pairHallSpec)

/-- 'compasslaw15.PairEnds', WHERE WHAT IT READS IS OF BULK AT MOST 1048576: true; the input reads as it did. -/
def pairEndsUptoRow : OpenClaim := { program := "ytmaeboaopebaiaa", sum := "3e5fe517174b1fa58552cd016cd7012c6cba894ea9e0e6a56fce0262b43dcf85", func := "compass/compasslaw15.PairEnds", spec := "pairEnds", unfollowed := true, recurses := true, apart := false, narrowed := true }
def PairEndsUptoSaid : Prop := pairEndsUptoRow.holds Try.pinned (OpenSpec.upto pairEndsSpec)

/-- 'compasslaw15.PairProved', WHERE WHAT IT READS IS OF BULK AT MOST 1048576: true; the input reads as it did. -/
def pairProvedUptoRow : OpenClaim := { program := "ytmaeboaopebaiaa", sum := "3e5fe517174b1fa58552cd016cd7012c6cba894ea9e0e6a56fce0262b43dcf85", func := "compass/compasslaw15.PairProved", spec := "pairProved", unfollowed := true, recurses := true, apart := false, narrowed := true }
def PairProvedUptoSaid : Prop := pairProvedUptoRow.holds Try.pinned (OpenSpec.upto pairProvedSpec)

/-- 'compasslaw15.PairKeeps', WHERE WHAT IT READS IS OF BULK AT MOST 1048576: true; the input reads as it did. -/
def pairKeepsUptoRow : OpenClaim := { program := "ytmaeboaopebaiaa", sum := "3e5fe517174b1fa58552cd016cd7012c6cba894ea9e0e6a56fce0262b43dcf85", func := "compass/compasslaw15.PairKeeps", spec := "pairKeeps", unfollowed := true, recurses := true, apart := false, narrowed := true }
def PairKeepsUptoSaid : Prop := pairKeepsUptoRow.holds Try.pinned (OpenSpec.upto pairKeepsSpec)

/-- 'compasslaw17.BlossomKeeps', WHERE WHAT IT READS IS OF BULK AT MOST 1048576: true; the input reads as it did. -/
def blossomKeepsUptoRow : OpenClaim := { program := "ytmaeboaopebaiaa", sum := "3e5fe517174b1fa58552cd016cd7012c6cba894ea9e0e6a56fce0262b43dcf85", func := "compass/compasslaw17.BlossomKeeps", spec := "blossomKeeps", unfollowed := true, recurses := true, apart := false, narrowed := true }
def BlossomKeepsUptoSaid : Prop := blossomKeepsUptoRow.holds Try.pinned (OpenSpec.upto blossomKeepsSpec)

/-- 'compasslaw17.BlossomProved', WHERE WHAT IT READS IS OF BULK AT MOST 1048576: true; the input reads as it did. -/
def blossomProvedUptoRow : OpenClaim := { program := "ytmaeboaopebaiaa", sum := "3e5fe517174b1fa58552cd016cd7012c6cba894ea9e0e6a56fce0262b43dcf85", func := "compass/compasslaw17.BlossomProved", spec := "blossomProved", unfollowed := true, recurses := true, apart := false, narrowed := true }
def BlossomProvedUptoSaid : Prop := blossomProvedUptoRow.holds Try.pinned (OpenSpec.upto blossomProvedSpec)

end Rows
end Go.Proofs.Ytmaeboaopebaiaa
