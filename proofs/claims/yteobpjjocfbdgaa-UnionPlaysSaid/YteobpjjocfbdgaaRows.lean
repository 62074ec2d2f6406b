/-
  No cell of these rows narrows 'for every input' (looked for: loops, veiled, ifaces, maps, wideKeys, modest, calm, conditions, laid).
  DERIVED. THE GIVEN ROWS OF THIS SEAT. 3 by the template 'for every input the law returns true; each argument reads behind the call as it read before'; 0 by the template 'total and deterministic' (their statements: YteobpjjocfbdgaaTotals.lean).
  GIVEN WITH THE SEED: the statements are not yours to turn. If you find one false, say at which input.
  Laid BY PROGRAM, IN A SANDBOX (cutbox-rows.mjs): the forced cells as the released guide's own fill.sh prints them over the translation 058ec5959607ec87… (all of the seat's roots in one cut). By AI agents, Wed Nov 11 2026. No macro, syntax, notation, axiom, sorry.
-/
import Derived.Test.YteobpjjocfbdgaaChecked
import GoSem.Claim
import GoSem.ClaimJoined
import GoSem.ClaimMapViews
import Derived.JoinedTies
import Derived.KernelRfl
namespace Go.Proofs.Yteobpjjocfbdgaa
/- THE CELL 'sum', in the pinned program and in every row, IS THE sha256 OF THE DUMP (.gsa) THAT YteobpjjocfbdgaaProg.lean LOADS. Nothing in Lean hashes anything: it is a label: what it is worth is what the hold of that sum in a sandbox is worth. -/
noncomputable def Try.pinned : Pinned := { name := "yteobpjjocfbdgaa", sum := "058ec5959607ec870f781aded70ce7e7c957c8d2ad7693869b69f0aeb3e2c08b", checked := Try.checked }
namespace Rows
def none {H : Type} : Left H := { results := [], args := [] }

/-- 'compasslaw06.UnionBack': WHATEVER THE INPUT: true; the input reads as it did. -/
def unionBackSpec : ChangeSpec := { name := "unionBack", fn := fun _ => fun
  | [d1, d2] => { results := [.lit (.bool true)], args := [d1, d2] }
  | _ => none }
def unionBackRow : OpenClaim := { program := "yteobpjjocfbdgaa", sum := "058ec5959607ec870f781aded70ce7e7c957c8d2ad7693869b69f0aeb3e2c08b", func := "compass/compasslaw06.UnionBack", spec := "unionBack", apart := false }
def UnionBackSaid : Prop := unionBackRow.holds Try.pinned (OpenSpec.ofChange unionBackSpec)

/-- ITS FALSE NEIGHBOUR: 'it returns false'. Refute it at one input. -/
def unionBackWrong : ChangeSpec := { name := "unionBack", fn := fun _ => fun
  | [d1, d2] => { results := [.lit (.bool false)], args := [d1, d2] }
  | _ => none }
def UnionBackWrongFalsely : Prop := unionBackRow.holds Try.pinned (OpenSpec.ofChange unionBackWrong)

/-- 'compasslaw06.UnionTurns': WHATEVER THE INPUT: true; the input reads as it did. -/
def unionTurnsSpec : ChangeSpec := { name := "unionTurns", fn := fun _ => fun
  | [d] => { results := [.lit (.bool true)], args := [d] }
  | _ => none }
def unionTurnsRow : OpenClaim := { program := "yteobpjjocfbdgaa", sum := "058ec5959607ec870f781aded70ce7e7c957c8d2ad7693869b69f0aeb3e2c08b", func := "compass/compasslaw06.UnionTurns", spec := "unionTurns", apart := false }
def UnionTurnsSaid : Prop := unionTurnsRow.holds Try.pinned (OpenSpec.ofChange unionTurnsSpec)

/-- ITS FALSE NEIGHBOUR: 'it returns false'. Refute it at one input. -/
def unionTurnsWrong : ChangeSpec := { name := "unionTurns", fn := fun _ => fun
  | [d] => { results := [.lit (.bool false)], args := [d] }
  | _ => none }
def UnionTurnsWrongFalsely : Prop := unionTurnsRow.holds Try.pinned (OpenSpec.ofChange unionTurnsWrong)

/-- 'compasslaw06.UnionPlays': WHATEVER THE INPUT: true; the input reads as it did. -/
def unionPlaysSpec : ChangeSpec := { name := "unionPlays", fn := fun _ => fun
  | [d1, d2] => { results := [.lit (.bool true)], args := [d1, d2] }
  | _ => none }
def unionPlaysRow : OpenClaim := { program := "yteobpjjocfbdgaa", sum := "058ec5959607ec870f781aded70ce7e7c957c8d2ad7693869b69f0aeb3e2c08b", func := "compass/compasslaw06.UnionPlays", spec := "unionPlays", apart := false }
def UnionPlaysSaid : Prop := unionPlaysRow.holds Try.pinned (OpenSpec.ofChange unionPlaysSpec)

/-- ITS FALSE NEIGHBOUR: 'it returns false'. Refute it at one input. -/
def unionPlaysWrong : ChangeSpec := { name := "unionPlays", fn := fun _ => fun
  | [d1, d2] => { results := [.lit (.bool false)], args := [d1, d2] }
  | _ => none }
def UnionPlaysWrongFalsely : Prop := unionPlaysRow.holds Try.pinned (OpenSpec.ofChange unionPlaysWrong)

/- THE SECOND FORM. 'bulk': how many values and letters a reading holds, each counted each time it is reached (what is shared counts as often as it is met; a slice's spare places count too). A statement '..UptoSaid' is the law's where the arguments, and the package variables that the reading takes, are together of bulk at most 1048576: NARROWER than '..Said'. Prove '..Said' where nothing that the law and all that it calls make is longer than what came in: it says more and counts as full. Else prove '..UptoSaid'. A law counts once. -/
mutual
def uptoBulk {H : Type} : DataW H → Nat
  | .lit (.string bytes) => bytes.length + 1
  | .lit _ => 1
  | .nil => 1
  | .ptr d => uptoBulk d + 1
  | .slice elems spare => uptoBulkAll elems + uptoBulkAll spare + 1
  | .agg parts => uptoBulkAll parts + 1
  | .iface _ d => uptoBulk d + 1
  | .map entries => uptoBulkEntries entries + 1
  | .held _ => 1
def uptoBulkAll {H : Type} : List (DataW H) → Nat
  | [] => 0
  | d :: r => uptoBulk d + uptoBulkAll r
def uptoBulkEntries {H : Type} : List (Lit × DataW H) → Nat
  | [] => 0
  | x :: r => uptoBulkEntry x + uptoBulkEntries r
def uptoBulkEntry {H : Type} : Lit × DataW H → Nat
  | (.string bytes, d) => bytes.length + uptoBulk d + 1
  | (_, d) => uptoBulk d + 1
 end
def uptoSmall : (H : Type) → List (DataW H) → Bool := fun _ ds => decide (uptoBulkAll ds ≤ 1048576)
def OpenSpec.upto (s : _root_.Go.ChangeSpec) : _root_.Go.OpenSpec := { _root_.Go.OpenSpec.ofChange s with cond := some uptoSmall }

/-- 'compasslaw06.UnionBack', WHERE WHAT IT READS IS OF BULK AT MOST 1048576: true; the input reads as it did. -/
def unionBackUptoRow : OpenClaim := { program := "yteobpjjocfbdgaa", sum := "058ec5959607ec870f781aded70ce7e7c957c8d2ad7693869b69f0aeb3e2c08b", func := "compass/compasslaw06.UnionBack", spec := "unionBack", apart := false, narrowed := true }
def UnionBackUptoSaid : Prop := unionBackUptoRow.holds Try.pinned (OpenSpec.upto unionBackSpec)

/-- 'compasslaw06.UnionTurns', WHERE WHAT IT READS IS OF BULK AT MOST 1048576: true; the input reads as it did. -/
def unionTurnsUptoRow : OpenClaim := { program := "yteobpjjocfbdgaa", sum := "058ec5959607ec870f781aded70ce7e7c957c8d2ad7693869b69f0aeb3e2c08b", func := "compass/compasslaw06.UnionTurns", spec := "unionTurns", apart := false, narrowed := true }
def UnionTurnsUptoSaid : Prop := unionTurnsUptoRow.holds Try.pinned (OpenSpec.upto unionTurnsSpec)

/-- 'compasslaw06.UnionPlays', WHERE WHAT IT READS IS OF BULK AT MOST 1048576: true; the input reads as it did. -/
def unionPlaysUptoRow : OpenClaim := { program := "yteobpjjocfbdgaa", sum := "058ec5959607ec870f781aded70ce7e7c957c8d2ad7693869b69f0aeb3e2c08b", func := "compass/compasslaw06.UnionPlays", spec := "unionPlays", apart := false, narrowed := true }
def UnionPlaysUptoSaid : Prop := unionPlaysUptoRow.holds Try.pinned (OpenSpec.upto unionPlaysSpec)

end Rows
end Go.Proofs.Yteobpjjocfbdgaa
