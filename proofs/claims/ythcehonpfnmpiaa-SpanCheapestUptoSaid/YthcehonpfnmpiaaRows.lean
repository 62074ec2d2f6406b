/-
  No cell of these rows narrows 'for every input' (looked for: loops, veiled, ifaces, maps, wideKeys, modest, calm, conditions, laid).
  DERIVED. THE GIVEN ROWS OF THIS SEAT. 3 by the template 'for every input the law returns true; each argument reads behind the call as it read before'; 0 by the template 'total and deterministic' (their statements: YthcehonpfnmpiaaTotals.lean).
  GIVEN WITH THE SEED: the statements are not yours to turn. If you find one false, say at which input.
  Laid BY PROGRAM, IN A SANDBOX (cutbox-rows.mjs): the forced cells as the released guide's own fill.sh prints them over the translation 6e64d9c9782db5fd… (all of the seat's roots in one cut). By AI agents, Wed Nov 11 2026. No macro, syntax, notation, axiom, sorry.
-/
import Derived.Test.YthcehonpfnmpiaaChecked
import GoSem.Claim
import GoSem.ClaimJoined
import GoSem.ClaimMapViews
import Derived.JoinedTies
import Derived.KernelRfl
namespace Go.Proofs.Ythcehonpfnmpiaa
/- THE CELL 'sum', in the pinned program and in every row, IS THE sha256 OF THE DUMP (.gsa) THAT YthcehonpfnmpiaaProg.lean LOADS. Nothing in Lean hashes anything: it is a label: what it is worth is what the hold of that sum in a sandbox is worth. -/
noncomputable def Try.pinned : Pinned := { name := "ythcehonpfnmpiaa", sum := "6e64d9c9782db5fd6ce06668dc801019cf2205b00ff70fbfc414570d7ea9bd27", checked := Try.checked }
namespace Rows
def none {H : Type} : Left H := { results := [], args := [] }

/-- 'compasslaw10.SpanHolds': WHATEVER THE INPUT: true; the input reads as it did. -/
def spanHoldsSpec : ChangeSpec := { name := "spanHolds", fn := fun _ => fun
  | [d] => { results := [.lit (.bool true)], args := [d] }
  | _ => none }
def spanHoldsRow : OpenClaim := { program := "ythcehonpfnmpiaa", sum := "6e64d9c9782db5fd6ce06668dc801019cf2205b00ff70fbfc414570d7ea9bd27", func := "compass/compasslaw10.SpanHolds", spec := "spanHolds", unfollowed := true, recurses := true, apart := false }
def SpanHoldsSaid : Prop := spanHoldsRow.holds Try.pinned (OpenSpec.ofChange spanHoldsSpec)

/-- ITS FALSE NEIGHBOUR: 'it returns false'. Refute it at one input. -/
def spanHoldsWrong : ChangeSpec := { name := "spanHolds", fn := fun _ => fun
  | [d] => { results := [.lit (.bool false)], args := [d] }
  | _ => none }
def SpanHoldsWrongFalsely : Prop := spanHoldsRow.holds Try.pinned (OpenSpec.ofChange spanHoldsWrong)

/-- 'compasslaw10.SpanCheapest': WHATEVER THE INPUT: true; the input reads as it did. -/
def spanCheapestSpec : ChangeSpec := { name := "spanCheapest", fn := fun _ => fun
  | [d1, d2] => { results := [.lit (.bool true)], args := [d1, d2] }
  | _ => none }
def spanCheapestRow : OpenClaim := { program := "ythcehonpfnmpiaa", sum := "6e64d9c9782db5fd6ce06668dc801019cf2205b00ff70fbfc414570d7ea9bd27", func := "compass/compasslaw10.SpanCheapest", spec := "spanCheapest", unfollowed := true, recurses := true, apart := false }
def SpanCheapestSaid : Prop := spanCheapestRow.holds Try.pinned (OpenSpec.ofChange spanCheapestSpec)

/-- ITS FALSE NEIGHBOUR: 'it returns false'. Refute it at one input. -/
def spanCheapestWrong : ChangeSpec := { name := "spanCheapest", fn := fun _ => fun
  | [d1, d2] => { results := [.lit (.bool false)], args := [d1, d2] }
  | _ => none }
def SpanCheapestWrongFalsely : Prop := spanCheapestRow.holds Try.pinned (OpenSpec.ofChange spanCheapestWrong)

/-- 'compasslaw10.SpanShifts': WHATEVER THE INPUT: true; the input reads as it did. -/
def spanShiftsSpec : ChangeSpec := { name := "spanShifts", fn := fun _ => fun
  | [d1, d2, d3] => { results := [.lit (.bool true)], args := [d1, d2, d3] }
  | _ => none }
def spanShiftsRow : OpenClaim := { program := "ythcehonpfnmpiaa", sum := "6e64d9c9782db5fd6ce06668dc801019cf2205b00ff70fbfc414570d7ea9bd27", func := "compass/compasslaw10.SpanShifts", spec := "spanShifts", unfollowed := true, recurses := true, apart := false }
def SpanShiftsSaid : Prop := spanShiftsRow.holds Try.pinned (OpenSpec.ofChange spanShiftsSpec)

/-- ITS FALSE NEIGHBOUR: 'it returns false'. Refute it at one input. -/
def spanShiftsWrong : ChangeSpec := { name := "spanShifts", fn := fun _ => fun
  | [d1, d2, d3] => { results := [.lit (.bool false)], args := [d1, d2, d3] }
  | _ => none }
def SpanShiftsWrongFalsely : Prop := spanShiftsRow.holds Try.pinned (OpenSpec.ofChange spanShiftsWrong)

/- THE SECOND FORM. 'bulk': how many values and letters a reading holds, each counted each time it is reached (what is shared counts as often as it is met; a slice's spare places count too). A statement '..UptoSaid' is the law's where the arguments, and the package variables that the reading takes, are together of bulk at most 1048576: NARROWER than '..Said'. Prove '..Said' where nothing that the law and all that it calls make is longer than what came in: it says more and counts as full. Else prove '..UptoSaid'. A law counts once. -/
mutual
def uptoBulk {H : Type} : DataW H → Nat
  | .lit (.string bytes) => bytes.length + 1
  | .lit _ => 1
  | .nil => 1
  | .ptr d => uptoBulk d + 1
  | .slice elems spare => uptoBulkAll elems + uptoBulkAll spare + 1
  | .agg parts => uptoBulkAll parts + 1
  | .iface _ d => uptoBulk d + 1
  | .map entries => uptoBulkEntries entries + 1
  | .held _ => 1
def uptoBulkAll {H : Type} : List (DataW H) → Nat
  | [] => 0
  | d :: r => uptoBulk d + uptoBulkAll r
def uptoBulkEntries {H : Type} : List (Lit × DataW H) → Nat
  | [] => 0
  | x :: r => uptoBulkEntry x + uptoBulkEntries r
def uptoBulkEntry {H : Type} : Lit × DataW H → Nat
  | (.string bytes, d) => bytes.length + uptoBulk d + 1
  | (_, d) => uptoBulk d + 1
 end
def uptoSmall : (H : Type) → List (DataW H) → Bool := fun _ ds => decide (uptoBulkAll ds ≤ 1048576)
def OpenSpec.upto (s : _root_.Go.ChangeSpec) : _root_.Go.OpenSpec := { _root_.Go.OpenSpec.ofChange s with cond := some uptoSmall }

/-- 'compasslaw10.SpanHolds', WHERE WHAT IT READS IS OF BULK AT MOST 1048576: true; the input reads as it did. -/
def spanHoldsUptoRow : OpenClaim := { program := "ythcehonpfnmpiaa", sum := "6e64d9c9782db5fd6ce06668dc801019cf2205b00ff70fbfc414570d7ea9bd27", func := "compass/compasslaw10.SpanHolds", spec := "spanHolds", unfollowed := true, recurses := true, apart := false, narrowed := true }
def SpanHoldsUptoSaid : Prop := spanHoldsUptoRow.holds Try.pinned (OpenSpec.upto spanHoldsSpec)

/-- 'compasslaw10.SpanCheapest', WHERE WHAT IT READS IS OF BULK AT MOST 1048576: true; the input reads as it did. -/
def spanCheapestUptoRow : OpenClaim := { program := "ythcehonpfnmpiaa", sum := "6e64d9c9782db5fd6ce06668dc801019cf2205b00ff70fbfc414570d7ea9bd27", func := "compass/compasslaw10.SpanCheapest", spec := "spanCheapest", unfollowed := true, recurses := true, apart := false, narrowed := true }
def SpanCheapestUptoSaid : Prop := spanCheapestUptoRow.holds Try.pinned (OpenSpec.upto spanCheapestSpec)

/-- 'compasslaw10.SpanShifts', WHERE WHAT IT READS IS OF BULK AT MOST 1048576: true; the input reads as it did. -/
def spanShiftsUptoRow : OpenClaim := { program := "ythcehonpfnmpiaa", sum := "6e64d9c9782db5fd6ce06668dc801019cf2205b00ff70fbfc414570d7ea9bd27", func := "compass/compasslaw10.SpanShifts", spec := "spanShifts", unfollowed := true, recurses := true, apart := false, narrowed := true }
def SpanShiftsUptoSaid : Prop := spanShiftsUptoRow.holds Try.pinned (OpenSpec.upto spanShiftsSpec)

end Rows
end Go.Proofs.Ythcehonpfnmpiaa
