/-
  No cell of these rows narrows 'for every input' (looked for: loops, veiled, ifaces, maps, wideKeys, modest, calm, conditions, laid).
  DERIVED. THE GIVEN ROWS OF THIS SEAT. 4 by the template 'for every input the law returns true; each argument reads behind the call as it read before'; 0 by the template 'total and deterministic' (their statements: YthcehonpfnmpiaaGreatTotals.lean).
  GIVEN WITH THE SEED: the statements are not yours to turn. If you find one false, say at which input.
  Laid BY PROGRAM, IN A SANDBOX (cutbox-rows.mjs): the forced cells as the released guide's own fill.sh prints them over the translation d89945c68cede16a… (all of the seat's roots in one cut). By AI agents, Wed Nov 11 2026. No macro, syntax, notation, axiom, sorry.
-/
import Derived.Test.YthcehonpfnmpiaaGreatChecked
import GoSem.Claim
import GoSem.ClaimJoined
import GoSem.ClaimMapViews
import Derived.JoinedTies
import Derived.KernelRfl
namespace Go.Proofs.YthcehonpfnmpiaaGreat
/- THE CELL 'sum', in the pinned program and in every row, IS THE sha256 OF THE DUMP (.gsa) THAT YthcehonpfnmpiaaGreatProg.lean LOADS. Nothing in Lean hashes anything: it is a label: what it is worth is what the hold of that sum in a sandbox is worth. -/
noncomputable def Tryz.pinned : Pinned := { name := "ythcehonpfnmpiaagreat", sum := "d89945c68cede16a2da8a872be30ac521baef6640f7046bfeb2b0bfd3faa9970", checked := Tryz.checked }
namespace Rows
def none {H : Type} : Left H := { results := [], args := [] }

/-- 'compasslaw10.SpanForests': WHATEVER THE INPUT: true; the input reads as it did. -/
def spanForestsSpec : ChangeSpec := { name := "spanForests", fn := fun _ => fun
  | [d1, d2] => { results := [.lit (.bool true)], args := [d1, d2] }
  | _ => none }
def spanForestsRow : OpenClaim := { program := "ythcehonpfnmpiaagreat", sum := "d89945c68cede16a2da8a872be30ac521baef6640f7046bfeb2b0bfd3faa9970", func := "compass/compasslaw10.SpanForests", spec := "spanForests", unfollowed := true, recurses := true, apart := false }
def SpanForestsSaid : Prop := spanForestsRow.holds Tryz.pinned (OpenSpec.ofChange spanForestsSpec)

/-- ITS FALSE NEIGHBOUR: 'it returns false'. Refute it at one input. -/
def spanForestsWrong : ChangeSpec := { name := "spanForests", fn := fun _ => fun
  | [d1, d2] => { results := [.lit (.bool false)], args := [d1, d2] }
  | _ => none }
def SpanForestsWrongFalsely : Prop := spanForestsRow.holds Tryz.pinned (OpenSpec.ofChange spanForestsWrong)

/-- 'compasslaw10.SpanNecks': WHATEVER THE INPUT: true; the input reads as it did. -/
def spanNecksSpec : ChangeSpec := { name := "spanNecks", fn := fun _ => fun
  | [d1, d2, d3] => { results := [.lit (.bool true)], args := [d1, d2, d3] }
  | _ => none }
def spanNecksRow : OpenClaim := { program := "ythcehonpfnmpiaagreat", sum := "d89945c68cede16a2da8a872be30ac521baef6640f7046bfeb2b0bfd3faa9970", func := "compass/compasslaw10.SpanNecks", spec := "spanNecks", unfollowed := true, recurses := true, apart := false }
def SpanNecksSaid : Prop := spanNecksRow.holds Tryz.pinned (OpenSpec.ofChange spanNecksSpec)

/-- ITS FALSE NEIGHBOUR: 'it returns false'. Refute it at one input. -/
def spanNecksWrong : ChangeSpec := { name := "spanNecks", fn := fun _ => fun
  | [d1, d2, d3] => { results := [.lit (.bool false)], args := [d1, d2, d3] }
  | _ => none }
def SpanNecksWrongFalsely : Prop := spanNecksRow.holds Tryz.pinned (OpenSpec.ofChange spanNecksWrong)

/-- 'compasslaw10.SpanNeckCuts': WHATEVER THE INPUT: true; the input reads as it did. -/
def spanNeckCutsSpec : ChangeSpec := { name := "spanNeckCuts", fn := fun _ => fun
  | [d1, d2, d3] => { results := [.lit (.bool true)], args := [d1, d2, d3] }
  | _ => none }
def spanNeckCutsRow : OpenClaim := { program := "ythcehonpfnmpiaagreat", sum := "d89945c68cede16a2da8a872be30ac521baef6640f7046bfeb2b0bfd3faa9970", func := "compass/compasslaw10.SpanNeckCuts", spec := "spanNeckCuts", unfollowed := true, recurses := true, apart := false }
def SpanNeckCutsSaid : Prop := spanNeckCutsRow.holds Tryz.pinned (OpenSpec.ofChange spanNeckCutsSpec)

/-- ITS FALSE NEIGHBOUR: 'it returns false'. Refute it at one input. -/
def spanNeckCutsWrong : ChangeSpec := { name := "spanNeckCuts", fn := fun _ => fun
  | [d1, d2, d3] => { results := [.lit (.bool false)], args := [d1, d2, d3] }
  | _ => none }
def SpanNeckCutsWrongFalsely : Prop := spanNeckCutsRow.holds Tryz.pinned (OpenSpec.ofChange spanNeckCutsWrong)

/-- 'compasslaw10.SpanKeeps': WHATEVER THE INPUT: true; the input reads as it did. -/
def spanKeepsSpec : ChangeSpec := { name := "spanKeeps", fn := fun _ => fun
  | [d1, d2] => { results := [.lit (.bool true)], args := [d1, d2] }
  | _ => none }
def spanKeepsRow : OpenClaim := { program := "ythcehonpfnmpiaagreat", sum := "d89945c68cede16a2da8a872be30ac521baef6640f7046bfeb2b0bfd3faa9970", func := "compass/compasslaw10.SpanKeeps", spec := "spanKeeps", unfollowed := true, recurses := true, apart := false }
def SpanKeepsSaid : Prop := spanKeepsRow.holds Tryz.pinned (OpenSpec.ofChange spanKeepsSpec)

/-- ITS FALSE NEIGHBOUR: 'it returns false'. Refute it at one input. -/
def spanKeepsWrong : ChangeSpec := { name := "spanKeeps", fn := fun _ => fun
  | [d1, d2] => { results := [.lit (.bool false)], args := [d1, d2] }
  | _ => none }
def SpanKeepsWrongFalsely : Prop := spanKeepsRow.holds Tryz.pinned (OpenSpec.ofChange spanKeepsWrong)

/- THE SECOND FORM. 'bulk': how many values and letters a reading holds, each counted each time it is reached (what is shared counts as often as it is met; a slice's spare places count too). A statement '..UptoSaid' is the law's where the arguments, and the package variables that the reading takes, are together of bulk at most 1048576: NARROWER than '..Said'. Prove '..Said' where nothing that the law and all that it calls make is longer than what came in: it says more and counts as full. Else prove '..UptoSaid'. A law counts once. -/
mutual
def uptoBulk {H : Type} : DataW H → Nat
  | .lit (.string bytes) => bytes.length + 1
  | .lit _ => 1
  | .nil => 1
  | .ptr d => uptoBulk d + 1
  | .slice elems spare => uptoBulkAll elems + uptoBulkAll spare + 1
  | .agg parts => uptoBulkAll parts + 1
  | .iface _ d => uptoBulk d + 1
  | .map entries => uptoBulkEntries entries + 1
  | .held _ => 1
def uptoBulkAll {H : Type} : List (DataW H) → Nat
  | [] => 0
  | d :: r => uptoBulk d + uptoBulkAll r
def uptoBulkEntries {H : Type} : List (Lit × DataW H) → Nat
  | [] => 0
  | x :: r => uptoBulkEntry x + uptoBulkEntries r
def uptoBulkEntry {H : Type} : Lit × DataW H → Nat
  | (.string bytes, d) => bytes.length + uptoBulk d + 1
  | (_, d) => uptoBulk d + 1
 end
def uptoSmall : (H : Type) → List (DataW H) → Bool := fun _ ds => decide (uptoBulkAll ds ≤ 1048576)
def OpenSpec.upto (s : _root_.Go.ChangeSpec) : _root_.Go.OpenSpec := { _root_.Go.OpenSpec.ofChange s with cond := some uptoSmall }

/-- 'compasslaw10.SpanForests', WHERE WHAT IT READS IS OF BULK AT MOST 1048576: true; the input reads as it did. -/
def spanForestsUptoRow : OpenClaim := { program := "ythcehonpfnmpiaagreat", sum := "d89945c68cede16a2da8a872be30ac521baef6640f7046bfeb2b0bfd3faa9970", func := "compass/compasslaw10.SpanForests", spec := "spanForests", unfollowed := true, recurses := true, apart := false, narrowed := true }
def SpanForestsUptoSaid : Prop := spanForestsUptoRow.holds Tryz.pinned (OpenSpec.upto spanForestsSpec)

/-- 'compasslaw10.SpanNecks', WHERE WHAT IT READS IS OF BULK AT MOST 1048576: true; the input reads as it did. -/
def spanNecksUptoRow : OpenClaim := { program := "ythcehonpfnmpiaagreat", sum := "d89945c68cede16a2da8a872be30ac521baef6640f7046bfeb2b0bfd3faa9970", func := "compass/compasslaw10.SpanNecks", spec := "spanNecks", unfollowed := true, recurses := true, apart := false, narrowed := true }
def SpanNecksUptoSaid : Prop := spanNecksUptoRow.holds Tryz.pinned (OpenSpec.upto spanNecksSpec)

/-- 'compasslaw10.SpanNeckCuts', WHERE WHAT IT READS IS OF BULK AT MOST 1048576: true; the input reads as it did. -/
def spanNeckCutsUptoRow : OpenClaim := { program := "ythcehonpfnmpiaagreat", sum := "d89945c68cede16a2da8a872be30ac521baef6640f7046bfeb2b0bfd3faa9970", func := "compass/compasslaw10.SpanNeckCuts", spec := "spanNeckCuts", unfollowed := true, recurses := true, apart := false, narrowed := true }
def SpanNeckCutsUptoSaid : Prop := spanNeckCutsUptoRow.holds Tryz.pinned (OpenSpec.upto spanNeckCutsSpec)

/-- 'compasslaw10.SpanKeeps', WHERE WHAT IT READS IS OF BULK AT MOST 1048576: true; the input reads as it did. -/
def spanKeepsUptoRow : OpenClaim := { program := "ythcehonpfnmpiaagreat", sum := "d89945c68cede16a2da8a872be30ac521baef6640f7046bfeb2b0bfd3faa9970", func := "compass/compasslaw10.SpanKeeps", spec := "spanKeeps", unfollowed := true, recurses := true, apart := false, narrowed := true }
def SpanKeepsUptoSaid : Prop := spanKeepsUptoRow.holds Tryz.pinned (OpenSpec.upto spanKeepsSpec)

end Rows
end Go.Proofs.YthcehonpfnmpiaaGreat
