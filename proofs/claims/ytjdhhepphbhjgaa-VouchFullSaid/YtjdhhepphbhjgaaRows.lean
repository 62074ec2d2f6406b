/-
  No cell of these rows narrows 'for every input' (looked for: loops, veiled, ifaces, maps, wideKeys, modest, calm, conditions, laid).
  DERIVED. THE GIVEN ROWS OF THIS SEAT. 13 by the template 'for every input the law returns true; each argument reads behind the call as it read before'; 0 by the template 'total and deterministic' (their statements: YtjdhhepphbhjgaaTotals.lean).
  GIVEN WITH THE SEED: the statements are not yours to turn. If you find one false, say at which input.
  Laid BY PROGRAM, IN A SANDBOX (cutbox-rows.mjs): the forced cells as the released guide's own fill.sh prints them over the translation 63e1cab9a8d39ffb… (all of the seat's roots in one cut). By AI agents, Wed Nov 11 2026. No macro, syntax, notation, axiom, sorry.
-/
import Derived.Test.YtjdhhepphbhjgaaChecked
import GoSem.Claim
import GoSem.ClaimJoined
import GoSem.ClaimMapViews
import Derived.JoinedTies
import Derived.KernelRfl
namespace Go.Proofs.Ytjdhhepphbhjgaa
/- THE CELL 'sum', in the pinned program and in every row, IS THE sha256 OF THE DUMP (.gsa) THAT YtjdhhepphbhjgaaProg.lean LOADS. Nothing in Lean hashes anything: it is a label: what it is worth is what the hold of that sum in a sandbox is worth. -/
noncomputable def Try.pinned : Pinned := { name := "ytjdhhepphbhjgaa", sum := "63e1cab9a8d39ffb2fc8c685791dd0bb19dd86dab2df0c958e2de41a61b90694", checked := Try.checked }
namespace Rows
def none {H : Type} : Left H := { results := [], args := [] }

/-- 'compasslaw12.VouchBarriers': WHATEVER THE INPUT: true; the input reads as it did. -/
def vouchBarriersSpec : ChangeSpec := { name := "vouchBarriers", fn := fun _ => fun
  | [d1, d2, d3] => { results := [.lit (.bool true)], args := [d1, d2, d3] }
  | _ => none }
def vouchBarriersRow : OpenClaim := { program := "ytjdhhepphbhjgaa", sum := "63e1cab9a8d39ffb2fc8c685791dd0bb19dd86dab2df0c958e2de41a61b90694", func := "compass/compasslaw12.VouchBarriers", spec := "vouchBarriers", unfollowed := true, recurses := true, apart := false }
def VouchBarriersSaid : Prop := vouchBarriersRow.holds Try.pinned (OpenSpec.ofChange vouchBarriersSpec)

/-- ITS FALSE NEIGHBOUR: 'it returns false'. Refute it at one input. -/
def vouchBarriersWrong : ChangeSpec := { name := "vouchBarriers", fn := fun _ => fun
  | [d1, d2, d3] => { results := [.lit (.bool false)], args := [d1, d2, d3] }
  | _ => none }
def VouchBarriersWrongFalsely : Prop := vouchBarriersRow.holds Try.pinned (OpenSpec.ofChange vouchBarriersWrong)

/-- 'compasslaw12.VouchDuals': WHATEVER THE INPUT: true; the input reads as it did. -/
def vouchDualsSpec : ChangeSpec := { name := "vouchDuals", fn := fun _ => fun
  | [d1, d2, d3] => { results := [.lit (.bool true)], args := [d1, d2, d3] }
  | _ => none }
def vouchDualsRow : OpenClaim := { program := "ytjdhhepphbhjgaa", sum := "63e1cab9a8d39ffb2fc8c685791dd0bb19dd86dab2df0c958e2de41a61b90694", func := "compass/compasslaw12.VouchDuals", spec := "vouchDuals", unfollowed := true, recurses := true, apart := false }
def VouchDualsSaid : Prop := vouchDualsRow.holds Try.pinned (OpenSpec.ofChange vouchDualsSpec)

/-- ITS FALSE NEIGHBOUR: 'it returns false'. Refute it at one input. -/
def vouchDualsWrong : ChangeSpec := { name := "vouchDuals", fn := fun _ => fun
  | [d1, d2, d3] => { results := [.lit (.bool false)], args := [d1, d2, d3] }
  | _ => none }
def VouchDualsWrongFalsely : Prop := vouchDualsRow.holds Try.pinned (OpenSpec.ofChange vouchDualsWrong)

/-- 'compasslaw12.VouchGadgets': WHATEVER THE INPUT: true; the input reads as it did. -/
def vouchGadgetsSpec : ChangeSpec := { name := "vouchGadgets", fn := fun _ => fun
  | [d1, d2] => { results := [.lit (.bool true)], args := [d1, d2] }
  | _ => none }
def vouchGadgetsRow : OpenClaim := { program := "ytjdhhepphbhjgaa", sum := "63e1cab9a8d39ffb2fc8c685791dd0bb19dd86dab2df0c958e2de41a61b90694", func := "compass/compasslaw12.VouchGadgets", spec := "vouchGadgets", unfollowed := true, recurses := true, apart := false }
def VouchGadgetsSaid : Prop := vouchGadgetsRow.holds Try.pinned (OpenSpec.ofChange vouchGadgetsSpec)

/-- ITS FALSE NEIGHBOUR: 'it returns false'. Refute it at one input. -/
def vouchGadgetsWrong : ChangeSpec := { name := "vouchGadgets", fn := fun _ => fun
  | [d1, d2] => { results := [.lit (.bool false)], args := [d1, d2] }
  | _ => none }
def VouchGadgetsWrongFalsely : Prop := vouchGadgetsRow.holds Try.pinned (OpenSpec.ofChange vouchGadgetsWrong)

/-- 'compasslaw12.VouchEvens': WHATEVER THE INPUT: true; the input reads as it did. -/
def vouchEvensSpec : ChangeSpec := { name := "vouchEvens", fn := fun _ => fun
  | [d1, d2] => { results := [.lit (.bool true)], args := [d1, d2] }
  | _ => none }
def vouchEvensRow : OpenClaim := { program := "ytjdhhepphbhjgaa", sum := "63e1cab9a8d39ffb2fc8c685791dd0bb19dd86dab2df0c958e2de41a61b90694", func := "compass/compasslaw12.VouchEvens", spec := "vouchEvens", unfollowed := true, recurses := true, apart := false }
def VouchEvensSaid : Prop := vouchEvensRow.holds Try.pinned (OpenSpec.ofChange vouchEvensSpec)

/-- ITS FALSE NEIGHBOUR: 'it returns false'. Refute it at one input. -/
def vouchEvensWrong : ChangeSpec := { name := "vouchEvens", fn := fun _ => fun
  | [d1, d2] => { results := [.lit (.bool false)], args := [d1, d2] }
  | _ => none }
def VouchEvensWrongFalsely : Prop := vouchEvensRow.holds Try.pinned (OpenSpec.ofChange vouchEvensWrong)

/-- 'compasslaw12.VouchCoverSound': WHATEVER THE INPUT: true; the input reads as it did. -/
def vouchCoverSoundSpec : ChangeSpec := { name := "vouchCoverSound", fn := fun _ => fun
  | [d1, d2, d3] => { results := [.lit (.bool true)], args := [d1, d2, d3] }
  | _ => none }
def vouchCoverSoundRow : OpenClaim := { program := "ytjdhhepphbhjgaa", sum := "63e1cab9a8d39ffb2fc8c685791dd0bb19dd86dab2df0c958e2de41a61b90694", func := "compass/compasslaw12.VouchCoverSound", spec := "vouchCoverSound", unfollowed := true, recurses := true, apart := false }
def VouchCoverSoundSaid : Prop := vouchCoverSoundRow.holds Try.pinned (OpenSpec.ofChange vouchCoverSoundSpec)

/-- ITS FALSE NEIGHBOUR: 'it returns false'. Refute it at one input. -/
def vouchCoverSoundWrong : ChangeSpec := { name := "vouchCoverSound", fn := fun _ => fun
  | [d1, d2, d3] => { results := [.lit (.bool false)], args := [d1, d2, d3] }
  | _ => none }
def VouchCoverSoundWrongFalsely : Prop := vouchCoverSoundRow.holds Try.pinned (OpenSpec.ofChange vouchCoverSoundWrong)

/-- 'compasslaw12.VouchBarrierSound': WHATEVER THE INPUT: true; the input reads as it did. -/
def vouchBarrierSoundSpec : ChangeSpec := { name := "vouchBarrierSound", fn := fun _ => fun
  | [d1, d2] => { results := [.lit (.bool true)], args := [d1, d2] }
  | _ => none }
def vouchBarrierSoundRow : OpenClaim := { program := "ytjdhhepphbhjgaa", sum := "63e1cab9a8d39ffb2fc8c685791dd0bb19dd86dab2df0c958e2de41a61b90694", func := "compass/compasslaw12.VouchBarrierSound", spec := "vouchBarrierSound", unfollowed := true, recurses := true, apart := false }
def VouchBarrierSoundSaid : Prop := vouchBarrierSoundRow.holds Try.pinned (OpenSpec.ofChange vouchBarrierSoundSpec)

/-- ITS FALSE NEIGHBOUR: 'it returns false'. Refute it at one input. -/
def vouchBarrierSoundWrong : ChangeSpec := { name := "vouchBarrierSound", fn := fun _ => fun
  | [d1, d2] => { results := [.lit (.bool false)], args := [d1, d2] }
  | _ => none }
def VouchBarrierSoundWrongFalsely : Prop := vouchBarrierSoundRow.holds Try.pinned (OpenSpec.ofChange vouchBarrierSoundWrong)

/-- 'compasslaw12.VouchDualSound': WHATEVER THE INPUT: true; the input reads as it did. -/
def vouchDualSoundSpec : ChangeSpec := { name := "vouchDualSound", fn := fun _ => fun
  | [d1, d2] => { results := [.lit (.bool true)], args := [d1, d2] }
  | _ => none }
def vouchDualSoundRow : OpenClaim := { program := "ytjdhhepphbhjgaa", sum := "63e1cab9a8d39ffb2fc8c685791dd0bb19dd86dab2df0c958e2de41a61b90694", func := "compass/compasslaw12.VouchDualSound", spec := "vouchDualSound", unfollowed := true, recurses := true, apart := false }
def VouchDualSoundSaid : Prop := vouchDualSoundRow.holds Try.pinned (OpenSpec.ofChange vouchDualSoundSpec)

/-- ITS FALSE NEIGHBOUR: 'it returns false'. Refute it at one input. -/
def vouchDualSoundWrong : ChangeSpec := { name := "vouchDualSound", fn := fun _ => fun
  | [d1, d2] => { results := [.lit (.bool false)], args := [d1, d2] }
  | _ => none }
def VouchDualSoundWrongFalsely : Prop := vouchDualSoundRow.holds Try.pinned (OpenSpec.ofChange vouchDualSoundWrong)

/-- 'compasslaw12.VouchManySound': WHATEVER THE INPUT: true; the input reads as it did. -/
def vouchManySoundSpec : ChangeSpec := { name := "vouchManySound", fn := fun _ => fun
  | [d1, d2] => { results := [.lit (.bool true)], args := [d1, d2] }
  | _ => none }
def vouchManySoundRow : OpenClaim := { program := "ytjdhhepphbhjgaa", sum := "63e1cab9a8d39ffb2fc8c685791dd0bb19dd86dab2df0c958e2de41a61b90694", func := "compass/compasslaw12.VouchManySound", spec := "vouchManySound", unfollowed := true, recurses := true, apart := false }
def VouchManySoundSaid : Prop := vouchManySoundRow.holds Try.pinned (OpenSpec.ofChange vouchManySoundSpec)

/-- ITS FALSE NEIGHBOUR: 'it returns false'. Refute it at one input. -/
def vouchManySoundWrong : ChangeSpec := { name := "vouchManySound", fn := fun _ => fun
  | [d1, d2] => { results := [.lit (.bool false)], args := [d1, d2] }
  | _ => none }
def VouchManySoundWrongFalsely : Prop := vouchManySoundRow.holds Try.pinned (OpenSpec.ofChange vouchManySoundWrong)

/-- 'compasslaw12.VouchEvenSound': WHATEVER THE INPUT: true; the input reads as it did. -/
def vouchEvenSoundSpec : ChangeSpec := { name := "vouchEvenSound", fn := fun _ => fun
  | [d1, d2] => { results := [.lit (.bool true)], args := [d1, d2] }
  | _ => none }
def vouchEvenSoundRow : OpenClaim := { program := "ytjdhhepphbhjgaa", sum := "63e1cab9a8d39ffb2fc8c685791dd0bb19dd86dab2df0c958e2de41a61b90694", func := "compass/compasslaw12.VouchEvenSound", spec := "vouchEvenSound", unfollowed := true, recurses := true, apart := false }
def VouchEvenSoundSaid : Prop := vouchEvenSoundRow.holds Try.pinned (OpenSpec.ofChange vouchEvenSoundSpec)

/-- ITS FALSE NEIGHBOUR: 'it returns false'. Refute it at one input. -/
def vouchEvenSoundWrong : ChangeSpec := { name := "vouchEvenSound", fn := fun _ => fun
  | [d1, d2] => { results := [.lit (.bool false)], args := [d1, d2] }
  | _ => none }
def VouchEvenSoundWrongFalsely : Prop := vouchEvenSoundRow.holds Try.pinned (OpenSpec.ofChange vouchEvenSoundWrong)

/-- 'compasslaw12.VouchFull': WHATEVER THE INPUT: true; the input reads as it did. -/
def vouchFullSpec : ChangeSpec := { name := "vouchFull", fn := fun _ => fun
  | [d1, d2] => { results := [.lit (.bool true)], args := [d1, d2] }
  | _ => none }
def vouchFullRow : OpenClaim := { program := "ytjdhhepphbhjgaa", sum := "63e1cab9a8d39ffb2fc8c685791dd0bb19dd86dab2df0c958e2de41a61b90694", func := "compass/compasslaw12.VouchFull", spec := "vouchFull", unfollowed := true, recurses := true, apart := false }
def VouchFullSaid : Prop := vouchFullRow.holds Try.pinned (OpenSpec.ofChange vouchFullSpec)

/-- ITS FALSE NEIGHBOUR: 'it returns false'. Refute it at one input. -/
def vouchFullWrong : ChangeSpec := { name := "vouchFull", fn := fun _ => fun
  | [d1, d2] => { results := [.lit (.bool false)], args := [d1, d2] }
  | _ => none }
def VouchFullWrongFalsely : Prop := vouchFullRow.holds Try.pinned (OpenSpec.ofChange vouchFullWrong)

/-- 'compasslaw12.VouchGadgetFits': WHATEVER THE INPUT: true; the input reads as it did. -/
def vouchGadgetFitsSpec : ChangeSpec := { name := "vouchGadgetFits", fn := fun _ => fun
  | [d1, d2] => { results := [.lit (.bool true)], args := [d1, d2] }
  | _ => none }
def vouchGadgetFitsRow : OpenClaim := { program := "ytjdhhepphbhjgaa", sum := "63e1cab9a8d39ffb2fc8c685791dd0bb19dd86dab2df0c958e2de41a61b90694", func := "compass/compasslaw12.VouchGadgetFits", spec := "vouchGadgetFits", unfollowed := true, recurses := true, apart := false }
def VouchGadgetFitsSaid : Prop := vouchGadgetFitsRow.holds Try.pinned (OpenSpec.ofChange vouchGadgetFitsSpec)

/-- ITS FALSE NEIGHBOUR: 'it returns false'. Refute it at one input. -/
def vouchGadgetFitsWrong : ChangeSpec := { name := "vouchGadgetFits", fn := fun _ => fun
  | [d1, d2] => { results := [.lit (.bool false)], args := [d1, d2] }
  | _ => none }
def VouchGadgetFitsWrongFalsely : Prop := vouchGadgetFitsRow.holds Try.pinned (OpenSpec.ofChange vouchGadgetFitsWrong)

/-- 'compasslaw12.VouchCovers': WHATEVER THE INPUT: true; the input reads as it did. -/
def vouchCoversSpec : ChangeSpec := { name := "vouchCovers", fn := fun _ => fun
  | [d1, d2] => { results := [.lit (.bool true)], args := [d1, d2] }
  | _ => none }
def vouchCoversRow : OpenClaim := { program := "ytjdhhepphbhjgaa", sum := "63e1cab9a8d39ffb2fc8c685791dd0bb19dd86dab2df0c958e2de41a61b90694", func := "compass/compasslaw12.VouchCovers", spec := "vouchCovers", unfollowed := true, recurses := true, apart := false }
def VouchCoversSaid : Prop := vouchCoversRow.holds Try.pinned (OpenSpec.ofChange vouchCoversSpec)

/-- ITS FALSE NEIGHBOUR: 'it returns false'. Refute it at one input. -/
def vouchCoversWrong : ChangeSpec := { name := "vouchCovers", fn := fun _ => fun
  | [d1, d2] => { results := [.lit (.bool false)], args := [d1, d2] }
  | _ => none }
def VouchCoversWrongFalsely : Prop := vouchCoversRow.holds Try.pinned (OpenSpec.ofChange vouchCoversWrong)

/-- 'compasslaw12.VouchRests': WHATEVER THE INPUT: true; the input reads as it did. -/
def vouchRestsSpec : ChangeSpec := { name := "vouchRests", fn := fun _ => fun
  | [d1, d2] => { results := [.lit (.bool true)], args := [d1, d2] }
  | _ => none }
def vouchRestsRow : OpenClaim := { program := "ytjdhhepphbhjgaa", sum := "63e1cab9a8d39ffb2fc8c685791dd0bb19dd86dab2df0c958e2de41a61b90694", func := "compass/compasslaw12.VouchRests", spec := "vouchRests", unfollowed := true, recurses := true, apart := false }
def VouchRestsSaid : Prop := vouchRestsRow.holds Try.pinned (OpenSpec.ofChange vouchRestsSpec)

/-- ITS FALSE NEIGHBOUR: 'it returns false'. Refute it at one input. -/
def vouchRestsWrong : ChangeSpec := { name := "vouchRests", fn := fun _ => fun
  | [d1, d2] => { results := [.lit (.bool false)], args := [d1, d2] }
  | _ => none }
def VouchRestsWrongFalsely : Prop := vouchRestsRow.holds Try.pinned (OpenSpec.ofChange vouchRestsWrong)

/- THE SECOND FORM. 'bulk': how many values and letters a reading holds, each counted each time it is reached (what is shared counts as often as it is met; a slice's spare places count too). A statement '..UptoSaid' is the law's where the arguments, and the package variables that the reading takes, are together of bulk at most 1048576: NARROWER than '..Said'. Prove '..Said' where nothing that the law and all that it calls make is longer than what came in: it says more and counts as full. Else prove '..UptoSaid'. A law counts once. -/
mutual
def uptoBulk {H : Type} : DataW H → Nat
  | .lit (.string bytes) => bytes.length + 1
  | .lit _ => 1
  | .nil => 1
  | .ptr d => uptoBulk d + 1
  | .slice elems spare => uptoBulkAll elems + uptoBulkAll spare + 1
  | .agg parts => uptoBulkAll parts + 1
  | .iface _ d => uptoBulk d + 1
  | .map entries => uptoBulkEntries entries + 1
  | .held _ => 1
def uptoBulkAll {H : Type} : List (DataW H) → Nat
  | [] => 0
  | d :: r => uptoBulk d + uptoBulkAll r
def uptoBulkEntries {H : Type} : List (Lit × DataW H) → Nat
  | [] => 0
  | x :: r => uptoBulkEntry x + uptoBulkEntries r
def uptoBulkEntry {H : Type} : Lit × DataW H → Nat
  | (.string bytes, d) => bytes.length + uptoBulk d + 1
  | (_, d) => uptoBulk d + 1
 end
def uptoSmall : (H : Type) → List (DataW H) → Bool := fun _ ds => decide (uptoBulkAll ds ≤ 1048576)
def OpenSpec.upto (s : _root_.Go.ChangeSpec) : _root_.Go.OpenSpec := { _root_.Go.OpenSpec.ofChange s with cond := some uptoSmall }

/-- 'compasslaw12.VouchBarriers', WHERE WHAT IT READS IS OF BULK AT MOST 1048576: true; the input reads as it did. -/
def vouchBarriersUptoRow : OpenClaim := { program := "ytjdhhepphbhjgaa", sum := "63e1cab9a8d39ffb2fc8c685791dd0bb19dd86dab2df0c958e2de41a61b90694", func := "compass/compasslaw12.VouchBarriers", spec := "vouchBarriers", unfollowed := true, recurses := true, apart := false, narrowed := true }
def VouchBarriersUptoSaid : Prop := vouchBarriersUptoRow.holds Try.pinned (OpenSpec.upto vouchBarriersSpec)

/-- 'compasslaw12.VouchDuals', WHERE WHAT IT READS IS OF BULK AT MOST 1048576: true; the input reads as it did. -/
def vouchDualsUptoRow : OpenClaim := { program := "ytjdhhepphbhjgaa", sum := "63e1cab9a8d39ffb2fc8c685791dd0bb19dd86dab2df0c958e2de41a61b90694", func := "compass/compasslaw12.VouchDuals", spec := "vouchDuals", unfollowed := true, recurses := true, apart := false, narrowed := true }
def VouchDualsUptoSaid : Prop := vouchDualsUptoRow.holds Try.pinned (OpenSpec.upto vouchDualsSpec)

/-- 'compasslaw12.VouchGadgets', WHERE WHAT IT READS IS OF BULK AT MOST 1048576: true; the input reads as it did. -/
def vouchGadgetsUptoRow : OpenClaim := { program := "ytjdhhepphbhjgaa", sum := "63e1cab9a8d39ffb2fc8c685791dd0bb19dd86dab2df0c958e2de41a61b90694", func := "compass/compasslaw12.VouchGadgets", spec := "vouchGadgets", unfollowed := true, recurses := true, apart := false, narrowed := true }
def VouchGadgetsUptoSaid : Prop := vouchGadgetsUptoRow.holds Try.pinned (OpenSpec.upto vouchGadgetsSpec)

/-- 'compasslaw12.VouchEvens', WHERE WHAT IT READS IS OF BULK AT MOST 1048576: true; the input reads as it did. -/
def vouchEvensUptoRow : OpenClaim := { program := "ytjdhhepphbhjgaa", sum := "63e1cab9a8d39ffb2fc8c685791dd0bb19dd86dab2df0c958e2de41a61b90694", func := "compass/compasslaw12.VouchEvens", spec := "vouchEvens", unfollowed := true, recurses := true, apart := false, narrowed := true }
def VouchEvensUptoSaid : Prop := vouchEvensUptoRow.holds Try.pinned (OpenSpec.upto vouchEvensSpec)

/-- 'compasslaw12.VouchCoverSound', WHERE WHAT IT READS IS OF BULK AT MOST 1048576: true; the input reads as it did. -/
def vouchCoverSoundUptoRow : OpenClaim := { program := "ytjdhhepphbhjgaa", sum := "63e1cab9a8d39ffb2fc8c685791dd0bb19dd86dab2df0c958e2de41a61b90694", func := "compass/compasslaw12.VouchCoverSound", spec := "vouchCoverSound", unfollowed := true, recurses := true, apart := false, narrowed := true }
def VouchCoverSoundUptoSaid : Prop := vouchCoverSoundUptoRow.holds Try.pinned (OpenSpec.upto vouchCoverSoundSpec)

/-- 'compasslaw12.VouchBarrierSound', WHERE WHAT IT READS IS OF BULK AT MOST 1048576: true; the input reads as it did. -/
def vouchBarrierSoundUptoRow : OpenClaim := { program := "ytjdhhepphbhjgaa", sum := "63e1cab9a8d39ffb2fc8c685791dd0bb19dd86dab2df0c958e2de41a61b90694", func := "compass/compasslaw12.VouchBarrierSound", spec := "vouchBarrierSound", unfollowed := true, recurses := true, apart := false, narrowed := true }
def VouchBarrierSoundUptoSaid : Prop := vouchBarrierSoundUptoRow.holds Try.pinned (OpenSpec.upto vouchBarrierSoundSpec)

/-- 'compasslaw12.VouchDualSound', WHERE WHAT IT READS IS OF BULK AT MOST 1048576: true; the input reads as it did. -/
def vouchDualSoundUptoRow : OpenClaim := { program := "ytjdhhepphbhjgaa", sum := "63e1cab9a8d39ffb2fc8c685791dd0bb19dd86dab2df0c958e2de41a61b90694", func := "compass/compasslaw12.VouchDualSound", spec := "vouchDualSound", unfollowed := true, recurses := true, apart := false, narrowed := true }
def VouchDualSoundUptoSaid : Prop := vouchDualSoundUptoRow.holds Try.pinned (OpenSpec.upto vouchDualSoundSpec)

/-- 'compasslaw12.VouchManySound', WHERE WHAT IT READS IS OF BULK AT MOST 1048576: true; the input reads as it did. -/
def vouchManySoundUptoRow : OpenClaim := { program := "ytjdhhepphbhjgaa", sum := "63e1cab9a8d39ffb2fc8c685791dd0bb19dd86dab2df0c958e2de41a61b90694", func := "compass/compasslaw12.VouchManySound", spec := "vouchManySound", unfollowed := true, recurses := true, apart := false, narrowed := true }
def VouchManySoundUptoSaid : Prop := vouchManySoundUptoRow.holds Try.pinned (OpenSpec.upto vouchManySoundSpec)

/-- 'compasslaw12.VouchEvenSound', WHERE WHAT IT READS IS OF BULK AT MOST 1048576: true; the input reads as it did. -/
def vouchEvenSoundUptoRow : OpenClaim := { program := "ytjdhhepphbhjgaa", sum := "63e1cab9a8d39ffb2fc8c685791dd0bb19dd86dab2df0c958e2de41a61b90694", func := "compass/compasslaw12.VouchEvenSound", spec := "vouchEvenSound", unfollowed := true, recurses := true, apart := false, narrowed := true }
def VouchEvenSoundUptoSaid : Prop := vouchEvenSoundUptoRow.holds Try.pinned (OpenSpec.upto vouchEvenSoundSpec)

/-- 'compasslaw12.VouchFull', WHERE WHAT IT READS IS OF BULK AT MOST 1048576: true; the input reads as it did. -/
def vouchFullUptoRow : OpenClaim := { program := "ytjdhhepphbhjgaa", sum := "63e1cab9a8d39ffb2fc8c685791dd0bb19dd86dab2df0c958e2de41a61b90694", func := "compass/compasslaw12.VouchFull", spec := "vouchFull", unfollowed := true, recurses := true, apart := false, narrowed := true }
def VouchFullUptoSaid : Prop := vouchFullUptoRow.holds Try.pinned (OpenSpec.upto vouchFullSpec)

/-- 'compasslaw12.VouchGadgetFits', WHERE WHAT IT READS IS OF BULK AT MOST 1048576: true; the input reads as it did. -/
def vouchGadgetFitsUptoRow : OpenClaim := { program := "ytjdhhepphbhjgaa", sum := "63e1cab9a8d39ffb2fc8c685791dd0bb19dd86dab2df0c958e2de41a61b90694", func := "compass/compasslaw12.VouchGadgetFits", spec := "vouchGadgetFits", unfollowed := true, recurses := true, apart := false, narrowed := true }
def VouchGadgetFitsUptoSaid : Prop := vouchGadgetFitsUptoRow.holds Try.pinned (OpenSpec.upto vouchGadgetFitsSpec)

/-- 'compasslaw12.VouchCovers', WHERE WHAT IT READS IS OF BULK AT MOST 1048576: true; the input reads as it did. -/
def vouchCoversUptoRow : OpenClaim := { program := "ytjdhhepphbhjgaa", sum := "63e1cab9a8d39ffb2fc8c685791dd0bb19dd86dab2df0c958e2de41a61b90694", func := "compass/compasslaw12.VouchCovers", spec := "vouchCovers", unfollowed := true, recurses := true, apart := false, narrowed := true }
def VouchCoversUptoSaid : Prop := vouchCoversUptoRow.holds Try.pinned (OpenSpec.upto vouchCoversSpec)

/-- 'compasslaw12.VouchRests', WHERE WHAT IT READS IS OF BULK AT MOST 1048576: true; the input reads as it did. -/
def vouchRestsUptoRow : OpenClaim := { program := "ytjdhhepphbhjgaa", sum := "63e1cab9a8d39ffb2fc8c685791dd0bb19dd86dab2df0c958e2de41a61b90694", func := "compass/compasslaw12.VouchRests", spec := "vouchRests", unfollowed := true, recurses := true, apart := false, narrowed := true }
def VouchRestsUptoSaid : Prop := vouchRestsUptoRow.holds Try.pinned (OpenSpec.upto vouchRestsSpec)

end Rows
end Go.Proofs.Ytjdhhepphbhjgaa
