/-
  No cell of these rows narrows 'for every input' (looked for: loops, veiled, ifaces, maps, wideKeys, modest, calm, conditions, laid).
  DERIVED. THE GIVEN ROWS OF THIS SEAT. 7 by the template 'for every input the law returns true; each argument reads behind the call as it read before'; 0 by the template 'total and deterministic' (their statements: YtidaklcinddghaaTotals.lean).
  GIVEN WITH THE SEED: the statements are not yours to turn. If you find one false, say at which input.
  Laid BY PROGRAM, IN A SANDBOX (cutbox-rows.mjs): the forced cells as the released guide's own fill.sh prints them over the translation 0631b5a61f3e54ce… (all of the seat's roots in one cut). By AI agents, Wed Nov 11 2026. No macro, syntax, notation, axiom, sorry.
-/
import Derived.Test.YtidaklcinddghaaChecked
import GoSem.Claim
import GoSem.ClaimJoined
import GoSem.ClaimMapViews
import Derived.JoinedTies
import Derived.KernelRfl
namespace Go.Proofs.Ytidaklcinddghaa
/- THE CELL 'sum', in the pinned program and in every row, IS THE sha256 OF THE DUMP (.gsa) THAT YtidaklcinddghaaProg.lean LOADS. Nothing in Lean hashes anything: it is a label: what it is worth is what the hold of that sum in a sandbox is worth. -/
noncomputable def Try.pinned : Pinned := { name := "ytidaklcinddghaa", sum := "0631b5a61f3e54ceb30914b24a6ef1a2daf03d7e26464bfe27ac9da6caebbea1", checked := Try.checked }
namespace Rows
def none {H : Type} : Left H := { results := [], args := [] }

/-- 'veilstonelaw08.IntervalListsSpec': WHATEVER THE INPUT: true; the input reads as it did. -/
def intervalListsSpecSpec : ChangeSpec := { name := "intervalListsSpec", fn := fun _ => fun
  | [d1, d2] => { results := [.lit (.bool true)], args := [d1, d2] }
  | _ => none }
def intervalListsSpecRow : OpenClaim := { program := "ytidaklcinddghaa", sum := "0631b5a61f3e54ceb30914b24a6ef1a2daf03d7e26464bfe27ac9da6caebbea1", func := "veilstone/veilstonelaw08.IntervalListsSpec", spec := "intervalListsSpec", unfollowed := true, recurses := true, apart := false }
def IntervalListsSpecSaid : Prop := intervalListsSpecRow.holds Try.pinned (OpenSpec.ofChange intervalListsSpecSpec)

/-- ITS FALSE NEIGHBOUR: 'it returns false'. Refute it at one input. -/
def intervalListsSpecWrong : ChangeSpec := { name := "intervalListsSpec", fn := fun _ => fun
  | [d1, d2] => { results := [.lit (.bool false)], args := [d1, d2] }
  | _ => none }
def IntervalListsSpecWrongFalsely : Prop := intervalListsSpecRow.holds Try.pinned (OpenSpec.ofChange intervalListsSpecWrong)

/-- 'veilstonelaw08.IntervalPoints': WHATEVER THE INPUT: true; the input reads as it did. -/
def intervalPointsSpec : ChangeSpec := { name := "intervalPoints", fn := fun _ => fun
  | [d1, d2, d3] => { results := [.lit (.bool true)], args := [d1, d2, d3] }
  | _ => none }
def intervalPointsRow : OpenClaim := { program := "ytidaklcinddghaa", sum := "0631b5a61f3e54ceb30914b24a6ef1a2daf03d7e26464bfe27ac9da6caebbea1", func := "veilstone/veilstonelaw08.IntervalPoints", spec := "intervalPoints", unfollowed := true, recurses := true, apart := false }
def IntervalPointsSaid : Prop := intervalPointsRow.holds Try.pinned (OpenSpec.ofChange intervalPointsSpec)

/-- ITS FALSE NEIGHBOUR: 'it returns false'. Refute it at one input. -/
def intervalPointsWrong : ChangeSpec := { name := "intervalPoints", fn := fun _ => fun
  | [d1, d2, d3] => { results := [.lit (.bool false)], args := [d1, d2, d3] }
  | _ => none }
def IntervalPointsWrongFalsely : Prop := intervalPointsRow.holds Try.pinned (OpenSpec.ofChange intervalPointsWrong)

/-- 'veilstonelaw08.IntervalUnionOnce': WHATEVER THE INPUT: true; the input reads as it did. -/
def intervalUnionOnceSpec : ChangeSpec := { name := "intervalUnionOnce", fn := fun _ => fun
  | [d1, d2] => { results := [.lit (.bool true)], args := [d1, d2] }
  | _ => none }
def intervalUnionOnceRow : OpenClaim := { program := "ytidaklcinddghaa", sum := "0631b5a61f3e54ceb30914b24a6ef1a2daf03d7e26464bfe27ac9da6caebbea1", func := "veilstone/veilstonelaw08.IntervalUnionOnce", spec := "intervalUnionOnce", unfollowed := true, recurses := true, apart := false }
def IntervalUnionOnceSaid : Prop := intervalUnionOnceRow.holds Try.pinned (OpenSpec.ofChange intervalUnionOnceSpec)

/-- ITS FALSE NEIGHBOUR: 'it returns false'. Refute it at one input. -/
def intervalUnionOnceWrong : ChangeSpec := { name := "intervalUnionOnce", fn := fun _ => fun
  | [d1, d2] => { results := [.lit (.bool false)], args := [d1, d2] }
  | _ => none }
def IntervalUnionOnceWrongFalsely : Prop := intervalUnionOnceRow.holds Try.pinned (OpenSpec.ofChange intervalUnionOnceWrong)

/-- 'veilstonelaw08.IntervalInside': WHATEVER THE INPUT: true; the input reads as it did. -/
def intervalInsideSpec : ChangeSpec := { name := "intervalInside", fn := fun _ => fun
  | [d1, d2] => { results := [.lit (.bool true)], args := [d1, d2] }
  | _ => none }
def intervalInsideRow : OpenClaim := { program := "ytidaklcinddghaa", sum := "0631b5a61f3e54ceb30914b24a6ef1a2daf03d7e26464bfe27ac9da6caebbea1", func := "veilstone/veilstonelaw08.IntervalInside", spec := "intervalInside", unfollowed := true, recurses := true, apart := false }
def IntervalInsideSaid : Prop := intervalInsideRow.holds Try.pinned (OpenSpec.ofChange intervalInsideSpec)

/-- ITS FALSE NEIGHBOUR: 'it returns false'. Refute it at one input. -/
def intervalInsideWrong : ChangeSpec := { name := "intervalInside", fn := fun _ => fun
  | [d1, d2] => { results := [.lit (.bool false)], args := [d1, d2] }
  | _ => none }
def IntervalInsideWrongFalsely : Prop := intervalInsideRow.holds Try.pinned (OpenSpec.ofChange intervalInsideWrong)

/-- 'veilstonelaw08.IntervalSteps': WHATEVER THE INPUT: true; the input reads as it did. -/
def intervalStepsSpec : ChangeSpec := { name := "intervalSteps", fn := fun _ => fun
  | [d1, d2, d3] => { results := [.lit (.bool true)], args := [d1, d2, d3] }
  | _ => none }
def intervalStepsRow : OpenClaim := { program := "ytidaklcinddghaa", sum := "0631b5a61f3e54ceb30914b24a6ef1a2daf03d7e26464bfe27ac9da6caebbea1", func := "veilstone/veilstonelaw08.IntervalSteps", spec := "intervalSteps", unfollowed := true, recurses := true, apart := false }
def IntervalStepsSaid : Prop := intervalStepsRow.holds Try.pinned (OpenSpec.ofChange intervalStepsSpec)

/-- ITS FALSE NEIGHBOUR: 'it returns false'. Refute it at one input. -/
def intervalStepsWrong : ChangeSpec := { name := "intervalSteps", fn := fun _ => fun
  | [d1, d2, d3] => { results := [.lit (.bool false)], args := [d1, d2, d3] }
  | _ => none }
def IntervalStepsWrongFalsely : Prop := intervalStepsRow.holds Try.pinned (OpenSpec.ofChange intervalStepsWrong)

/-- 'veilstonelaw08.IntervalPairsSpec': WHATEVER THE INPUT: true; the input reads as it did. -/
def intervalPairsSpecSpec : ChangeSpec := { name := "intervalPairsSpec", fn := fun _ => fun
  | [d1, d2] => { results := [.lit (.bool true)], args := [d1, d2] }
  | _ => none }
def intervalPairsSpecRow : OpenClaim := { program := "ytidaklcinddghaa", sum := "0631b5a61f3e54ceb30914b24a6ef1a2daf03d7e26464bfe27ac9da6caebbea1", func := "veilstone/veilstonelaw08.IntervalPairsSpec", spec := "intervalPairsSpec", unfollowed := true, recurses := true, apart := false }
def IntervalPairsSpecSaid : Prop := intervalPairsSpecRow.holds Try.pinned (OpenSpec.ofChange intervalPairsSpecSpec)

/-- ITS FALSE NEIGHBOUR: 'it returns false'. Refute it at one input. -/
def intervalPairsSpecWrong : ChangeSpec := { name := "intervalPairsSpec", fn := fun _ => fun
  | [d1, d2] => { results := [.lit (.bool false)], args := [d1, d2] }
  | _ => none }
def IntervalPairsSpecWrongFalsely : Prop := intervalPairsSpecRow.holds Try.pinned (OpenSpec.ofChange intervalPairsSpecWrong)

/-- 'veilstonelaw08.IntervalLattice': WHATEVER THE INPUT: true; the input reads as it did. -/
def intervalLatticeSpec : ChangeSpec := { name := "intervalLattice", fn := fun _ => fun
  | [d1, d2, d3] => { results := [.lit (.bool true)], args := [d1, d2, d3] }
  | _ => none }
def intervalLatticeRow : OpenClaim := { program := "ytidaklcinddghaa", sum := "0631b5a61f3e54ceb30914b24a6ef1a2daf03d7e26464bfe27ac9da6caebbea1", func := "veilstone/veilstonelaw08.IntervalLattice", spec := "intervalLattice", unfollowed := true, recurses := true, apart := false }
def IntervalLatticeSaid : Prop := intervalLatticeRow.holds Try.pinned (OpenSpec.ofChange intervalLatticeSpec)

/-- ITS FALSE NEIGHBOUR: 'it returns false'. Refute it at one input. -/
def intervalLatticeWrong : ChangeSpec := { name := "intervalLattice", fn := fun _ => fun
  | [d1, d2, d3] => { results := [.lit (.bool false)], args := [d1, d2, d3] }
  | _ => none }
def IntervalLatticeWrongFalsely : Prop := intervalLatticeRow.holds Try.pinned (OpenSpec.ofChange intervalLatticeWrong)

/- THE SECOND FORM. 'bulk': how many values and letters a reading holds, each counted each time it is reached (what is shared counts as often as it is met; a slice's spare places count too). A statement '..UptoSaid' is the law's where the arguments, and the package variables that the reading takes, are together of bulk at most 1048576: NARROWER than '..Said'. Prove '..Said' where nothing that the law and all that it calls make is longer than what came in: it says more and counts as full. Else prove '..UptoSaid'. A law counts once. -/
mutual
def uptoBulk {H : Type} : DataW H → Nat
  | .lit (.string bytes) => bytes.length + 1
  | .lit _ => 1
  | .nil => 1
  | .ptr d => uptoBulk d + 1
  | .slice elems spare => uptoBulkAll elems + uptoBulkAll spare + 1
  | .agg parts => uptoBulkAll parts + 1
  | .iface _ d => uptoBulk d + 1
  | .map entries => uptoBulkEntries entries + 1
  | .held _ => 1
def uptoBulkAll {H : Type} : List (DataW H) → Nat
  | [] => 0
  | d :: r => uptoBulk d + uptoBulkAll r
def uptoBulkEntries {H : Type} : List (Lit × DataW H) → Nat
  | [] => 0
  | x :: r => uptoBulkEntry x + uptoBulkEntries r
def uptoBulkEntry {H : Type} : Lit × DataW H → Nat
  | (.string bytes, d) => bytes.length + uptoBulk d + 1
  | (_, d) => uptoBulk d + 1
 end
def uptoSmall : (H : Type) → List (DataW H) → Bool := fun _ ds => decide (uptoBulkAll ds ≤ 1048576)
def OpenSpec.upto (s : _root_.Go.ChangeSpec) : _root_.Go.OpenSpec := { _root_.Go.OpenSpec.ofChange s with cond := some uptoSmall }

/-- 'veilstonelaw08.IntervalListsSpec', WHERE WHAT IT READS IS OF BULK AT MOST 1048576: true; the input reads as it did. -/
def intervalListsSpecUptoRow : OpenClaim := { program := "ytidaklcinddghaa", sum := "0631b5a61f3e54ceb30914b24a6ef1a2daf03d7e26464bfe27ac9da6caebbea1", func := "veilstone/veilstonelaw08.IntervalListsSpec", spec := "intervalListsSpec", unfollowed := true, recurses := true, apart := false, narrowed := true }
def IntervalListsSpecUptoSaid : Prop := intervalListsSpecUptoRow.holds Try.pinned (OpenSpec.upto intervalListsSpecSpec)

/-- 'veilstonelaw08.IntervalPoints', WHERE WHAT IT READS IS OF BULK AT MOST 1048576: true; the input reads as it did. -/
def intervalPointsUptoRow : OpenClaim := { program := "ytidaklcinddghaa", sum := "0631b5a61f3e54ceb30914b24a6ef1a2daf03d7e26464bfe27ac9da6caebbea1", func := "veilstone/veilstonelaw08.IntervalPoints", spec := "intervalPoints", unfollowed := true, recurses := true, apart := false, narrowed := true }
def IntervalPointsUptoSaid : Prop := intervalPointsUptoRow.holds Try.pinned (OpenSpec.upto intervalPointsSpec)

/-- 'veilstonelaw08.IntervalUnionOnce', WHERE WHAT IT READS IS OF BULK AT MOST 1048576: true; the input reads as it did. -/
def intervalUnionOnceUptoRow : OpenClaim := { program := "ytidaklcinddghaa", sum := "0631b5a61f3e54ceb30914b24a6ef1a2daf03d7e26464bfe27ac9da6caebbea1", func := "veilstone/veilstonelaw08.IntervalUnionOnce", spec := "intervalUnionOnce", unfollowed := true, recurses := true, apart := false, narrowed := true }
def IntervalUnionOnceUptoSaid : Prop := intervalUnionOnceUptoRow.holds Try.pinned (OpenSpec.upto intervalUnionOnceSpec)

/-- 'veilstonelaw08.IntervalInside', WHERE WHAT IT READS IS OF BULK AT MOST 1048576: true; the input reads as it did. -/
def intervalInsideUptoRow : OpenClaim := { program := "ytidaklcinddghaa", sum := "0631b5a61f3e54ceb30914b24a6ef1a2daf03d7e26464bfe27ac9da6caebbea1", func := "veilstone/veilstonelaw08.IntervalInside", spec := "intervalInside", unfollowed := true, recurses := true, apart := false, narrowed := true }
def IntervalInsideUptoSaid : Prop := intervalInsideUptoRow.holds Try.pinned (OpenSpec.upto intervalInsideSpec)

/-- 'veilstonelaw08.IntervalSteps', WHERE WHAT IT READS IS OF BULK AT MOST 1048576: true; the input reads as it did. -/
def intervalStepsUptoRow : OpenClaim := { program := "ytidaklcinddghaa", sum := "0631b5a61f3e54ceb30914b24a6ef1a2daf03d7e26464bfe27ac9da6caebbea1", func := "veilstone/veilstonelaw08.IntervalSteps", spec := "intervalSteps", unfollowed := true, recurses := true, apart := false, narrowed := true }
def IntervalStepsUptoSaid : Prop := intervalStepsUptoRow.holds Try.pinned (OpenSpec.upto intervalStepsSpec)

/-- 'veilstonelaw08.IntervalPairsSpec', WHERE WHAT IT READS IS OF BULK AT MOST 1048576: true; the input reads as it did. -/
def intervalPairsSpecUptoRow : OpenClaim := { program := "ytidaklcinddghaa", sum := "0631b5a61f3e54ceb30914b24a6ef1a2daf03d7e26464bfe27ac9da6caebbea1", func := "veilstone/veilstonelaw08.IntervalPairsSpec", spec := "intervalPairsSpec", unfollowed := true, recurses := true, apart := false, narrowed := true }
def IntervalPairsSpecUptoSaid : Prop := intervalPairsSpecUptoRow.holds Try.pinned (OpenSpec.upto intervalPairsSpecSpec)

/-- 'veilstonelaw08.IntervalLattice', WHERE WHAT IT READS IS OF BULK AT MOST 1048576: true; the input reads as it did. -/
def intervalLatticeUptoRow : OpenClaim := { program := "ytidaklcinddghaa", sum := "0631b5a61f3e54ceb30914b24a6ef1a2daf03d7e26464bfe27ac9da6caebbea1", func := "veilstone/veilstonelaw08.IntervalLattice", spec := "intervalLattice", unfollowed := true, recurses := true, apart := false, narrowed := true }
def IntervalLatticeUptoSaid : Prop := intervalLatticeUptoRow.holds Try.pinned (OpenSpec.upto intervalLatticeSpec)

end Rows
end Go.Proofs.Ytidaklcinddghaa
