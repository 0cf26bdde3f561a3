/-
  No cell of these rows narrows 'for every input' (looked for: loops, veiled, ifaces, maps, wideKeys, modest, calm, conditions, laid).
  DERIVED. THE GIVEN ROWS OF THIS SEAT. 8 by the template 'for every input the law returns true; each argument reads behind the call as it read before'; 0 by the template 'total and deterministic' (their statements: YtndpagnkkmhhpaaGreatTotals.lean).
  GIVEN WITH THE SEED: the statements are not yours to turn. If you find one false, say at which input.
  Laid BY PROGRAM, IN A SANDBOX (cutbox-rows.mjs): the forced cells as the released guide's own fill.sh prints them over the translation 825326827407d559… (all of the seat's roots in one cut). By AI agents, Wed Nov 11 2026. No macro, syntax, notation, axiom, sorry.
-/
import Derived.Test.YtndpagnkkmhhpaaGreatChecked
import GoSem.Claim
import GoSem.ClaimJoined
import GoSem.ClaimMapViews
import Derived.JoinedTies
import Derived.KernelRfl
namespace Go.Proofs.YtndpagnkkmhhpaaGreat
/- THE CELL 'sum', in the pinned program and in every row, IS THE sha256 OF THE DUMP (.gsa) THAT YtndpagnkkmhhpaaGreatProg.lean LOADS. Nothing in Lean hashes anything: it is a label: what it is worth is what the hold of that sum in a sandbox is worth. -/
noncomputable def Tryz.pinned : Pinned := { name := "ytndpagnkkmhhpaagreat", sum := "825326827407d5593216d676397277720ff283034fd0c7a3d496dd02aa2d9cc7", checked := Tryz.checked }
namespace Rows
def none {H : Type} : Left H := { results := [], args := [] }

/-- 'stepstonelaw22.PackCells': WHATEVER THE INPUT: true; the input reads as it did. -/
def packCellsSpec : ChangeSpec := { name := "packCells", fn := fun _ => fun
  | [d1, d2, d3] => { results := [.lit (.bool true)], args := [d1, d2, d3] }
  | _ => none }
def packCellsRow : OpenClaim := { program := "ytndpagnkkmhhpaagreat", sum := "825326827407d5593216d676397277720ff283034fd0c7a3d496dd02aa2d9cc7", func := "stepstone/stepstonelaw22.PackCells", spec := "packCells", unfollowed := true, recurses := true, apart := false }
def PackCellsSaid : Prop := packCellsRow.holds Tryz.pinned (OpenSpec.ofChange packCellsSpec)

/-- ITS FALSE NEIGHBOUR: 'it returns false'. Refute it at one input. -/
def packCellsWrong : ChangeSpec := { name := "packCells", fn := fun _ => fun
  | [d1, d2, d3] => { results := [.lit (.bool false)], args := [d1, d2, d3] }
  | _ => none }
def PackCellsWrongFalsely : Prop := packCellsRow.holds Tryz.pinned (OpenSpec.ofChange packCellsWrong)

/-- 'stepstonelaw22.PackKeeps': WHATEVER THE INPUT: true; the input reads as it did. -/
def packKeepsSpec : ChangeSpec := { name := "packKeeps", fn := fun _ => fun
  | [d1, d2, d3] => { results := [.lit (.bool true)], args := [d1, d2, d3] }
  | _ => none }
def packKeepsRow : OpenClaim := { program := "ytndpagnkkmhhpaagreat", sum := "825326827407d5593216d676397277720ff283034fd0c7a3d496dd02aa2d9cc7", func := "stepstone/stepstonelaw22.PackKeeps", spec := "packKeeps", unfollowed := true, recurses := true, apart := false }
def PackKeepsSaid : Prop := packKeepsRow.holds Tryz.pinned (OpenSpec.ofChange packKeepsSpec)

/-- ITS FALSE NEIGHBOUR: 'it returns false'. Refute it at one input. -/
def packKeepsWrong : ChangeSpec := { name := "packKeeps", fn := fun _ => fun
  | [d1, d2, d3] => { results := [.lit (.bool false)], args := [d1, d2, d3] }
  | _ => none }
def PackKeepsWrongFalsely : Prop := packKeepsRow.holds Tryz.pinned (OpenSpec.ofChange packKeepsWrong)

/-- 'stepstonelaw22.PackHandles': WHATEVER THE INPUT: true; the input reads as it did. -/
def packHandlesSpec : ChangeSpec := { name := "packHandles", fn := fun _ => fun
  | [d1, d2, d3] => { results := [.lit (.bool true)], args := [d1, d2, d3] }
  | _ => none }
def packHandlesRow : OpenClaim := { program := "ytndpagnkkmhhpaagreat", sum := "825326827407d5593216d676397277720ff283034fd0c7a3d496dd02aa2d9cc7", func := "stepstone/stepstonelaw22.PackHandles", spec := "packHandles", unfollowed := true, recurses := true, apart := false }
def PackHandlesSaid : Prop := packHandlesRow.holds Tryz.pinned (OpenSpec.ofChange packHandlesSpec)

/-- ITS FALSE NEIGHBOUR: 'it returns false'. Refute it at one input. -/
def packHandlesWrong : ChangeSpec := { name := "packHandles", fn := fun _ => fun
  | [d1, d2, d3] => { results := [.lit (.bool false)], args := [d1, d2, d3] }
  | _ => none }
def PackHandlesWrongFalsely : Prop := packHandlesRow.holds Tryz.pinned (OpenSpec.ofChange packHandlesWrong)

/-- 'stepstonelaw19.TurnRight': WHATEVER THE INPUT: true; the input reads as it did. -/
def turnRightSpec : ChangeSpec := { name := "turnRight", fn := fun _ => fun
  | [d] => { results := [.lit (.bool true)], args := [d] }
  | _ => none }
def turnRightRow : OpenClaim := { program := "ytndpagnkkmhhpaagreat", sum := "825326827407d5593216d676397277720ff283034fd0c7a3d496dd02aa2d9cc7", func := "stepstone/stepstonelaw19.TurnRight", spec := "turnRight", unfollowed := true, recurses := true, apart := false }
def TurnRightSaid : Prop := turnRightRow.holds Tryz.pinned (OpenSpec.ofChange turnRightSpec)

/-- ITS FALSE NEIGHBOUR: 'it returns false'. Refute it at one input. -/
def turnRightWrong : ChangeSpec := { name := "turnRight", fn := fun _ => fun
  | [d] => { results := [.lit (.bool false)], args := [d] }
  | _ => none }
def TurnRightWrongFalsely : Prop := turnRightRow.holds Tryz.pinned (OpenSpec.ofChange turnRightWrong)

/-- 'stepstonelaw19.TurnSteps': WHATEVER THE INPUT: true; the input reads as it did. -/
def turnStepsSpec : ChangeSpec := { name := "turnSteps", fn := fun _ => fun
  | [d1, d2, d3] => { results := [.lit (.bool true)], args := [d1, d2, d3] }
  | _ => none }
def turnStepsRow : OpenClaim := { program := "ytndpagnkkmhhpaagreat", sum := "825326827407d5593216d676397277720ff283034fd0c7a3d496dd02aa2d9cc7", func := "stepstone/stepstonelaw19.TurnSteps", spec := "turnSteps", unfollowed := true, recurses := true, apart := false }
def TurnStepsSaid : Prop := turnStepsRow.holds Tryz.pinned (OpenSpec.ofChange turnStepsSpec)

/-- ITS FALSE NEIGHBOUR: 'it returns false'. Refute it at one input. -/
def turnStepsWrong : ChangeSpec := { name := "turnSteps", fn := fun _ => fun
  | [d1, d2, d3] => { results := [.lit (.bool false)], args := [d1, d2, d3] }
  | _ => none }
def TurnStepsWrongFalsely : Prop := turnStepsRow.holds Tryz.pinned (OpenSpec.ofChange turnStepsWrong)

/-- 'stepstonelaw23.CountOf': WHATEVER THE INPUT: true; the input reads as it did. -/
def countOfSpec : ChangeSpec := { name := "countOf", fn := fun _ => fun
  | [d1, d2, d3] => { results := [.lit (.bool true)], args := [d1, d2, d3] }
  | _ => none }
def countOfRow : OpenClaim := { program := "ytndpagnkkmhhpaagreat", sum := "825326827407d5593216d676397277720ff283034fd0c7a3d496dd02aa2d9cc7", func := "stepstone/stepstonelaw23.CountOf", spec := "countOf", unfollowed := true, recurses := true, apart := false }
def CountOfSaid : Prop := countOfRow.holds Tryz.pinned (OpenSpec.ofChange countOfSpec)

/-- ITS FALSE NEIGHBOUR: 'it returns false'. Refute it at one input. -/
def countOfWrong : ChangeSpec := { name := "countOf", fn := fun _ => fun
  | [d1, d2, d3] => { results := [.lit (.bool false)], args := [d1, d2, d3] }
  | _ => none }
def CountOfWrongFalsely : Prop := countOfRow.holds Tryz.pinned (OpenSpec.ofChange countOfWrong)

/-- 'stepstonelaw23.CountBounds': WHATEVER THE INPUT: true; the input reads as it did. -/
def countBoundsSpec : ChangeSpec := { name := "countBounds", fn := fun _ => fun
  | [d] => { results := [.lit (.bool true)], args := [d] }
  | _ => none }
def countBoundsRow : OpenClaim := { program := "ytndpagnkkmhhpaagreat", sum := "825326827407d5593216d676397277720ff283034fd0c7a3d496dd02aa2d9cc7", func := "stepstone/stepstonelaw23.CountBounds", spec := "countBounds", unfollowed := true, recurses := true, apart := false }
def CountBoundsSaid : Prop := countBoundsRow.holds Tryz.pinned (OpenSpec.ofChange countBoundsSpec)

/-- ITS FALSE NEIGHBOUR: 'it returns false'. Refute it at one input. -/
def countBoundsWrong : ChangeSpec := { name := "countBounds", fn := fun _ => fun
  | [d] => { results := [.lit (.bool false)], args := [d] }
  | _ => none }
def CountBoundsWrongFalsely : Prop := countBoundsRow.holds Tryz.pinned (OpenSpec.ofChange countBoundsWrong)

/-- 'stepstonelaw20.WorldSteps': WHATEVER THE INPUT: true; the input reads as it did. -/
def worldStepsSpec : ChangeSpec := { name := "worldSteps", fn := fun _ => fun
  | [d1, d2, d3] => { results := [.lit (.bool true)], args := [d1, d2, d3] }
  | _ => none }
def worldStepsRow : OpenClaim := { program := "ytndpagnkkmhhpaagreat", sum := "825326827407d5593216d676397277720ff283034fd0c7a3d496dd02aa2d9cc7", func := "stepstone/stepstonelaw20.WorldSteps", spec := "worldSteps", unfollowed := true, recurses := true, apart := false }
def WorldStepsSaid : Prop := worldStepsRow.holds Tryz.pinned (OpenSpec.ofChange worldStepsSpec)

/-- ITS FALSE NEIGHBOUR: 'it returns false'. Refute it at one input. -/
def worldStepsWrong : ChangeSpec := { name := "worldSteps", fn := fun _ => fun
  | [d1, d2, d3] => { results := [.lit (.bool false)], args := [d1, d2, d3] }
  | _ => none }
def WorldStepsWrongFalsely : Prop := worldStepsRow.holds Tryz.pinned (OpenSpec.ofChange worldStepsWrong)

/- THE SECOND FORM. 'bulk': how many values and letters a reading holds, each counted each time it is reached (what is shared counts as often as it is met; a slice's spare places count too). A statement '..UptoSaid' is the law's where the arguments, and the package variables that the reading takes, are together of bulk at most 1048576: NARROWER than '..Said'. Prove '..Said' where nothing that the law and all that it calls make is longer than what came in: it says more and counts as full. Else prove '..UptoSaid'. A law counts once. -/
mutual
def uptoBulk {H : Type} : DataW H → Nat
  | .lit (.string bytes) => bytes.length + 1
  | .lit _ => 1
  | .nil => 1
  | .ptr d => uptoBulk d + 1
  | .slice elems spare => uptoBulkAll elems + uptoBulkAll spare + 1
  | .agg parts => uptoBulkAll parts + 1
  | .iface _ d => uptoBulk d + 1
  | .map entries => uptoBulkEntries entries + 1
  | .held _ => 1
def uptoBulkAll {H : Type} : List (DataW H) → Nat
  | [] => 0
  | d :: r => uptoBulk d + uptoBulkAll r
def uptoBulkEntries {H : Type} : List (Lit × DataW H) → Nat
  | [] => 0
  | x :: r => uptoBulkEntry x + uptoBulkEntries r
def uptoBulkEntry {H : Type} : Lit × DataW H → Nat
  | (.string bytes, d) => bytes.length + uptoBulk d + 1
  | (_, d) => uptoBulk d + 1
 end
def uptoSmall : (H : Type) → List (DataW H) → Bool := fun _ ds => decide (uptoBulkAll ds ≤ 1048576)
def OpenSpec.upto (s : _root_.Go.ChangeSpec) : _root_.Go.OpenSpec := { _root_.Go.OpenSpec.ofChange s with cond := some uptoSmall }

/-- 'stepstonelaw22.PackCells', WHERE WHAT IT READS IS OF BULK AT MOST 1048576: true; the input reads as it did. -/
def packCellsUptoRow : OpenClaim := { program := "ytndpagnkkmhhpaagreat", sum := "825326827407d5593216d676397277720ff283034fd0c7a3d496dd02aa2d9cc7", func := "stepstone/stepstonelaw22.PackCells", spec := "packCells", unfollowed := true, recurses := true, apart := false, narrowed := true }
def PackCellsUptoSaid : Prop := packCellsUptoRow.holds Tryz.pinned (OpenSpec.upto packCellsSpec)

/-- 'stepstonelaw22.PackKeeps', WHERE WHAT IT READS IS OF BULK AT MOST 1048576: true; the input reads as it did. -/
def packKeepsUptoRow : OpenClaim := { program := "ytndpagnkkmhhpaagreat", sum := "825326827407d5593216d676397277720ff283034fd0c7a3d496dd02aa2d9cc7", func := "stepstone/stepstonelaw22.PackKeeps", spec := "packKeeps", unfollowed := true, recurses := true, apart := false, narrowed := true }
def PackKeepsUptoSaid : Prop := packKeepsUptoRow.holds Tryz.pinned (OpenSpec.upto packKeepsSpec)

/-- 'stepstonelaw22.PackHandles', WHERE WHAT IT READS IS OF BULK AT MOST 1048576: true; the input reads as it did. -/
def packHandlesUptoRow : OpenClaim := { program := "ytndpagnkkmhhpaagreat", sum := "825326827407d5593216d676397277720ff283034fd0c7a3d496dd02aa2d9cc7", func := "stepstone/stepstonelaw22.PackHandles", spec := "packHandles", unfollowed := true, recurses := true, apart := false, narrowed := true }
def PackHandlesUptoSaid : Prop := packHandlesUptoRow.holds Tryz.pinned (OpenSpec.upto packHandlesSpec)

/-- 'stepstonelaw19.TurnRight', WHERE WHAT IT READS IS OF BULK AT MOST 1048576: true; the input reads as it did. -/
def turnRightUptoRow : OpenClaim := { program := "ytndpagnkkmhhpaagreat", sum := "825326827407d5593216d676397277720ff283034fd0c7a3d496dd02aa2d9cc7", func := "stepstone/stepstonelaw19.TurnRight", spec := "turnRight", unfollowed := true, recurses := true, apart := false, narrowed := true }
def TurnRightUptoSaid : Prop := turnRightUptoRow.holds Tryz.pinned (OpenSpec.upto turnRightSpec)

/-- 'stepstonelaw19.TurnSteps', WHERE WHAT IT READS IS OF BULK AT MOST 1048576: true; the input reads as it did. -/
def turnStepsUptoRow : OpenClaim := { program := "ytndpagnkkmhhpaagreat", sum := "825326827407d5593216d676397277720ff283034fd0c7a3d496dd02aa2d9cc7", func := "stepstone/stepstonelaw19.TurnSteps", spec := "turnSteps", unfollowed := true, recurses := true, apart := false, narrowed := true }
def TurnStepsUptoSaid : Prop := turnStepsUptoRow.holds Tryz.pinned (OpenSpec.upto turnStepsSpec)

/-- 'stepstonelaw23.CountOf', WHERE WHAT IT READS IS OF BULK AT MOST 1048576: true; the input reads as it did. -/
def countOfUptoRow : OpenClaim := { program := "ytndpagnkkmhhpaagreat", sum := "825326827407d5593216d676397277720ff283034fd0c7a3d496dd02aa2d9cc7", func := "stepstone/stepstonelaw23.CountOf", spec := "countOf", unfollowed := true, recurses := true, apart := false, narrowed := true }
def CountOfUptoSaid : Prop := countOfUptoRow.holds Tryz.pinned (OpenSpec.upto countOfSpec)

/-- 'stepstonelaw23.CountBounds', WHERE WHAT IT READS IS OF BULK AT MOST 1048576: true; the input reads as it did. -/
def countBoundsUptoRow : OpenClaim := { program := "ytndpagnkkmhhpaagreat", sum := "825326827407d5593216d676397277720ff283034fd0c7a3d496dd02aa2d9cc7", func := "stepstone/stepstonelaw23.CountBounds", spec := "countBounds", unfollowed := true, recurses := true, apart := false, narrowed := true }
def CountBoundsUptoSaid : Prop := countBoundsUptoRow.holds Tryz.pinned (OpenSpec.upto countBoundsSpec)

/-- 'stepstonelaw20.WorldSteps', WHERE WHAT IT READS IS OF BULK AT MOST 1048576: true; the input reads as it did. -/
def worldStepsUptoRow : OpenClaim := { program := "ytndpagnkkmhhpaagreat", sum := "825326827407d5593216d676397277720ff283034fd0c7a3d496dd02aa2d9cc7", func := "stepstone/stepstonelaw20.WorldSteps", spec := "worldSteps", unfollowed := true, recurses := true, apart := false, narrowed := true }
def WorldStepsUptoSaid : Prop := worldStepsUptoRow.holds Tryz.pinned (OpenSpec.upto worldStepsSpec)

end Rows
end Go.Proofs.YtndpagnkkmhhpaaGreat
