/-
  No cell of these rows narrows 'for every input' (looked for: loops, veiled, ifaces, maps, wideKeys, modest, calm, conditions, laid).
  DERIVED. THE GIVEN ROWS OF THIS SEAT. 3 by the template 'for every input the law returns true; each argument reads behind the call as it read before'; 0 by the template 'total and deterministic' (their statements: YtgbcnokeaaabfaaGreatTotals.lean).
  GIVEN WITH THE SEED: the statements are not yours to turn. If you find one false, say at which input.
  Laid BY PROGRAM, IN A SANDBOX (cutbox-rows.mjs): the forced cells as the released guide's own fill.sh prints them over the translation a3b2e9b1330a9780… (all of the seat's roots in one cut). By AI agents, Wed Nov 11 2026. No macro, syntax, notation, axiom, sorry.
-/
import Derived.Test.YtgbcnokeaaabfaaGreatChecked
import GoSem.Claim
import GoSem.ClaimJoined
import GoSem.ClaimMapViews
import Derived.JoinedTies
import Derived.KernelRfl
namespace Go.Proofs.YtgbcnokeaaabfaaGreat
/- THE CELL 'sum', in the pinned program and in every row, IS THE sha256 OF THE DUMP (.gsa) THAT YtgbcnokeaaabfaaGreatProg.lean LOADS. Nothing in Lean hashes anything: it is a label: what it is worth is what the hold of that sum in a sandbox is worth. -/
noncomputable def Tryz.pinned : Pinned := { name := "ytgbcnokeaaabfaagreat", sum := "a3b2e9b1330a97801c1e6f0dbbd691852943ef9e2c99038ae9696bcbdff680a6", checked := Tryz.checked }
namespace Rows
def none {H : Type} : Left H := { results := [], args := [] }

/-- 'stepstonelaw22.PackCells': WHATEVER THE INPUT: true; the input reads as it did. -/
def packCellsSpec : ChangeSpec := { name := "packCells", fn := fun _ => fun
  | [d1, d2, d3] => { results := [.lit (.bool true)], args := [d1, d2, d3] }
  | _ => none }
def packCellsRow : OpenClaim := { program := "ytgbcnokeaaabfaagreat", sum := "a3b2e9b1330a97801c1e6f0dbbd691852943ef9e2c99038ae9696bcbdff680a6", func := "stepstone/stepstonelaw22.PackCells", spec := "packCells", unfollowed := true, recurses := true, apart := false }
def PackCellsSaid : Prop := packCellsRow.holds Tryz.pinned (OpenSpec.ofChange packCellsSpec)

/-- ITS FALSE NEIGHBOUR: 'it returns false'. Refute it at one input. -/
def packCellsWrong : ChangeSpec := { name := "packCells", fn := fun _ => fun
  | [d1, d2, d3] => { results := [.lit (.bool false)], args := [d1, d2, d3] }
  | _ => none }
def PackCellsWrongFalsely : Prop := packCellsRow.holds Tryz.pinned (OpenSpec.ofChange packCellsWrong)

/-- 'stepstonelaw22.PackKeeps': WHATEVER THE INPUT: true; the input reads as it did. -/
def packKeepsSpec : ChangeSpec := { name := "packKeeps", fn := fun _ => fun
  | [d1, d2, d3] => { results := [.lit (.bool true)], args := [d1, d2, d3] }
  | _ => none }
def packKeepsRow : OpenClaim := { program := "ytgbcnokeaaabfaagreat", sum := "a3b2e9b1330a97801c1e6f0dbbd691852943ef9e2c99038ae9696bcbdff680a6", func := "stepstone/stepstonelaw22.PackKeeps", spec := "packKeeps", unfollowed := true, recurses := true, apart := false }
def PackKeepsSaid : Prop := packKeepsRow.holds Tryz.pinned (OpenSpec.ofChange packKeepsSpec)

/-- ITS FALSE NEIGHBOUR: 'it returns false'. Refute it at one input. -/
def packKeepsWrong : ChangeSpec := { name := "packKeeps", fn := fun _ => fun
  | [d1, d2, d3] => { results := [.lit (.bool false)], args := [d1, d2, d3] }
  | _ => none }
def PackKeepsWrongFalsely : Prop := packKeepsRow.holds Tryz.pinned (OpenSpec.ofChange packKeepsWrong)

/-- 'stepstonelaw22.PackHandles': WHATEVER THE INPUT: true; the input reads as it did. -/
def packHandlesSpec : ChangeSpec := { name := "packHandles", fn := fun _ => fun
  | [d1, d2, d3] => { results := [.lit (.bool true)], args := [d1, d2, d3] }
  | _ => none }
def packHandlesRow : OpenClaim := { program := "ytgbcnokeaaabfaagreat", sum := "a3b2e9b1330a97801c1e6f0dbbd691852943ef9e2c99038ae9696bcbdff680a6", func := "stepstone/stepstonelaw22.PackHandles", spec := "packHandles", unfollowed := true, recurses := true, apart := false }
def PackHandlesSaid : Prop := packHandlesRow.holds Tryz.pinned (OpenSpec.ofChange packHandlesSpec)

/-- ITS FALSE NEIGHBOUR: 'it returns false'. Refute it at one input. -/
def packHandlesWrong : ChangeSpec := { name := "packHandles", fn := fun _ => fun
  | [d1, d2, d3] => { results := [.lit (.bool false)], args := [d1, d2, d3] }
  | _ => none }
def PackHandlesWrongFalsely : Prop := packHandlesRow.holds Tryz.pinned (OpenSpec.ofChange packHandlesWrong)

/- THE SECOND FORM. 'bulk': how many values and letters a reading holds, each counted each time it is reached (what is shared counts as often as it is met; a slice's spare places count too). A statement '..UptoSaid' is the law's where the arguments, and the package variables that the reading takes, are together of bulk at most 1048576: NARROWER than '..Said'. Prove '..Said' where nothing that the law and all that it calls make is longer than what came in: it says more and counts as full. Else prove '..UptoSaid'. A law counts once. -/
mutual
def uptoBulk {H : Type} : DataW H → Nat
  | .lit (.string bytes) => bytes.length + 1
  | .lit _ => 1
  | .nil => 1
  | .ptr d => uptoBulk d + 1
  | .slice elems spare => uptoBulkAll elems + uptoBulkAll spare + 1
  | .agg parts => uptoBulkAll parts + 1
  | .iface _ d => uptoBulk d + 1
  | .map entries => uptoBulkEntries entries + 1
  | .held _ => 1
def uptoBulkAll {H : Type} : List (DataW H) → Nat
  | [] => 0
  | d :: r => uptoBulk d + uptoBulkAll r
def uptoBulkEntries {H : Type} : List (Lit × DataW H) → Nat
  | [] => 0
  | x :: r => uptoBulkEntry x + uptoBulkEntries r
def uptoBulkEntry {H : Type} : Lit × DataW H → Nat
  | (.string bytes, d) => bytes.length + uptoBulk d + 1
  | (_, d) => uptoBulk d + 1
 end
def uptoSmall : (H : Type) → List (DataW H) → Bool := fun _ ds => decide (uptoBulkAll ds ≤ 1048576)
def OpenSpec.upto (s : _root_.Go.ChangeSpec) : _root_.Go.OpenSpec := { _root_.Go.OpenSpec.ofChange s with cond := some uptoSmall }

/-- 'stepstonelaw22.PackCells', WHERE WHAT IT READS IS OF BULK AT MOST 1048576: true; the input reads as it did. -/
def packCellsUptoRow : OpenClaim := { program := "ytgbcnokeaaabfaagreat", sum := "a3b2e9b1330a97801c1e6f0dbbd691852943ef9e2c99038ae9696bcbdff680a6", func := "stepstone/stepstonelaw22.PackCells", spec := "packCells", unfollowed := true, recurses := true, apart := false, narrowed := true }
def PackCellsUptoSaid : Prop := packCellsUptoRow.holds Tryz.pinned (OpenSpec.upto packCellsSpec)

/-- 'stepstonelaw22.PackKeeps', WHERE WHAT IT READS IS OF BULK AT MOST 1048576: true; the input reads as it did. -/
def packKeepsUptoRow : OpenClaim := { program := "ytgbcnokeaaabfaagreat", sum := "a3b2e9b1330a97801c1e6f0dbbd691852943ef9e2c99038ae9696bcbdff680a6", func := "stepstone/stepstonelaw22.PackKeeps", spec := "packKeeps", unfollowed := true, recurses := true, apart := false, narrowed := true }
def PackKeepsUptoSaid : Prop := packKeepsUptoRow.holds Tryz.pinned (OpenSpec.upto packKeepsSpec)

/-- 'stepstonelaw22.PackHandles', WHERE WHAT IT READS IS OF BULK AT MOST 1048576: true; the input reads as it did. -/
def packHandlesUptoRow : OpenClaim := { program := "ytgbcnokeaaabfaagreat", sum := "a3b2e9b1330a97801c1e6f0dbbd691852943ef9e2c99038ae9696bcbdff680a6", func := "stepstone/stepstonelaw22.PackHandles", spec := "packHandles", unfollowed := true, recurses := true, apart := false, narrowed := true }
def PackHandlesUptoSaid : Prop := packHandlesUptoRow.holds Tryz.pinned (OpenSpec.upto packHandlesSpec)

end Rows
end Go.Proofs.YtgbcnokeaaabfaaGreat
