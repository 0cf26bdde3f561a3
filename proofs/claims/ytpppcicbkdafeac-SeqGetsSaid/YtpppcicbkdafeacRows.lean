/-
  No cell of these rows narrows 'for every input' (looked for: loops, veiled, ifaces, maps, wideKeys, modest, calm, conditions, laid).
  DERIVED. THE GIVEN ROWS OF THIS SEAT. 6 by the template 'for every input the law returns true; each argument reads behind the call as it read before'; 0 by the template 'total and deterministic' (their statements: YtpppcicbkdafeacTotals.lean).
  GIVEN WITH THE SEED: the statements are not yours to turn. If you find one false, say at which input.
  Laid BY PROGRAM, IN A SANDBOX (cutbox-rows.mjs): the forced cells as the released guide's own fill.sh prints them over the translation 869c4e92daf87a37… (all of the seat's roots in one cut). By AI agents, Wed Nov 11 2026. No macro, syntax, notation, axiom, sorry.
-/
import Derived.Test.YtpppcicbkdafeacChecked
import GoSem.Claim
import GoSem.ClaimJoined
import GoSem.ClaimMapViews
import Derived.JoinedTies
import Derived.KernelRfl
namespace Go.Proofs.Ytpppcicbkdafeac
/- THE CELL 'sum', in the pinned program and in every row, IS THE sha256 OF THE DUMP (.gsa) THAT YtpppcicbkdafeacProg.lean LOADS. Nothing in Lean hashes anything: it is a label: what it is worth is what the hold of that sum in a sandbox is worth. -/
noncomputable def Try.pinned : Pinned := { name := "ytpppcicbkdafeac", sum := "869c4e92daf87a378988ad95fbbdff96379504fbc9d4509ae274c7eb4271de59", checked := Try.checked }
namespace Rows
def none {H : Type} : Left H := { results := [], args := [] }

/-- 'stepstonelaw07.SeqDoes': WHATEVER THE INPUT: true; the input reads as it did. -/
def seqDoesSpec : ChangeSpec := { name := "seqDoes", fn := fun _ => fun
  | [d] => { results := [.lit (.bool true)], args := [d] }
  | _ => none }
def seqDoesRow : OpenClaim := { program := "ytpppcicbkdafeac", sum := "869c4e92daf87a378988ad95fbbdff96379504fbc9d4509ae274c7eb4271de59", func := "stepstone/stepstonelaw07.SeqDoes", spec := "seqDoes", unfollowed := true, recurses := true, apart := false }
def SeqDoesSaid : Prop := seqDoesRow.holds Try.pinned (OpenSpec.ofChange seqDoesSpec)

/-- ITS FALSE NEIGHBOUR: 'it returns false'. Refute it at one input. -/
def seqDoesWrong : ChangeSpec := { name := "seqDoes", fn := fun _ => fun
  | [d] => { results := [.lit (.bool false)], args := [d] }
  | _ => none }
def SeqDoesWrongFalsely : Prop := seqDoesRow.holds Try.pinned (OpenSpec.ofChange seqDoesWrong)

/-- 'stepstonelaw07.SeqSame': WHATEVER THE INPUT: true; the input reads as it did. -/
def seqSameSpec : ChangeSpec := { name := "seqSame", fn := fun _ => fun
  | [d1, d2] => { results := [.lit (.bool true)], args := [d1, d2] }
  | _ => none }
def seqSameRow : OpenClaim := { program := "ytpppcicbkdafeac", sum := "869c4e92daf87a378988ad95fbbdff96379504fbc9d4509ae274c7eb4271de59", func := "stepstone/stepstonelaw07.SeqSame", spec := "seqSame", unfollowed := true, recurses := true, apart := false }
def SeqSameSaid : Prop := seqSameRow.holds Try.pinned (OpenSpec.ofChange seqSameSpec)

/-- ITS FALSE NEIGHBOUR: 'it returns false'. Refute it at one input. -/
def seqSameWrong : ChangeSpec := { name := "seqSame", fn := fun _ => fun
  | [d1, d2] => { results := [.lit (.bool false)], args := [d1, d2] }
  | _ => none }
def SeqSameWrongFalsely : Prop := seqSameRow.holds Try.pinned (OpenSpec.ofChange seqSameWrong)

/-- 'stepstonelaw07.SeqOf': WHATEVER THE INPUT: true; the input reads as it did. -/
def seqOfSpec : ChangeSpec := { name := "seqOf", fn := fun _ => fun
  | [d] => { results := [.lit (.bool true)], args := [d] }
  | _ => none }
def seqOfRow : OpenClaim := { program := "ytpppcicbkdafeac", sum := "869c4e92daf87a378988ad95fbbdff96379504fbc9d4509ae274c7eb4271de59", func := "stepstone/stepstonelaw07.SeqOf", spec := "seqOf", unfollowed := true, recurses := true, apart := false }
def SeqOfSaid : Prop := seqOfRow.holds Try.pinned (OpenSpec.ofChange seqOfSpec)

/-- ITS FALSE NEIGHBOUR: 'it returns false'. Refute it at one input. -/
def seqOfWrong : ChangeSpec := { name := "seqOf", fn := fun _ => fun
  | [d] => { results := [.lit (.bool false)], args := [d] }
  | _ => none }
def SeqOfWrongFalsely : Prop := seqOfRow.holds Try.pinned (OpenSpec.ofChange seqOfWrong)

/-- 'stepstonelaw07.SeqGets': WHATEVER THE INPUT: true; the input reads as it did. -/
def seqGetsSpec : ChangeSpec := { name := "seqGets", fn := fun _ => fun
  | [d1, d2] => { results := [.lit (.bool true)], args := [d1, d2] }
  | _ => none }
def seqGetsRow : OpenClaim := { program := "ytpppcicbkdafeac", sum := "869c4e92daf87a378988ad95fbbdff96379504fbc9d4509ae274c7eb4271de59", func := "stepstone/stepstonelaw07.SeqGets", spec := "seqGets", unfollowed := true, recurses := true, apart := false }
def SeqGetsSaid : Prop := seqGetsRow.holds Try.pinned (OpenSpec.ofChange seqGetsSpec)

/-- ITS FALSE NEIGHBOUR: 'it returns false'. Refute it at one input. -/
def seqGetsWrong : ChangeSpec := { name := "seqGets", fn := fun _ => fun
  | [d1, d2] => { results := [.lit (.bool false)], args := [d1, d2] }
  | _ => none }
def SeqGetsWrongFalsely : Prop := seqGetsRow.holds Try.pinned (OpenSpec.ofChange seqGetsWrong)

/-- 'stepstonelaw07.SeqCeilings': WHATEVER THE INPUT: true; the input reads as it did. -/
def seqCeilingsSpec : ChangeSpec := { name := "seqCeilings", fn := fun _ => fun
  | [d1, d2, d3] => { results := [.lit (.bool true)], args := [d1, d2, d3] }
  | _ => none }
def seqCeilingsRow : OpenClaim := { program := "ytpppcicbkdafeac", sum := "869c4e92daf87a378988ad95fbbdff96379504fbc9d4509ae274c7eb4271de59", func := "stepstone/stepstonelaw07.SeqCeilings", spec := "seqCeilings", unfollowed := true, recurses := true, apart := false }
def SeqCeilingsSaid : Prop := seqCeilingsRow.holds Try.pinned (OpenSpec.ofChange seqCeilingsSpec)

/-- ITS FALSE NEIGHBOUR: 'it returns false'. Refute it at one input. -/
def seqCeilingsWrong : ChangeSpec := { name := "seqCeilings", fn := fun _ => fun
  | [d1, d2, d3] => { results := [.lit (.bool false)], args := [d1, d2, d3] }
  | _ => none }
def SeqCeilingsWrongFalsely : Prop := seqCeilingsRow.holds Try.pinned (OpenSpec.ofChange seqCeilingsWrong)

/-- 'stepstonelaw07.SeqRanges': WHATEVER THE INPUT: true; the input reads as it did. -/
def seqRangesSpec : ChangeSpec := { name := "seqRanges", fn := fun _ => fun
  | [d1, d2] => { results := [.lit (.bool true)], args := [d1, d2] }
  | _ => none }
def seqRangesRow : OpenClaim := { program := "ytpppcicbkdafeac", sum := "869c4e92daf87a378988ad95fbbdff96379504fbc9d4509ae274c7eb4271de59", func := "stepstone/stepstonelaw07.SeqRanges", spec := "seqRanges", unfollowed := true, recurses := true, apart := false }
def SeqRangesSaid : Prop := seqRangesRow.holds Try.pinned (OpenSpec.ofChange seqRangesSpec)

/-- ITS FALSE NEIGHBOUR: 'it returns false'. Refute it at one input. -/
def seqRangesWrong : ChangeSpec := { name := "seqRanges", fn := fun _ => fun
  | [d1, d2] => { results := [.lit (.bool false)], args := [d1, d2] }
  | _ => none }
def SeqRangesWrongFalsely : Prop := seqRangesRow.holds Try.pinned (OpenSpec.ofChange seqRangesWrong)

/- THE SECOND FORM. 'bulk': how many values and letters a reading holds, each counted each time it is reached (what is shared counts as often as it is met; a slice's spare places count too). A statement '..UptoSaid' is the law's where the arguments, and the package variables that the reading takes, are together of bulk at most 1048576: NARROWER than '..Said'. Prove '..Said' where nothing that the law and all that it calls make is longer than what came in: it says more and counts as full. Else prove '..UptoSaid'. A law counts once. -/
mutual
def uptoBulk {H : Type} : DataW H → Nat
  | .lit (.string bytes) => bytes.length + 1
  | .lit _ => 1
  | .nil => 1
  | .ptr d => uptoBulk d + 1
  | .slice elems spare => uptoBulkAll elems + uptoBulkAll spare + 1
  | .agg parts => uptoBulkAll parts + 1
  | .iface _ d => uptoBulk d + 1
  | .map entries => uptoBulkEntries entries + 1
  | .held _ => 1
def uptoBulkAll {H : Type} : List (DataW H) → Nat
  | [] => 0
  | d :: r => uptoBulk d + uptoBulkAll r
def uptoBulkEntries {H : Type} : List (Lit × DataW H) → Nat
  | [] => 0
  | x :: r => uptoBulkEntry x + uptoBulkEntries r
def uptoBulkEntry {H : Type} : Lit × DataW H → Nat
  | (.string bytes, d) => bytes.length + uptoBulk d + 1
  | (_, d) => uptoBulk d + 1
 end
def uptoSmall : (H : Type) → List (DataW H) → Bool := fun _ ds => decide (uptoBulkAll ds ≤ 1048576)
def OpenSpec.upto (s : _root_.Go.ChangeSpec) : _root_.Go.OpenSpec := { _root_.Go.OpenSpec.ofChange s with cond := some uptoSmall }

/-- 'stepstonelaw07.SeqDoes', WHERE WHAT IT READS IS OF BULK AT MOST 1048576: true; the input reads as it did. -/
def seqDoesUptoRow : OpenClaim := { program := "ytpppcicbkdafeac", sum := "869c4e92daf87a378988ad95fbbdff96379504fbc9d4509ae274c7eb4271de59", func := "stepstone/stepstonelaw07.SeqDoes", spec := "seqDoes", unfollowed := true, recurses := true, apart := false, narrowed := true }
def SeqDoesUptoSaid : Prop := seqDoesUptoRow.holds Try.pinned (OpenSpec.upto seqDoesSpec)

/-- 'stepstonelaw07.SeqSame', WHERE WHAT IT READS IS OF BULK AT MOST 1048576: true; the input reads as it did. -/
def seqSameUptoRow : OpenClaim := { program := "ytpppcicbkdafeac", sum := "869c4e92daf87a378988ad95fbbdff96379504fbc9d4509ae274c7eb4271de59", func := "stepstone/stepstonelaw07.SeqSame", spec := "seqSame", unfollowed := true, recurses := true, apart := false, narrowed := true }
def SeqSameUptoSaid : Prop := seqSameUptoRow.holds Try.pinned (OpenSpec.upto seqSameSpec)

/-- 'stepstonelaw07.SeqOf', WHERE WHAT IT READS IS OF BULK AT MOST 1048576: true; the input reads as it did. -/
def seqOfUptoRow : OpenClaim := { program := "ytpppcicbkdafeac", sum := "869c4e92daf87a378988ad95fbbdff96379504fbc9d4509ae274c7eb4271de59", func := "stepstone/stepstonelaw07.SeqOf", spec := "seqOf", unfollowed := true, recurses := true, apart := false, narrowed := true }
def SeqOfUptoSaid : Prop := seqOfUptoRow.holds Try.pinned (OpenSpec.upto seqOfSpec)

/-- 'stepstonelaw07.SeqGets', WHERE WHAT IT READS IS OF BULK AT MOST 1048576: true; the input reads as it did. -/
def seqGetsUptoRow : OpenClaim := { program := "ytpppcicbkdafeac", sum := "869c4e92daf87a378988ad95fbbdff96379504fbc9d4509ae274c7eb4271de59", func := "stepstone/stepstonelaw07.SeqGets", spec := "seqGets", unfollowed := true, recurses := true, apart := false, narrowed := true }
def SeqGetsUptoSaid : Prop := seqGetsUptoRow.holds Try.pinned (OpenSpec.upto seqGetsSpec)

/-- 'stepstonelaw07.SeqCeilings', WHERE WHAT IT READS IS OF BULK AT MOST 1048576: true; the input reads as it did. -/
def seqCeilingsUptoRow : OpenClaim := { program := "ytpppcicbkdafeac", sum := "869c4e92daf87a378988ad95fbbdff96379504fbc9d4509ae274c7eb4271de59", func := "stepstone/stepstonelaw07.SeqCeilings", spec := "seqCeilings", unfollowed := true, recurses := true, apart := false, narrowed := true }
def SeqCeilingsUptoSaid : Prop := seqCeilingsUptoRow.holds Try.pinned (OpenSpec.upto seqCeilingsSpec)

/-- 'stepstonelaw07.SeqRanges', WHERE WHAT IT READS IS OF BULK AT MOST 1048576: true; the input reads as it did. -/
def seqRangesUptoRow : OpenClaim := { program := "ytpppcicbkdafeac", sum := "869c4e92daf87a378988ad95fbbdff96379504fbc9d4509ae274c7eb4271de59", func := "stepstone/stepstonelaw07.SeqRanges", spec := "seqRanges", unfollowed := true, recurses := true, apart := false, narrowed := true }
def SeqRangesUptoSaid : Prop := seqRangesUptoRow.holds Try.pinned (OpenSpec.upto seqRangesSpec)

end Rows
end Go.Proofs.Ytpppcicbkdafeac
