/-
  No cell of these rows narrows 'for every input' (looked for: loops, veiled, ifaces, maps, wideKeys, modest, calm, conditions, laid).
  DERIVED. THE GIVEN ROWS OF THIS SEAT. 6 by the template 'for every input the law returns true; each argument reads behind the call as it read before'; 0 by the template 'total and deterministic' (their statements: YtpppcicbkdafeabTotals.lean).
  GIVEN WITH THE SEED: the statements are not yours to turn. If you find one false, say at which input.
  Laid BY PROGRAM, IN A SANDBOX (cutbox-rows.mjs): the forced cells as the released guide's own fill.sh prints them over the translation c90810a6d6085adf… (all of the seat's roots in one cut). By AI agents, Wed Nov 11 2026. No macro, syntax, notation, axiom, sorry.
-/
import Derived.Test.YtpppcicbkdafeabChecked
import GoSem.Claim
import GoSem.ClaimJoined
import GoSem.ClaimMapViews
import Derived.JoinedTies
import Derived.KernelRfl
namespace Go.Proofs.Ytpppcicbkdafeab
/- THE CELL 'sum', in the pinned program and in every row, IS THE sha256 OF THE DUMP (.gsa) THAT YtpppcicbkdafeabProg.lean LOADS. Nothing in Lean hashes anything: it is a label: what it is worth is what the hold of that sum in a sandbox is worth. -/
noncomputable def Try.pinned : Pinned := { name := "ytpppcicbkdafeab", sum := "c90810a6d6085adf83974dea6415b03c9536ffd66e9172bc1aff0752e1af6214", checked := Try.checked }
namespace Rows
def none {H : Type} : Left H := { results := [], args := [] }

/-- 'stepstonelaw06.CoverAll': WHATEVER THE INPUT: true; the input reads as it did. -/
def coverAllSpec : ChangeSpec := { name := "coverAll", fn := fun _ => fun
  | [d1, d2] => { results := [.lit (.bool true)], args := [d1, d2] }
  | _ => none }
def coverAllRow : OpenClaim := { program := "ytpppcicbkdafeab", sum := "c90810a6d6085adf83974dea6415b03c9536ffd66e9172bc1aff0752e1af6214", func := "stepstone/stepstonelaw06.CoverAll", spec := "coverAll", unfollowed := true, recurses := true, apart := false }
def CoverAllSaid : Prop := coverAllRow.holds Try.pinned (OpenSpec.ofChange coverAllSpec)

/-- ITS FALSE NEIGHBOUR: 'it returns false'. Refute it at one input. -/
def coverAllWrong : ChangeSpec := { name := "coverAll", fn := fun _ => fun
  | [d1, d2] => { results := [.lit (.bool false)], args := [d1, d2] }
  | _ => none }
def CoverAllWrongFalsely : Prop := coverAllRow.holds Try.pinned (OpenSpec.ofChange coverAllWrong)

/-- 'stepstonelaw06.CoverSplits': WHATEVER THE INPUT: true; the input reads as it did. -/
def coverSplitsSpec : ChangeSpec := { name := "coverSplits", fn := fun _ => fun
  | [d1, d2] => { results := [.lit (.bool true)], args := [d1, d2] }
  | _ => none }
def coverSplitsRow : OpenClaim := { program := "ytpppcicbkdafeab", sum := "c90810a6d6085adf83974dea6415b03c9536ffd66e9172bc1aff0752e1af6214", func := "stepstone/stepstonelaw06.CoverSplits", spec := "coverSplits", unfollowed := true, recurses := true, apart := false }
def CoverSplitsSaid : Prop := coverSplitsRow.holds Try.pinned (OpenSpec.ofChange coverSplitsSpec)

/-- ITS FALSE NEIGHBOUR: 'it returns false'. Refute it at one input. -/
def coverSplitsWrong : ChangeSpec := { name := "coverSplits", fn := fun _ => fun
  | [d1, d2] => { results := [.lit (.bool false)], args := [d1, d2] }
  | _ => none }
def CoverSplitsWrongFalsely : Prop := coverSplitsRow.holds Try.pinned (OpenSpec.ofChange coverSplitsWrong)

/-- 'stepstonelaw06.CoverOnce': WHATEVER THE INPUT: true; the input reads as it did. -/
def coverOnceSpec : ChangeSpec := { name := "coverOnce", fn := fun _ => fun
  | [d1, d2, d3] => { results := [.lit (.bool true)], args := [d1, d2, d3] }
  | _ => none }
def coverOnceRow : OpenClaim := { program := "ytpppcicbkdafeab", sum := "c90810a6d6085adf83974dea6415b03c9536ffd66e9172bc1aff0752e1af6214", func := "stepstone/stepstonelaw06.CoverOnce", spec := "coverOnce", unfollowed := true, recurses := true, apart := false }
def CoverOnceSaid : Prop := coverOnceRow.holds Try.pinned (OpenSpec.ofChange coverOnceSpec)

/-- ITS FALSE NEIGHBOUR: 'it returns false'. Refute it at one input. -/
def coverOnceWrong : ChangeSpec := { name := "coverOnce", fn := fun _ => fun
  | [d1, d2, d3] => { results := [.lit (.bool false)], args := [d1, d2, d3] }
  | _ => none }
def CoverOnceWrongFalsely : Prop := coverOnceRow.holds Try.pinned (OpenSpec.ofChange coverOnceWrong)

/-- 'stepstonelaw06.CoverMore': WHATEVER THE INPUT: true; the input reads as it did. -/
def coverMoreSpec : ChangeSpec := { name := "coverMore", fn := fun _ => fun
  | [d1, d2, d3] => { results := [.lit (.bool true)], args := [d1, d2, d3] }
  | _ => none }
def coverMoreRow : OpenClaim := { program := "ytpppcicbkdafeab", sum := "c90810a6d6085adf83974dea6415b03c9536ffd66e9172bc1aff0752e1af6214", func := "stepstone/stepstonelaw06.CoverMore", spec := "coverMore", unfollowed := true, recurses := true, apart := false }
def CoverMoreSaid : Prop := coverMoreRow.holds Try.pinned (OpenSpec.ofChange coverMoreSpec)

/-- ITS FALSE NEIGHBOUR: 'it returns false'. Refute it at one input. -/
def coverMoreWrong : ChangeSpec := { name := "coverMore", fn := fun _ => fun
  | [d1, d2, d3] => { results := [.lit (.bool false)], args := [d1, d2, d3] }
  | _ => none }
def CoverMoreWrongFalsely : Prop := coverMoreRow.holds Try.pinned (OpenSpec.ofChange coverMoreWrong)

/-- 'stepstonelaw06.CoverLate': WHATEVER THE INPUT: true; the input reads as it did. -/
def coverLateSpec : ChangeSpec := { name := "coverLate", fn := fun _ => fun
  | [d1, d2, d3] => { results := [.lit (.bool true)], args := [d1, d2, d3] }
  | _ => none }
def coverLateRow : OpenClaim := { program := "ytpppcicbkdafeab", sum := "c90810a6d6085adf83974dea6415b03c9536ffd66e9172bc1aff0752e1af6214", func := "stepstone/stepstonelaw06.CoverLate", spec := "coverLate", unfollowed := true, recurses := true, apart := false }
def CoverLateSaid : Prop := coverLateRow.holds Try.pinned (OpenSpec.ofChange coverLateSpec)

/-- ITS FALSE NEIGHBOUR: 'it returns false'. Refute it at one input. -/
def coverLateWrong : ChangeSpec := { name := "coverLate", fn := fun _ => fun
  | [d1, d2, d3] => { results := [.lit (.bool false)], args := [d1, d2, d3] }
  | _ => none }
def CoverLateWrongFalsely : Prop := coverLateRow.holds Try.pinned (OpenSpec.ofChange coverLateWrong)

/-- 'stepstonelaw06.CoverOldest': WHATEVER THE INPUT: true; the input reads as it did. -/
def coverOldestSpec : ChangeSpec := { name := "coverOldest", fn := fun _ => fun
  | [d1, d2] => { results := [.lit (.bool true)], args := [d1, d2] }
  | _ => none }
def coverOldestRow : OpenClaim := { program := "ytpppcicbkdafeab", sum := "c90810a6d6085adf83974dea6415b03c9536ffd66e9172bc1aff0752e1af6214", func := "stepstone/stepstonelaw06.CoverOldest", spec := "coverOldest", unfollowed := true, recurses := true, apart := false }
def CoverOldestSaid : Prop := coverOldestRow.holds Try.pinned (OpenSpec.ofChange coverOldestSpec)

/-- ITS FALSE NEIGHBOUR: 'it returns false'. Refute it at one input. -/
def coverOldestWrong : ChangeSpec := { name := "coverOldest", fn := fun _ => fun
  | [d1, d2] => { results := [.lit (.bool false)], args := [d1, d2] }
  | _ => none }
def CoverOldestWrongFalsely : Prop := coverOldestRow.holds Try.pinned (OpenSpec.ofChange coverOldestWrong)

/- THE SECOND FORM. 'bulk': how many values and letters a reading holds, each counted each time it is reached (what is shared counts as often as it is met; a slice's spare places count too). A statement '..UptoSaid' is the law's where the arguments, and the package variables that the reading takes, are together of bulk at most 1048576: NARROWER than '..Said'. Prove '..Said' where nothing that the law and all that it calls make is longer than what came in: it says more and counts as full. Else prove '..UptoSaid'. A law counts once. -/
mutual
def uptoBulk {H : Type} : DataW H → Nat
  | .lit (.string bytes) => bytes.length + 1
  | .lit _ => 1
  | .nil => 1
  | .ptr d => uptoBulk d + 1
  | .slice elems spare => uptoBulkAll elems + uptoBulkAll spare + 1
  | .agg parts => uptoBulkAll parts + 1
  | .iface _ d => uptoBulk d + 1
  | .map entries => uptoBulkEntries entries + 1
  | .held _ => 1
def uptoBulkAll {H : Type} : List (DataW H) → Nat
  | [] => 0
  | d :: r => uptoBulk d + uptoBulkAll r
def uptoBulkEntries {H : Type} : List (Lit × DataW H) → Nat
  | [] => 0
  | x :: r => uptoBulkEntry x + uptoBulkEntries r
def uptoBulkEntry {H : Type} : Lit × DataW H → Nat
  | (.string bytes, d) => bytes.length + uptoBulk d + 1
  | (_, d) => uptoBulk d + 1
 end
def uptoSmall : (H : Type) → List (DataW H) → Bool := fun _ ds => decide (uptoBulkAll ds ≤ 1048576)
def OpenSpec.upto (s : _root_.Go.ChangeSpec) : _root_.Go.OpenSpec := { _root_.Go.OpenSpec.ofChange s with cond := some uptoSmall }

/-- 'stepstonelaw06.CoverAll', WHERE WHAT IT READS IS OF BULK AT MOST 1048576: true; the input reads as it did. -/
def coverAllUptoRow : OpenClaim := { program := "ytpppcicbkdafeab", sum := "c90810a6d6085adf83974dea6415b03c9536ffd66e9172bc1aff0752e1af6214", func := "stepstone/stepstonelaw06.CoverAll", spec := "coverAll", unfollowed := true, recurses := true, apart := false, narrowed := true }
def CoverAllUptoSaid : Prop := coverAllUptoRow.holds Try.pinned (OpenSpec.upto coverAllSpec)

/-- 'stepstonelaw06.CoverSplits', WHERE WHAT IT READS IS OF BULK AT MOST 1048576: true; the input reads as it did. -/
def coverSplitsUptoRow : OpenClaim := { program := "ytpppcicbkdafeab", sum := "c90810a6d6085adf83974dea6415b03c9536ffd66e9172bc1aff0752e1af6214", func := "stepstone/stepstonelaw06.CoverSplits", spec := "coverSplits", unfollowed := true, recurses := true, apart := false, narrowed := true }
def CoverSplitsUptoSaid : Prop := coverSplitsUptoRow.holds Try.pinned (OpenSpec.upto coverSplitsSpec)

/-- 'stepstonelaw06.CoverOnce', WHERE WHAT IT READS IS OF BULK AT MOST 1048576: true; the input reads as it did. -/
def coverOnceUptoRow : OpenClaim := { program := "ytpppcicbkdafeab", sum := "c90810a6d6085adf83974dea6415b03c9536ffd66e9172bc1aff0752e1af6214", func := "stepstone/stepstonelaw06.CoverOnce", spec := "coverOnce", unfollowed := true, recurses := true, apart := false, narrowed := true }
def CoverOnceUptoSaid : Prop := coverOnceUptoRow.holds Try.pinned (OpenSpec.upto coverOnceSpec)

/-- 'stepstonelaw06.CoverMore', WHERE WHAT IT READS IS OF BULK AT MOST 1048576: true; the input reads as it did. -/
def coverMoreUptoRow : OpenClaim := { program := "ytpppcicbkdafeab", sum := "c90810a6d6085adf83974dea6415b03c9536ffd66e9172bc1aff0752e1af6214", func := "stepstone/stepstonelaw06.CoverMore", spec := "coverMore", unfollowed := true, recurses := true, apart := false, narrowed := true }
def CoverMoreUptoSaid : Prop := coverMoreUptoRow.holds Try.pinned (OpenSpec.upto coverMoreSpec)

/-- 'stepstonelaw06.CoverLate', WHERE WHAT IT READS IS OF BULK AT MOST 1048576: true; the input reads as it did. -/
def coverLateUptoRow : OpenClaim := { program := "ytpppcicbkdafeab", sum := "c90810a6d6085adf83974dea6415b03c9536ffd66e9172bc1aff0752e1af6214", func := "stepstone/stepstonelaw06.CoverLate", spec := "coverLate", unfollowed := true, recurses := true, apart := false, narrowed := true }
def CoverLateUptoSaid : Prop := coverLateUptoRow.holds Try.pinned (OpenSpec.upto coverLateSpec)

/-- 'stepstonelaw06.CoverOldest', WHERE WHAT IT READS IS OF BULK AT MOST 1048576: true; the input reads as it did. -/
def coverOldestUptoRow : OpenClaim := { program := "ytpppcicbkdafeab", sum := "c90810a6d6085adf83974dea6415b03c9536ffd66e9172bc1aff0752e1af6214", func := "stepstone/stepstonelaw06.CoverOldest", spec := "coverOldest", unfollowed := true, recurses := true, apart := false, narrowed := true }
def CoverOldestUptoSaid : Prop := coverOldestUptoRow.holds Try.pinned (OpenSpec.upto coverOldestSpec)

end Rows
end Go.Proofs.Ytpppcicbkdafeab
