/-
  No cell of these rows narrows 'for every input' (looked for: loops, veiled, ifaces, maps, wideKeys, modest, calm, conditions, laid).
  DERIVED. THE GIVEN ROWS OF THIS SEAT. 6 by the template 'for every input the law returns true; each argument reads behind the call as it read before'; 0 by the template 'total and deterministic' (their statements: YtpppcicbkdafeaaTotals.lean).
  GIVEN WITH THE SEED: the statements are not yours to turn. If you find one false, say at which input.
  Laid BY PROGRAM, IN A SANDBOX (cutbox-rows.mjs): the forced cells as the released guide's own fill.sh prints them over the translation 2b32a96c10bc45ec… (all of the seat's roots in one cut). By AI agents, Wed Nov 11 2026. No macro, syntax, notation, axiom, sorry.
-/
import Derived.Test.YtpppcicbkdafeaaChecked
import GoSem.Claim
import GoSem.ClaimJoined
import GoSem.ClaimMapViews
import Derived.JoinedTies
import Derived.KernelRfl
namespace Go.Proofs.Ytpppcicbkdafeaa
/- THE CELL 'sum', in the pinned program and in every row, IS THE sha256 OF THE DUMP (.gsa) THAT YtpppcicbkdafeaaProg.lean LOADS. Nothing in Lean hashes anything: it is a label: what it is worth is what the hold of that sum in a sandbox is worth. -/
noncomputable def Try.pinned : Pinned := { name := "ytpppcicbkdafeaa", sum := "2b32a96c10bc45ecc0124644468a73fe36ec284a1c05e078efb20bff5cbd83ea", checked := Try.checked }
namespace Rows
def none {H : Type} : Left H := { results := [], args := [] }

/-- 'stepstonelaw02.SlotMetas': WHATEVER THE INPUT: true; the input reads as it did. -/
def slotMetasSpec : ChangeSpec := { name := "slotMetas", fn := fun _ => fun
  | [d1, d2] => { results := [.lit (.bool true)], args := [d1, d2] }
  | _ => none }
def slotMetasRow : OpenClaim := { program := "ytpppcicbkdafeaa", sum := "2b32a96c10bc45ecc0124644468a73fe36ec284a1c05e078efb20bff5cbd83ea", func := "stepstone/stepstonelaw02.SlotMetas", spec := "slotMetas", apart := false }
def SlotMetasSaid : Prop := slotMetasRow.holds Try.pinned (OpenSpec.ofChange slotMetasSpec)

/-- ITS FALSE NEIGHBOUR: 'it returns false'. Refute it at one input. -/
def slotMetasWrong : ChangeSpec := { name := "slotMetas", fn := fun _ => fun
  | [d1, d2] => { results := [.lit (.bool false)], args := [d1, d2] }
  | _ => none }
def SlotMetasWrongFalsely : Prop := slotMetasRow.holds Try.pinned (OpenSpec.ofChange slotMetasWrong)

/-- 'stepstonelaw02.SlotParts': WHATEVER THE INPUT: true; the input reads as it did. -/
def slotPartsSpec : ChangeSpec := { name := "slotParts", fn := fun _ => fun
  | [d] => { results := [.lit (.bool true)], args := [d] }
  | _ => none }
def slotPartsRow : OpenClaim := { program := "ytpppcicbkdafeaa", sum := "2b32a96c10bc45ecc0124644468a73fe36ec284a1c05e078efb20bff5cbd83ea", func := "stepstone/stepstonelaw02.SlotParts", spec := "slotParts", apart := false }
def SlotPartsSaid : Prop := slotPartsRow.holds Try.pinned (OpenSpec.ofChange slotPartsSpec)

/-- ITS FALSE NEIGHBOUR: 'it returns false'. Refute it at one input. -/
def slotPartsWrong : ChangeSpec := { name := "slotParts", fn := fun _ => fun
  | [d] => { results := [.lit (.bool false)], args := [d] }
  | _ => none }
def SlotPartsWrongFalsely : Prop := slotPartsRow.holds Try.pinned (OpenSpec.ofChange slotPartsWrong)

/-- 'stepstonelaw02.SlotAfter': WHATEVER THE INPUT: true; the input reads as it did. -/
def slotAfterSpec : ChangeSpec := { name := "slotAfter", fn := fun _ => fun
  | [d1, d2] => { results := [.lit (.bool true)], args := [d1, d2] }
  | _ => none }
def slotAfterRow : OpenClaim := { program := "ytpppcicbkdafeaa", sum := "2b32a96c10bc45ecc0124644468a73fe36ec284a1c05e078efb20bff5cbd83ea", func := "stepstone/stepstonelaw02.SlotAfter", spec := "slotAfter", apart := false }
def SlotAfterSaid : Prop := slotAfterRow.holds Try.pinned (OpenSpec.ofChange slotAfterSpec)

/-- ITS FALSE NEIGHBOUR: 'it returns false'. Refute it at one input. -/
def slotAfterWrong : ChangeSpec := { name := "slotAfter", fn := fun _ => fun
  | [d1, d2] => { results := [.lit (.bool false)], args := [d1, d2] }
  | _ => none }
def SlotAfterWrongFalsely : Prop := slotAfterRow.holds Try.pinned (OpenSpec.ofChange slotAfterWrong)

/-- 'stepstonelaw02.SlotValues': WHATEVER THE INPUT: true; the input reads as it did. -/
def slotValuesSpec : ChangeSpec := { name := "slotValues", fn := fun _ => fun
  | [d] => { results := [.lit (.bool true)], args := [d] }
  | _ => none }
def slotValuesRow : OpenClaim := { program := "ytpppcicbkdafeaa", sum := "2b32a96c10bc45ecc0124644468a73fe36ec284a1c05e078efb20bff5cbd83ea", func := "stepstone/stepstonelaw02.SlotValues", spec := "slotValues", apart := false }
def SlotValuesSaid : Prop := slotValuesRow.holds Try.pinned (OpenSpec.ofChange slotValuesSpec)

/-- ITS FALSE NEIGHBOUR: 'it returns false'. Refute it at one input. -/
def slotValuesWrong : ChangeSpec := { name := "slotValues", fn := fun _ => fun
  | [d] => { results := [.lit (.bool false)], args := [d] }
  | _ => none }
def SlotValuesWrongFalsely : Prop := slotValuesRow.holds Try.pinned (OpenSpec.ofChange slotValuesWrong)

/-- 'stepstonelaw02.SlotApart': WHATEVER THE INPUT: true; the input reads as it did. -/
def slotApartSpec : ChangeSpec := { name := "slotApart", fn := fun _ => fun
  | [d1, d2, d3] => { results := [.lit (.bool true)], args := [d1, d2, d3] }
  | _ => none }
def slotApartRow : OpenClaim := { program := "ytpppcicbkdafeaa", sum := "2b32a96c10bc45ecc0124644468a73fe36ec284a1c05e078efb20bff5cbd83ea", func := "stepstone/stepstonelaw02.SlotApart", spec := "slotApart", apart := false }
def SlotApartSaid : Prop := slotApartRow.holds Try.pinned (OpenSpec.ofChange slotApartSpec)

/-- ITS FALSE NEIGHBOUR: 'it returns false'. Refute it at one input. -/
def slotApartWrong : ChangeSpec := { name := "slotApart", fn := fun _ => fun
  | [d1, d2, d3] => { results := [.lit (.bool false)], args := [d1, d2, d3] }
  | _ => none }
def SlotApartWrongFalsely : Prop := slotApartRow.holds Try.pinned (OpenSpec.ofChange slotApartWrong)

/-- 'stepstonelaw02.SlotEnds': WHATEVER THE INPUT: true; the input reads as it did. -/
def slotEndsSpec : ChangeSpec := { name := "slotEnds", fn := fun _ => fun
  | [d] => { results := [.lit (.bool true)], args := [d] }
  | _ => none }
def slotEndsRow : OpenClaim := { program := "ytpppcicbkdafeaa", sum := "2b32a96c10bc45ecc0124644468a73fe36ec284a1c05e078efb20bff5cbd83ea", func := "stepstone/stepstonelaw02.SlotEnds", spec := "slotEnds", apart := false }
def SlotEndsSaid : Prop := slotEndsRow.holds Try.pinned (OpenSpec.ofChange slotEndsSpec)

/-- ITS FALSE NEIGHBOUR: 'it returns false'. Refute it at one input. -/
def slotEndsWrong : ChangeSpec := { name := "slotEnds", fn := fun _ => fun
  | [d] => { results := [.lit (.bool false)], args := [d] }
  | _ => none }
def SlotEndsWrongFalsely : Prop := slotEndsRow.holds Try.pinned (OpenSpec.ofChange slotEndsWrong)

/- THE SECOND FORM. 'bulk': how many values and letters a reading holds, each counted each time it is reached (what is shared counts as often as it is met; a slice's spare places count too). A statement '..UptoSaid' is the law's where the arguments, and the package variables that the reading takes, are together of bulk at most 1048576: NARROWER than '..Said'. Prove '..Said' where nothing that the law and all that it calls make is longer than what came in: it says more and counts as full. Else prove '..UptoSaid'. A law counts once. -/
mutual
def uptoBulk {H : Type} : DataW H → Nat
  | .lit (.string bytes) => bytes.length + 1
  | .lit _ => 1
  | .nil => 1
  | .ptr d => uptoBulk d + 1
  | .slice elems spare => uptoBulkAll elems + uptoBulkAll spare + 1
  | .agg parts => uptoBulkAll parts + 1
  | .iface _ d => uptoBulk d + 1
  | .map entries => uptoBulkEntries entries + 1
  | .held _ => 1
def uptoBulkAll {H : Type} : List (DataW H) → Nat
  | [] => 0
  | d :: r => uptoBulk d + uptoBulkAll r
def uptoBulkEntries {H : Type} : List (Lit × DataW H) → Nat
  | [] => 0
  | x :: r => uptoBulkEntry x + uptoBulkEntries r
def uptoBulkEntry {H : Type} : Lit × DataW H → Nat
  | (.string bytes, d) => bytes.length + uptoBulk d + 1
  | (_, d) => uptoBulk d + 1
 end
def uptoSmall : (H : Type) → List (DataW H) → Bool := fun _ ds => decide (uptoBulkAll ds ≤ 1048576)
def OpenSpec.upto (s : _root_.Go.ChangeSpec) : _root_.Go.OpenSpec := { _root_.Go.OpenSpec.ofChange s with cond := some uptoSmall }

/-- 'stepstonelaw02.SlotMetas', WHERE WHAT IT READS IS OF BULK AT MOST 1048576: true; the input reads as it did. -/
def slotMetasUptoRow : OpenClaim := { program := "ytpppcicbkdafeaa", sum := "2b32a96c10bc45ecc0124644468a73fe36ec284a1c05e078efb20bff5cbd83ea", func := "stepstone/stepstonelaw02.SlotMetas", spec := "slotMetas", apart := false, narrowed := true }
def SlotMetasUptoSaid : Prop := slotMetasUptoRow.holds Try.pinned (OpenSpec.upto slotMetasSpec)

/-- 'stepstonelaw02.SlotParts', WHERE WHAT IT READS IS OF BULK AT MOST 1048576: true; the input reads as it did. -/
def slotPartsUptoRow : OpenClaim := { program := "ytpppcicbkdafeaa", sum := "2b32a96c10bc45ecc0124644468a73fe36ec284a1c05e078efb20bff5cbd83ea", func := "stepstone/stepstonelaw02.SlotParts", spec := "slotParts", apart := false, narrowed := true }
def SlotPartsUptoSaid : Prop := slotPartsUptoRow.holds Try.pinned (OpenSpec.upto slotPartsSpec)

/-- 'stepstonelaw02.SlotAfter', WHERE WHAT IT READS IS OF BULK AT MOST 1048576: true; the input reads as it did. -/
def slotAfterUptoRow : OpenClaim := { program := "ytpppcicbkdafeaa", sum := "2b32a96c10bc45ecc0124644468a73fe36ec284a1c05e078efb20bff5cbd83ea", func := "stepstone/stepstonelaw02.SlotAfter", spec := "slotAfter", apart := false, narrowed := true }
def SlotAfterUptoSaid : Prop := slotAfterUptoRow.holds Try.pinned (OpenSpec.upto slotAfterSpec)

/-- 'stepstonelaw02.SlotValues', WHERE WHAT IT READS IS OF BULK AT MOST 1048576: true; the input reads as it did. -/
def slotValuesUptoRow : OpenClaim := { program := "ytpppcicbkdafeaa", sum := "2b32a96c10bc45ecc0124644468a73fe36ec284a1c05e078efb20bff5cbd83ea", func := "stepstone/stepstonelaw02.SlotValues", spec := "slotValues", apart := false, narrowed := true }
def SlotValuesUptoSaid : Prop := slotValuesUptoRow.holds Try.pinned (OpenSpec.upto slotValuesSpec)

/-- 'stepstonelaw02.SlotApart', WHERE WHAT IT READS IS OF BULK AT MOST 1048576: true; the input reads as it did. -/
def slotApartUptoRow : OpenClaim := { program := "ytpppcicbkdafeaa", sum := "2b32a96c10bc45ecc0124644468a73fe36ec284a1c05e078efb20bff5cbd83ea", func := "stepstone/stepstonelaw02.SlotApart", spec := "slotApart", apart := false, narrowed := true }
def SlotApartUptoSaid : Prop := slotApartUptoRow.holds Try.pinned (OpenSpec.upto slotApartSpec)

/-- 'stepstonelaw02.SlotEnds', WHERE WHAT IT READS IS OF BULK AT MOST 1048576: true; the input reads as it did. -/
def slotEndsUptoRow : OpenClaim := { program := "ytpppcicbkdafeaa", sum := "2b32a96c10bc45ecc0124644468a73fe36ec284a1c05e078efb20bff5cbd83ea", func := "stepstone/stepstonelaw02.SlotEnds", spec := "slotEnds", apart := false, narrowed := true }
def SlotEndsUptoSaid : Prop := slotEndsUptoRow.holds Try.pinned (OpenSpec.upto slotEndsSpec)

end Rows
end Go.Proofs.Ytpppcicbkdafeaa
