/-
  No cell of these rows narrows 'for every input' (looked for: loops, veiled, ifaces, maps, wideKeys, modest, calm, conditions, laid).
  DERIVED. THE GIVEN ROWS OF THIS SEAT. 6 by the template 'for every input the law returns true; each argument reads behind the call as it read before'; 0 by the template 'total and deterministic' (their statements: YtiihjijmmephlaaTotals.lean).
  GIVEN WITH THE SEED: the statements are not yours to turn. If you find one false, say at which input.
  Laid BY PROGRAM, IN A SANDBOX (cutbox-rows.mjs): the forced cells as the released guide's own fill.sh prints them over the translation 2b823919b0180bcf… (all of the seat's roots in one cut). By AI agents, Wed Nov 11 2026. No macro, syntax, notation, axiom, sorry.
-/
import Derived.Test.YtiihjijmmephlaaChecked
import GoSem.Claim
import GoSem.ClaimJoined
import GoSem.ClaimMapViews
import Derived.JoinedTies
import Derived.KernelRfl
namespace Go.Proofs.Ytiihjijmmephlaa
/- THE CELL 'sum', in the pinned program and in every row, IS THE sha256 OF THE DUMP (.gsa) THAT YtiihjijmmephlaaProg.lean LOADS. Nothing in Lean hashes anything: it is a label: what it is worth is what the hold of that sum in a sandbox is worth. -/
noncomputable def Try.pinned : Pinned := { name := "ytiihjijmmephlaa", sum := "2b823919b0180bcfad4d536dcf4ee4d0e63bbc929643884c126a7b8b108c6232", checked := Try.checked }
namespace Rows
def none {H : Type} : Left H := { results := [], args := [] }

/-- 'stepstonelaw08.HistOrders': WHATEVER THE INPUT: true; the input reads as it did. -/
def histOrdersSpec : ChangeSpec := { name := "histOrders", fn := fun _ => fun
  | [d] => { results := [.lit (.bool true)], args := [d] }
  | _ => none }
def histOrdersRow : OpenClaim := { program := "ytiihjijmmephlaa", sum := "2b823919b0180bcfad4d536dcf4ee4d0e63bbc929643884c126a7b8b108c6232", func := "stepstone/stepstonelaw08.HistOrders", spec := "histOrders", unfollowed := true, recurses := true, apart := false }
def HistOrdersSaid : Prop := histOrdersRow.holds Try.pinned (OpenSpec.ofChange histOrdersSpec)

/-- ITS FALSE NEIGHBOUR: 'it returns false'. Refute it at one input. -/
def histOrdersWrong : ChangeSpec := { name := "histOrders", fn := fun _ => fun
  | [d] => { results := [.lit (.bool false)], args := [d] }
  | _ => none }
def HistOrdersWrongFalsely : Prop := histOrdersRow.holds Try.pinned (OpenSpec.ofChange histOrdersWrong)

/-- 'stepstonelaw08.HistMaps': WHATEVER THE INPUT: true; the input reads as it did. -/
def histMapsSpec : ChangeSpec := { name := "histMaps", fn := fun _ => fun
  | [d1, d2] => { results := [.lit (.bool true)], args := [d1, d2] }
  | _ => none }
def histMapsRow : OpenClaim := { program := "ytiihjijmmephlaa", sum := "2b823919b0180bcfad4d536dcf4ee4d0e63bbc929643884c126a7b8b108c6232", func := "stepstone/stepstonelaw08.HistMaps", spec := "histMaps", unfollowed := true, recurses := true, apart := false }
def HistMapsSaid : Prop := histMapsRow.holds Try.pinned (OpenSpec.ofChange histMapsSpec)

/-- ITS FALSE NEIGHBOUR: 'it returns false'. Refute it at one input. -/
def histMapsWrong : ChangeSpec := { name := "histMaps", fn := fun _ => fun
  | [d1, d2] => { results := [.lit (.bool false)], args := [d1, d2] }
  | _ => none }
def HistMapsWrongFalsely : Prop := histMapsRow.holds Try.pinned (OpenSpec.ofChange histMapsWrong)

/-- 'stepstonelaw08.HistLegal': WHATEVER THE INPUT: true; the input reads as it did. -/
def histLegalSpec : ChangeSpec := { name := "histLegal", fn := fun _ => fun
  | [d] => { results := [.lit (.bool true)], args := [d] }
  | _ => none }
def histLegalRow : OpenClaim := { program := "ytiihjijmmephlaa", sum := "2b823919b0180bcfad4d536dcf4ee4d0e63bbc929643884c126a7b8b108c6232", func := "stepstone/stepstonelaw08.HistLegal", spec := "histLegal", unfollowed := true, recurses := true, apart := false }
def HistLegalSaid : Prop := histLegalRow.holds Try.pinned (OpenSpec.ofChange histLegalSpec)

/-- ITS FALSE NEIGHBOUR: 'it returns false'. Refute it at one input. -/
def histLegalWrong : ChangeSpec := { name := "histLegal", fn := fun _ => fun
  | [d] => { results := [.lit (.bool false)], args := [d] }
  | _ => none }
def HistLegalWrongFalsely : Prop := histLegalRow.holds Try.pinned (OpenSpec.ofChange histLegalWrong)

/-- 'stepstonelaw08.HistRanges': WHATEVER THE INPUT: true; the input reads as it did. -/
def histRangesSpec : ChangeSpec := { name := "histRanges", fn := fun _ => fun
  | [d] => { results := [.lit (.bool true)], args := [d] }
  | _ => none }
def histRangesRow : OpenClaim := { program := "ytiihjijmmephlaa", sum := "2b823919b0180bcfad4d536dcf4ee4d0e63bbc929643884c126a7b8b108c6232", func := "stepstone/stepstonelaw08.HistRanges", spec := "histRanges", unfollowed := true, recurses := true, apart := false }
def HistRangesSaid : Prop := histRangesRow.holds Try.pinned (OpenSpec.ofChange histRangesSpec)

/-- ITS FALSE NEIGHBOUR: 'it returns false'. Refute it at one input. -/
def histRangesWrong : ChangeSpec := { name := "histRanges", fn := fun _ => fun
  | [d] => { results := [.lit (.bool false)], args := [d] }
  | _ => none }
def HistRangesWrongFalsely : Prop := histRangesRow.holds Try.pinned (OpenSpec.ofChange histRangesWrong)

/-- 'stepstonelaw08.HistPending': WHATEVER THE INPUT: true; the input reads as it did. -/
def histPendingSpec : ChangeSpec := { name := "histPending", fn := fun _ => fun
  | [d1, d2] => { results := [.lit (.bool true)], args := [d1, d2] }
  | _ => none }
def histPendingRow : OpenClaim := { program := "ytiihjijmmephlaa", sum := "2b823919b0180bcfad4d536dcf4ee4d0e63bbc929643884c126a7b8b108c6232", func := "stepstone/stepstonelaw08.HistPending", spec := "histPending", unfollowed := true, recurses := true, apart := false }
def HistPendingSaid : Prop := histPendingRow.holds Try.pinned (OpenSpec.ofChange histPendingSpec)

/-- ITS FALSE NEIGHBOUR: 'it returns false'. Refute it at one input. -/
def histPendingWrong : ChangeSpec := { name := "histPending", fn := fun _ => fun
  | [d1, d2] => { results := [.lit (.bool false)], args := [d1, d2] }
  | _ => none }
def HistPendingWrongFalsely : Prop := histPendingRow.holds Try.pinned (OpenSpec.ofChange histPendingWrong)

/-- 'stepstonelaw08.HistTurns': WHATEVER THE INPUT: true; the input reads as it did. -/
def histTurnsSpec : ChangeSpec := { name := "histTurns", fn := fun _ => fun
  | [d1, d2] => { results := [.lit (.bool true)], args := [d1, d2] }
  | _ => none }
def histTurnsRow : OpenClaim := { program := "ytiihjijmmephlaa", sum := "2b823919b0180bcfad4d536dcf4ee4d0e63bbc929643884c126a7b8b108c6232", func := "stepstone/stepstonelaw08.HistTurns", spec := "histTurns", unfollowed := true, recurses := true, apart := false }
def HistTurnsSaid : Prop := histTurnsRow.holds Try.pinned (OpenSpec.ofChange histTurnsSpec)

/-- ITS FALSE NEIGHBOUR: 'it returns false'. Refute it at one input. -/
def histTurnsWrong : ChangeSpec := { name := "histTurns", fn := fun _ => fun
  | [d1, d2] => { results := [.lit (.bool false)], args := [d1, d2] }
  | _ => none }
def HistTurnsWrongFalsely : Prop := histTurnsRow.holds Try.pinned (OpenSpec.ofChange histTurnsWrong)

/- THE SECOND FORM. 'bulk': how many values and letters a reading holds, each counted each time it is reached (what is shared counts as often as it is met; a slice's spare places count too). A statement '..UptoSaid' is the law's where the arguments, and the package variables that the reading takes, are together of bulk at most 1048576: NARROWER than '..Said'. Prove '..Said' where nothing that the law and all that it calls make is longer than what came in: it says more and counts as full. Else prove '..UptoSaid'. A law counts once. -/
mutual
def uptoBulk {H : Type} : DataW H → Nat
  | .lit (.string bytes) => bytes.length + 1
  | .lit _ => 1
  | .nil => 1
  | .ptr d => uptoBulk d + 1
  | .slice elems spare => uptoBulkAll elems + uptoBulkAll spare + 1
  | .agg parts => uptoBulkAll parts + 1
  | .iface _ d => uptoBulk d + 1
  | .map entries => uptoBulkEntries entries + 1
  | .held _ => 1
def uptoBulkAll {H : Type} : List (DataW H) → Nat
  | [] => 0
  | d :: r => uptoBulk d + uptoBulkAll r
def uptoBulkEntries {H : Type} : List (Lit × DataW H) → Nat
  | [] => 0
  | x :: r => uptoBulkEntry x + uptoBulkEntries r
def uptoBulkEntry {H : Type} : Lit × DataW H → Nat
  | (.string bytes, d) => bytes.length + uptoBulk d + 1
  | (_, d) => uptoBulk d + 1
 end
def uptoSmall : (H : Type) → List (DataW H) → Bool := fun _ ds => decide (uptoBulkAll ds ≤ 1048576)
def OpenSpec.upto (s : _root_.Go.ChangeSpec) : _root_.Go.OpenSpec := { _root_.Go.OpenSpec.ofChange s with cond := some uptoSmall }

/-- 'stepstonelaw08.HistOrders', WHERE WHAT IT READS IS OF BULK AT MOST 1048576: true; the input reads as it did. -/
def histOrdersUptoRow : OpenClaim := { program := "ytiihjijmmephlaa", sum := "2b823919b0180bcfad4d536dcf4ee4d0e63bbc929643884c126a7b8b108c6232", func := "stepstone/stepstonelaw08.HistOrders", spec := "histOrders", unfollowed := true, recurses := true, apart := false, narrowed := true }
def HistOrdersUptoSaid : Prop := histOrdersUptoRow.holds Try.pinned (OpenSpec.upto histOrdersSpec)

/-- 'stepstonelaw08.HistMaps', WHERE WHAT IT READS IS OF BULK AT MOST 1048576: true; the input reads as it did. -/
def histMapsUptoRow : OpenClaim := { program := "ytiihjijmmephlaa", sum := "2b823919b0180bcfad4d536dcf4ee4d0e63bbc929643884c126a7b8b108c6232", func := "stepstone/stepstonelaw08.HistMaps", spec := "histMaps", unfollowed := true, recurses := true, apart := false, narrowed := true }
def HistMapsUptoSaid : Prop := histMapsUptoRow.holds Try.pinned (OpenSpec.upto histMapsSpec)

/-- 'stepstonelaw08.HistLegal', WHERE WHAT IT READS IS OF BULK AT MOST 1048576: true; the input reads as it did. -/
def histLegalUptoRow : OpenClaim := { program := "ytiihjijmmephlaa", sum := "2b823919b0180bcfad4d536dcf4ee4d0e63bbc929643884c126a7b8b108c6232", func := "stepstone/stepstonelaw08.HistLegal", spec := "histLegal", unfollowed := true, recurses := true, apart := false, narrowed := true }
def HistLegalUptoSaid : Prop := histLegalUptoRow.holds Try.pinned (OpenSpec.upto histLegalSpec)

/-- 'stepstonelaw08.HistRanges', WHERE WHAT IT READS IS OF BULK AT MOST 1048576: true; the input reads as it did. -/
def histRangesUptoRow : OpenClaim := { program := "ytiihjijmmephlaa", sum := "2b823919b0180bcfad4d536dcf4ee4d0e63bbc929643884c126a7b8b108c6232", func := "stepstone/stepstonelaw08.HistRanges", spec := "histRanges", unfollowed := true, recurses := true, apart := false, narrowed := true }
def HistRangesUptoSaid : Prop := histRangesUptoRow.holds Try.pinned (OpenSpec.upto histRangesSpec)

/-- 'stepstonelaw08.HistPending', WHERE WHAT IT READS IS OF BULK AT MOST 1048576: true; the input reads as it did. -/
def histPendingUptoRow : OpenClaim := { program := "ytiihjijmmephlaa", sum := "2b823919b0180bcfad4d536dcf4ee4d0e63bbc929643884c126a7b8b108c6232", func := "stepstone/stepstonelaw08.HistPending", spec := "histPending", unfollowed := true, recurses := true, apart := false, narrowed := true }
def HistPendingUptoSaid : Prop := histPendingUptoRow.holds Try.pinned (OpenSpec.upto histPendingSpec)

/-- 'stepstonelaw08.HistTurns', WHERE WHAT IT READS IS OF BULK AT MOST 1048576: true; the input reads as it did. -/
def histTurnsUptoRow : OpenClaim := { program := "ytiihjijmmephlaa", sum := "2b823919b0180bcfad4d536dcf4ee4d0e63bbc929643884c126a7b8b108c6232", func := "stepstone/stepstonelaw08.HistTurns", spec := "histTurns", unfollowed := true, recurses := true, apart := false, narrowed := true }
def HistTurnsUptoSaid : Prop := histTurnsUptoRow.holds Try.pinned (OpenSpec.upto histTurnsSpec)

end Rows
end Go.Proofs.Ytiihjijmmephlaa
