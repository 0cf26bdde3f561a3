/-
What the arguments are; the walk: SeqRanges
-/
import Derived.Test.YtpppcicbkdafeacL4
import Derived.Test.YtpppcicbkdafeacOwnOpen
namespace Go.Proofs.Ytpppcicbkdafeac.QSeqRanges
open Go.Eng Go.RowKit Go.Proofs.YtpppcicbkdafeacW.PrintWords Go.Proofs.Ytpppcicbkdafeac.GSeq
set_option linter.unusedVariables false
def wf62 (x : S62) : Prop := (fun n : Int => (Lit.int .u64 n).wf = true) x.f0 ∧ (fun n : Int => (Lit.int .u64 n).wf = true) x.f1
theorem tells62 : Open.Tells Try.prog 62 k62 wf62 :=
  Open.Tells.struct (fun x : S62 => (x.f0, x.f1)) (fun z => (⟨z.1, z.2⟩ : S62)) (fun _ => rfl) Try.underlying62 (ts := [(29, 0), (29, 1)]) (by rfl) (by kernel_rfl) (Open.TellsRow.cons (s' := 1) (Open.Tells.int Try.underlying29) (by kernel_rfl) (by first | rfl | kernel_rfl) (by decide) (Open.TellsRow.one (Open.Tells.int Try.underlying29) (by kernel_rfl)))
theorem tl0 : Open.Tells Try.prog 28 (Kd.slice 62 k62) (fun xs : List S62 => xs.length ≤ maxLen ∧ ∀ x ∈ xs, wf62 x) := (Open.Tells.slice (e' := 62) Try.underlying28 (by kernel_rfl) tells62)
def wf31 (x : S31) : Prop := (fun n : Int => (Lit.int .i64 n).wf = true) x.f0 ∧ (fun n : Int => (Lit.int .u64 n).wf = true) x.f1 ∧ (fun n : Int => (Lit.int .u64 n).wf = true) x.f2 ∧ (fun n : Int => (Lit.int .i64 n).wf = true) x.f3 ∧ (fun n : Int => (Lit.int .i64 n).wf = true) x.f4
theorem tells31 : Open.Tells Try.prog 31 k31 wf31 :=
  Open.Tells.struct (fun x : S31 => (x.f0, x.f1, x.f2, x.f3, x.f4)) (fun z => (⟨z.1, z.2.1, z.2.2.1, z.2.2.2.1, z.2.2.2.2⟩ : S31)) (fun _ => rfl) Try.underlying31 (ts := [(3, 0), (29, 1), (29, 2), (3, 3), (3, 4)]) (by rfl) (by kernel_rfl) (Open.TellsRow.cons (s' := 1) (Open.Tells.int Try.underlying3) (by kernel_rfl) (by first | rfl | kernel_rfl) (by decide) (Open.TellsRow.cons (s' := 2) (Open.Tells.int Try.underlying29) (by kernel_rfl) (by first | rfl | kernel_rfl) (by decide) (Open.TellsRow.cons (s' := 3) (Open.Tells.int Try.underlying29) (by kernel_rfl) (by first | rfl | kernel_rfl) (by decide) (Open.TellsRow.cons (s' := 4) (Open.Tells.int Try.underlying3) (by kernel_rfl) (by first | rfl | kernel_rfl) (by decide) (Open.TellsRow.one (Open.Tells.int Try.underlying3) (by kernel_rfl))))))
theorem cells1 {w : World} {a1 : S31} {cs : Array Value} (h : k31.K w a1 cs.toList) : cs = #[.int .i64 a1.f0, .int .u64 a1.f1, .int .u64 a1.f2, .int .i64 a1.f3, .int .i64 a1.f4] := by
  exact Array.toList_inj.1 (k31_open h)
theorem tl1 : Open.Tells Try.prog 31 k31 wf31 := tells31
theorem walk (l0 : List S62) (a1 : S31) (A0 : Option Addr) (c0 : Nat) (w : World) (w0 : (fun xs : List S62 => xs.length ≤ maxLen ∧ ∀ x ∈ xs, wf62 x) l0) (w1 : wf31 a1) (hr0 : Kd.C k62 w A0 l0.length l0) (hc0 : l0.length ≤ c0) :
    Calls Try.prog 8 #[.slice A0 l0.length c0, .agg #[.int .i64 a1.f0, .int .u64 a1.f1, .int .u64 a1.f2, .int .i64 a1.f3, .int .i64 a1.f4]] w fun e w' => e = .returned (.bool true) ∧ Below w.heap.size w w' := by
  refine (calls_of_con (R := fun v L => v = .bool true) (seqRanges_con A0 c0 l0 a1.f0 a1.f1 a1.f2 a1.f3 a1.f4 w []) ((Tri.nil w).know (C_stab hr0 hc0)) rfl).mono ?_
  rintro e w' ⟨v, L', rfl, rfl, ht⟩
  exact ⟨rfl, ht.below⟩
end Go.Proofs.Ytpppcicbkdafeac.QSeqRanges
