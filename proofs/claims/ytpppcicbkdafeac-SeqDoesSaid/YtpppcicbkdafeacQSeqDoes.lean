/-
What the arguments are; the walk: SeqDoes
-/
import Derived.Test.YtpppcicbkdafeacL2
import Derived.Test.YtpppcicbkdafeacOwnOpen
namespace Go.Proofs.Ytpppcicbkdafeac.QSeqDoes
open Go.Eng Go.RowKit Go.Proofs.YtpppcicbkdafeacW.PrintWords Go.Proofs.Ytpppcicbkdafeac.GSeq
set_option linter.unusedVariables false
def wf31 (x : S31) : Prop := (fun n : Int => (Lit.int .i64 n).wf = true) x.f0 ∧ (fun n : Int => (Lit.int .u64 n).wf = true) x.f1 ∧ (fun n : Int => (Lit.int .u64 n).wf = true) x.f2 ∧ (fun n : Int => (Lit.int .i64 n).wf = true) x.f3 ∧ (fun n : Int => (Lit.int .i64 n).wf = true) x.f4
theorem tells31 : Open.Tells Try.prog 31 k31 wf31 :=
  Open.Tells.struct (fun x : S31 => (x.f0, x.f1, x.f2, x.f3, x.f4)) (fun z => (⟨z.1, z.2.1, z.2.2.1, z.2.2.2.1, z.2.2.2.2⟩ : S31)) (fun _ => rfl) Try.underlying31 (ts := [(3, 0), (29, 1), (29, 2), (3, 3), (3, 4)]) (by rfl) (by kernel_rfl) (Open.TellsRow.cons (s' := 1) (Open.Tells.int Try.underlying3) (by kernel_rfl) (by first | rfl | kernel_rfl) (by decide) (Open.TellsRow.cons (s' := 2) (Open.Tells.int Try.underlying29) (by kernel_rfl) (by first | rfl | kernel_rfl) (by decide) (Open.TellsRow.cons (s' := 3) (Open.Tells.int Try.underlying29) (by kernel_rfl) (by first | rfl | kernel_rfl) (by decide) (Open.TellsRow.cons (s' := 4) (Open.Tells.int Try.underlying3) (by kernel_rfl) (by first | rfl | kernel_rfl) (by decide) (Open.TellsRow.one (Open.Tells.int Try.underlying3) (by kernel_rfl))))))
theorem tl0 : Open.Tells Try.prog 22 (Kd.slice 31 k31) (fun xs : List S31 => xs.length ≤ maxLen ∧ ∀ x ∈ xs, wf31 x) := (Open.Tells.slice (e' := 31) Try.underlying22 (by kernel_rfl) tells31)
theorem walk (l0 : List S31) (A0 : Option Addr) (c0 : Nat) (w : World) (w0 : (fun xs : List S31 => xs.length ≤ maxLen ∧ ∀ x ∈ xs, wf31 x) l0) (hr0 : Kd.C k31 w A0 l0.length l0) (hc0 : l0.length ≤ c0) :
    Calls Try.prog 3 #[.slice A0 l0.length c0] w fun e w' => e = .returned (.bool true) ∧ Below w.heap.size w w' := by
  refine (calls_of_con (R := fun v L => v = .bool true) (seqDoes_con A0 c0 l0 w []) ((Tri.nil w).know (C_stab hr0 hc0)) rfl).mono ?_
  rintro e w' ⟨v, L', rfl, rfl, ht⟩
  exact ⟨rfl, ht.below⟩
end Go.Proofs.Ytpppcicbkdafeac.QSeqDoes
