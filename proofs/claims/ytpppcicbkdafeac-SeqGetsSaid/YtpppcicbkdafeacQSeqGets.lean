/-
What the arguments are; the walk: SeqGets
-/
import Derived.Test.YtpppcicbkdafeacL5
import Derived.Test.YtpppcicbkdafeacOpen3
namespace Go.Proofs.Ytpppcicbkdafeac.QSeqGets
open Go.Eng Go.RowKit Go.Proofs.YtpppcicbkdafeacW.PrintWords Go.Proofs.Ytpppcicbkdafeac.GSeq
set_option linter.unusedVariables false
def wf62 (x : S62) : Prop := (fun n : Int => (Lit.int .u64 n).wf = true) x.f0 ∧ (fun n : Int => (Lit.int .u64 n).wf = true) x.f1
theorem tells62 : Open.Tells Try.prog 62 k62 wf62 :=
  Open.Tells.struct (fun x : S62 => (x.f0, x.f1)) (fun z => (⟨z.1, z.2⟩ : S62)) (fun _ => rfl) Try.underlying62 (ts := [(29, 0), (29, 1)]) (by rfl) (by kernel_rfl) (Open.TellsRow.cons (s' := 1) (Open.Tells.int Try.underlying29) (by kernel_rfl) (by first | rfl | kernel_rfl) (by decide) (Open.TellsRow.one (Open.Tells.int Try.underlying29) (by kernel_rfl)))
theorem tl0 : Open.Tells Try.prog 28 (Kd.slice 62 k62) (fun xs : List S62 => xs.length ≤ maxLen ∧ ∀ x ∈ xs, wf62 x) := (Open.Tells.slice (e' := 62) Try.underlying28 (by kernel_rfl) tells62)
theorem walk (l0 : List S62) (z1_0 z1_1 z1_2 : Int) (A0 : Option Addr) (c0 : Nat) (w : World) (w0 : (fun xs : List S62 => xs.length ≤ maxLen ∧ ∀ x ∈ xs, wf62 x) l0) (hr0 : Kd.C k62 w A0 l0.length l0) (hc0 : l0.length ≤ c0) :
    Calls Try.prog 6 #[.slice A0 l0.length c0, .agg #[.int .u64 z1_0, .int .u64 z1_1, .int .u64 z1_2]] w fun e w' => e = .returned (.bool true) ∧ Below w.heap.size w w' := by
  refine (calls_of_con (R := fun v L => v = .bool true) (seqGets_con A0 c0 l0 z1_0 z1_1 z1_2 w []) ((Tri.nil w).know (C_stab hr0 hc0)) rfl).mono ?_
  rintro e w' ⟨v, L', rfl, rfl, ht⟩
  exact ⟨rfl, ht.below⟩
end Go.Proofs.Ytpppcicbkdafeac.QSeqGets
