/-
What the arguments are; the walk: More eras cover more, and in whatever order; no eras, and 0, cover nothing. No condition.
-/
import Derived.Test.YtpppcicbkdafeabL6
import Derived.Test.YtpppcicbkdafeabOwnOpen
namespace Go.Proofs.Ytpppcicbkdafeab.QCoverMore
open Go.Eng Go.RowKit Go.Proofs.YtpppcicbkdafeabW.PrintWords Go.Proofs.Ytpppcicbkdafeab.GCover
set_option linter.unusedVariables false
def wf24 (x : S24) : Prop := (fun n : Int => (Lit.int .u64 n).wf = true) x.f0 ∧ (fun n : Int => (Lit.int .u64 n).wf = true) x.f1 ∧ (fun n : Int => (Lit.int .u64 n).wf = true) x.f2
theorem tells24 : Open.Tells Try.prog 24 k24 wf24 :=
  Open.Tells.struct (fun x : S24 => (x.f0, x.f1, x.f2)) (fun z => (⟨z.1, z.2.1, z.2.2⟩ : S24)) (fun _ => rfl) Try.underlying24 (ts := [(22, 0), (22, 1), (22, 2)]) (by rfl) (by kernel_rfl) (Open.TellsRow.cons (s' := 1) (Open.Tells.int Try.underlying22) (by kernel_rfl) (by first | rfl | kernel_rfl) (by decide) (Open.TellsRow.cons (s' := 2) (Open.Tells.int Try.underlying22) (by kernel_rfl) (by first | rfl | kernel_rfl) (by decide) (Open.TellsRow.one (Open.Tells.int Try.underlying22) (by kernel_rfl))))
theorem cells0 {w : World} {a0 : S24} {cs : Array Value} (h : k24.K w a0 cs.toList) : cs = #[.int .u64 a0.f0, .int .u64 a0.f1, .int .u64 a0.f2] := by
  exact Array.toList_inj.1 (k24_open h)
theorem tl0 : Open.Tells Try.prog 24 k24 wf24 := tells24
theorem tl1 : Open.Tells Try.prog 25 (Kd.slice 22 (Kd.int .u64)) (fun xs : List Int => xs.length ≤ maxLen ∧ ∀ x ∈ xs, (fun n : Int => (Lit.int .u64 n).wf = true) x) := (Open.Tells.slice (e' := 22) Try.underlying25 (by kernel_rfl) (Open.Tells.int Try.underlying22))
theorem tl2 : Open.Tells Try.prog 25 (Kd.slice 22 (Kd.int .u64)) (fun xs : List Int => xs.length ≤ maxLen ∧ ∀ x ∈ xs, (fun n : Int => (Lit.int .u64 n).wf = true) x) := (Open.Tells.slice (e' := 22) Try.underlying25 (by kernel_rfl) (Open.Tells.int Try.underlying22))
theorem walk (a0 : S24) (l1 : List Int) (l2 : List Int) (A1 : Option Addr) (c1 : Nat) (A2 : Option Addr) (c2 : Nat) (w : World) (w0 : wf24 a0) (w1 : (fun xs : List Int => xs.length ≤ maxLen ∧ ∀ x ∈ xs, (fun n : Int => (Lit.int .u64 n).wf = true) x) l1) (w2 : (fun xs : List Int => xs.length ≤ maxLen ∧ ∀ x ∈ xs, (fun n : Int => (Lit.int .u64 n).wf = true) x) l2) (hr1 : Kd.C (Kd.int .u64) w A1 l1.length l1) (hc1 : l1.length ≤ c1) (hr2 : Kd.C (Kd.int .u64) w A2 l2.length l2) (hc2 : l2.length ≤ c2) :
    Calls Try.prog 6 #[.agg #[.int .u64 a0.f0, .int .u64 a0.f1, .int .u64 a0.f2], .slice A1 l1.length c1, .slice A2 l2.length c2] w fun e w' => e = .returned (.bool true) ∧ Below w.heap.size w w' := by
  refine (calls_of_con (R := fun v L => v = .bool true) (coverMore_con a0.f0 a0.f1 a0.f2 A1 c1 l1 A2 c2 l2 hc1 hc2 w []) (((Tri.nil w).know (C_stab hr2 hc2)).know (C_stab hr1 hc1)) rfl).mono ?_
  rintro e w' ⟨v, L', rfl, rfl, ht⟩
  exact ⟨rfl, ht.below⟩
end Go.Proofs.Ytpppcicbkdafeab.QCoverMore
