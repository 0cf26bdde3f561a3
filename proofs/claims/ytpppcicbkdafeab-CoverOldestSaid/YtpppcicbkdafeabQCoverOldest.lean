/-
The statement over numbers and lists alone: The least birth of any entries, or that there is none, is what the document says; eras below it cover none of them. No condition.
-/
import Derived.Test.YtpppcicbkdafeabGCoverx8
import Derived.Test.YtpppcicbkdafeabOwnOpen
namespace Go.Proofs.Ytpppcicbkdafeab.QCoverOldest
open Go.RowKit Go.Proofs.Ytpppcicbkdafeab.GCover Go.Proofs.YtpppcicbkdafeabW.PrintWords Go.Proofs.YtpppcicbkdafeabW.PrintLast Go.Proofs.YtpppcicbkdafeabW.PrintMore
set_option linter.unusedVariables false
def wf24 (x : S24) : Prop := (fun n : Int => (Lit.int .u64 n).wf = true) x.f0 ∧ (fun n : Int => (Lit.int .u64 n).wf = true) x.f1 ∧ (fun n : Int => (Lit.int .u64 n).wf = true) x.f2
theorem tells24 : Open.Tells Try.prog 24 k24 wf24 :=
  Open.Tells.struct (fun x : S24 => (x.f0, x.f1, x.f2)) (fun z => (⟨z.1, z.2.1, z.2.2⟩ : S24)) (fun _ => rfl) Try.underlying24 (ts := [(22, 0), (22, 1), (22, 2)]) (by rfl) (by kernel_rfl) (Open.TellsRow.cons (s' := 1) (Open.Tells.int Try.underlying22) (by kernel_rfl) (by first | rfl | kernel_rfl) (by decide) (Open.TellsRow.cons (s' := 2) (Open.Tells.int Try.underlying22) (by kernel_rfl) (by first | rfl | kernel_rfl) (by decide) (Open.TellsRow.one (Open.Tells.int Try.underlying22) (by kernel_rfl))))
theorem tl0 : Open.Tells Try.prog 30 (Kd.slice 24 k24) (fun xs : List (S24) => xs.length ≤ maxLen ∧ ∀ x ∈ xs, wf24 x) := (Open.Tells.slice (e' := 24) Try.underlying30 (by kernel_rfl) tells24)
/-- YOURS. -/
def Pure : Prop := ∀ (l0 : List (S24)) (a1 : Int), (fun xs : List (S24) => xs.length ≤ maxLen ∧ ∀ x ∈ xs, wf24 x) l0 → (fun n : Int => (Lit.int .u64 n).wf = true) a1 → ∃ k, stepstonelaw06_CoverOldest.f k l0 a1 = some true
theorem walk (P_ : Pure) (l0 : List (S24)) (a1 : Int) (A0 : Option Addr) (c0 : Nat) (w : World) (w0 : (fun xs : List (S24) => xs.length ≤ maxLen ∧ ∀ x ∈ xs, wf24 x) l0) (w1 : (fun n : Int => (Lit.int .u64 n).wf = true) a1) (hr0 : Kd.C k24 w A0 l0.length l0) (hc0 : l0.length ≤ c0) :
    Calls Try.prog 8 #[.slice A0 l0.length c0, .int .u64 a1] w fun e w' => e = .returned (.bool true) ∧ Below w.heap.size w w' := by
  obtain ⟨k, h⟩ := P_ l0 a1 w0 w1
  refine (stepstonelaw06_CoverOldest.calls k _ _ l0 a1 true w hr0 hc0 h).mono ?_
  rintro e w' ⟨rfl, hd⟩
  exact ⟨rfl, hd⟩
end Go.Proofs.Ytpppcicbkdafeab.QCoverOldest
