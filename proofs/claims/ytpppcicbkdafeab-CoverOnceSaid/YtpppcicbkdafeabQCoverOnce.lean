/-
The statement over numbers and lists alone: Each entry is in one of both, as often as it was. No condition.
-/
import Derived.Test.YtpppcicbkdafeabGOncex5
import Derived.Test.YtpppcicbkdafeabOwnOpen
namespace Go.Proofs.Ytpppcicbkdafeab.QCoverOnce
open Go.RowKit Go.Proofs.Ytpppcicbkdafeab.GOnce Go.Proofs.YtpppcicbkdafeabW.PrintWords Go.Proofs.YtpppcicbkdafeabW.PrintLast Go.Proofs.YtpppcicbkdafeabW.PrintMore
set_option linter.unusedVariables false
def wf24 (x : S24) : Prop := (fun n : Int => (Lit.int .u64 n).wf = true) x.f0 ∧ (fun n : Int => (Lit.int .u64 n).wf = true) x.f1 ∧ (fun n : Int => (Lit.int .u64 n).wf = true) x.f2
theorem tells24 : Open.Tells Try.prog 24 k24 wf24 :=
  Open.Tells.struct (fun x : S24 => (x.f0, x.f1, x.f2)) (fun z => (⟨z.1, z.2.1, z.2.2⟩ : S24)) (fun _ => rfl) Try.underlying24 (ts := [(22, 0), (22, 1), (22, 2)]) (by rfl) (by kernel_rfl) (Open.TellsRow.cons (s' := 1) (Open.Tells.int Try.underlying22) (by kernel_rfl) (by first | rfl | kernel_rfl) (by decide) (Open.TellsRow.cons (s' := 2) (Open.Tells.int Try.underlying22) (by kernel_rfl) (by first | rfl | kernel_rfl) (by decide) (Open.TellsRow.one (Open.Tells.int Try.underlying22) (by kernel_rfl))))
theorem tl0 : Open.Tells Try.prog 30 (Kd.slice 24 k24) (fun xs : List (S24) => xs.length ≤ maxLen ∧ ∀ x ∈ xs, wf24 x) := (Open.Tells.slice (e' := 24) Try.underlying30 (by kernel_rfl) tells24)
theorem tl1 : Open.Tells Try.prog 25 (Kd.slice 22 (Kd.int .u64)) (fun xs : List Int => xs.length ≤ maxLen ∧ ∀ x ∈ xs, (fun n : Int => (Lit.int .u64 n).wf = true) x) := (Open.Tells.slice (e' := 22) Try.underlying25 (by kernel_rfl) (Open.Tells.int Try.underlying22))
theorem cells2 {w : World} {a2 : S24} {cs : Array Value} (h : k24.K w a2 cs.toList) : cs = #[.int .u64 a2.f0, .int .u64 a2.f1, .int .u64 a2.f2] := by
  exact Array.toList_inj.1 (k24_open h)
theorem tl2 : Open.Tells Try.prog 24 k24 wf24 := tells24
/-- YOURS. -/
def Pure : Prop := ∀ (l0 : List (S24)) (l1 : List Int) (a2 : S24), (fun xs : List (S24) => xs.length ≤ maxLen ∧ ∀ x ∈ xs, wf24 x) l0 → (fun xs : List Int => xs.length ≤ maxLen ∧ ∀ x ∈ xs, (fun n : Int => (Lit.int .u64 n).wf = true) x) l1 → wf24 a2 → ∃ k, stepstonelaw06_CoverOnce.f k l0 l1 a2.f0 a2.f1 a2.f2 = some true
theorem walk (P_ : Pure) (l0 : List (S24)) (l1 : List Int) (a2 : S24) (A0 : Option Addr) (c0 : Nat) (A1 : Option Addr) (c1 : Nat) (w : World) (w0 : (fun xs : List (S24) => xs.length ≤ maxLen ∧ ∀ x ∈ xs, wf24 x) l0) (w1 : (fun xs : List Int => xs.length ≤ maxLen ∧ ∀ x ∈ xs, (fun n : Int => (Lit.int .u64 n).wf = true) x) l1) (w2 : wf24 a2) (hr0 : Kd.C k24 w A0 l0.length l0) (hc0 : l0.length ≤ c0) (hr1 : Kd.C (Kd.int .u64) w A1 l1.length l1) (hc1 : l1.length ≤ c1) :
    Calls Try.prog 5 #[.slice A0 l0.length c0, .slice A1 l1.length c1, .agg #[.int .u64 a2.f0, .int .u64 a2.f1, .int .u64 a2.f2]] w fun e w' => e = .returned (.bool true) ∧ Below w.heap.size w w' := by
  obtain ⟨k, h⟩ := P_ l0 l1 a2 w0 w1 w2
  refine (stepstonelaw06_CoverOnce.calls k _ _ l0 _ _ l1 a2.f0 a2.f1 a2.f2 true w hr0 hc0 hr1 hc1 h).mono ?_
  rintro e w' ⟨rfl, hd⟩
  exact ⟨rfl, hd⟩
end Go.Proofs.Ytpppcicbkdafeab.QCoverOnce
