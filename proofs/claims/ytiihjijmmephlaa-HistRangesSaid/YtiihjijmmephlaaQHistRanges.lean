/-
What the arguments are; the walk: Whether all Ranges of any events told what they might is what the document says. No condition.
-/
import Derived.Test.YtiihjijmmephlaaA7
import Derived.Test.YtiihjijmmephlaaOwnOpen
namespace Go.Proofs.Ytiihjijmmephlaa.QHistRanges
open Go.Eng Go.RowKit Go.Proofs.YtiihjijmmephlaaW.PrintWords Go.Proofs.Ytiihjijmmephlaa.GHist
set_option linter.unusedVariables false
def wf43 (x : S43) : Prop := (fun n : Int => (Lit.int .i64 n).wf = true) x.f0 ∧ (fun n : Int => (Lit.int .u64 n).wf = true) x.f1 ∧ (fun n : Int => (Lit.int .u64 n).wf = true) x.f2 ∧ (fun n : Int => (Lit.int .i64 n).wf = true) x.f3 ∧ (fun n : Int => (Lit.int .i64 n).wf = true) x.f4
theorem tells43 : Open.Tells Try.prog 43 k43 wf43 :=
  Open.Tells.struct (fun x : S43 => (x.f0, x.f1, x.f2, x.f3, x.f4)) (fun z => (⟨z.1, z.2.1, z.2.2.1, z.2.2.2.1, z.2.2.2.2⟩ : S43)) (fun _ => rfl) Try.underlying43 (ts := [(3, 0), (41, 1), (41, 2), (3, 3), (3, 4)]) (by rfl) (by kernel_rfl) (Open.TellsRow.cons (s' := 1) (Open.Tells.int Try.underlying3) (by kernel_rfl) (by first | rfl | kernel_rfl) (by decide) (Open.TellsRow.cons (s' := 2) (Open.Tells.int Try.underlying41) (by kernel_rfl) (by first | rfl | kernel_rfl) (by decide) (Open.TellsRow.cons (s' := 3) (Open.Tells.int Try.underlying41) (by kernel_rfl) (by first | rfl | kernel_rfl) (by decide) (Open.TellsRow.cons (s' := 4) (Open.Tells.int Try.underlying3) (by kernel_rfl) (by first | rfl | kernel_rfl) (by decide) (Open.TellsRow.one (Open.Tells.int Try.underlying3) (by kernel_rfl))))))
def wf46 (x : S46) : Prop := (fun _ : Bool => True) x.f0 ∧ (fun _ : Bool => True) x.f1 ∧ (fun n : Int => (Lit.int .u64 n).wf = true) x.f2 ∧ (fun xs : List Int => xs.length ≤ maxLen ∧ ∀ x ∈ xs, (fun n : Int => (Lit.int .u64 n).wf = true) x) x.f3
theorem tells46 : Open.Tells Try.prog 46 k46 wf46 :=
  Open.Tells.struct (fun x : S46 => (x.f0, x.f1, x.f2, x.f3)) (fun z => (⟨z.1, z.2.1, z.2.2.1, z.2.2.2⟩ : S46)) (fun _ => rfl) Try.underlying46 (ts := [(4, 0), (4, 1), (41, 2), (44, 3)]) (by rfl) (by kernel_rfl) (Open.TellsRow.cons (s' := 1) (Open.Tells.bool Try.underlying4) (by kernel_rfl) (by first | rfl | kernel_rfl) (by decide) (Open.TellsRow.cons (s' := 2) (Open.Tells.bool Try.underlying4) (by kernel_rfl) (by first | rfl | kernel_rfl) (by decide) (Open.TellsRow.cons (s' := 3) (Open.Tells.int Try.underlying41) (by kernel_rfl) (by first | rfl | kernel_rfl) (by decide) (Open.TellsRow.one (Open.Tells.slice (e' := 41) Try.underlying44 (by kernel_rfl) (Open.Tells.int Try.underlying41)) (by kernel_rfl)))))
def wf48 (x : S48) : Prop := (fun n : Int => (Lit.int .i64 n).wf = true) x.f0 ∧ wf43 x.f1 ∧ (fun n : Int => (Lit.int .i64 n).wf = true) x.f2 ∧ (fun n : Int => (Lit.int .i64 n).wf = true) x.f3 ∧ (fun n : Int => (Lit.int .i64 n).wf = true) x.f4 ∧ (fun _ : Bool => True) x.f5 ∧ wf46 x.f6
theorem tells48 : Open.Tells Try.prog 48 k48 wf48 :=
  Open.Tells.struct (fun x : S48 => (x.f0, x.f1, x.f2, x.f3, x.f4, x.f5, x.f6)) (fun z => (⟨z.1, z.2.1, z.2.2.1, z.2.2.2.1, z.2.2.2.2.1, z.2.2.2.2.2.1, z.2.2.2.2.2.2⟩ : S48)) (fun _ => rfl) Try.underlying48 (ts := [(3, 0), (43, 1), (3, 6), (3, 7), (3, 8), (4, 9), (46, 10)]) (by rfl) (by kernel_rfl) (Open.TellsRow.cons (s' := 1) (Open.Tells.int Try.underlying3) (by kernel_rfl) (by first | rfl | kernel_rfl) (by decide) (Open.TellsRow.cons (s' := 6) tells43 (by kernel_rfl) (by first | rfl | kernel_rfl) (by decide) (Open.TellsRow.cons (s' := 7) (Open.Tells.int Try.underlying3) (by kernel_rfl) (by first | rfl | kernel_rfl) (by decide) (Open.TellsRow.cons (s' := 8) (Open.Tells.int Try.underlying3) (by kernel_rfl) (by first | rfl | kernel_rfl) (by decide) (Open.TellsRow.cons (s' := 9) (Open.Tells.int Try.underlying3) (by kernel_rfl) (by first | rfl | kernel_rfl) (by decide) (Open.TellsRow.cons (s' := 10) (Open.Tells.bool Try.underlying4) (by kernel_rfl) (by first | rfl | kernel_rfl) (by decide) (Open.TellsRow.one tells46 (by kernel_rfl))))))))
theorem tl0 : Open.Tells Try.prog 22 (Kd.slice 48 k48) (fun xs : List S48 => xs.length ≤ maxLen ∧ ∀ x ∈ xs, wf48 x) := (Open.Tells.slice (e' := 48) Try.underlying22 (by kernel_rfl) tells48)
theorem walk (l0 : List S48) (A0 : Option Addr) (c0 : Nat) (w : World) (w0 : (fun xs : List S48 => xs.length ≤ maxLen ∧ ∀ x ∈ xs, wf48 x) l0) (hr0 : Kd.C k48 w A0 l0.length l0) (hc0 : l0.length ≤ c0) :
    Calls Try.prog 6 #[.slice A0 l0.length c0] w fun e w' => e = .returned (.bool true) ∧ Below w.heap.size w w' := by
  refine (calls_of_con (R := fun v L => v = .bool true) (ranges_law A0 c0 l0 w []) ((Tri.nil w).know (C_stab hr0 hc0)) rfl).mono ?_
  rintro e w' ⟨v, L', rfl, rfl, ht⟩
  exact ⟨rfl, ht.below⟩
end Go.Proofs.Ytiihjijmmephlaa.QHistRanges
