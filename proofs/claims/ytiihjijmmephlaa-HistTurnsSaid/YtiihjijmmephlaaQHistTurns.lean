/-
What the arguments are; the walk: Ops one behind the other, each with what the map tells, are a history that may be, Ranges too; told otherwise one of them is not. No condition.
-/
import Derived.Test.YtiihjijmmephlaaA6
import Derived.Test.YtiihjijmmephlaaOwnOpen
namespace Go.Proofs.Ytiihjijmmephlaa.QHistTurns
open Go.Eng Go.RowKit Go.Proofs.YtiihjijmmephlaaW.PrintWords Go.Proofs.Ytiihjijmmephlaa.GHist
set_option linter.unusedVariables false
def wf43 (x : S43) : Prop := (fun n : Int => (Lit.int .i64 n).wf = true) x.f0 ∧ (fun n : Int => (Lit.int .u64 n).wf = true) x.f1 ∧ (fun n : Int => (Lit.int .u64 n).wf = true) x.f2 ∧ (fun n : Int => (Lit.int .i64 n).wf = true) x.f3 ∧ (fun n : Int => (Lit.int .i64 n).wf = true) x.f4
theorem tells43 : Open.Tells Try.prog 43 k43 wf43 :=
  Open.Tells.struct (fun x : S43 => (x.f0, x.f1, x.f2, x.f3, x.f4)) (fun z => (⟨z.1, z.2.1, z.2.2.1, z.2.2.2.1, z.2.2.2.2⟩ : S43)) (fun _ => rfl) Try.underlying43 (ts := [(3, 0), (41, 1), (41, 2), (3, 3), (3, 4)]) (by rfl) (by kernel_rfl) (Open.TellsRow.cons (s' := 1) (Open.Tells.int Try.underlying3) (by kernel_rfl) (by first | rfl | kernel_rfl) (by decide) (Open.TellsRow.cons (s' := 2) (Open.Tells.int Try.underlying41) (by kernel_rfl) (by first | rfl | kernel_rfl) (by decide) (Open.TellsRow.cons (s' := 3) (Open.Tells.int Try.underlying41) (by kernel_rfl) (by first | rfl | kernel_rfl) (by decide) (Open.TellsRow.cons (s' := 4) (Open.Tells.int Try.underlying3) (by kernel_rfl) (by first | rfl | kernel_rfl) (by decide) (Open.TellsRow.one (Open.Tells.int Try.underlying3) (by kernel_rfl))))))
theorem tl0 : Open.Tells Try.prog 50 (Kd.slice 43 k43) (fun xs : List S43 => xs.length ≤ maxLen ∧ ∀ x ∈ xs, wf43 x) := (Open.Tells.slice (e' := 43) Try.underlying50 (by kernel_rfl) tells43)
theorem walk (l0 : List S43) (a1 : Int) (A0 : Option Addr) (c0 : Nat) (w : World) (w0 : (fun xs : List S43 => xs.length ≤ maxLen ∧ ∀ x ∈ xs, wf43 x) l0) (w1 : (fun n : Int => (Lit.int .i64 n).wf = true) a1) (hr0 : Kd.C k43 w A0 l0.length l0) (hc0 : l0.length ≤ c0) :
    Calls Try.prog 8 #[.slice A0 l0.length c0, .int .i64 a1] w fun e w' => e = .returned (.bool true) ∧ Below w.heap.size w w' := by
  refine (calls_of_con (R := fun v L => v = .bool true) (turns_law A0 c0 l0 a1 w []) ((Tri.nil w).know (C_stab hr0 hc0)) rfl).mono ?_
  rintro e w' ⟨v, L', rfl, rfl, ht⟩
  exact ⟨rfl, ht.below⟩
end Go.Proofs.Ytiihjijmmephlaa.QHistTurns
