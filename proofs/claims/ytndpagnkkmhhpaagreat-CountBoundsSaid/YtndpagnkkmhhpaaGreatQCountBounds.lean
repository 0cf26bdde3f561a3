/-
What the arguments are; the walk: How many changes, and steps, there may be is what the document says. No condition.
-/
import Derived.Test.YtndpagnkkmhhpaaGreatXCB
import Derived.Test.YtndpagnkkmhhpaaGreatOwnOpen
namespace Go.Proofs.YtndpagnkkmhhpaaGreat.QCountBounds
open Go.RowKit Go.Proofs.YtndpagnkkmhhpaaGreatW.PrintWords Go.Run
set_option linter.unusedVariables false
structure S23 where
  f0 : Int
  f1 : Int
  f2 : Int
  f3 : Int
  f4 : Int
  f5 : Int
  f6 : Int
def k23 : Kd S23 := Kd.iso (Kd.pair (Kd.int .i64) (Kd.pair (Kd.int .i64) (Kd.pair (Kd.int .i64) (Kd.pair (Kd.int .i64) (Kd.pair (Kd.int .i64) (Kd.pair (Kd.int .i64) (Kd.int .i64))))))) (fun x : S23 => (x.f0, x.f1, x.f2, x.f3, x.f4, x.f5, x.f6))
theorem k23_open {w : World} {x : S23} {cs : List Value} (h : k23.K w x cs) : cs = [.int .i64 x.f0, .int .i64 x.f1, .int .i64 x.f2, .int .i64 x.f3, .int .i64 x.f4, .int .i64 x.f5, .int .i64 x.f6] := by
  obtain ⟨_, _, rfl, rfl, ⟨_, _, rfl, rfl, ⟨_, _, rfl, rfl, ⟨_, _, rfl, rfl, ⟨_, _, rfl, rfl, ⟨_, _, rfl, rfl, rfl⟩⟩⟩⟩⟩⟩ := h
  exact rfl
def wf23 (x : S23) : Prop := (fun n : Int => (Lit.int .i64 n).wf = true) x.f0 ∧ (fun n : Int => (Lit.int .i64 n).wf = true) x.f1 ∧ (fun n : Int => (Lit.int .i64 n).wf = true) x.f2 ∧ (fun n : Int => (Lit.int .i64 n).wf = true) x.f3 ∧ (fun n : Int => (Lit.int .i64 n).wf = true) x.f4 ∧ (fun n : Int => (Lit.int .i64 n).wf = true) x.f5 ∧ (fun n : Int => (Lit.int .i64 n).wf = true) x.f6
theorem tells23 : Open.Tells Tryz.prog 23 k23 wf23 :=
  Open.Tells.struct (fun x : S23 => (x.f0, x.f1, x.f2, x.f3, x.f4, x.f5, x.f6)) (fun z => (⟨z.1, z.2.1, z.2.2.1, z.2.2.2.1, z.2.2.2.2.1, z.2.2.2.2.2.1, z.2.2.2.2.2.2⟩ : S23)) (fun _ => rfl) Tryz.underlying23 (ts := [(3, 0), (3, 1), (3, 2), (3, 3), (3, 4), (3, 5), (3, 6)]) (by rfl) (by kernel_rfl) (Open.TellsRow.cons (s' := 1) (Open.Tells.int Tryz.underlying3) (by kernel_rfl) (by first | rfl | kernel_rfl) (by decide) (Open.TellsRow.cons (s' := 2) (Open.Tells.int Tryz.underlying3) (by kernel_rfl) (by first | rfl | kernel_rfl) (by decide) (Open.TellsRow.cons (s' := 3) (Open.Tells.int Tryz.underlying3) (by kernel_rfl) (by first | rfl | kernel_rfl) (by decide) (Open.TellsRow.cons (s' := 4) (Open.Tells.int Tryz.underlying3) (by kernel_rfl) (by first | rfl | kernel_rfl) (by decide) (Open.TellsRow.cons (s' := 5) (Open.Tells.int Tryz.underlying3) (by kernel_rfl) (by first | rfl | kernel_rfl) (by decide) (Open.TellsRow.cons (s' := 6) (Open.Tells.int Tryz.underlying3) (by kernel_rfl) (by first | rfl | kernel_rfl) (by decide) (Open.TellsRow.one (Open.Tells.int Tryz.underlying3) (by kernel_rfl))))))))
theorem cells0 {w : World} {a0 : S23} {cs : Array Value} (h : k23.K w a0 cs.toList) : cs = #[.int .i64 a0.f0, .int .i64 a0.f1, .int .i64 a0.f2, .int .i64 a0.f3, .int .i64 a0.f4, .int .i64 a0.f5, .int .i64 a0.f6] := by
  exact Array.toList_inj.1 (k23_open h)
theorem tl0 : Open.Tells Tryz.prog 23 k23 wf23 := tells23
theorem walk (a0 : S23)  (w : World) (w0 : wf23 a0) :
    Calls Tryz.prog 9 #[.agg #[.int .i64 a0.f0, .int .i64 a0.f1, .int .i64 a0.f2, .int .i64 a0.f3, .int .i64 a0.f4, .int .i64 a0.f5, .int .i64 a0.f6]] w fun e w' => e = .returned (.bool true) ∧ Below w.heap.size w w' := by
  refine run_chk (O := ⟨yes [46], nvZOf⟩) (ρ := ⟨fun i => match i with | 0 => dI a0.f0 | 1 => dI a0.f1 | 2 => dI a0.f2 | 3 => dI a0.f3 | 4 => dI a0.f4 | 5 => dI a0.f5 | _ => dI a0.f6, fun _ a => a, fun _ a _ => a, fun _ a _ _ => a⟩) followsZ namesZ (yes_ok yes46 _) 1000000 9 _ (evCB_ok ?_) runCB ⟨_, [], ⟨_, ⟨_, _, rfl, ⟨_, _, rfl, ⟨_, _, rfl, ⟨_, _, rfl, ⟨_, _, rfl, ⟨_, _, rfl, ⟨_, _, rfl, rfl, rfl⟩, rfl⟩, rfl⟩, rfl⟩, rfl⟩, rfl⟩, rfl⟩, rfl⟩, rfl, rfl⟩ w
  obtain ⟨w0, w1, w2, w3, w4, w5, w6⟩ := w0
  intro i hi
  match i, hi with
  | 0, _ => exact w0
  | 1, _ => exact w1
  | 2, _ => exact w2
  | 3, _ => exact w3
  | 4, _ => exact w4
  | 5, _ => exact w5
  | 6, _ => exact w6
end Go.Proofs.YtndpagnkkmhhpaaGreat.QCountBounds
