/-
What the arguments are; the walk: Which ops there are is what the document says; of no other one a thread begins. No condition.
-/
import Derived.Test.YtndpagnkkmhhpaaGreatXTR
import Derived.Test.YtndpagnkkmhhpaaGreatOwnOpen
namespace Go.Proofs.YtndpagnkkmhhpaaGreat.QTurnRight
open Go.RowKit Go.Proofs.YtndpagnkkmhhpaaGreatW.PrintWords Go.Run
set_option linter.unusedVariables false
structure S49 where
  f0 : Int
  f1 : Int
  f2 : Int
  f3 : Int
  f4 : Int
def k49 : Kd S49 := Kd.iso (Kd.pair (Kd.int .i64) (Kd.pair (Kd.int .u64) (Kd.pair (Kd.int .u64) (Kd.pair (Kd.int .i64) (Kd.int .i64))))) (fun x : S49 => (x.f0, x.f1, x.f2, x.f3, x.f4))
theorem k49_open {w : World} {x : S49} {cs : List Value} (h : k49.K w x cs) : cs = [.int .i64 x.f0, .int .u64 x.f1, .int .u64 x.f2, .int .i64 x.f3, .int .i64 x.f4] := by
  obtain ⟨_, _, rfl, rfl, ⟨_, _, rfl, rfl, ⟨_, _, rfl, rfl, ⟨_, _, rfl, rfl, rfl⟩⟩⟩⟩ := h
  exact rfl
def wf49 (x : S49) : Prop := (fun n : Int => (Lit.int .i64 n).wf = true) x.f0 ∧ (fun n : Int => (Lit.int .u64 n).wf = true) x.f1 ∧ (fun n : Int => (Lit.int .u64 n).wf = true) x.f2 ∧ (fun n : Int => (Lit.int .i64 n).wf = true) x.f3 ∧ (fun n : Int => (Lit.int .i64 n).wf = true) x.f4
theorem tells49 : Open.Tells Tryz.prog 49 k49 wf49 :=
  Open.Tells.struct (fun x : S49 => (x.f0, x.f1, x.f2, x.f3, x.f4)) (fun z => (⟨z.1, z.2.1, z.2.2.1, z.2.2.2.1, z.2.2.2.2⟩ : S49)) (fun _ => rfl) Tryz.underlying49 (ts := [(3, 0), (41, 1), (41, 2), (3, 3), (3, 4)]) (by rfl) (by kernel_rfl) (Open.TellsRow.cons (s' := 1) (Open.Tells.int Tryz.underlying3) (by kernel_rfl) (by first | rfl | kernel_rfl) (by decide) (Open.TellsRow.cons (s' := 2) (Open.Tells.int Tryz.underlying41) (by kernel_rfl) (by first | rfl | kernel_rfl) (by decide) (Open.TellsRow.cons (s' := 3) (Open.Tells.int Tryz.underlying41) (by kernel_rfl) (by first | rfl | kernel_rfl) (by decide) (Open.TellsRow.cons (s' := 4) (Open.Tells.int Tryz.underlying3) (by kernel_rfl) (by first | rfl | kernel_rfl) (by decide) (Open.TellsRow.one (Open.Tells.int Tryz.underlying3) (by kernel_rfl))))))
theorem cells0 {w : World} {a0 : S49} {cs : Array Value} (h : k49.K w a0 cs.toList) : cs = #[.int .i64 a0.f0, .int .u64 a0.f1, .int .u64 a0.f2, .int .i64 a0.f3, .int .i64 a0.f4] := by
  exact Array.toList_inj.1 (k49_open h)
theorem tl0 : Open.Tells Tryz.prog 49 k49 wf49 := tells49
theorem walk (a0 : S49)  (w : World) (w0 : wf49 a0) :
    Calls Tryz.prog 6 #[.agg #[.int .i64 a0.f0, .int .u64 a0.f1, .int .u64 a0.f2, .int .i64 a0.f3, .int .i64 a0.f4]] w fun e w' => e = .returned (.bool true) ∧ Below w.heap.size w w' := by
  exact run_law (O := ⟨yes [27], nvZOf⟩) (ρ := ⟨fun i => match i with | 0 => dI a0.f0 | 1 => dI a0.f1 | 2 => dI a0.f2 | 3 => dI a0.f3 | _ => dI a0.f4, fun _ a => a, fun _ a _ => a, fun _ a _ _ => a⟩) followsZ namesZ (yes_ok yes27 _) 1000000 6 _ runTR (vcTR_ok _) ⟨_, [], ⟨_, ⟨_, _, rfl, ⟨_, _, rfl, ⟨_, _, rfl, ⟨_, _, rfl, ⟨_, _, rfl, rfl, rfl⟩, rfl⟩, rfl⟩, rfl⟩, rfl⟩, rfl⟩, rfl, rfl⟩ w
end Go.Proofs.YtndpagnkkmhhpaaGreat.QTurnRight
