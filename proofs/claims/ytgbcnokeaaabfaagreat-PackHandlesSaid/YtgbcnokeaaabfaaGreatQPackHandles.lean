/-
What the arguments are; the walk: Words at rest brought together: a slot whose node moved, or was let go of, is in another generation, or out; a node that did not move has the handle that it had; conditions: none.
-/
import Derived.Test.YtgbcnokeaaabfaaGreatA11
import Derived.Test.YtgbcnokeaaabfaaGreatOwnOpen
namespace Go.Proofs.YtgbcnokeaaabfaaGreat.QPackHandles
open Go.Eng Go.RowKit Go.Proofs.YtgbcnokeaaabfaaGreatW.PrintWords Go.Eng Go.Proofs
set_option linter.unusedVariables false
structure S23 where
  f0 : Int
  f1 : Int
  f2 : Int
  f3 : Int
  f4 : Int
  f5 : Int
  f6 : Int
def k23 : Kd S23 := Kd.iso (Kd.pair (Kd.int .i64) (Kd.pair (Kd.int .i64) (Kd.pair (Kd.int .i64) (Kd.pair (Kd.int .i64) (Kd.pair (Kd.int .i64) (Kd.pair (Kd.int .i64) (Kd.int .i64))))))) (fun x : S23 => (x.f0, x.f1, x.f2, x.f3, x.f4, x.f5, x.f6))
theorem k23_open {w : World} {x : S23} {cs : List Value} (h : k23.K w x cs) : cs = [.int .i64 x.f0, .int .i64 x.f1, .int .i64 x.f2, .int .i64 x.f3, .int .i64 x.f4, .int .i64 x.f5, .int .i64 x.f6] := by
  obtain ⟨_, _, rfl, rfl, ⟨_, _, rfl, rfl, ⟨_, _, rfl, rfl, ⟨_, _, rfl, rfl, ⟨_, _, rfl, rfl, ⟨_, _, rfl, rfl, rfl⟩⟩⟩⟩⟩⟩ := h
  exact rfl
def wf23 (x : S23) : Prop := (fun n : Int => (Lit.int .i64 n).wf = true) x.f0 ∧ (fun n : Int => (Lit.int .i64 n).wf = true) x.f1 ∧ (fun n : Int => (Lit.int .i64 n).wf = true) x.f2 ∧ (fun n : Int => (Lit.int .i64 n).wf = true) x.f3 ∧ (fun n : Int => (Lit.int .i64 n).wf = true) x.f4 ∧ (fun n : Int => (Lit.int .i64 n).wf = true) x.f5 ∧ (fun n : Int => (Lit.int .i64 n).wf = true) x.f6
theorem tells23 : Open.Tells Tryz.prog 23 k23 wf23 :=
  Open.Tells.struct (fun x : S23 => (x.f0, x.f1, x.f2, x.f3, x.f4, x.f5, x.f6)) (fun z => (⟨z.1, z.2.1, z.2.2.1, z.2.2.2.1, z.2.2.2.2.1, z.2.2.2.2.2.1, z.2.2.2.2.2.2⟩ : S23)) (fun _ => rfl) Tryz.underlying23 (ts := [(3, 0), (3, 1), (3, 2), (3, 3), (3, 4), (3, 5), (3, 6)]) (by rfl) (by kernel_rfl) (Open.TellsRow.cons (s' := 1) (Open.Tells.int Tryz.underlying3) (by kernel_rfl) (by first | rfl | kernel_rfl) (by decide) (Open.TellsRow.cons (s' := 2) (Open.Tells.int Tryz.underlying3) (by kernel_rfl) (by first | rfl | kernel_rfl) (by decide) (Open.TellsRow.cons (s' := 3) (Open.Tells.int Tryz.underlying3) (by kernel_rfl) (by first | rfl | kernel_rfl) (by decide) (Open.TellsRow.cons (s' := 4) (Open.Tells.int Tryz.underlying3) (by kernel_rfl) (by first | rfl | kernel_rfl) (by decide) (Open.TellsRow.cons (s' := 5) (Open.Tells.int Tryz.underlying3) (by kernel_rfl) (by first | rfl | kernel_rfl) (by decide) (Open.TellsRow.cons (s' := 6) (Open.Tells.int Tryz.underlying3) (by kernel_rfl) (by first | rfl | kernel_rfl) (by decide) (Open.TellsRow.one (Open.Tells.int Tryz.underlying3) (by kernel_rfl))))))))
theorem cells0 {w : World} {a0 : S23} {cs : Array Value} (h : k23.K w a0 cs.toList) : cs = #[.int .i64 a0.f0, .int .i64 a0.f1, .int .i64 a0.f2, .int .i64 a0.f3, .int .i64 a0.f4, .int .i64 a0.f5, .int .i64 a0.f6] := by
  exact Array.toList_inj.1 (k23_open h)
theorem tl0 : Open.Tells Tryz.prog 23 k23 wf23 := tells23
theorem tl1 : Open.Tells Tryz.prog 24 (Kd.slice 41 (Kd.int .u64)) (fun xs : List Int => xs.length ≤ maxLen ∧ ∀ x ∈ xs, (fun n : Int => (Lit.int .u64 n).wf = true) x) := (Open.Tells.slice (e' := 41) Tryz.underlying24 (by kernel_rfl) (Open.Tells.int Tryz.underlying41))
def wf47 (x : S47) : Prop := (fun n : Int => (Lit.int .u64 n).wf = true) x.f0 ∧ (fun n : Int => (Lit.int .u64 n).wf = true) x.f1 ∧ (fun n : Int => (Lit.int .u64 n).wf = true) x.f2
theorem tells47 : Open.Tells Tryz.prog 47 k47 wf47 :=
  Open.Tells.struct (fun x : S47 => (x.f0, x.f1, x.f2)) (fun z => (⟨z.1, z.2.1, z.2.2⟩ : S47)) (fun _ => rfl) Tryz.underlying47 (ts := [(41, 0), (41, 1), (41, 2)]) (by rfl) (by kernel_rfl) (Open.TellsRow.cons (s' := 1) (Open.Tells.int Tryz.underlying41) (by kernel_rfl) (by first | rfl | kernel_rfl) (by decide) (Open.TellsRow.cons (s' := 2) (Open.Tells.int Tryz.underlying41) (by kernel_rfl) (by first | rfl | kernel_rfl) (by decide) (Open.TellsRow.one (Open.Tells.int Tryz.underlying41) (by kernel_rfl))))
structure S27 where
  f0 : List S47
  f1 : Int
def k27 : Kd S27 := Kd.iso (Kd.pair (Kd.slice 47 k47) (Kd.int .i64)) (fun x : S27 => (x.f0, x.f1))
theorem k27_open {w : World} {x : S27} {cs : List Value} (h : k27.K w x cs) : ∃ A0 c0, cs = [.slice A0 x.f0.length c0, .int .i64 x.f1] ∧ x.f0.length ≤ c0 ∧ Kd.C k47 w A0 x.f0.length x.f0 := by
  obtain ⟨_, _, rfl, ⟨A0, c0, rfl, l0, g0⟩, rfl⟩ := h
  exact ⟨A0, c0, rfl, l0, g0⟩
def wf27 (x : S27) : Prop := (fun xs : List S47 => xs.length ≤ maxLen ∧ ∀ x ∈ xs, wf47 x) x.f0 ∧ (fun n : Int => (Lit.int .i64 n).wf = true) x.f1
theorem tells27 : Open.Tells Tryz.prog 27 k27 wf27 :=
  Open.Tells.struct (fun x : S27 => (x.f0, x.f1)) (fun z => (⟨z.1, z.2⟩ : S27)) (fun _ => rfl) Tryz.underlying27 (ts := [(25, 0), (3, 1)]) (by rfl) (by kernel_rfl) (Open.TellsRow.cons (s' := 1) (Open.Tells.slice (e' := 47) Tryz.underlying25 (by kernel_rfl) tells47) (by kernel_rfl) (by first | rfl | kernel_rfl) (by decide) (Open.TellsRow.one (Open.Tells.int Tryz.underlying3) (by kernel_rfl)))
theorem cells2 {w : World} {a2 : S27} {cs : Array Value} (h : k27.K w a2 cs.toList) : ∃ A2_0 c2_0, cs = #[.slice A2_0 a2.f0.length c2_0, .int .i64 a2.f1] ∧ a2.f0.length ≤ c2_0 ∧ Kd.C k47 w A2_0 a2.f0.length a2.f0 := by
  obtain ⟨A2_0, c2_0, e, l0, g0⟩ := k27_open h
  exact ⟨A2_0, c2_0, Array.toList_inj.1 e, l0, g0⟩
theorem tl2 : Open.Tells Tryz.prog 27 k27 wf27 := tells27
theorem walk (a0 : S23) (l1 : List Int) (a2 : S27) (A1 : Option Addr) (c1 : Nat) (A2_0 : Option Addr) (c2_0 : Nat) (w : World) (w0 : wf23 a0) (w1 : (fun xs : List Int => xs.length ≤ maxLen ∧ ∀ x ∈ xs, (fun n : Int => (Lit.int .u64 n).wf = true) x) l1) (w2 : wf27 a2) (hr1 : Kd.C (Kd.int .u64) w A1 l1.length l1) (hc1 : l1.length ≤ c1) (hr2_0 : Kd.C k47 w A2_0 a2.f0.length a2.f0) (hc2_0 : a2.f0.length ≤ c2_0) :
    Calls Tryz.prog 5 #[.agg #[.int .i64 a0.f0, .int .i64 a0.f1, .int .i64 a0.f2, .int .i64 a0.f3, .int .i64 a0.f4, .int .i64 a0.f5, .int .i64 a0.f6], .slice A1 l1.length c1, .agg #[.slice A2_0 a2.f0.length c2_0, .int .i64 a2.f1]] w fun e w' => e = .returned (.bool true) ∧ Below w.heap.size w w' := by
  refine (calls_of_con (R := fun v L => v = .bool true) (packHandles_con a0.f0 a0.f1 a0.f2 a0.f3 a0.f4 a0.f5 a0.f6 A1 c1 l1 A2_0 c2_0 a2.f0 a2.f1 w1 (fun e h => (w2.1.2 e h).1) w []) (((Tri.nil w).know (C_stab hr2_0 hc2_0)).know (C_stab hr1 hc1)) rfl).mono ?_
  rintro e w' ⟨v, L', rfl, rfl, ht⟩
  exact ⟨rfl, ht.below⟩
end Go.Proofs.YtgbcnokeaaabfaaGreat.QPackHandles
