/-
What the arguments are; the walk: SeqSame
-/
import Derived.Test.YtpppcicbkdafeacL1
import Derived.Test.YtpppcicbkdafeacOwnOpen
namespace Go.Proofs.Ytpppcicbkdafeac.QSeqSame
open Go.Eng Go.RowKit Go.Proofs.YtpppcicbkdafeacW.PrintWords Go.Proofs.Ytpppcicbkdafeac.GSeq
set_option linter.unusedVariables false
structure S34 where
  f0 : Bool
  f1 : Bool
  f2 : Int
  f3 : List Int
def k34 : Kd S34 := Kd.iso (Kd.pair Kd.bool (Kd.pair Kd.bool (Kd.pair (Kd.int .u64) (Kd.slice 29 (Kd.int .u64))))) (fun x : S34 => (x.f0, x.f1, x.f2, x.f3))
theorem k34_open {w : World} {x : S34} {cs : List Value} (h : k34.K w x cs) : ∃ A3 c3, cs = [.bool x.f0, .bool x.f1, .int .u64 x.f2, .slice A3 x.f3.length c3] ∧ x.f3.length ≤ c3 ∧ Kd.C (Kd.int .u64) w A3 x.f3.length x.f3 := by
  obtain ⟨_, _, rfl, rfl, ⟨_, _, rfl, rfl, ⟨_, _, rfl, rfl, ⟨A3, c3, rfl, l3, g3⟩⟩⟩⟩ := h
  exact ⟨A3, c3, rfl, l3, g3⟩
def wf34 (x : S34) : Prop := (fun _ : Bool => True) x.f0 ∧ (fun _ : Bool => True) x.f1 ∧ (fun n : Int => (Lit.int .u64 n).wf = true) x.f2 ∧ (fun xs : List Int => xs.length ≤ maxLen ∧ ∀ x ∈ xs, (fun n : Int => (Lit.int .u64 n).wf = true) x) x.f3
theorem tells34 : Open.Tells Try.prog 34 k34 wf34 :=
  Open.Tells.struct (fun x : S34 => (x.f0, x.f1, x.f2, x.f3)) (fun z => (⟨z.1, z.2.1, z.2.2.1, z.2.2.2⟩ : S34)) (fun _ => rfl) Try.underlying34 (ts := [(4, 0), (4, 1), (29, 2), (32, 3)]) (by rfl) (by kernel_rfl) (Open.TellsRow.cons (s' := 1) (Open.Tells.bool Try.underlying4) (by kernel_rfl) (by first | rfl | kernel_rfl) (by decide) (Open.TellsRow.cons (s' := 2) (Open.Tells.bool Try.underlying4) (by kernel_rfl) (by first | rfl | kernel_rfl) (by decide) (Open.TellsRow.cons (s' := 3) (Open.Tells.int Try.underlying29) (by kernel_rfl) (by first | rfl | kernel_rfl) (by decide) (Open.TellsRow.one (Open.Tells.slice (e' := 29) Try.underlying32 (by kernel_rfl) (Open.Tells.int Try.underlying29)) (by kernel_rfl)))))
theorem cells0 {w : World} {a0 : S34} {cs : Array Value} (h : k34.K w a0 cs.toList) : ∃ A0_3 c0_3, cs = #[.bool a0.f0, .bool a0.f1, .int .u64 a0.f2, .slice A0_3 a0.f3.length c0_3] ∧ a0.f3.length ≤ c0_3 ∧ Kd.C (Kd.int .u64) w A0_3 a0.f3.length a0.f3 := by
  obtain ⟨A0_3, c0_3, e, l3, g3⟩ := k34_open h
  exact ⟨A0_3, c0_3, Array.toList_inj.1 e, l3, g3⟩
theorem tl0 : Open.Tells Try.prog 34 k34 wf34 := tells34
theorem cells1 {w : World} {a1 : S34} {cs : Array Value} (h : k34.K w a1 cs.toList) : ∃ A1_3 c1_3, cs = #[.bool a1.f0, .bool a1.f1, .int .u64 a1.f2, .slice A1_3 a1.f3.length c1_3] ∧ a1.f3.length ≤ c1_3 ∧ Kd.C (Kd.int .u64) w A1_3 a1.f3.length a1.f3 := by
  obtain ⟨A1_3, c1_3, e, l3, g3⟩ := k34_open h
  exact ⟨A1_3, c1_3, Array.toList_inj.1 e, l3, g3⟩
theorem tl1 : Open.Tells Try.prog 34 k34 wf34 := tells34
theorem walk (a0 : S34) (a1 : S34) (A0_3 : Option Addr) (c0_3 : Nat) (A1_3 : Option Addr) (c1_3 : Nat) (w : World) (w0 : wf34 a0) (w1 : wf34 a1) (hr0_3 : Kd.C (Kd.int .u64) w A0_3 a0.f3.length a0.f3) (hc0_3 : a0.f3.length ≤ c0_3) (hr1_3 : Kd.C (Kd.int .u64) w A1_3 a1.f3.length a1.f3) (hc1_3 : a1.f3.length ≤ c1_3) :
    Calls Try.prog 4 #[.agg #[.bool a0.f0, .bool a0.f1, .int .u64 a0.f2, .slice A0_3 a0.f3.length c0_3], .agg #[.bool a1.f0, .bool a1.f1, .int .u64 a1.f2, .slice A1_3 a1.f3.length c1_3]] w fun e w' => e = .returned (.bool true) ∧ Below w.heap.size w w' := by
  refine (calls_of_con (R := fun v L => v = .bool true) (seqSame_con a0.f0 a0.f1 a0.f2 A0_3 c0_3 a0.f3 a1.f0 a1.f1 a1.f2 A1_3 c1_3 a1.f3 w []) (((Tri.nil w).know (C_stab hr1_3 hc1_3)).know (C_stab hr0_3 hc0_3)) rfl).mono ?_
  rintro e w' ⟨v, L', rfl, rfl, ht⟩
  exact ⟨rfl, ht.below⟩
end Go.Proofs.Ytpppcicbkdafeac.QSeqSame
