/-
The word of any value, or that there is none, is what the document says; its value is this, dead or not. No condition.
-/
import Derived.Test.YtpppcicbkdafeaaPSlotPartsx2
import Derived.Test.YtpppcicbkdafeaaPureSlotParts
import Derived.Lib.Hide
namespace Go.Proofs.Ytpppcicbkdafeaa.OwnValues
open Go.RowKit Go.Proofs.Ytpppcicbkdafeaa.PSlotParts Go.Proofs.Ytpppcicbkdafeaa.Pure Go.Proofs.YtpppcicbkdafeaaW.PrintWords Go.Proofs.YtpppcicbkdafeaaW.PrintLast Go.Proofs.YtpppcicbkdafeaaW.PrintMore

theorem value_yes (v : Int) (w : World) (h0 : 0 ≤ v) (h : v ≤ 9223372036854775807) :
    Calls Try.prog 24 #[.int .u64 v] w fun e w' => e = .returned (.tuple #[.int .u64 (v * 2), .bool true]) ∧ Drawn0 w w' :=
  slot_Value.calls v (v * 2) true w (by unfold slot_Value.f; rw [if_neg (by omega), wrap_u64, Int.emod_eq_of_lt (by omega) (by omega)])
theorem value_no (v : Int) (w : World) (h : 9223372036854775807 < v) :
    Calls Try.prog 24 #[.int .u64 v] w fun e w' => e = .returned (.tuple #[.int .u64 0, .bool false]) ∧ Drawn0 w w' :=
  slot_Value.calls v 0 false w (by unfold slot_Value.f; rw [if_pos h])
set_option maxRecDepth 100000 in
theorem ref_yes (v : Int) (w : World) (h0 : 0 ≤ v) (h : v ≤ 9223372036854775807) :
    Calls Try.prog 25 #[.int .u64 v] w fun e w' => e = .returned (.tuple #[.int .u64 (v * 2), .bool true]) ∧ Drawn0 w w' := by
  have hw : IntKind.u64.wrap (2 * v) = v * 2 := by rw [wrap_u64]; omega
  have hb : decide (9223372036854775808 ≤ v) = false := decide_eq_false (by omega)
  go_enter Try.func25, Try.ntmps25
  go_wp2
  go_ret2
  exact ⟨by first | rfl | (simp [*]; done), by repeat (first | exact Drawn0.refl _ | apply Drawn0.step)⟩
set_option maxRecDepth 100000 in
theorem ref_no (v : Int) (w : World) (h : 9223372036854775807 < v) :
    Calls Try.prog 25 #[.int .u64 v] w fun e w' => e = .returned (.tuple #[.int .u64 0, .bool false]) ∧ Drawn0 w w' := by
  have hb : decide (9223372036854775808 ≤ v) = true := decide_eq_true (by omega)
  go_enter Try.func25, Try.ntmps25
  go_wp2
  go_ret2
  exact ⟨by first | rfl | (simp [*]; done), by repeat (first | exact Drawn0.refl _ | apply Drawn0.step)⟩
theorem of_yes (v : Int) (w : World) : Calls Try.prog 20 #[.int .u64 (v * 2)] w fun e w' => e = .returned (.int .u64 v) ∧ Drawn0 w w' :=
  slot_Of.calls (v * 2) v w (by unfold slot_Of.f; congr 1; omega)
theorem of_kill (v : Int) (w : World) : Calls Try.prog 20 #[.int .u64 (v * 2 + 1)] w fun e w' => e = .returned (.int .u64 v) ∧ Drawn0 w w' :=
  slot_Of.calls (v * 2 + 1) v w (by unfold slot_Of.f; congr 1; omega)
theorem kill_yes (v : Int) (w : World) (h0 : 0 ≤ v) (h : v ≤ 9223372036854775807) : Calls Try.prog 18 #[.int .u64 (v * 2)] w fun e w' => e = .returned (.int .u64 (v * 2 + 1)) ∧ Drawn0 w w' :=
  slot_Kill.calls (v * 2) (v * 2 + 1) w (by unfold slot_Kill.f; rw [or1 _ (by omega) (by omega)]; congr 1; omega)
theorem dead_no (v : Int) (w : World) (h0 : 0 ≤ v) (h : v ≤ 9223372036854775807) : Calls Try.prog 16 #[.int .u64 (v * 2)] w fun e w' => e = .returned (.bool false) ∧ Drawn0 w w' :=
  slot_Dead.calls (v * 2) false w (by unfold slot_Dead.f; rw [and1 _ (by omega) (by omega)]; congr 1; simp)
theorem dead_yes (v : Int) (w : World) (h0 : 0 ≤ v) (h : v ≤ 9223372036854775807) : Calls Try.prog 16 #[.int .u64 (v * 2 + 1)] w fun e w' => e = .returned (.bool true) ∧ Drawn0 w w' :=
  slot_Dead.calls (v * 2 + 1) true w (by unfold slot_Dead.f; rw [and1 _ (by omega) (by omega)]; congr 1; simp)
theorem below_of_drewN {w w' : World} {n : Nat} (h : Below (w.drewN n).heap.size (w.drewN n) w') : Below w.heap.size w w' := (pw_below_drewN (Below.refl _ _) n).trans h
theorem alive_calls (w : World) : Calls Try.prog 11 #[] w fun e w' => e = .returned (.bool true) ∧ Below w.heap.size w w' :=
  stepstonelaw02_alive.calls true w alive

set_option maxHeartbeats 1000000 in
set_option maxRecDepth 100000 in
theorem walk (v : Int) (w : World) (h0 : 0 ≤ v) :
    Calls Try.prog 6 #[.int .u64 v] w fun e w' => e = .returned (.bool true) ∧ Below w.heap.size w w' := by
  by_cases c : v ≤ 9223372036854775807
  · have hb : decide (v ≤ 9223372036854775807) = true := decide_eq_true c
    go_enter Try.func6, Try.ntmps6
    go_wp2_with fail
    refine (value_yes v _ h0 c).mono ?_
    rintro e w' ⟨rfl, ⟨n, rfl⟩⟩
    go_wp2_with fail
    refine (ref_yes v _ h0 c).mono ?_
    rintro e w' ⟨rfl, ⟨n, rfl⟩⟩
    go_wp2_with fail
    refine (alive_calls _).mono ?_
    rintro e w' ⟨rfl, hb1⟩
    have HB := Lib.hid (below_of_drewN hb1)
    clear hb1
    go_wp2_with fail
    refine (of_yes v _).mono ?_
    rintro e w' ⟨rfl, ⟨n, rfl⟩⟩
    go_wp2_with fail
    refine (kill_yes v _ h0 c).mono ?_
    rintro e w' ⟨rfl, ⟨n, rfl⟩⟩
    go_wp2_with fail
    refine (of_kill v _).mono ?_
    rintro e w' ⟨rfl, ⟨n, rfl⟩⟩
    go_wp2_with fail
    refine (dead_no v _ h0 c).mono ?_
    rintro e w' ⟨rfl, ⟨n, rfl⟩⟩
    go_wp2_with fail
    refine (kill_yes v _ h0 c).mono ?_
    rintro e w' ⟨rfl, ⟨n, rfl⟩⟩
    go_wp2_with fail
    refine (dead_yes v _ h0 c).mono ?_
    rintro e w' ⟨rfl, ⟨n, rfl⟩⟩
    go_wp2_with fail
    go_ret
    exact ⟨rfl, by repeat (first | (with_reducible first | exact HB.out | apply below_alloc | apply pw_below_drewN | apply below_drew1) | exact HB.out)⟩
  · have hb : decide (v ≤ 9223372036854775807) = false := decide_eq_false c
    go_enter Try.func6, Try.ntmps6
    go_wp2_with fail
    refine (value_no v _ (by omega)).mono ?_
    rintro e w' ⟨rfl, ⟨n, rfl⟩⟩
    go_wp2_with fail
    refine (ref_no v _ (by omega)).mono ?_
    rintro e w' ⟨rfl, ⟨n, rfl⟩⟩
    go_wp2_with fail
    refine (alive_calls _).mono ?_
    rintro e w' ⟨rfl, hb1⟩
    have HB := Lib.hid (below_of_drewN hb1)
    clear hb1
    go_wp2_with fail
    go_ret
    exact ⟨rfl, by repeat (first | (with_reducible first | exact HB.out | apply below_alloc | apply pw_below_drewN | apply below_drew1) | exact HB.out)⟩

end Go.Proofs.Ytpppcicbkdafeaa.OwnValues
