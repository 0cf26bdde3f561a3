/-
CountBounds: the run of named inputs, and that each way of it says yes or is out of reach.
-/
import Derived.Test.YtndpagnkkmhhpaaGreatZ21
import Derived.Test.YtndpagnkkmhhpaaGreatA46
import Derived.Test.YtndpagnkkmhhpaaGreatProg
import Derived.KernelRfl
namespace Go.Run
open Go.Proofs
set_option linter.unusedVariables false
noncomputable def evCB : Ev := [(0, -9223372036854775808, 9223372036854775807), (1, -9223372036854775808, 9223372036854775807), (2, -9223372036854775808, 9223372036854775807), (3, -9223372036854775808, 9223372036854775807), (4, -9223372036854775808, 9223372036854775807), (5, -9223372036854775808, 9223372036854775807), (6, -9223372036854775808, 9223372036854775807)]
theorem runCB : chkO [0, 1, 2, 3, 4, 5, 6] evCB (go Tryz.prog ⟨yes [46], nvZOf⟩ 1000000 (.call 9 [.agg [.int .i64 (.v 0), .int .i64 (.v 1), .int .i64 (.v 2), .int .i64 (.v 3), .int .i64 (.v 4), .int .i64 (.v 5), .int .i64 (.v 6)]] ⟨.e, 0, [], []⟩)) = true := by kernel_rfl
theorem evCB_ok {ρ : Rho} (h : ∀ i, i < 7 → (Lit.int .i64 (ρ.v i).i).wf = true) : EvOK ρ evCB := by
  have h : ∀ i, i < 7 → -9223372036854775808 ≤ (ρ.v i).i ∧ (ρ.v i).i ≤ 9223372036854775807 := fun i hi => by
    have := Bool.and_eq_true_iff.1 (h i hi)
    exact ⟨of_decide_eq_true this.1, of_decide_eq_true this.2⟩
  intro i l k hl
  unfold evCB at hl
  repeat (rcases look_cons hl with ⟨rfl, hp⟩ | hl; · cases hp; exact h _ (by decide))
  cases hl
end Go.Run
