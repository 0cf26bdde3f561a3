/- Own text, written by an own program: D2. -/
import Derived.Test.YtpppcicbkdafeacD1
import Derived.Test.YtpppcicbkdafeacSeqFrom
namespace Go.Eng
open Go.Proofs Go.RowKit Go.Proofs.YtpppcicbkdafeacW.PrintWords Go.Proofs.Ytpppcicbkdafeac.GSeq
set_option linter.unusedVariables false
set_option maxRecDepth 100000 in
set_option maxHeartbeats 4000000 in
theorem from_con (A : Option Addr) (n c : Nat) (o1 : Int) (w0 : World) (H : List Nat) : Con Try.prog 25 #[.agg #[.slice A n c], .int .u64 o1] w0 H [] (fun X => ∀ bm bk, X (.func (.func 33) #[] #[.pointer (some ⟨bm, 0, none⟩), .pointer (some ⟨bk, 0, none⟩)]) [.b bk (.cells #[.int .u64 o1] 29 (0, 0)), .b bm (.cells #[.slice A n c] 27 (0, 0))]) := by
  refine con_enter (c := bodyOf Try.f25) Try.func25 rfl (m := 6) rfl rfl rfl ?_
  intro X hX _
  refine c_seq rfl ?_
  refine r_ord (l := [0, 1, 2]) rfl (by kernel_rfl) (by kernel_rfl) ?_
  refine s_e rfl rfl (e_box rfl rfl rfl rfl) ?_
  intro b1_
  refine s_e rfl rfl (e_box rfl rfl rfl rfl) ?_
  intro b2_
  refine s_v rfl rfl rfl rfl (v_assign rfl rfl) ?_
  refine s_end ?_
  refine q_seq ?_
  refine c_seq rfl ?_
  refine r_ord (l := [0, 1]) rfl (by kernel_rfl) (by kernel_rfl) ?_
  refine s_v rfl rfl rfl rfl (v_mf rfl rfl rfl) ?_
  refine s_v rfl rfl rfl rfl (v_assign rfl rfl) ?_
  refine s_end ?_
  refine q_seq ?_
  refine c_ret rfl ?_
  exact q_post rfl (.cons rfl (.nil)) (hX _ _)
end Go.Eng
