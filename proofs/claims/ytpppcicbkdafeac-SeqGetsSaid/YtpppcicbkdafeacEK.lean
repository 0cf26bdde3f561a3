/- Own text, written by an own program: EK. -/
import Derived.Test.YtpppcicbkdafeacE6
import Derived.Test.YtpppcicbkdafeacWEqStruct
import Derived.Test.YtpppcicbkdafeacGSeqx0
namespace Go.Eng
open Go.Proofs Go.RowKit Go.Proofs.YtpppcicbkdafeacW.PrintWords Go.Proofs.Ytpppcicbkdafeac.GSeq
set_option linter.unusedVariables false
theorem eqS52 (x0 : Int) (x1 : Int) (y0 : Int) (y1 : Int) (d : Nat) (w : World) : (Op.equalIn (d + 2) 52 (.agg #[.int .u64 x0, .int .u64 x1]) (.agg #[.int .u64 y0, .int .u64 y1])).run Try.prog w = .ok ((x0 == y0) && ((x1 == y1))) w := by
  refine eqA_of Try.underlying52 (by kernel_rfl) ?_
  refine eqf_cons (by rfl) (by go_simp; rfl) (by go_simp; rfl) (by go_simp) ?_
  exact eqf_last (by rfl) (by go_simp; rfl) (by go_simp; rfl) (by go_simp)
theorem eqS62 (x0 : Int) (x1 : Int) (y0 : Int) (y1 : Int) (d : Nat) (w : World) : (Op.equalIn (d + 2) 62 (.agg #[.int .u64 x0, .int .u64 x1]) (.agg #[.int .u64 y0, .int .u64 y1])).run Try.prog w = .ok ((x0 == y0) && ((x1 == y1))) w := by
  refine eqA_of Try.underlying62 (by kernel_rfl) ?_
  refine eqf_cons (by rfl) (by go_simp; rfl) (by go_simp; rfl) (by go_simp) ?_
  exact eqf_last (by rfl) (by go_simp; rfl) (by go_simp; rfl) (by go_simp)
theorem eqS31 (x0 : Int) (x1 : Int) (x2 : Int) (x3 : Int) (x4 : Int) (y0 : Int) (y1 : Int) (y2 : Int) (y3 : Int) (y4 : Int) (d : Nat) (w : World) : (Op.equalIn (d + 2) 31 (.agg #[.int .i64 x0, .int .u64 x1, .int .u64 x2, .int .i64 x3, .int .i64 x4]) (.agg #[.int .i64 y0, .int .u64 y1, .int .u64 y2, .int .i64 y3, .int .i64 y4])).run Try.prog w = .ok ((x0 == y0) && ((x1 == y1) && ((x2 == y2) && ((x3 == y3) && ((x4 == y4)))))) w := by
  refine eqA_of Try.underlying31 (by kernel_rfl) ?_
  refine eqf_cons (by rfl) (by go_simp; rfl) (by go_simp; rfl) (by go_simp) ?_
  refine eqf_cons (by rfl) (by go_simp; rfl) (by go_simp; rfl) (by go_simp) ?_
  refine eqf_cons (by rfl) (by go_simp; rfl) (by go_simp; rfl) (by go_simp) ?_
  refine eqf_cons (by rfl) (by go_simp; rfl) (by go_simp; rfl) (by go_simp) ?_
  exact eqf_last (by rfl) (by go_simp; rfl) (by go_simp; rfl) (by go_simp)
end Go.Eng
