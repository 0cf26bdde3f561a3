/-
Own text, put together by an own program (shake.py) out of this claim's texts: what its theorem needs of them.
-/
import Derived.Test.YtlipgpeninlcdaaGreatA4
namespace Go.Eng
open Go.Proofs
set_option linter.unusedVariables false
theorem SZ3 : (Tryz.prog.info? 3).map (·.size) = some 1 := by kernel_rfl
theorem SZ23 : (Tryz.prog.info? 23).map (·.size) = some 7 := by kernel_rfl
theorem ZR23 : (Tryz.prog.info? 23).bind (·.zero) = some (.agg #[.int .i64 0, .int .i64 0, .int .i64 0, .int .i64 0, .int .i64 0, .int .i64 0, .int .i64 0]) := by kernel_rfl
theorem SZ25 : (Tryz.prog.info? 25).map (·.size) = some 1 := by kernel_rfl
theorem SZ30 : (Tryz.prog.info? 30).map (·.size) = some 4 := by kernel_rfl
theorem ZR30 : (Tryz.prog.info? 30).bind (·.zero) = some (.agg #[.int .i64 0, .int .i64 0, .int .i64 0, .int .i64 0]) := by kernel_rfl
theorem SZ32 : (Tryz.prog.info? 32).map (·.size) = some 1 := by kernel_rfl
theorem ZR32 : (Tryz.prog.info? 32).bind (·.zero) = some (.slice none 0 0) := by kernel_rfl
theorem SZ34 : (Tryz.prog.info? 34).map (·.size) = some 4 := by kernel_rfl
theorem ZR34 : (Tryz.prog.info? 34).bind (·.zero) = some (.agg #[.int .i64 0, .int .i64 0, .int .i64 0, .int .i64 0]) := by kernel_rfl
theorem SZ41 : (Tryz.prog.info? 41).map (·.size) = some 1 := by kernel_rfl
theorem SZ57 : (Tryz.prog.info? 57).map (·.size) = some 3 := by kernel_rfl
theorem ZR57 : (Tryz.prog.info? 57).bind (·.zero) = some (.agg #[.int .u64 0, .int .u64 0, .int .u64 0]) := by kernel_rfl
theorem SZ58 : (Tryz.prog.info? 58).map (·.size) = some 3 := by kernel_rfl
theorem ZR58 : (Tryz.prog.info? 58).bind (·.zero) = some (.agg #[.int .u64 0, .int .u64 0, .int .u64 0]) := by kernel_rfl
end Go.Eng
