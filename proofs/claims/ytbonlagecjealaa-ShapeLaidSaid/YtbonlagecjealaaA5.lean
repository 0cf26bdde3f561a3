/-
Own text, put together by an own program (shake.py) out of this claim's texts: what its theorem needs of them.
-/
import Derived.Test.YtbonlagecjealaaA4
namespace Go.Eng
open Go.Proofs
set_option linter.unusedVariables false
theorem SZ3 : (Try.prog.info? 3).map (·.size) = some 1 := by kernel_rfl
theorem SZ4 : (Try.prog.info? 4).map (·.size) = some 1 := by kernel_rfl
theorem ZR4 : (Try.prog.info? 4).bind (·.zero) = some (.bool false) := by kernel_rfl
theorem SZ23 : (Try.prog.info? 23).map (·.size) = some 7 := by kernel_rfl
theorem ZR23 : (Try.prog.info? 23).bind (·.zero) = some (.agg #[.int .i64 0, .int .i64 0, .int .i64 0, .int .i64 0, .int .i64 0, .int .i64 0, .int .i64 0]) := by kernel_rfl
theorem SZ24 : (Try.prog.info? 24).map (·.size) = some 1 := by kernel_rfl
theorem ZR24 : (Try.prog.info? 24).bind (·.zero) = some (.slice none 0 0) := by kernel_rfl
theorem SZ25 : (Try.prog.info? 25).map (·.size) = some 1 := by kernel_rfl
theorem ZR25 : (Try.prog.info? 25).bind (·.zero) = some (.int .u64 0) := by kernel_rfl
theorem SZ37 : (Try.prog.info? 37).map (·.size) = some 1 := by kernel_rfl
theorem ZR37 : (Try.prog.info? 37).bind (·.zero) = some (.agg #[.slice none 0 0]) := by kernel_rfl
theorem SZ46 : (Try.prog.info? 46).map (·.size) = some 5 := by kernel_rfl
theorem ZR46 : (Try.prog.info? 46).bind (·.zero) = some (.agg #[.int .u64 0, .int .u64 0, .int .i64 0, .int .i64 0, .bool false]) := by kernel_rfl
theorem SZ48 : (Try.prog.info? 48).map (·.size) = some 2 := by kernel_rfl
theorem ZR48 : (Try.prog.info? 48).bind (·.zero) = some (.agg #[.int .u64 0, .int .u64 0]) := by kernel_rfl
theorem SZ57 : (Try.prog.info? 57).map (·.size) = some 8 := by kernel_rfl
theorem ZR57 : (Try.prog.info? 57).bind (·.zero) = some (.agg #[.slice none 0 0, .int .i64 0, .int .i64 0, .int .i64 0, .int .u64 0, .int .u64 0, .int .u64 0, .bool false]) := by kernel_rfl
theorem SZ59 : (Try.prog.info? 59).map (·.size) = some 15 := by kernel_rfl
theorem ZR59 : (Try.prog.info? 59).bind (·.zero) = some (.agg #[.int .i64 0, .int .i64 0, .int .i64 0, .int .i64 0, .int .i64 0, .int .i64 0, .int .i64 0, .slice none 0 0, .int .i64 0, .int .i64 0, .int .i64 0, .int .u64 0, .int .u64 0, .int .u64 0, .bool false]) := by kernel_rfl
theorem SZ61 : (Try.prog.info? 61).map (·.size) = some 2 := by kernel_rfl
theorem ZR61 : (Try.prog.info? 61).bind (·.zero) = some (.agg #[.int .u64 0, .int .u64 0]) := by kernel_rfl
theorem SZ63 : (Try.prog.info? 63).map (·.size) = some 8 := by kernel_rfl
theorem ZR63 : (Try.prog.info? 63).bind (·.zero) = some (.agg #[.int .i64 0, .int .i64 0, .int .i64 0, .int .i64 0, .int .i64 0, .int .i64 0, .int .i64 0, .slice none 0 0]) := by kernel_rfl
theorem SZ78 : (Try.prog.info? 78).map (·.size) = some 1 := by kernel_rfl
theorem SZ81 : (Try.prog.info? 81).map (·.size) = some 3 := by kernel_rfl
theorem ZR81 : (Try.prog.info? 81).bind (·.zero) = some (.agg #[.int .u64 0, .int .u64 0, .int .u64 0]) := by kernel_rfl
theorem SZ83 : (Try.prog.info? 83).map (·.size) = some 3 := by kernel_rfl
theorem ZR83 : (Try.prog.info? 83).bind (·.zero) = some (.agg #[.int .i64 0, .int .i64 0, .int .i64 0]) := by kernel_rfl
theorem SZ104 : (Try.prog.info? 104).map (·.size) = some 2 := by kernel_rfl
theorem ZR104 : (Try.prog.info? 104).bind (·.zero) = some (.agg #[.int .i64 0, .int .i64 0]) := by kernel_rfl
theorem SZ106 : (Try.prog.info? 106).map (·.size) = some 2 := by kernel_rfl
theorem ZR106 : (Try.prog.info? 106).bind (·.zero) = some (.agg #[.int .i64 0, .int .i64 0]) := by kernel_rfl
end Go.Eng
