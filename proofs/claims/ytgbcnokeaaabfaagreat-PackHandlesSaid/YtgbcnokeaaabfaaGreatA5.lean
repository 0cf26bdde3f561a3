/-
Own text, put together by an own program (shake.py) out of this claim's texts: what its theorem needs of them.
-/
import Derived.Test.YtgbcnokeaaabfaaGreatA4
namespace Go.Eng
open Go.Proofs
set_option linter.unusedVariables false
theorem SZ3:(Tryz.prog.info? 3).map (·.size)=some 1:=by kernel_rfl
theorem SZ4:(Tryz.prog.info? 4).map (·.size)=some 1:=by kernel_rfl
theorem ZR4:(Tryz.prog.info? 4).bind (·.zero)=some (.bool false):=by kernel_rfl
theorem SZ23:(Tryz.prog.info? 23).map (·.size)=some 7:=by kernel_rfl
theorem ZR23:(Tryz.prog.info? 23).bind (·.zero)=some (.agg #[.int .i64 0,.int .i64 0,.int .i64 0,.int .i64 0,.int .i64 0,.int .i64 0,.int .i64 0]):=by kernel_rfl
theorem SZ24:(Tryz.prog.info? 24).map (·.size)=some 1:=by kernel_rfl
theorem ZR24:(Tryz.prog.info? 24).bind (·.zero)=some (.slice none 0 0):=by kernel_rfl
theorem SZ25:(Tryz.prog.info? 25).map (·.size)=some 1:=by kernel_rfl
theorem SZ29:(Tryz.prog.info? 29).map (·.size)=some 1:=by kernel_rfl
theorem ZR29:(Tryz.prog.info? 29).bind (·.zero)=some (.slice none 0 0):=by kernel_rfl
theorem SZ41:(Tryz.prog.info? 41).map (·.size)=some 1:=by kernel_rfl
theorem ZR41:(Tryz.prog.info? 41).bind (·.zero)=some (.int .u64 0):=by kernel_rfl
theorem SZ47:(Tryz.prog.info? 47).map (·.size)=some 3:=by kernel_rfl
theorem ZR47:(Tryz.prog.info? 47).bind (·.zero)=some (.agg #[.int .u64 0,.int .u64 0,.int .u64 0]):=by kernel_rfl
theorem SZ53:(Tryz.prog.info? 53).map (·.size)=some 3:=by kernel_rfl
theorem ZR53:(Tryz.prog.info? 53).bind (·.zero)=some (.agg #[.int .u64 0,.int .u64 0,.int .u64 0]):=by kernel_rfl
theorem SZ65:(Tryz.prog.info? 65).map (·.size)=some 8:=by kernel_rfl
theorem ZR65:(Tryz.prog.info? 65).bind (·.zero)=some (.agg #[.int .i64 0,.int .i64 0,.int .i64 0,.int .i64 0,.int .i64 0,.int .i64 0,.int .i64 0,.slice none 0 0]):=by kernel_rfl
theorem SZ104:(Tryz.prog.info? 104).map (·.size)=some 8:=by kernel_rfl
theorem ZR104:(Tryz.prog.info? 104).bind (·.zero)=some (.agg #[.int .i64 0,.int .i64 0,.int .i64 0,.int .i64 0,.int .i64 0,.int .i64 0,.int .i64 0,.slice none 0 0]):=by kernel_rfl
theorem SZ139:(Tryz.prog.info? 139).map (·.size)=some 3:=by kernel_rfl
theorem ZR139:(Tryz.prog.info? 139).bind (·.zero)=some (.agg #[.int .i64 0,.int .i64 0,.int .i64 0]):=by kernel_rfl
theorem SZ174:(Tryz.prog.info? 174).map (·.size)=some 2:=by kernel_rfl
theorem ZR174:(Tryz.prog.info? 174).bind (·.zero)=some (.agg #[.int .i64 0,.int .i64 0]):=by kernel_rfl
theorem SZ177:(Tryz.prog.info? 177).map (·.size)=some 2:=by kernel_rfl
theorem ZR177:(Tryz.prog.info? 177).bind (·.zero)=some (.agg #[.int .i64 0,.int .i64 0]):=by kernel_rfl
end Go.Eng
