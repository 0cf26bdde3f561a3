/- Own text, written by an own program: ET. -/
import Derived.Test.YtpppcicbkdafeabProg
import Derived.Test.YtpppcicbkdafeabE4
namespace Go.Eng
open Go.Proofs
set_option linter.unusedVariables false
theorem SZ0 : (Try.prog.info? 0).map (·.size) = some 1 := by kernel_rfl
theorem SZ1 : (Try.prog.info? 1).map (·.size) = some 1 := by kernel_rfl
theorem ZR1 : (Try.prog.info? 1).bind (·.zero) = some (.nilFunc) := by kernel_rfl
theorem SZ2 : (Try.prog.info? 2).map (·.size) = some 1 := by kernel_rfl
theorem ZR2 : (Try.prog.info? 2).bind (·.zero) = some (.int .i64 0) := by kernel_rfl
theorem SZ3 : (Try.prog.info? 3).map (·.size) = some 1 := by kernel_rfl
theorem ZR3 : (Try.prog.info? 3).bind (·.zero) = some (.int .i64 0) := by kernel_rfl
theorem SZ4 : (Try.prog.info? 4).map (·.size) = some 1 := by kernel_rfl
theorem ZR4 : (Try.prog.info? 4).bind (·.zero) = some (.bool false) := by kernel_rfl
theorem SZ5 : (Try.prog.info? 5).map (·.size) = some 1 := by kernel_rfl
theorem ZR5 : (Try.prog.info? 5).bind (·.zero) = some (.int .u8 0) := by kernel_rfl
theorem SZ6 : (Try.prog.info? 6).map (·.size) = some 1 := by kernel_rfl
theorem ZR6 : (Try.prog.info? 6).bind (·.zero) = some (.int .u8 0) := by kernel_rfl
theorem SZ7 : (Try.prog.info? 7).map (·.size) = some 4 := by kernel_rfl
theorem ZR7 : (Try.prog.info? 7).bind (·.zero) = some (.agg #[.int .i64 0, .int .i64 0, .bool false, .int .u8 0]) := by kernel_rfl
theorem SZ8 : (Try.prog.info? 8).map (·.size) = some 4 := by kernel_rfl
theorem ZR8 : (Try.prog.info? 8).bind (·.zero) = some (.agg #[.int .i64 0, .int .i64 0, .bool false, .int .u8 0]) := by kernel_rfl
theorem SZ9 : (Try.prog.info? 9).map (·.size) = some 1 := by kernel_rfl
theorem ZR9 : (Try.prog.info? 9).bind (·.zero) = some (.string ByteArray.empty) := by kernel_rfl
theorem SZ10 : (Try.prog.info? 10).map (·.size) = some 1 := by kernel_rfl
theorem ZR10 : (Try.prog.info? 10).bind (·.zero) = some (.string ByteArray.empty) := by kernel_rfl
theorem SZ11 : (Try.prog.info? 11).map (·.size) = some 1 := by kernel_rfl
theorem ZR11 : (Try.prog.info? 11).bind (·.zero) = some (.string ByteArray.empty) := by kernel_rfl
theorem SZ12 : (Try.prog.info? 12).map (·.size) = some 1 := by kernel_rfl
theorem ZR12 : (Try.prog.info? 12).bind (·.zero) = some (.int .u64 0) := by kernel_rfl
theorem SZ13 : (Try.prog.info? 13).map (·.size) = some 2 := by kernel_rfl
theorem ZR13 : (Try.prog.info? 13).bind (·.zero) = some (.agg #[.string ByteArray.empty, .int .u64 0]) := by kernel_rfl
theorem SZ14 : (Try.prog.info? 14).map (·.size) = some 2 := by kernel_rfl
theorem ZR14 : (Try.prog.info? 14).bind (·.zero) = some (.agg #[.string ByteArray.empty, .int .u64 0]) := by kernel_rfl
theorem SZ15 : (Try.prog.info? 15).map (·.size) = some 1 := by kernel_rfl
theorem ZR15 : (Try.prog.info? 15).bind (·.zero) = some (.pointer none) := by kernel_rfl
theorem SZ16 : (Try.prog.info? 16).map (·.size) = some 1 := by kernel_rfl
theorem ZR16 : (Try.prog.info? 16).bind (·.zero) = some (.pointer none) := by kernel_rfl
theorem SZ17 : (Try.prog.info? 17).map (·.size) = some 1 := by kernel_rfl
theorem ZR17 : (Try.prog.info? 17).bind (·.zero) = some (.pointer none) := by kernel_rfl
theorem SZ18 : (Try.prog.info? 18).map (·.size) = some 1 := by kernel_rfl
theorem ZR18 : (Try.prog.info? 18).bind (·.zero) = some (.agg #[.pointer none]) := by kernel_rfl
theorem SZ19 : (Try.prog.info? 19).map (·.size) = some 1 := by kernel_rfl
theorem ZR19 : (Try.prog.info? 19).bind (·.zero) = some (.agg #[.pointer none]) := by kernel_rfl
theorem SZ20 : (Try.prog.info? 20).map (·.size) = some 1 := by kernel_rfl
theorem ZR20 : (Try.prog.info? 20).bind (·.zero) = some (.nilIface) := by kernel_rfl
theorem SZ21 : (Try.prog.info? 21).map (·.size) = some 1 := by kernel_rfl
theorem ZR21 : (Try.prog.info? 21).bind (·.zero) = some (.int .i32 0) := by kernel_rfl
theorem SZ22 : (Try.prog.info? 22).map (·.size) = some 1 := by kernel_rfl
theorem ZR22 : (Try.prog.info? 22).bind (·.zero) = some (.int .u64 0) := by kernel_rfl
theorem SZ23 : (Try.prog.info? 23).map (·.size) = some 3 := by kernel_rfl
theorem ZR23 : (Try.prog.info? 23).bind (·.zero) = some (.agg #[.int .u64 0, .int .u64 0, .int .u64 0]) := by kernel_rfl
theorem SZ24 : (Try.prog.info? 24).map (·.size) = some 3 := by kernel_rfl
theorem ZR24 : (Try.prog.info? 24).bind (·.zero) = some (.agg #[.int .u64 0, .int .u64 0, .int .u64 0]) := by kernel_rfl
theorem SZ25 : (Try.prog.info? 25).map (·.size) = some 1 := by kernel_rfl
theorem ZR25 : (Try.prog.info? 25).bind (·.zero) = some (.slice none 0 0) := by kernel_rfl
theorem SZ26 : (Try.prog.info? 26).map (·.size) = some 1 := by kernel_rfl
theorem ZR26 : (Try.prog.info? 26).bind (·.zero) = some (.nilFunc) := by kernel_rfl
theorem SZ27 : (Try.prog.info? 27).map (·.size) = some 1 := by kernel_rfl
theorem ZR27 : (Try.prog.info? 27).bind (·.zero) = some (.nilFunc) := by kernel_rfl
theorem SZ28 : (Try.prog.info? 28).map (·.size) = some 3 := by kernel_rfl
theorem ZR28 : (Try.prog.info? 28).bind (·.zero) = some (.agg #[.int .u64 0, .int .u64 0, .int .u64 0]) := by kernel_rfl
theorem SZ29 : (Try.prog.info? 29).map (·.size) = some 1 := by kernel_rfl
theorem ZR29 : (Try.prog.info? 29).bind (·.zero) = some (.nilFunc) := by kernel_rfl
theorem SZ30 : (Try.prog.info? 30).map (·.size) = some 1 := by kernel_rfl
theorem ZR30 : (Try.prog.info? 30).bind (·.zero) = some (.slice none 0 0) := by kernel_rfl
theorem SZ31 : (Try.prog.info? 31).map (·.size) = some 1 := by kernel_rfl
theorem ZR31 : (Try.prog.info? 31).bind (·.zero) = some (.slice none 0 0) := by kernel_rfl
theorem SZ32 : (Try.prog.info? 32).map (·.size) = some 1 := by kernel_rfl
theorem ZR32 : (Try.prog.info? 32).bind (·.zero) = some (.nilFunc) := by kernel_rfl
theorem SZ33 : (Try.prog.info? 33).map (·.size) = some 1 := by kernel_rfl
theorem SZ34 : (Try.prog.info? 34).map (·.size) = some 1 := by kernel_rfl
theorem ZR34 : (Try.prog.info? 34).bind (·.zero) = some (.nilFunc) := by kernel_rfl
theorem SZ35 : (Try.prog.info? 35).map (·.size) = some 1 := by kernel_rfl
theorem ZR35 : (Try.prog.info? 35).bind (·.zero) = some (.nilFunc) := by kernel_rfl
theorem SZ36 : (Try.prog.info? 36).map (·.size) = some 1 := by kernel_rfl
theorem ZR36 : (Try.prog.info? 36).bind (·.zero) = some (.nilFunc) := by kernel_rfl
theorem SZ37 : (Try.prog.info? 37).map (·.size) = some 1 := by kernel_rfl
theorem ZR37 : (Try.prog.info? 37).bind (·.zero) = some (.nilFunc) := by kernel_rfl
theorem SZ38 : (Try.prog.info? 38).map (·.size) = some 1 := by kernel_rfl
theorem ZR38 : (Try.prog.info? 38).bind (·.zero) = some (.nilFunc) := by kernel_rfl
theorem SZ39 : (Try.prog.info? 39).map (·.size) = some 1 := by kernel_rfl
theorem ZR39 : (Try.prog.info? 39).bind (·.zero) = some (.nilFunc) := by kernel_rfl
theorem SZ40 : (Try.prog.info? 40).map (·.size) = some 1 := by kernel_rfl
theorem ZR40 : (Try.prog.info? 40).bind (·.zero) = some (.nilFunc) := by kernel_rfl
theorem SZ41 : (Try.prog.info? 41).map (·.size) = some 1 := by kernel_rfl
theorem ZR41 : (Try.prog.info? 41).bind (·.zero) = some (.nilFunc) := by kernel_rfl
theorem SZ42 : (Try.prog.info? 42).map (·.size) = some 1 := by kernel_rfl
theorem ZR42 : (Try.prog.info? 42).bind (·.zero) = some (.nilFunc) := by kernel_rfl
theorem SZ43 : (Try.prog.info? 43).map (·.size) = some 1 := by kernel_rfl
theorem SZ44 : (Try.prog.info? 44).map (·.size) = some 1 := by kernel_rfl
theorem ZR44 : (Try.prog.info? 44).bind (·.zero) = some (.nilFunc) := by kernel_rfl
theorem SZ45 : (Try.prog.info? 45).map (·.size) = some 1 := by kernel_rfl
theorem ZR45 : (Try.prog.info? 45).bind (·.zero) = some (.nilFunc) := by kernel_rfl
theorem SZ46 : (Try.prog.info? 46).map (·.size) = some 1 := by kernel_rfl
theorem ZR46 : (Try.prog.info? 46).bind (·.zero) = some (.nilFunc) := by kernel_rfl
theorem SZ47 : (Try.prog.info? 47).map (·.size) = some 1 := by kernel_rfl
theorem ZR47 : (Try.prog.info? 47).bind (·.zero) = some (.nilFunc) := by kernel_rfl
theorem SZ48 : (Try.prog.info? 48).map (·.size) = some 1 := by kernel_rfl
theorem ZR48 : (Try.prog.info? 48).bind (·.zero) = some (.nilFunc) := by kernel_rfl
theorem SZ49 : (Try.prog.info? 49).map (·.size) = some 1 := by kernel_rfl
theorem ZR49 : (Try.prog.info? 49).bind (·.zero) = some (.nilFunc) := by kernel_rfl
theorem SZ50 : (Try.prog.info? 50).map (·.size) = some 1 := by kernel_rfl
theorem ZR50 : (Try.prog.info? 50).bind (·.zero) = some (.nilFunc) := by kernel_rfl
theorem SZ51 : (Try.prog.info? 51).map (·.size) = some 1 := by kernel_rfl
theorem ZR51 : (Try.prog.info? 51).bind (·.zero) = some (.nilFunc) := by kernel_rfl
theorem SZ52 : (Try.prog.info? 52).map (·.size) = some 1 := by kernel_rfl
theorem ZR52 : (Try.prog.info? 52).bind (·.zero) = some (.nilFunc) := by kernel_rfl
theorem SZ53 : (Try.prog.info? 53).map (·.size) = some 4 := by kernel_rfl
theorem ZR53 : (Try.prog.info? 53).bind (·.zero) = some (.agg #[.pointer none, .pointer none, .pointer none, .string ByteArray.empty]) := by kernel_rfl
theorem SZ54 : (Try.prog.info? 54).map (·.size) = some 4 := by kernel_rfl
theorem ZR54 : (Try.prog.info? 54).bind (·.zero) = some (.agg #[.pointer none, .pointer none, .pointer none, .string ByteArray.empty]) := by kernel_rfl
theorem SZ55 : (Try.prog.info? 55).map (·.size) = some 0 := by kernel_rfl
theorem ZR55 : (Try.prog.info? 55).bind (·.zero) = some (.agg #[]) := by kernel_rfl
theorem SZ56 : (Try.prog.info? 56).map (·.size) = some 0 := by kernel_rfl
theorem ZR56 : (Try.prog.info? 56).bind (·.zero) = some (.agg #[]) := by kernel_rfl
theorem SZ57 : (Try.prog.info? 57).map (·.size) = some 0 := by kernel_rfl
theorem ZR57 : (Try.prog.info? 57).bind (·.zero) = some (.agg #[]) := by kernel_rfl
theorem SZ58 : (Try.prog.info? 58).map (·.size) = some 1 := by kernel_rfl
theorem ZR58 : (Try.prog.info? 58).bind (·.zero) = some (.nilFunc) := by kernel_rfl
theorem SZ59 : (Try.prog.info? 59).map (·.size) = some 1 := by kernel_rfl
theorem ZR59 : (Try.prog.info? 59).bind (·.zero) = some (.int .u32 0) := by kernel_rfl
theorem SZ60 : (Try.prog.info? 60).map (·.size) = some 1 := by kernel_rfl
theorem ZR60 : (Try.prog.info? 60).bind (·.zero) = some (.int .u8 0) := by kernel_rfl
theorem SZ61 : (Try.prog.info? 61).map (·.size) = some 1 := by kernel_rfl
theorem ZR61 : (Try.prog.info? 61).bind (·.zero) = some (.int .u8 0) := by kernel_rfl
theorem SZ62 : (Try.prog.info? 62).map (·.size) = some 1 := by kernel_rfl
theorem ZR62 : (Try.prog.info? 62).bind (·.zero) = some (.nilFunc) := by kernel_rfl
theorem SZ63 : (Try.prog.info? 63).map (·.size) = some 1 := by kernel_rfl
theorem ZR63 : (Try.prog.info? 63).bind (·.zero) = some (.pointer none) := by kernel_rfl
theorem SZ64 : (Try.prog.info? 64).map (·.size) = some 1 := by kernel_rfl
theorem ZR64 : (Try.prog.info? 64).bind (·.zero) = some (.int .i32 0) := by kernel_rfl
theorem SZ65 : (Try.prog.info? 65).map (·.size) = some 1 := by kernel_rfl
theorem ZR65 : (Try.prog.info? 65).bind (·.zero) = some (.int .i32 0) := by kernel_rfl
theorem SZ66 : (Try.prog.info? 66).map (·.size) = some 11 := by kernel_rfl
theorem ZR66 : (Try.prog.info? 66).bind (·.zero) = some (.agg #[.int .u64 0, .int .u64 0, .int .u32 0, .int .u8 0, .int .u8 0, .int .u8 0, .int .u8 0, .nilFunc, .pointer none, .int .i32 0, .int .i32 0]) := by kernel_rfl
theorem SZ67 : (Try.prog.info? 67).map (·.size) = some 11 := by kernel_rfl
theorem ZR67 : (Try.prog.info? 67).bind (·.zero) = some (.agg #[.int .u64 0, .int .u64 0, .int .u32 0, .int .u8 0, .int .u8 0, .int .u8 0, .int .u8 0, .nilFunc, .pointer none, .int .i32 0, .int .i32 0]) := by kernel_rfl
theorem SZ68 : (Try.prog.info? 68).map (·.size) = some 1 := by kernel_rfl
theorem ZR68 : (Try.prog.info? 68).bind (·.zero) = some (.pointer none) := by kernel_rfl
end Go.Eng
