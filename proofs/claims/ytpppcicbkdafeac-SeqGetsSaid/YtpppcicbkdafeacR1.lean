/- Own text, written by an own program: R1. -/
import Derived.Test.YtpppcicbkdafeacP10
import Derived.Test.YtpppcicbkdafeacEK
namespace Go.Eng
open Go.Proofs Go.RowKit Go.Proofs.YtpppcicbkdafeacW.PrintWords Go.Proofs.Ytpppcicbkdafeac.GSeq
set_option linter.unusedVariables false
set_option linter.unusedSimpArgs false
set_option maxRecDepth 100000 in
set_option maxHeartbeats 4000000 in
theorem rdo_get (A : Option Addr) (c : Nat) (l : List S52) (o1 o2 o3 o4 : Int) (hs : Srt l) (hl : l.length ≤ 1000)  (w0 : World) (H : List Nat) : Con Try.prog 12 #[.slice A (l.map old).length c, .agg #[.int .i64 1, .int .u64 o1, .int .u64 o2, .int .i64 o3, .int .i64 o4]] w0 H [.f (KC k62 A c (l.map old))] (fun X => ∀ A1 c1 A2 c2, X (.tuple #[.slice A1 (l.map old).length c1, .agg #[.bool (getM l o1).1, .bool (getM l o1).2.1, .int .u64 (getM l o1).2.2.1, .slice A2 (getM l o1).2.2.2.length c2]]) [.f (KC k62 A1 c1 (l.map old)), .f (KC (Kd.int .u64) A2 c2 (getM l o1).2.2.2)]) := by
  refine con_enter (c := bodyOf Try.f12) Try.func12 rfl (m := 112) rfl rfl rfl ?_
  intro X hX _
  refine c_seq rfl ?_
  refine r_ord (l := [0, 1, 2]) rfl (by kernel_rfl) (by kernel_rfl) ?_
  refine s_e rfl rfl (e_box rfl rfl rfl rfl) ?_
  intro b1_
  refine s_v rfl rfl rfl rfl (v_assign rfl rfl) ?_
  refine s_e rfl rfl (e_alloc rfl rfl rfl ZR34) ?_
  intro b2_
  refine s_end ?_
  refine q_seq ?_
  refine c_seq rfl ?_
  refine c_seq rfl ?_
  refine r_ord (l := [0, 1]) rfl (by kernel_rfl) (by kernel_rfl) ?_
  refine s_v rfl rfl rfl rfl (v_fa rfl Try.underlying31 rfl SZ3 rfl) ?_
  refine s_v rfl rfl rfl rfl (v_ld 1 rfl Try.underlying3 rfl rfl rfl rfl) ?_
  refine s_end ?_
  refine q_seq ?_
  refine c_block rfl ?_
  refine c_seq rfl ?_
  refine r_ord (l := [0, 1]) rfl (by kernel_rfl) (by kernel_rfl) ?_
  refine s_v rfl rfl rfl rfl (v_arith rfl rfl rfl rfl) ?_
  refine s_v rfl rfl rfl rfl (v_assign rfl rfl) ?_
  refine s_end ?_
  refine q_seq ?_
  refine c_cond1 rfl rfl ?_
  refine c_seq rfl ?_
  refine r_ord (l := [0, 1, 2, 3, 4, 5, 6]) rfl (by kernel_rfl) (by kernel_rfl) ?_
  refine s_v rfl rfl rfl rfl (v_move rfl rfl) ?_
  refine s_v rfl rfl rfl rfl (v_move rfl rfl) ?_
  refine s_v rfl rfl rfl rfl (v_fa rfl Try.underlying31 rfl SZ29 rfl) ?_
  refine s_v rfl rfl rfl rfl (v_ld 1 rfl Try.underlying29 rfl rfl rfl rfl) ?_
  refine s_e rfl rfl (e_callK (fun z : Option Addr × Nat => .agg #[.bool ((getM l o1).1), .bool ((getM l o1).2.1), .int .u64 ((getM l o1).2.2.1), .slice z.1 (((getM l o1).2.2.2).length) z.2]) (fun z => [KC (Kd.int .u64) z.1 z.2 ((getM l o1).2.2.2)]) #[.slice A ((l.map old).length) c, .int .u64 o1] rfl rfl rfl rfl rfl Try.func26 rfl (by decide) rfl rfl (fun w ht => stepstoneref07_get.con 5000 _ _ (l.map old) o1 _ _ _ _ (refGet_f l o1 hl 5000 (by omega)) w (Tri.fact ht 2 rfl))) ?_
  intro z3_
  refine s_v rfl rfl rfl rfl (v_assign rfl rfl) ?_
  refine s_e rfl rfl (e_stA 1 rfl rfl SZ34 rfl rfl rfl rfl rfl rfl) ?_
  refine s_end ?_
  refine q_seq ?_
  refine c_ret rfl ?_
  refine q_block_ret ?_
  refine q_then_ret ?_
  exact q_ret (vs := [.slice A ((l.map old).length) c, .agg #[.bool ((getM l o1).1), .bool ((getM l o1).2.1), .int .u64 ((getM l o1).2.2.1), .slice z3_.1 (((getM l o1).2.2.2).length) z3_.2]]) rfl (.tmp rfl (.agg [.bool ((getM l o1).1), .bool ((getM l o1).2.1), .int .u64 ((getM l o1).2.2.1), .slice z3_.1 (((getM l o1).2.2.2).length) z3_.2] 1 rfl Try.underlying34 rfl SZ34 rfl rfl rfl .nil)) [3, 0] rfl (by decide) (hX _ _ _ _)
set_option maxRecDepth 100000 in
set_option maxHeartbeats 4000000 in
theorem rdo_put (A : Option Addr) (c : Nat) (l : List S52) (o1 o2 o3 o4 : Int) (hs : Srt l) (hl : l.length ≤ 1000)  (w0 : World) (H : List Nat) : Con Try.prog 12 #[.slice A (l.map old).length c, .agg #[.int .i64 2, .int .u64 o1, .int .u64 o2, .int .i64 o3, .int .i64 o4]] w0 H [.f (KC k62 A c (l.map old))] (fun X => ∀ A1 c1 A2 c2, X (.tuple #[.slice A1 ((ins l o1 o2).map old).length c1, .agg #[.bool (getM l o1).1, .bool (getM l o1).2.1, .int .u64 (getM l o1).2.2.1, .slice A2 (getM l o1).2.2.2.length c2]]) [.f (KC k62 A1 c1 ((ins l o1 o2).map old)), .f (KC (Kd.int .u64) A2 c2 (getM l o1).2.2.2)]) := by
  refine con_enter (c := bodyOf Try.f12) Try.func12 rfl (m := 112) rfl rfl rfl ?_
  intro X hX _
  refine c_seq rfl ?_
  refine r_ord (l := [0, 1, 2]) rfl (by kernel_rfl) (by kernel_rfl) ?_
  refine s_e rfl rfl (e_box rfl rfl rfl rfl) ?_
  intro b1_
  refine s_v rfl rfl rfl rfl (v_assign rfl rfl) ?_
  refine s_e rfl rfl (e_alloc rfl rfl rfl ZR34) ?_
  intro b2_
  refine s_end ?_
  refine q_seq ?_
  refine c_seq rfl ?_
  refine c_seq rfl ?_
  refine r_ord (l := [0, 1]) rfl (by kernel_rfl) (by kernel_rfl) ?_
  refine s_v rfl rfl rfl rfl (v_fa rfl Try.underlying31 rfl SZ3 rfl) ?_
  refine s_v rfl rfl rfl rfl (v_ld 1 rfl Try.underlying3 rfl rfl rfl rfl) ?_
  refine s_end ?_
  refine q_seq ?_
  refine c_block rfl ?_
  refine c_seq rfl ?_
  refine r_ord (l := [0, 1]) rfl (by kernel_rfl) (by kernel_rfl) ?_
  refine s_v rfl rfl rfl rfl (v_arith rfl rfl rfl rfl) ?_
  refine s_v rfl rfl rfl rfl (v_assign rfl rfl) ?_
  refine s_end ?_
  refine q_seq ?_
  refine c_cond0 rfl rfl ?_
  refine c_seq rfl ?_
  refine r_ord (l := [0, 1]) rfl (by kernel_rfl) (by kernel_rfl) ?_
  refine s_v rfl rfl rfl rfl (v_arith rfl rfl rfl rfl) ?_
  refine s_v rfl rfl rfl rfl (v_assign rfl rfl) ?_
  refine s_end ?_
  refine q_seq ?_
  refine c_cond1 rfl rfl ?_
  refine c_seq rfl ?_
  refine r_any [.b b1_ (.cells #[.int .i64 2, .int .u64 o1, .int .u64 o2, .int .i64 o3, .int .i64 o4] 31 (0, 0)), .f (KC k62 A c (l.map old))] (by kernel_rfl) rfl (by kernel_rfl) (mem_pick (idx := [1, 2]) rfl) ?_
  refine a_v 0 rfl (by kernel_rfl) (by kernel_rfl) (by kernel_rfl) rfl rfl rfl (v_move rfl rfl) ?_
  refine a_v 1 rfl (by kernel_rfl) (by kernel_rfl) (by kernel_rfl) rfl rfl rfl (v_fa rfl Try.underlying31 rfl SZ29 rfl) ?_
  refine a_v 2 rfl (by kernel_rfl) (by kernel_rfl) (by kernel_rfl) rfl rfl rfl (v_ld 0 rfl Try.underlying29 rfl rfl rfl rfl) ?_
  refine a_v 3 rfl (by kernel_rfl) (by kernel_rfl) (by kernel_rfl) rfl rfl rfl (v_fa rfl Try.underlying31 rfl SZ29 rfl) ?_
  refine a_v 4 rfl (by kernel_rfl) (by kernel_rfl) (by kernel_rfl) rfl rfl rfl (v_ld 0 rfl Try.underlying29 rfl rfl rfl rfl) ?_
  refine a_v 5 rfl (by kernel_rfl) (by kernel_rfl) (by kernel_rfl) rfl rfl rfl (v_build (places := #[(0, 1), (1, 1)]) #[.int .u64 o1, .int .u64 o2] rfl ZR62 Try.underlying62 (by kernel_rfl) rfl rfl) ?_
  refine a_v 7 rfl (by kernel_rfl) (by kernel_rfl) (by kernel_rfl) rfl rfl rfl (v_move rfl rfl) ?_
  refine a_v 8 rfl (by kernel_rfl) (by kernel_rfl) (by kernel_rfl) rfl rfl rfl (v_fa rfl Try.underlying31 rfl SZ29 rfl) ?_
  refine a_v 9 rfl (by kernel_rfl) (by kernel_rfl) (by kernel_rfl) rfl rfl rfl (v_ld 0 rfl Try.underlying29 rfl rfl rfl rfl) ?_
  refine a_1 (i := 6) (by kernel_rfl) ?_
  refine i_e rfl rfl (e_callK (fun z : Option Addr × Nat => .slice z.1 (((ins l o1 o2).map old).length) z.2) (fun z => [KC k62 z.1 z.2 ((ins l o1 o2).map old)]) #[.slice A ((l.map old).length) c, .agg #[.int .u64 o1, .int .u64 o2]] rfl rfl rfl rfl rfl Try.func27 rfl (by decide) rfl rfl (fun w ht => stepstoneref07_With.con 5000 _ _ (l.map old) o1 o2 _ (refWith_f l o1 o2 hs hl 5000 (by omega)) w (Tri.fact ht 2 rfl))) ?_
  intro z3_
  refine ⟨(mem_pick (idx := [2, 3]) rfl), ?_⟩
  refine a_1 (i := 10) (by kernel_rfl) ?_
  refine i_e rfl rfl (e_callK (fun z : Option Addr × Nat => .agg #[.bool ((getM l o1).1), .bool ((getM l o1).2.1), .int .u64 ((getM l o1).2.2.1), .slice z.1 (((getM l o1).2.2.2).length) z.2]) (fun z => [KC (Kd.int .u64) z.1 z.2 ((getM l o1).2.2.2)]) #[.slice A ((l.map old).length) c, .int .u64 o1] rfl rfl rfl rfl rfl Try.func26 rfl (by decide) rfl rfl (fun w ht => stepstoneref07_get.con 5000 _ _ (l.map old) o1 _ _ _ _ (refGet_f l o1 hl 5000 (by omega)) w (Tri.fact ht 3 rfl))) ?_
  intro z4_
  refine ⟨(mem_pick (idx := [3, 4]) rfl), ?_⟩
  refine a_v 11 rfl (by kernel_rfl) (by kernel_rfl) (by kernel_rfl) rfl rfl rfl (v_assign rfl rfl) ?_
  refine a_1 (i := 12) (by kernel_rfl) ?_
  refine i_e rfl rfl (e_stA 2 rfl rfl SZ34 rfl rfl rfl rfl rfl rfl) ?_
  refine ⟨(mem_pick (idx := [3, 4]) rfl), ?_⟩
  refine a_end (by kernel_rfl) ?_
  refine q_seq ?_
  refine c_ret rfl ?_
  refine q_block_ret ?_
  refine q_then_ret ?_
  exact q_ret (vs := [.slice z3_.1 (((ins l o1 o2).map old).length) z3_.2, .agg #[.bool ((getM l o1).1), .bool ((getM l o1).2.1), .int .u64 ((getM l o1).2.2.1), .slice z4_.1 (((getM l o1).2.2.2).length) z4_.2]]) rfl (.tmp rfl (.agg [.bool ((getM l o1).1), .bool ((getM l o1).2.1), .int .u64 ((getM l o1).2.2.1), .slice z4_.1 (((getM l o1).2.2.2).length) z4_.2] 2 rfl Try.underlying34 rfl SZ34 rfl rfl rfl .nil)) [1, 0] rfl (by decide) (hX _ _ _ _)
set_option maxRecDepth 100000 in
set_option maxHeartbeats 4000000 in
theorem rdo_delete (A : Option Addr) (c : Nat) (l : List S52) (o1 o2 o3 o4 : Int) (hs : Srt l) (hl : l.length ≤ 1000)  (w0 : World) (H : List Nat) : Con Try.prog 12 #[.slice A (l.map old).length c, .agg #[.int .i64 3, .int .u64 o1, .int .u64 o2, .int .i64 o3, .int .i64 o4]] w0 H [.f (KC k62 A c (l.map old))] (fun X => ∀ A1 c1 A2 c2, X (.tuple #[.slice A1 ((del l o1).map old).length c1, .agg #[.bool (getM l o1).1, .bool (getM l o1).2.1, .int .u64 (getM l o1).2.2.1, .slice A2 (getM l o1).2.2.2.length c2]]) [.f (KC k62 A1 c1 ((del l o1).map old)), .f (KC (Kd.int .u64) A2 c2 (getM l o1).2.2.2)]) := by
  refine con_enter (c := bodyOf Try.f12) Try.func12 rfl (m := 112) rfl rfl rfl ?_
  intro X hX _
  refine c_seq rfl ?_
  refine r_ord (l := [0, 1, 2]) rfl (by kernel_rfl) (by kernel_rfl) ?_
  refine s_e rfl rfl (e_box rfl rfl rfl rfl) ?_
  intro b1_
  refine s_v rfl rfl rfl rfl (v_assign rfl rfl) ?_
  refine s_e rfl rfl (e_alloc rfl rfl rfl ZR34) ?_
  intro b2_
  refine s_end ?_
  refine q_seq ?_
  refine c_seq rfl ?_
  refine c_seq rfl ?_
  refine r_ord (l := [0, 1]) rfl (by kernel_rfl) (by kernel_rfl) ?_
  refine s_v rfl rfl rfl rfl (v_fa rfl Try.underlying31 rfl SZ3 rfl) ?_
  refine s_v rfl rfl rfl rfl (v_ld 1 rfl Try.underlying3 rfl rfl rfl rfl) ?_
  refine s_end ?_
  refine q_seq ?_
  refine c_block rfl ?_
  refine c_seq rfl ?_
  refine r_ord (l := [0, 1]) rfl (by kernel_rfl) (by kernel_rfl) ?_
  refine s_v rfl rfl rfl rfl (v_arith rfl rfl rfl rfl) ?_
  refine s_v rfl rfl rfl rfl (v_assign rfl rfl) ?_
  refine s_end ?_
  refine q_seq ?_
  refine c_cond0 rfl rfl ?_
  refine c_seq rfl ?_
  refine r_ord (l := [0, 1]) rfl (by kernel_rfl) (by kernel_rfl) ?_
  refine s_v rfl rfl rfl rfl (v_arith rfl rfl rfl rfl) ?_
  refine s_v rfl rfl rfl rfl (v_assign rfl rfl) ?_
  refine s_end ?_
  refine q_seq ?_
  refine c_cond0 rfl rfl ?_
  refine c_seq rfl ?_
  refine r_ord (l := [0, 1]) rfl (by kernel_rfl) (by kernel_rfl) ?_
  refine s_v rfl rfl rfl rfl (v_arith rfl rfl rfl rfl) ?_
  refine s_v rfl rfl rfl rfl (v_assign rfl rfl) ?_
  refine s_end ?_
  refine q_seq ?_
  refine c_cond1 rfl rfl ?_
  refine c_seq rfl ?_
  refine r_any [.b b1_ (.cells #[.int .i64 3, .int .u64 o1, .int .u64 o2, .int .i64 o3, .int .i64 o4] 31 (0, 0)), .f (KC k62 A c (l.map old))] (by kernel_rfl) rfl (by kernel_rfl) (mem_pick (idx := [1, 2]) rfl) ?_
  refine a_v 0 rfl (by kernel_rfl) (by kernel_rfl) (by kernel_rfl) rfl rfl rfl (v_move rfl rfl) ?_
  refine a_v 1 rfl (by kernel_rfl) (by kernel_rfl) (by kernel_rfl) rfl rfl rfl (v_fa rfl Try.underlying31 rfl SZ29 rfl) ?_
  refine a_v 2 rfl (by kernel_rfl) (by kernel_rfl) (by kernel_rfl) rfl rfl rfl (v_ld 0 rfl Try.underlying29 rfl rfl rfl rfl) ?_
  refine a_v 4 rfl (by kernel_rfl) (by kernel_rfl) (by kernel_rfl) rfl rfl rfl (v_move rfl rfl) ?_
  refine a_v 5 rfl (by kernel_rfl) (by kernel_rfl) (by kernel_rfl) rfl rfl rfl (v_fa rfl Try.underlying31 rfl SZ29 rfl) ?_
  refine a_v 6 rfl (by kernel_rfl) (by kernel_rfl) (by kernel_rfl) rfl rfl rfl (v_ld 0 rfl Try.underlying29 rfl rfl rfl rfl) ?_
  refine a_1 (i := 3) (by kernel_rfl) ?_
  refine i_e rfl rfl (e_callK (fun z : Option Addr × Nat => .slice z.1 (((del l o1).map old).length) z.2) (fun z => [KC k62 z.1 z.2 ((del l o1).map old)]) #[.slice A ((l.map old).length) c, .int .u64 o1] rfl rfl rfl rfl rfl Try.func28 rfl (by decide) rfl rfl (fun w ht => stepstoneref07_Without.con 5000 _ _ (l.map old) o1 _ (refWithout_f l o1 hl 5000 (by omega)) w (Tri.fact ht 2 rfl))) ?_
  intro z3_
  refine ⟨(mem_pick (idx := [2, 3]) rfl), ?_⟩
  refine a_1 (i := 7) (by kernel_rfl) ?_
  refine i_e rfl rfl (e_callK (fun z : Option Addr × Nat => .agg #[.bool ((getM l o1).1), .bool ((getM l o1).2.1), .int .u64 ((getM l o1).2.2.1), .slice z.1 (((getM l o1).2.2.2).length) z.2]) (fun z => [KC (Kd.int .u64) z.1 z.2 ((getM l o1).2.2.2)]) #[.slice A ((l.map old).length) c, .int .u64 o1] rfl rfl rfl rfl rfl Try.func26 rfl (by decide) rfl rfl (fun w ht => stepstoneref07_get.con 5000 _ _ (l.map old) o1 _ _ _ _ (refGet_f l o1 hl 5000 (by omega)) w (Tri.fact ht 3 rfl))) ?_
  intro z4_
  refine ⟨(mem_pick (idx := [3, 4]) rfl), ?_⟩
  refine a_v 8 rfl (by kernel_rfl) (by kernel_rfl) (by kernel_rfl) rfl rfl rfl (v_assign rfl rfl) ?_
  refine a_1 (i := 9) (by kernel_rfl) ?_
  refine i_e rfl rfl (e_stA 2 rfl rfl SZ34 rfl rfl rfl rfl rfl rfl) ?_
  refine ⟨(mem_pick (idx := [3, 4]) rfl), ?_⟩
  refine a_end (by kernel_rfl) ?_
  refine q_seq ?_
  refine c_ret rfl ?_
  refine q_block_ret ?_
  refine q_then_ret ?_
  exact q_ret (vs := [.slice z3_.1 (((del l o1).map old).length) z3_.2, .agg #[.bool ((getM l o1).1), .bool ((getM l o1).2.1), .int .u64 ((getM l o1).2.2.1), .slice z4_.1 (((getM l o1).2.2.2).length) z4_.2]]) rfl (.tmp rfl (.agg [.bool ((getM l o1).1), .bool ((getM l o1).2.1), .int .u64 ((getM l o1).2.2.1), .slice z4_.1 (((getM l o1).2.2.2).length) z4_.2] 2 rfl Try.underlying34 rfl SZ34 rfl rfl rfl .nil)) [1, 0] rfl (by decide) (hX _ _ _ _)
set_option maxRecDepth 100000 in
set_option maxHeartbeats 4000000 in
theorem rdo_ceiling (A : Option Addr) (c : Nat) (l : List S52) (o1 o2 o3 o4 : Int) (hs : Srt l) (hl : l.length ≤ 1000)  (w0 : World) (H : List Nat) : Con Try.prog 12 #[.slice A (l.map old).length c, .agg #[.int .i64 4, .int .u64 o1, .int .u64 o2, .int .i64 o3, .int .i64 o4]] w0 H [.f (KC k62 A c (l.map old))] (fun X => ∀ A1 c1 A2 c2, X (.tuple #[.slice A1 (l.map old).length c1, .agg #[.bool (ceilM l o1).1, .bool (ceilM l o1).2.1, .int .u64 (ceilM l o1).2.2.1, .slice A2 (ceilM l o1).2.2.2.length c2]]) [.f (KC k62 A1 c1 (l.map old)), .f (KC (Kd.int .u64) A2 c2 (ceilM l o1).2.2.2)]) := by
  refine con_enter (c := bodyOf Try.f12) Try.func12 rfl (m := 112) rfl rfl rfl ?_
  intro X hX _
  refine c_seq rfl ?_
  refine r_ord (l := [0, 1, 2]) rfl (by kernel_rfl) (by kernel_rfl) ?_
  refine s_e rfl rfl (e_box rfl rfl rfl rfl) ?_
  intro b1_
  refine s_v rfl rfl rfl rfl (v_assign rfl rfl) ?_
  refine s_e rfl rfl (e_alloc rfl rfl rfl ZR34) ?_
  intro b2_
  refine s_end ?_
  refine q_seq ?_
  refine c_seq rfl ?_
  refine c_seq rfl ?_
  refine r_ord (l := [0, 1]) rfl (by kernel_rfl) (by kernel_rfl) ?_
  refine s_v rfl rfl rfl rfl (v_fa rfl Try.underlying31 rfl SZ3 rfl) ?_
  refine s_v rfl rfl rfl rfl (v_ld 1 rfl Try.underlying3 rfl rfl rfl rfl) ?_
  refine s_end ?_
  refine q_seq ?_
  refine c_block rfl ?_
  refine c_seq rfl ?_
  refine r_ord (l := [0, 1]) rfl (by kernel_rfl) (by kernel_rfl) ?_
  refine s_v rfl rfl rfl rfl (v_arith rfl rfl rfl rfl) ?_
  refine s_v rfl rfl rfl rfl (v_assign rfl rfl) ?_
  refine s_end ?_
  refine q_seq ?_
  refine c_cond0 rfl rfl ?_
  refine c_seq rfl ?_
  refine r_ord (l := [0, 1]) rfl (by kernel_rfl) (by kernel_rfl) ?_
  refine s_v rfl rfl rfl rfl (v_arith rfl rfl rfl rfl) ?_
  refine s_v rfl rfl rfl rfl (v_assign rfl rfl) ?_
  refine s_end ?_
  refine q_seq ?_
  refine c_cond0 rfl rfl ?_
  refine c_seq rfl ?_
  refine r_ord (l := [0, 1]) rfl (by kernel_rfl) (by kernel_rfl) ?_
  refine s_v rfl rfl rfl rfl (v_arith rfl rfl rfl rfl) ?_
  refine s_v rfl rfl rfl rfl (v_assign rfl rfl) ?_
  refine s_end ?_
  refine q_seq ?_
  refine c_cond0 rfl rfl ?_
  refine c_seq rfl ?_
  refine r_ord (l := [0, 1]) rfl (by kernel_rfl) (by kernel_rfl) ?_
  refine s_v rfl rfl rfl rfl (v_arith rfl rfl rfl rfl) ?_
  refine s_v rfl rfl rfl rfl (v_assign rfl rfl) ?_
  refine s_end ?_
  refine q_seq ?_
  refine c_cond1 rfl rfl ?_
  refine c_seq rfl ?_
  refine r_ord (l := [0]) rfl (by kernel_rfl) (by kernel_rfl) ?_
  refine s_v rfl rfl rfl rfl (v_assign rfl rfl) ?_
  refine s_end ?_
  refine q_seq ?_
  refine c_block rfl ?_
  have hz : kf (l.take 0) o1 = [] := rfl
  refine c_loop (σ := Nat) (fun i => i ≤ l.length ∧ kf (l.take i) o1 = []) (fun i => l.length - i) (fun i => [(0, .slice A ((l.map old).length) c), (3, .pointer (some ⟨b1_, 0, none⟩)), (4, .slice none 0 0), (5, .pointer (some ⟨b2_, 0, none⟩)), (6, .int .i64 ((i : Nat) : Int))]) (fun i => [.b b1_ (.cells #[.int .i64 4, .int .u64 o1, .int .u64 o2, .int .i64 o3, .int .i64 o4] 31 (0, 0)), .b b2_ (.cells #[.bool false, .bool false, .int .u64 0, .slice none 0 0] 34 (0, 0)), .f (KC k62 A c (l.map old))]) 0 [1, 0, 2] rfl ⟨Nat.zero_le _, hz⟩ (subF_spec ⟨rfl, rfl, rfl, rfl, rfl, trivial⟩) rfl (by decide) ?_
  rintro i hs
  have hs_ := hs
  refine c_seq rfl ?_
  refine c_seq rfl ?_
  refine r_ord (l := [0, 1, 2, 3]) rfl (by kernel_rfl) (by kernel_rfl) ?_
  refine s_v rfl rfl rfl rfl (v_move rfl rfl) ?_
  refine s_v rfl rfl rfl rfl (v_move rfl rfl) ?_
  refine s_v rfl rfl rfl rfl (v_len rfl rfl rfl Try.underlying28 rfl rfl) ?_
  refine s_v rfl rfl rfl rfl (v_arith rfl rfl rfl rfl) ?_
  refine s_end ?_
  refine q_seq ?_
  refine c_cond (t := decide ((((i : Nat) : Int) : Int) < ((l.map old).length : Nat))) rfl rfl (fun h3_ => ?_) (fun h3_ => ?_)
  ·
    have h3_d := of_decide_eq_true h3_
    have hil : i < l.length := by rw [List.length_map] at h3_d; omega
    refine c_skip rfl ?_
    refine q_seq ?_
    refine c_seq rfl ?_
    refine c_block rfl ?_
    refine c_seq rfl ?_
    refine r_any [.b b1_ (.cells #[.int .i64 4, .int .u64 o1, .int .u64 o2, .int .i64 o3, .int .i64 o4] 31 (0, 0)), .b b2_ (.cells #[.bool false, .bool false, .int .u64 0, .slice none 0 0] 34 (0, 0)), .f (KC k62 A c (l.map old))] (by kernel_rfl) rfl (by kernel_rfl) (mem_pick (idx := [0, 1, 2]) rfl) ?_
    refine a_v 0 rfl (by kernel_rfl) (by kernel_rfl) (by kernel_rfl) rfl rfl rfl (v_move rfl rfl) ?_
    refine a_v 1 rfl (by kernel_rfl) (by kernel_rfl) (by kernel_rfl) rfl rfl rfl (v_move rfl rfl) ?_
    refine a_v 2 rfl (by kernel_rfl) (by kernel_rfl) (by kernel_rfl) rfl rfl rfl (v_iaK (i := 2) rfl Try.underlying28 SZ62 rfl rfl rfl rfl (by omega) (by rw [List.length_map]; omega)) ?_
    refine a_v 3 rfl (by kernel_rfl) (by kernel_rfl) (by kernel_rfl) rfl rfl rfl (v_fax rfl Try.underlying62 rfl SZ29 rfl) ?_
    refine a_v 4 rfl (by kernel_rfl) (by kernel_rfl) (by kernel_rfl) rfl rfl rfl (v_ldKf (v := .int .u64 ((rd_T62 (l.map old) ((i : Nat) : Int)).f0)) z62 [.int .u64 ((rd_T62 (l.map old) ((i : Nat) : Int)).f0), .int .u64 ((rd_T62 (l.map old) ((i : Nat) : Int)).f1)] 2 rfl Try.underlying29 rfl rfl rfl rfl (by omega) (by rw [List.length_map]; omega) (fun w K h => k62_open h) rfl) ?_
    refine a_v 5 rfl (by kernel_rfl) (by kernel_rfl) (by kernel_rfl) rfl rfl rfl (v_fa rfl Try.underlying31 rfl SZ29 rfl) ?_
    refine a_v 6 rfl (by kernel_rfl) (by kernel_rfl) (by kernel_rfl) rfl rfl rfl (v_ld 0 rfl Try.underlying29 rfl rfl rfl rfl) ?_
    refine a_v 7 rfl (by kernel_rfl) (by kernel_rfl) (by kernel_rfl) rfl rfl rfl (v_arith rfl rfl rfl rfl) ?_
    refine a_end (by kernel_rfl) ?_
    refine q_seq ?_
    refine c_cond (t := decide (((rd_T62 (l.map old) ((i : Nat) : Int)).f0 : Int) ≥ o1)) rfl rfl (fun h4_ => ?_) (fun h4_ => ?_)
    ·
      have h4_d := of_decide_eq_true h4_
      rw [rdo hil] at h4_d
      have hcm := kf_hit hil hs_.2 h4_d
      refine c_seq rfl ?_
      refine r_any [.b b1_ (.cells #[.int .i64 4, .int .u64 o1, .int .u64 o2, .int .i64 o3, .int .i64 o4] 31 (0, 0)), .f (KC k62 A c (l.map old))] (by kernel_rfl) rfl (by kernel_rfl) (mem_pick (idx := [0, 2]) rfl) ?_
      refine a_v 0 rfl (by kernel_rfl) (by kernel_rfl) (by kernel_rfl) rfl rfl rfl (v_move rfl rfl) ?_
      refine a_v 1 rfl (by kernel_rfl) (by kernel_rfl) (by kernel_rfl) rfl rfl rfl (v_move rfl rfl) ?_
      refine a_v 2 rfl (by kernel_rfl) (by kernel_rfl) (by kernel_rfl) rfl rfl rfl (v_move rfl rfl) ?_
      refine a_v 3 rfl (by kernel_rfl) (by kernel_rfl) (by kernel_rfl) rfl rfl rfl (v_iaK (i := 1) rfl Try.underlying28 SZ62 rfl rfl rfl rfl (by omega) (by rw [List.length_map]; omega)) ?_
      refine a_v 4 rfl (by kernel_rfl) (by kernel_rfl) (by kernel_rfl) rfl rfl rfl (v_fax rfl Try.underlying62 rfl SZ29 rfl) ?_
      refine a_v 5 rfl (by kernel_rfl) (by kernel_rfl) (by kernel_rfl) rfl rfl rfl (v_ldKf (v := .int .u64 ((rd_T62 (l.map old) ((i : Nat) : Int)).f0)) z62 [.int .u64 ((rd_T62 (l.map old) ((i : Nat) : Int)).f0), .int .u64 ((rd_T62 (l.map old) ((i : Nat) : Int)).f1)] 1 rfl Try.underlying29 rfl rfl rfl rfl (by omega) (by rw [List.length_map]; omega) (fun w K h => k62_open h) rfl) ?_
      refine a_v 6 rfl (by kernel_rfl) (by kernel_rfl) (by kernel_rfl) rfl rfl rfl (v_build (places := #[(0, 1), (1, 1), (2, 1), (3, 1)]) #[.bool false, .bool true, .int .u64 ((rd_T62 (l.map old) ((i : Nat) : Int)).f0), .slice none 0 0] rfl ZR34 Try.underlying34 (by kernel_rfl) rfl rfl) ?_
      refine a_v 7 rfl (by kernel_rfl) (by kernel_rfl) (by kernel_rfl) rfl rfl rfl (v_assign rfl rfl) ?_
      refine a_1 (i := 8) (by kernel_rfl) ?_
      refine i_e rfl rfl (e_stA 1 rfl rfl SZ34 rfl rfl rfl rfl rfl rfl) ?_
      refine ⟨(mem_pick (idx := [0, 2]) rfl), ?_⟩
      refine a_end (by kernel_rfl) ?_
      refine q_seq ?_
      refine c_ret rfl ?_
      refine q_block_ret ?_
      refine q_then_ret ?_
      refine q_then_ret ?_
      refine q_block_ret ?_
      refine q_block_ret ?_
      refine q_then_ret ?_
      refine q_know (KC_nil (Kd.int .u64)) ?_
      exact q_ret (vs := [.slice A ((l.map old).length) c, .agg #[.bool false, .bool true, .int .u64 ((rd_T62 (l.map old) ((i : Nat) : Int)).f0), .slice none 0 0]]) rfl (.tmp rfl (.agg [.bool false, .bool true, .int .u64 ((rd_T62 (l.map old) ((i : Nat) : Int)).f0), .slice none 0 0] 2 rfl Try.underlying34 rfl SZ34 rfl rfl rfl .nil)) [3, 0] rfl (by decide) (by have h_ := hX A c none 0; rw [hcm, ← rdo hil] at h_; exact h_)
    ·
      have h4_d := of_decide_eq_false h4_
      rw [rdo hil] at h4_d
      have hge : ¬ o1 ≤ (l[i]).f0 := h4_d
      refine c_skip rfl ?_
      refine q_block ?_
      refine q_seq ?_
      refine r_ord (l := [0, 1, 2]) rfl (by kernel_rfl) (by kernel_rfl) ?_
      refine s_v rfl rfl rfl rfl (v_move rfl rfl) ?_
      refine s_v rfl rfl rfl rfl (OpV.cast (v := .int .i64 ((i + 1 : Nat) : Int)) (v_arith rfl rfl rfl rfl) (inc64 (by omega))) ?_
      refine s_v rfl rfl rfl rfl (v_assign rfl rfl) ?_
      refine s_end ?_
      exact q_again (i + 1) [0, 1, 2] ⟨by omega, by rw [kf_take hil, hs_.2, if_neg hge]; rfl⟩ (by omega) (subF_spec ⟨rfl, rfl, rfl, rfl, rfl, trivial⟩) rfl (by decide)
  ·
    have h3_d := of_decide_eq_false h3_
    obtain rfl : i = l.length := by rw [List.length_map] at h3_d; have := hs_.1; omega
    have hcm := kf_miss hs_.2
    refine c_exit (i := 1) rfl rfl ?_
    refine q_then_exit ?_
    refine q_then_exit ?_
    refine q_block_here rfl ?_
    refine q_block ?_
    refine q_seq ?_
    refine c_seq rfl ?_
    refine r_ord (l := [0, 1, 2, 3]) rfl (by kernel_rfl) (by kernel_rfl) ?_
    refine s_v rfl rfl rfl rfl (v_move rfl rfl) ?_
    refine s_v rfl rfl rfl rfl (v_build (places := #[(0, 1), (1, 1), (2, 1), (3, 1)]) #[.bool false, .bool false, .int .u64 0, .slice none 0 0] rfl ZR34 Try.underlying34 (by kernel_rfl) rfl rfl) ?_
    refine s_v rfl rfl rfl rfl (v_assign rfl rfl) ?_
    refine s_e rfl rfl (e_stA 1 rfl rfl SZ34 rfl rfl rfl rfl rfl rfl) ?_
    refine s_end ?_
    refine q_seq ?_
    refine c_ret rfl ?_
    refine q_know (KC_nil (Kd.int .u64)) ?_
    exact q_ret (vs := [.slice A ((l.map old).length) c, .agg #[.bool false, .bool false, .int .u64 0, .slice none 0 0]]) rfl (.tmp rfl (.agg [.bool false, .bool false, .int .u64 0, .slice none 0 0] 2 rfl Try.underlying34 rfl SZ34 rfl rfl rfl .nil)) [3, 0] rfl (by decide) (by have h_ := hX A c none 0; rw [hcm] at h_; exact h_)
set_option maxRecDepth 100000 in
set_option maxHeartbeats 4000000 in
theorem rdo_other (A : Option Addr) (c : Nat) (l : List S52) (o1 o2 o3 o4 : Int) (hs : Srt l) (hl : l.length ≤ 1000) (kd : Int) (hk1 : (kd == 1) = false) (hk2 : (kd == 2) = false) (hk3 : (kd == 3) = false) (hk4 : (kd == 4) = false) (hk5 : (kd == 5) = false) (w0 : World) (H : List Nat) : Con Try.prog 12 #[.slice A (l.map old).length c, .agg #[.int .i64 kd, .int .u64 o1, .int .u64 o2, .int .i64 o3, .int .i64 o4]] w0 H [.f (KC k62 A c (l.map old))] (fun X => ∀ A1 c1 A2 c2, X (.tuple #[.slice A1 (l.map old).length c1, .agg #[.bool false, .bool false, .int .u64 0, .slice A2 ([] : List Int).length c2]]) [.f (KC k62 A1 c1 (l.map old)), .f (KC (Kd.int .u64) A2 c2 ([] : List Int))]) := by
  refine con_enter (c := bodyOf Try.f12) Try.func12 rfl (m := 112) rfl rfl rfl ?_
  intro X hX _
  refine c_seq rfl ?_
  refine r_ord (l := [0, 1, 2]) rfl (by kernel_rfl) (by kernel_rfl) ?_
  refine s_e rfl rfl (e_box rfl rfl rfl rfl) ?_
  intro b1_
  refine s_v rfl rfl rfl rfl (v_assign rfl rfl) ?_
  refine s_e rfl rfl (e_alloc rfl rfl rfl ZR34) ?_
  intro b2_
  refine s_end ?_
  refine q_seq ?_
  refine c_seq rfl ?_
  refine c_seq rfl ?_
  refine r_ord (l := [0, 1]) rfl (by kernel_rfl) (by kernel_rfl) ?_
  refine s_v rfl rfl rfl rfl (v_fa rfl Try.underlying31 rfl SZ3 rfl) ?_
  refine s_v rfl rfl rfl rfl (v_ld 1 rfl Try.underlying3 rfl rfl rfl rfl) ?_
  refine s_end ?_
  refine q_seq ?_
  refine c_block rfl ?_
  refine c_seq rfl ?_
  refine r_ord (l := [0, 1]) rfl (by kernel_rfl) (by kernel_rfl) ?_
  refine s_v rfl rfl rfl rfl (v_arith rfl rfl rfl rfl) ?_
  refine s_v rfl rfl rfl rfl (v_assign rfl rfl) ?_
  refine s_end ?_
  refine q_seq ?_
  refine c_cond rfl rfl (fun h => absurd (h.symm.trans hk1) (by decide)) (fun _ => ?_)
  refine c_seq rfl ?_
  refine r_ord (l := [0, 1]) rfl (by kernel_rfl) (by kernel_rfl) ?_
  refine s_v rfl rfl rfl rfl (v_arith rfl rfl rfl rfl) ?_
  refine s_v rfl rfl rfl rfl (v_assign rfl rfl) ?_
  refine s_end ?_
  refine q_seq ?_
  refine c_cond rfl rfl (fun h => absurd (h.symm.trans hk2) (by decide)) (fun _ => ?_)
  refine c_seq rfl ?_
  refine r_ord (l := [0, 1]) rfl (by kernel_rfl) (by kernel_rfl) ?_
  refine s_v rfl rfl rfl rfl (v_arith rfl rfl rfl rfl) ?_
  refine s_v rfl rfl rfl rfl (v_assign rfl rfl) ?_
  refine s_end ?_
  refine q_seq ?_
  refine c_cond rfl rfl (fun h => absurd (h.symm.trans hk3) (by decide)) (fun _ => ?_)
  refine c_seq rfl ?_
  refine r_ord (l := [0, 1]) rfl (by kernel_rfl) (by kernel_rfl) ?_
  refine s_v rfl rfl rfl rfl (v_arith rfl rfl rfl rfl) ?_
  refine s_v rfl rfl rfl rfl (v_assign rfl rfl) ?_
  refine s_end ?_
  refine q_seq ?_
  refine c_cond rfl rfl (fun h => absurd (h.symm.trans hk4) (by decide)) (fun _ => ?_)
  refine c_seq rfl ?_
  refine r_ord (l := [0, 1]) rfl (by kernel_rfl) (by kernel_rfl) ?_
  refine s_v rfl rfl rfl rfl (v_arith rfl rfl rfl rfl) ?_
  refine s_v rfl rfl rfl rfl (v_assign rfl rfl) ?_
  refine s_end ?_
  refine q_seq ?_
  refine c_cond rfl rfl (fun h => absurd (h.symm.trans hk5) (by decide)) (fun _ => ?_)
  refine c_skip rfl ?_
  refine q_block ?_
  refine q_seq ?_
  refine c_seq rfl ?_
  refine r_ord (l := [0, 1, 2, 3]) rfl (by kernel_rfl) (by kernel_rfl) ?_
  refine s_v rfl rfl rfl rfl (v_move rfl rfl) ?_
  refine s_v rfl rfl rfl rfl (v_build (places := #[(0, 1), (1, 1), (2, 1), (3, 1)]) #[.bool false, .bool false, .int .u64 0, .slice none 0 0] rfl ZR34 Try.underlying34 (by kernel_rfl) rfl rfl) ?_
  refine s_v rfl rfl rfl rfl (v_assign rfl rfl) ?_
  refine s_e rfl rfl (e_stA 0 rfl rfl SZ34 rfl rfl rfl rfl rfl rfl) ?_
  refine s_end ?_
  refine q_seq ?_
  refine c_ret rfl ?_
  refine q_know (KC_nil (Kd.int .u64)) ?_
  exact q_ret (vs := [.slice A ((l.map old).length) c, .agg #[.bool false, .bool false, .int .u64 0, .slice none 0 0]]) rfl (.tmp rfl (.agg [.bool false, .bool false, .int .u64 0, .slice none 0 0] 1 rfl Try.underlying34 rfl SZ34 rfl rfl rfl .nil)) [3, 0] rfl (by decide) (hX _ _ _ _)
end Go.Eng
