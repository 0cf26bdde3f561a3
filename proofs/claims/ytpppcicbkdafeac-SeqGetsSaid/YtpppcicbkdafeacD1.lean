/- Own text, written by an own program: D1. -/
import Derived.Test.YtpppcicbkdafeacE5
namespace Go.Eng
open Go.Proofs Go.RowKit Go.Proofs.YtpppcicbkdafeacW.PrintWords Go.Proofs.Ytpppcicbkdafeac.GSeq
set_option linter.unusedVariables false
set_option maxRecDepth 100000 in
set_option maxHeartbeats 4000000 in
theorem do_get (k : Nat) (A : Option Addr) (c : Nat) (l : List S52) (o1 o2 o3 o4 : Int) (r2 r3 : Bool) (r4 : Int) (r5 : List Int) (hget : seq_Map_get.f k l o1 = some (r2, r3, r4, r5)) (w0 : World) (H : List Nat) : Con Try.prog 11 #[.agg #[.slice A l.length c], .agg #[.int .i64 1, .int .u64 o1, .int .u64 o2, .int .i64 o3, .int .i64 o4]] w0 H [.f (KC k52 A c l)] (fun X => ∀ A1 c1 A2 c2, X (.tuple #[.agg #[.slice A1 (l).length c1], .agg #[.bool r2, .bool r3, .int .u64 r4, .slice A2 r5.length c2]]) [.f (KC k52 A1 c1 (l)), .f (KC (Kd.int .u64) A2 c2 r5)]) := by
  refine con_enterM (c := bodyOf Try.f11) (k := 9) Try.func11 rfl (m := 84) rfl rfl rfl ?_
  intro X hX _
  refine c_seq rfl ?_
  refine r_ord (l := [0, 1, 2, 3]) rfl (by kernel_rfl) (by kernel_rfl) ?_
  refine s_e rfl rfl (e_box rfl rfl rfl rfl) ?_
  intro b1_
  refine s_e rfl rfl (e_box rfl rfl rfl rfl) ?_
  intro b2_
  refine s_e rfl rfl (e_alloc rfl rfl rfl ZR27) ?_
  intro b3_
  refine s_e rfl rfl (e_alloc rfl rfl rfl ZR34) ?_
  intro b4_
  refine s_end ?_
  refine q_seq ?_
  refine c_seq rfl ?_
  refine r_ord (l := [0]) rfl (by kernel_rfl) (by kernel_rfl) ?_
  refine s_e rfl rfl (e_alloc rfl rfl rfl ZR34) ?_
  intro b5_
  refine s_end ?_
  refine q_seq ?_
  refine c_seq rfl ?_
  refine c_seq rfl ?_
  refine r_ord (l := [0, 1]) rfl (by kernel_rfl) (by kernel_rfl) ?_
  refine s_v rfl rfl rfl rfl (v_fa rfl Try.underlying31 rfl SZ3 rfl) ?_
  refine s_v rfl rfl rfl rfl (v_ld 3 rfl Try.underlying3 rfl rfl rfl rfl) ?_
  refine s_end ?_
  refine q_seq ?_
  refine c_block rfl ?_
  refine c_seq rfl ?_
  refine r_ord (l := [0, 1]) rfl (by kernel_rfl) (by kernel_rfl) ?_
  refine s_v rfl rfl rfl rfl (v_arith rfl rfl rfl rfl) ?_
  refine s_v rfl rfl rfl rfl (v_assign rfl rfl) ?_
  refine s_end ?_
  refine q_seq ?_
  refine c_cond1 rfl rfl ?_
  refine c_seq rfl ?_
  refine r_any [.b b5_ (.cells #[.bool false, .bool false, .int .u64 0, .slice none 0 0] 34 (0, 0)), .b b2_ (.cells #[.int .i64 1, .int .u64 o1, .int .u64 o2, .int .i64 o3, .int .i64 o4] 31 (0, 0)), .b b1_ (.cells #[.slice A l.length c] 27 (0, 0)), .f (KC k52 A c l)] (by kernel_rfl) rfl (by kernel_rfl) (mem_pick (idx := [0, 3, 4, 5]) rfl) ?_
  refine a_v 0 rfl (by kernel_rfl) (by kernel_rfl) (by kernel_rfl) rfl rfl rfl (v_ldA [.slice A l.length c] 2 rfl Try.underlying27 rfl SZ27 rfl rfl rfl rfl) ?_
  refine a_v 1 rfl (by kernel_rfl) (by kernel_rfl) (by kernel_rfl) rfl rfl rfl (v_ldA [.slice A l.length c] 2 rfl Try.underlying27 rfl SZ27 rfl rfl rfl rfl) ?_
  refine a_v 2 rfl (by kernel_rfl) (by kernel_rfl) (by kernel_rfl) rfl rfl rfl (v_fa rfl Try.underlying31 rfl SZ29 rfl) ?_
  refine a_v 3 rfl (by kernel_rfl) (by kernel_rfl) (by kernel_rfl) rfl rfl rfl (v_ld 1 rfl Try.underlying29 rfl rfl rfl rfl) ?_
  refine a_1 (i := 4) (by kernel_rfl) ?_
  refine i_e rfl rfl (e_callK (fun z : Option Addr × Nat => .agg #[.bool r2, .bool r3, .int .u64 r4, .slice z.1 r5.length z.2]) (fun z => [KC (Kd.int .u64) z.1 z.2 r5]) #[.agg #[.slice A l.length c], .int .u64 o1] rfl rfl rfl rfl rfl Try.func22 rfl (by decide) rfl rfl (fun w ht => seq_Map_get.con k _ _ l o1 r2 r3 r4 r5 hget w (Tri.fact ht 5 rfl))) ?_
  intro z6_
  refine ⟨(mem_pick (idx := [1, 4, 5, 6]) rfl), ?_⟩
  refine a_1 (i := 5) (by kernel_rfl) ?_
  refine i_e rfl rfl (e_stA 3 rfl rfl SZ27 rfl rfl rfl rfl rfl rfl) ?_
  refine ⟨(mem_pick (idx := [1, 4, 5, 6]) rfl), ?_⟩
  refine a_1 (i := 6) (by kernel_rfl) ?_
  refine i_e rfl rfl (e_stA 2 rfl rfl SZ34 rfl rfl rfl rfl rfl rfl) ?_
  refine ⟨(mem_pick (idx := [1, 4, 5, 6]) rfl), ?_⟩
  refine a_end (by kernel_rfl) ?_
  refine q_seq ?_
  refine c_ret rfl ?_
  refine q_block_ret ?_
  refine q_then_ret ?_
  exact q_retM (k := 9) (vs := [.agg #[.slice A l.length c], .agg #[.bool r2, .bool r3, .int .u64 r4, .slice z6_.1 r5.length z6_.2]]) (.inl rfl) rfl (.agg [.slice A l.length c] 3 rfl Try.underlying27 rfl SZ27 rfl rfl rfl (.agg [.bool r2, .bool r3, .int .u64 r4, .slice z6_.1 r5.length z6_.2] 2 rfl Try.underlying34 rfl SZ34 rfl rfl rfl .nil)) [6, 0] rfl (by decide) (hX _ _ _ _)
set_option maxRecDepth 100000 in
set_option maxHeartbeats 4000000 in
theorem do_put (k : Nat) (A : Option Addr) (c : Nat) (l : List S52) (o1 o2 o3 o4 : Int) (r2 r3 : Bool) (r4 : Int) (r5 : List Int) (r1 : List S52) (hwith : seq_Map_with.f k l o1 o2 = some r1) (hget : seq_Map_get.f k l o1 = some (r2, r3, r4, r5)) (w0 : World) (H : List Nat) : Con Try.prog 11 #[.agg #[.slice A l.length c], .agg #[.int .i64 2, .int .u64 o1, .int .u64 o2, .int .i64 o3, .int .i64 o4]] w0 H [.f (KC k52 A c l)] (fun X => ∀ A1 c1 A2 c2, X (.tuple #[.agg #[.slice A1 (r1).length c1], .agg #[.bool r2, .bool r3, .int .u64 r4, .slice A2 r5.length c2]]) [.f (KC k52 A1 c1 (r1)), .f (KC (Kd.int .u64) A2 c2 r5)]) := by
  refine con_enterM (c := bodyOf Try.f11) (k := 9) Try.func11 rfl (m := 84) rfl rfl rfl ?_
  intro X hX _
  refine c_seq rfl ?_
  refine r_ord (l := [0, 1, 2, 3]) rfl (by kernel_rfl) (by kernel_rfl) ?_
  refine s_e rfl rfl (e_box rfl rfl rfl rfl) ?_
  intro b1_
  refine s_e rfl rfl (e_box rfl rfl rfl rfl) ?_
  intro b2_
  refine s_e rfl rfl (e_alloc rfl rfl rfl ZR27) ?_
  intro b3_
  refine s_e rfl rfl (e_alloc rfl rfl rfl ZR34) ?_
  intro b4_
  refine s_end ?_
  refine q_seq ?_
  refine c_seq rfl ?_
  refine r_ord (l := [0]) rfl (by kernel_rfl) (by kernel_rfl) ?_
  refine s_e rfl rfl (e_alloc rfl rfl rfl ZR34) ?_
  intro b5_
  refine s_end ?_
  refine q_seq ?_
  refine c_seq rfl ?_
  refine c_seq rfl ?_
  refine r_ord (l := [0, 1]) rfl (by kernel_rfl) (by kernel_rfl) ?_
  refine s_v rfl rfl rfl rfl (v_fa rfl Try.underlying31 rfl SZ3 rfl) ?_
  refine s_v rfl rfl rfl rfl (v_ld 3 rfl Try.underlying3 rfl rfl rfl rfl) ?_
  refine s_end ?_
  refine q_seq ?_
  refine c_block rfl ?_
  refine c_seq rfl ?_
  refine r_ord (l := [0, 1]) rfl (by kernel_rfl) (by kernel_rfl) ?_
  refine s_v rfl rfl rfl rfl (v_arith rfl rfl rfl rfl) ?_
  refine s_v rfl rfl rfl rfl (v_assign rfl rfl) ?_
  refine s_end ?_
  refine q_seq ?_
  refine c_cond0 rfl rfl ?_
  refine c_seq rfl ?_
  refine r_ord (l := [0, 1]) rfl (by kernel_rfl) (by kernel_rfl) ?_
  refine s_v rfl rfl rfl rfl (v_arith rfl rfl rfl rfl) ?_
  refine s_v rfl rfl rfl rfl (v_assign rfl rfl) ?_
  refine s_end ?_
  refine q_seq ?_
  refine c_cond1 rfl rfl ?_
  refine c_seq rfl ?_
  refine r_any [.b b5_ (.cells #[.bool false, .bool false, .int .u64 0, .slice none 0 0] 34 (0, 0)), .b b2_ (.cells #[.int .i64 2, .int .u64 o1, .int .u64 o2, .int .i64 o3, .int .i64 o4] 31 (0, 0)), .b b1_ (.cells #[.slice A l.length c] 27 (0, 0)), .f (KC k52 A c l)] (by kernel_rfl) rfl (by kernel_rfl) (mem_pick (idx := [0, 3, 4, 5]) rfl) ?_
  refine a_v 0 rfl (by kernel_rfl) (by kernel_rfl) (by kernel_rfl) rfl rfl rfl (v_ldA [.slice A l.length c] 2 rfl Try.underlying27 rfl SZ27 rfl rfl rfl rfl) ?_
  refine a_v 1 rfl (by kernel_rfl) (by kernel_rfl) (by kernel_rfl) rfl rfl rfl (v_fa rfl Try.underlying31 rfl SZ29 rfl) ?_
  refine a_v 2 rfl (by kernel_rfl) (by kernel_rfl) (by kernel_rfl) rfl rfl rfl (v_ld 1 rfl Try.underlying29 rfl rfl rfl rfl) ?_
  refine a_v 3 rfl (by kernel_rfl) (by kernel_rfl) (by kernel_rfl) rfl rfl rfl (v_fa rfl Try.underlying31 rfl SZ29 rfl) ?_
  refine a_v 4 rfl (by kernel_rfl) (by kernel_rfl) (by kernel_rfl) rfl rfl rfl (v_ld 1 rfl Try.underlying29 rfl rfl rfl rfl) ?_
  refine a_v 5 rfl (by kernel_rfl) (by kernel_rfl) (by kernel_rfl) rfl rfl rfl (v_build (places := #[(0, 1), (1, 1)]) #[.int .u64 o1, .int .u64 o2] rfl ZR52 Try.underlying52 (by kernel_rfl) rfl rfl) ?_
  refine a_v 7 rfl (by kernel_rfl) (by kernel_rfl) (by kernel_rfl) rfl rfl rfl (v_ldA [.slice A l.length c] 2 rfl Try.underlying27 rfl SZ27 rfl rfl rfl rfl) ?_
  refine a_v 8 rfl (by kernel_rfl) (by kernel_rfl) (by kernel_rfl) rfl rfl rfl (v_fa rfl Try.underlying31 rfl SZ29 rfl) ?_
  refine a_v 9 rfl (by kernel_rfl) (by kernel_rfl) (by kernel_rfl) rfl rfl rfl (v_ld 1 rfl Try.underlying29 rfl rfl rfl rfl) ?_
  refine a_1 (i := 6) (by kernel_rfl) ?_
  refine i_e rfl rfl (e_callK (fun z : Option Addr × Nat => .agg #[.slice z.1 r1.length z.2]) (fun z => [KC k52 z.1 z.2 r1]) #[.agg #[.slice A l.length c], .agg #[.int .u64 o1, .int .u64 o2]] rfl rfl rfl rfl rfl Try.func23 rfl (by decide) rfl rfl (fun w ht => seq_Map_with.con k _ _ l o1 o2 r1 hwith w (Tri.fact ht 5 rfl))) ?_
  intro z6_
  refine ⟨(mem_pick (idx := [1, 4, 5, 6]) rfl), ?_⟩
  refine a_1 (i := 10) (by kernel_rfl) ?_
  refine i_e rfl rfl (e_callK (fun z : Option Addr × Nat => .agg #[.bool r2, .bool r3, .int .u64 r4, .slice z.1 r5.length z.2]) (fun z => [KC (Kd.int .u64) z.1 z.2 r5]) #[.agg #[.slice A l.length c], .int .u64 o1] rfl rfl rfl rfl rfl Try.func22 rfl (by decide) rfl rfl (fun w ht => seq_Map_get.con k _ _ l o1 r2 r3 r4 r5 hget w (Tri.fact ht 6 rfl))) ?_
  intro z7_
  refine ⟨(mem_pick (idx := [2, 5, 6, 7]) rfl), ?_⟩
  refine a_1 (i := 11) (by kernel_rfl) ?_
  refine i_e rfl rfl (e_stA 4 rfl rfl SZ27 rfl rfl rfl rfl rfl rfl) ?_
  refine ⟨(mem_pick (idx := [2, 5, 6, 7]) rfl), ?_⟩
  refine a_1 (i := 12) (by kernel_rfl) ?_
  refine i_e rfl rfl (e_stA 3 rfl rfl SZ34 rfl rfl rfl rfl rfl rfl) ?_
  refine ⟨(mem_pick (idx := [2, 5, 6, 7]) rfl), ?_⟩
  refine a_end (by kernel_rfl) ?_
  refine q_seq ?_
  refine c_ret rfl ?_
  refine q_block_ret ?_
  refine q_then_ret ?_
  exact q_retM (k := 9) (vs := [.agg #[.slice z6_.1 r1.length z6_.2], .agg #[.bool r2, .bool r3, .int .u64 r4, .slice z7_.1 r5.length z7_.2]]) (.inl rfl) rfl (.agg [.slice z6_.1 r1.length z6_.2] 4 rfl Try.underlying27 rfl SZ27 rfl rfl rfl (.agg [.bool r2, .bool r3, .int .u64 r4, .slice z7_.1 r5.length z7_.2] 3 rfl Try.underlying34 rfl SZ34 rfl rfl rfl .nil)) [1, 0] rfl (by decide) (hX _ _ _ _)
set_option maxRecDepth 100000 in
set_option maxHeartbeats 4000000 in
theorem do_delete (k : Nat) (A : Option Addr) (c : Nat) (l : List S52) (o1 o2 o3 o4 : Int) (r2 r3 : Bool) (r4 : Int) (r5 : List Int) (r1 : List S52) (rn : Int) (hwo : seq_Map_without.f k l o1 = some (r1, rn)) (hget : seq_Map_get.f k l o1 = some (r2, r3, r4, r5)) (w0 : World) (H : List Nat) : Con Try.prog 11 #[.agg #[.slice A l.length c], .agg #[.int .i64 3, .int .u64 o1, .int .u64 o2, .int .i64 o3, .int .i64 o4]] w0 H [.f (KC k52 A c l)] (fun X => ∀ A1 c1 A2 c2, X (.tuple #[.agg #[.slice A1 (r1).length c1], .agg #[.bool r2, .bool r3, .int .u64 r4, .slice A2 r5.length c2]]) [.f (KC k52 A1 c1 (r1)), .f (KC (Kd.int .u64) A2 c2 r5)]) := by
  refine con_enterM (c := bodyOf Try.f11) (k := 9) Try.func11 rfl (m := 84) rfl rfl rfl ?_
  intro X hX _
  refine c_seq rfl ?_
  refine r_ord (l := [0, 1, 2, 3]) rfl (by kernel_rfl) (by kernel_rfl) ?_
  refine s_e rfl rfl (e_box rfl rfl rfl rfl) ?_
  intro b1_
  refine s_e rfl rfl (e_box rfl rfl rfl rfl) ?_
  intro b2_
  refine s_e rfl rfl (e_alloc rfl rfl rfl ZR27) ?_
  intro b3_
  refine s_e rfl rfl (e_alloc rfl rfl rfl ZR34) ?_
  intro b4_
  refine s_end ?_
  refine q_seq ?_
  refine c_seq rfl ?_
  refine r_ord (l := [0]) rfl (by kernel_rfl) (by kernel_rfl) ?_
  refine s_e rfl rfl (e_alloc rfl rfl rfl ZR34) ?_
  intro b5_
  refine s_end ?_
  refine q_seq ?_
  refine c_seq rfl ?_
  refine c_seq rfl ?_
  refine r_ord (l := [0, 1]) rfl (by kernel_rfl) (by kernel_rfl) ?_
  refine s_v rfl rfl rfl rfl (v_fa rfl Try.underlying31 rfl SZ3 rfl) ?_
  refine s_v rfl rfl rfl rfl (v_ld 3 rfl Try.underlying3 rfl rfl rfl rfl) ?_
  refine s_end ?_
  refine q_seq ?_
  refine c_block rfl ?_
  refine c_seq rfl ?_
  refine r_ord (l := [0, 1]) rfl (by kernel_rfl) (by kernel_rfl) ?_
  refine s_v rfl rfl rfl rfl (v_arith rfl rfl rfl rfl) ?_
  refine s_v rfl rfl rfl rfl (v_assign rfl rfl) ?_
  refine s_end ?_
  refine q_seq ?_
  refine c_cond0 rfl rfl ?_
  refine c_seq rfl ?_
  refine r_ord (l := [0, 1]) rfl (by kernel_rfl) (by kernel_rfl) ?_
  refine s_v rfl rfl rfl rfl (v_arith rfl rfl rfl rfl) ?_
  refine s_v rfl rfl rfl rfl (v_assign rfl rfl) ?_
  refine s_end ?_
  refine q_seq ?_
  refine c_cond0 rfl rfl ?_
  refine c_seq rfl ?_
  refine r_ord (l := [0, 1]) rfl (by kernel_rfl) (by kernel_rfl) ?_
  refine s_v rfl rfl rfl rfl (v_arith rfl rfl rfl rfl) ?_
  refine s_v rfl rfl rfl rfl (v_assign rfl rfl) ?_
  refine s_end ?_
  refine q_seq ?_
  refine c_cond1 rfl rfl ?_
  refine c_seq rfl ?_
  refine r_ord (l := [0, 1, 2, 3, 4, 5, 6, 7, 8, 9]) rfl (by kernel_rfl) (by kernel_rfl) ?_
  refine s_v rfl rfl rfl rfl (v_ldA [.slice A l.length c] 4 rfl Try.underlying27 rfl SZ27 rfl rfl rfl rfl) ?_
  refine s_v rfl rfl rfl rfl (v_fa rfl Try.underlying31 rfl SZ29 rfl) ?_
  refine s_v rfl rfl rfl rfl (v_ld 3 rfl Try.underlying29 rfl rfl rfl rfl) ?_
  refine s_e rfl rfl (e_callK (fun z : Option Addr × Nat => .tuple #[.agg #[.slice z.1 r1.length z.2], .int .i64 rn]) (fun z => [KC k52 z.1 z.2 r1]) #[.agg #[.slice A l.length c], .int .u64 o1] rfl rfl rfl rfl rfl Try.func24 rfl (by decide) rfl rfl (fun w ht => seq_Map_without.con k _ _ l o1 r1 rn hwo w (Tri.fact ht 5 rfl))) ?_
  intro z6_
  refine s_v rfl rfl rfl rfl (v_move rfl rfl) ?_
  refine s_v rfl rfl rfl rfl (v_ext rfl rfl rfl) ?_
  refine s_v rfl rfl rfl rfl (v_ext rfl rfl rfl) ?_
  refine s_e rfl rfl (e_alloc rfl rfl rfl ZR27) ?_
  intro b7_
  refine s_e rfl rfl (e_stA 0 rfl rfl SZ27 rfl rfl rfl rfl rfl rfl) ?_
  refine s_v rfl rfl rfl rfl (v_assign rfl rfl) ?_
  refine s_end ?_
  refine q_seq ?_
  refine c_seq rfl ?_
  refine r_any [.b b7_ (.cells #[.slice z6_.1 r1.length z6_.2] 27 (0, 0)), .f (KC k52 z6_.1 z6_.2 r1), .b b5_ (.cells #[.bool false, .bool false, .int .u64 0, .slice none 0 0] 34 (0, 0)), .b b2_ (.cells #[.int .i64 3, .int .u64 o1, .int .u64 o2, .int .i64 o3, .int .i64 o4] 31 (0, 0)), .b b1_ (.cells #[.slice A l.length c] 27 (0, 0)), .f (KC k52 A c l)] (by kernel_rfl) rfl (by kernel_rfl) (mem_pick (idx := [0, 1, 2, 5, 6, 7]) rfl) ?_
  refine a_v 0 rfl (by kernel_rfl) (by kernel_rfl) (by kernel_rfl) rfl rfl rfl (v_ldA [.slice z6_.1 r1.length z6_.2] 0 rfl Try.underlying27 rfl SZ27 rfl rfl rfl rfl) ?_
  refine a_v 1 rfl (by kernel_rfl) (by kernel_rfl) (by kernel_rfl) rfl rfl rfl (v_ldA [.slice A l.length c] 4 rfl Try.underlying27 rfl SZ27 rfl rfl rfl rfl) ?_
  refine a_v 2 rfl (by kernel_rfl) (by kernel_rfl) (by kernel_rfl) rfl rfl rfl (v_fa rfl Try.underlying31 rfl SZ29 rfl) ?_
  refine a_v 3 rfl (by kernel_rfl) (by kernel_rfl) (by kernel_rfl) rfl rfl rfl (v_ld 3 rfl Try.underlying29 rfl rfl rfl rfl) ?_
  refine a_1 (i := 4) (by kernel_rfl) ?_
  refine i_e rfl rfl (e_callK (fun z : Option Addr × Nat => .agg #[.bool r2, .bool r3, .int .u64 r4, .slice z.1 r5.length z.2]) (fun z => [KC (Kd.int .u64) z.1 z.2 r5]) #[.agg #[.slice A l.length c], .int .u64 o1] rfl rfl rfl rfl rfl Try.func22 rfl (by decide) rfl rfl (fun w ht => seq_Map_get.con k _ _ l o1 r2 r3 r4 r5 hget w (Tri.fact ht 7 rfl))) ?_
  intro z8_
  refine ⟨(mem_pick (idx := [1, 2, 3, 6, 7, 8]) rfl), ?_⟩
  refine a_1 (i := 5) (by kernel_rfl) ?_
  refine i_e rfl rfl (e_stA 5 rfl rfl SZ27 rfl rfl rfl rfl rfl rfl) ?_
  refine ⟨(mem_pick (idx := [1, 2, 3, 6, 7, 8]) rfl), ?_⟩
  refine a_1 (i := 6) (by kernel_rfl) ?_
  refine i_e rfl rfl (e_stA 4 rfl rfl SZ34 rfl rfl rfl rfl rfl rfl) ?_
  refine ⟨(mem_pick (idx := [1, 2, 3, 6, 7, 8]) rfl), ?_⟩
  refine a_end (by kernel_rfl) ?_
  refine q_seq ?_
  refine c_ret rfl ?_
  refine q_block_ret ?_
  refine q_then_ret ?_
  exact q_retM (k := 9) (vs := [.agg #[.slice z6_.1 r1.length z6_.2], .agg #[.bool r2, .bool r3, .int .u64 r4, .slice z8_.1 r5.length z8_.2]]) (.inl rfl) rfl (.agg [.slice z6_.1 r1.length z6_.2] 5 rfl Try.underlying27 rfl SZ27 rfl rfl rfl (.agg [.bool r2, .bool r3, .int .u64 r4, .slice z8_.1 r5.length z8_.2] 4 rfl Try.underlying34 rfl SZ34 rfl rfl rfl .nil)) [2, 0] rfl (by decide) (hX _ _ _ _)
end Go.Eng
