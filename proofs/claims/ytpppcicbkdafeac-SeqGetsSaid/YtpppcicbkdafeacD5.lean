/- Own text, written by an own program: D5. -/
import Derived.Test.YtpppcicbkdafeacD4
import Derived.Test.YtpppcicbkdafeacEK
namespace Go.Eng
open Go.Proofs Go.RowKit Go.Proofs.YtpppcicbkdafeacW.PrintWords Go.Proofs.Ytpppcicbkdafeac.GSeq
set_option linter.unusedVariables false
set_option linter.unusedSimpArgs false
set_option maxRecDepth 100000 in
set_option maxHeartbeats 4000000 in
theorem alive_con (w0 : World) (H : List Nat) : Con Try.prog 10 #[] w0 H [] (fun X => X (.bool true) []) := by
  refine con_enter (c := bodyOf Try.f10) Try.func10 rfl (m := 124) rfl rfl rfl ?_
  intro X hX _
  refine c_seq rfl ?_
  refine r_ord (l := [0]) rfl (by kernel_rfl) (by kernel_rfl) ?_
  refine s_v rfl rfl rfl rfl (v_assign rfl rfl) ?_
  refine s_end ?_
  refine q_seq ?_
  refine c_seq rfl ?_
  refine r_ord (l := [0]) rfl (by kernel_rfl) (by kernel_rfl) ?_
  refine s_e rfl rfl (e_alloc rfl rfl rfl ZR27) ?_
  intro b1_
  refine s_end ?_
  refine q_seq ?_
  refine c_seq rfl ?_
  refine r_ord (l := [0, 1, 2, 3, 4, 5, 6, 7, 8]) rfl (by kernel_rfl) (by kernel_rfl) ?_
  refine s_v rfl rfl rfl rfl (v_ldA [.slice none 0 0] 0 rfl Try.underlying27 rfl SZ27 rfl rfl rfl rfl) ?_
  refine s_v rfl rfl rfl rfl (v_build (places := #[(0, 1), (1, 1), (2, 1), (3, 1), (4, 1)]) #[.int .i64 2, .int .u64 5, .int .u64 7, .int .i64 0, .int .i64 0] rfl ZR31 Try.underlying31 (by kernel_rfl) rfl rfl) ?_
  refine s_knowT (KC_nil k52) ?_
  refine s_e rfl rfl (e_callF [0] #[.agg #[.slice none 0 0], .agg #[.int .i64 2, .int .u64 5, .int .u64 7, .int .i64 0, .int .i64 0]] rfl rfl rfl rfl rfl Try.func11 rfl (by decide) rfl rfl rfl rfl (fun w ht => do_conr none 0 ([] : List S52) 2 5 7 0 0 (by first | decide | simp [Srt]) (by first | decide | (simp; done) | omega) ([⟨5, 7⟩] : List S52) false false 0 ([] : List Int) (by decide +kernel) w _)) ?_
  intro A2_ c3_ A4_ c5_
  refine s_v rfl rfl rfl rfl (v_move rfl rfl) ?_
  refine s_v rfl rfl rfl rfl (v_ext rfl rfl rfl) ?_
  refine s_v rfl rfl rfl rfl (v_ext rfl rfl rfl) ?_
  refine s_e rfl rfl (e_alloc rfl rfl rfl ZR34) ?_
  intro b6_
  refine s_e rfl rfl (e_stA 4 rfl rfl SZ27 rfl rfl rfl rfl rfl rfl) ?_
  refine s_e rfl rfl (e_stA 0 rfl rfl SZ34 rfl rfl rfl rfl rfl rfl) ?_
  refine s_end ?_
  refine q_seq ?_
  refine c_seq rfl ?_
  refine r_ord (l := [0, 1, 2, 3, 4, 5, 6, 7, 8]) rfl (by kernel_rfl) (by kernel_rfl) ?_
  refine s_v rfl rfl rfl rfl (v_ldA [.slice A2_ (([⟨5, 7⟩] : List S52).length) c3_] 4 rfl Try.underlying27 rfl SZ27 rfl rfl rfl rfl) ?_
  refine s_v rfl rfl rfl rfl (v_build (places := #[(0, 1), (1, 1), (2, 1), (3, 1), (4, 1)]) #[.int .i64 2, .int .u64 5, .int .u64 8, .int .i64 0, .int .i64 0] rfl ZR31 Try.underlying31 (by kernel_rfl) rfl rfl) ?_
  refine s_e rfl rfl (e_callF [1] #[.agg #[.slice A2_ (([⟨5, 7⟩] : List S52).length) c3_], .agg #[.int .i64 2, .int .u64 5, .int .u64 8, .int .i64 0, .int .i64 0]] rfl rfl rfl rfl rfl Try.func11 rfl (by decide) rfl rfl rfl rfl (fun w ht => do_conr A2_ c3_ ([⟨5, 7⟩] : List S52) 2 5 8 0 0 (by first | decide | simp [Srt]) (by first | decide | (simp; done) | omega) ([⟨5, 8⟩] : List S52) false true 7 ([] : List Int) (by decide +kernel) w _)) ?_
  intro A7_ c8_ A9_ c10_
  refine s_v rfl rfl rfl rfl (v_move rfl rfl) ?_
  refine s_v rfl rfl rfl rfl (v_ext rfl rfl rfl) ?_
  refine s_v rfl rfl rfl rfl (v_ext rfl rfl rfl) ?_
  refine s_e rfl rfl (e_alloc rfl rfl rfl ZR34) ?_
  intro b11_
  refine s_e rfl rfl (e_stA 7 rfl rfl SZ27 rfl rfl rfl rfl rfl rfl) ?_
  refine s_e rfl rfl (e_stA 0 rfl rfl SZ34 rfl rfl rfl rfl rfl rfl) ?_
  refine s_end ?_
  refine q_seq ?_
  refine c_seq rfl ?_
  refine r_ord (l := [0, 1, 2, 3, 4, 5, 6, 7, 8, 9]) rfl (by kernel_rfl) (by kernel_rfl) ?_
  refine s_v rfl rfl rfl rfl (v_ldA [.slice A7_ (([⟨5, 8⟩] : List S52).length) c8_] 7 rfl Try.underlying27 rfl SZ27 rfl rfl rfl rfl) ?_
  refine s_v rfl rfl rfl rfl (v_build (places := #[(0, 1), (1, 1), (2, 1), (3, 1), (4, 1)]) #[.int .i64 4, .int .u64 3, .int .u64 0, .int .i64 0, .int .i64 0] rfl ZR31 Try.underlying31 (by kernel_rfl) rfl rfl) ?_
  refine s_e rfl rfl (e_callF [1] #[.agg #[.slice A7_ (([⟨5, 8⟩] : List S52).length) c8_], .agg #[.int .i64 4, .int .u64 3, .int .u64 0, .int .i64 0, .int .i64 0]] rfl rfl rfl rfl rfl Try.func11 rfl (by decide) rfl rfl rfl rfl (fun w ht => do_conr A7_ c8_ ([⟨5, 8⟩] : List S52) 4 3 0 0 0 (by first | decide | simp [Srt]) (by first | decide | (simp; done) | omega) ([⟨5, 8⟩] : List S52) false true 5 ([] : List Int) (by decide +kernel) w _)) ?_
  intro A12_ c13_ A14_ c15_
  refine s_v rfl rfl rfl rfl (v_move rfl rfl) ?_
  refine s_v rfl rfl rfl rfl (v_ext rfl rfl rfl) ?_
  refine s_v rfl rfl rfl rfl (v_ext rfl rfl rfl) ?_
  refine s_e rfl rfl (e_alloc rfl rfl rfl ZR27) ?_
  intro b16_
  refine s_e rfl rfl (e_alloc rfl rfl rfl ZR34) ?_
  intro b17_
  refine s_e rfl rfl (e_stA 1 rfl rfl SZ27 rfl rfl rfl rfl rfl rfl) ?_
  refine s_e rfl rfl (e_stA 0 rfl rfl SZ34 rfl rfl rfl rfl rfl rfl) ?_
  refine s_end ?_
  refine q_seq ?_
  refine c_seq rfl ?_
  refine r_ord (l := [0, 1, 2, 3, 4, 5, 6, 7, 8, 9]) rfl (by kernel_rfl) (by kernel_rfl) ?_
  refine s_v rfl rfl rfl rfl (v_ldA [.slice A7_ (([⟨5, 8⟩] : List S52).length) c8_] 11 rfl Try.underlying27 rfl SZ27 rfl rfl rfl rfl) ?_
  refine s_v rfl rfl rfl rfl (v_build (places := #[(0, 1), (1, 1), (2, 1), (3, 1), (4, 1)]) #[.int .i64 5, .int .u64 5, .int .u64 5, .int .i64 1, .int .i64 0] rfl ZR31 Try.underlying31 (by kernel_rfl) rfl rfl) ?_
  refine s_e rfl rfl (e_callF [5] #[.agg #[.slice A7_ (([⟨5, 8⟩] : List S52).length) c8_], .agg #[.int .i64 5, .int .u64 5, .int .u64 5, .int .i64 1, .int .i64 0]] rfl rfl rfl rfl rfl Try.func11 rfl (by decide) rfl rfl rfl rfl (fun w ht => do_conr A7_ c8_ ([⟨5, 8⟩] : List S52) 5 5 5 1 0 (by first | decide | simp [Srt]) (by first | decide | (simp; done) | omega) ([⟨5, 8⟩] : List S52) false false 0 ([5] : List Int) (by decide +kernel) w _)) ?_
  intro A18_ c19_ A20_ c21_
  refine s_v rfl rfl rfl rfl (v_move rfl rfl) ?_
  refine s_v rfl rfl rfl rfl (v_ext rfl rfl rfl) ?_
  refine s_v rfl rfl rfl rfl (v_ext rfl rfl rfl) ?_
  refine s_e rfl rfl (e_alloc rfl rfl rfl ZR27) ?_
  intro b22_
  refine s_e rfl rfl (e_alloc rfl rfl rfl ZR34) ?_
  intro b23_
  refine s_e rfl rfl (e_stA 1 rfl rfl SZ27 rfl rfl rfl rfl rfl rfl) ?_
  refine s_e rfl rfl (e_stA 0 rfl rfl SZ34 rfl rfl rfl rfl rfl rfl) ?_
  refine s_end ?_
  refine q_seq ?_
  refine c_seq rfl ?_
  refine r_ord (l := [0, 1, 2, 3, 4, 5, 6, 7, 8, 9]) rfl (by kernel_rfl) (by kernel_rfl) ?_
  refine s_v rfl rfl rfl rfl (v_ldA [.slice A7_ (([⟨5, 8⟩] : List S52).length) c8_] 15 rfl Try.underlying27 rfl SZ27 rfl rfl rfl rfl) ?_
  refine s_v rfl rfl rfl rfl (v_build (places := #[(0, 1), (1, 1), (2, 1), (3, 1), (4, 1)]) #[.int .i64 3, .int .u64 5, .int .u64 0, .int .i64 0, .int .i64 0] rfl ZR31 Try.underlying31 (by kernel_rfl) rfl rfl) ?_
  refine s_e rfl rfl (e_callF [9] #[.agg #[.slice A7_ (([⟨5, 8⟩] : List S52).length) c8_], .agg #[.int .i64 3, .int .u64 5, .int .u64 0, .int .i64 0, .int .i64 0]] rfl rfl rfl rfl rfl Try.func11 rfl (by decide) rfl rfl rfl rfl (fun w ht => do_conr A7_ c8_ ([⟨5, 8⟩] : List S52) 3 5 0 0 0 (by first | decide | simp [Srt]) (by first | decide | (simp; done) | omega) ([] : List S52) false true 8 ([] : List Int) (by decide +kernel) w _)) ?_
  intro A24_ c25_ A26_ c27_
  refine s_v rfl rfl rfl rfl (v_move rfl rfl) ?_
  refine s_v rfl rfl rfl rfl (v_ext rfl rfl rfl) ?_
  refine s_v rfl rfl rfl rfl (v_ext rfl rfl rfl) ?_
  refine s_e rfl rfl (e_alloc rfl rfl rfl ZR27) ?_
  intro b28_
  refine s_e rfl rfl (e_alloc rfl rfl rfl ZR34) ?_
  intro b29_
  refine s_e rfl rfl (e_stA 1 rfl rfl SZ27 rfl rfl rfl rfl rfl rfl) ?_
  refine s_e rfl rfl (e_stA 0 rfl rfl SZ34 rfl rfl rfl rfl rfl rfl) ?_
  refine s_end ?_
  refine q_seq ?_
  refine c_seq rfl ?_
  refine r_ord (l := [0, 1, 2, 3, 4, 5, 6, 7, 8, 9]) rfl (by kernel_rfl) (by kernel_rfl) ?_
  refine s_v rfl rfl rfl rfl (v_ldA [.slice A7_ (([⟨5, 8⟩] : List S52).length) c8_] 19 rfl Try.underlying27 rfl SZ27 rfl rfl rfl rfl) ?_
  refine s_v rfl rfl rfl rfl (v_build (places := #[(0, 1), (1, 1), (2, 1), (3, 1), (4, 1)]) #[.int .i64 1, .int .u64 5, .int .u64 0, .int .i64 0, .int .i64 0] rfl ZR31 Try.underlying31 (by kernel_rfl) rfl rfl) ?_
  refine s_e rfl rfl (e_callF [13] #[.agg #[.slice A7_ (([⟨5, 8⟩] : List S52).length) c8_], .agg #[.int .i64 1, .int .u64 5, .int .u64 0, .int .i64 0, .int .i64 0]] rfl rfl rfl rfl rfl Try.func11 rfl (by decide) rfl rfl rfl rfl (fun w ht => do_conr A7_ c8_ ([⟨5, 8⟩] : List S52) 1 5 0 0 0 (by first | decide | simp [Srt]) (by first | decide | (simp; done) | omega) ([⟨5, 8⟩] : List S52) false true 8 ([] : List Int) (by decide +kernel) w _)) ?_
  intro A30_ c31_ A32_ c33_
  refine s_v rfl rfl rfl rfl (v_move rfl rfl) ?_
  refine s_v rfl rfl rfl rfl (v_ext rfl rfl rfl) ?_
  refine s_v rfl rfl rfl rfl (v_ext rfl rfl rfl) ?_
  refine s_e rfl rfl (e_alloc rfl rfl rfl ZR27) ?_
  intro b34_
  refine s_e rfl rfl (e_alloc rfl rfl rfl ZR34) ?_
  intro b35_
  refine s_e rfl rfl (e_stA 1 rfl rfl SZ27 rfl rfl rfl rfl rfl rfl) ?_
  refine s_e rfl rfl (e_stA 0 rfl rfl SZ34 rfl rfl rfl rfl rfl rfl) ?_
  refine s_end ?_
  refine q_seq ?_
  refine c_seq rfl ?_
  refine r_ord (l := [0, 1, 2]) rfl (by kernel_rfl) (by kernel_rfl) ?_
  refine s_v rfl rfl rfl rfl (v_ldA [.slice A7_ (([⟨5, 8⟩] : List S52).length) c8_] 23 rfl Try.underlying27 rfl SZ27 rfl rfl rfl rfl) ?_
  refine s_e rfl rfl (e_callK (fun z : Option Addr × Nat => .slice z.1 (([⟨5, 8⟩] : List S52).length) z.2) (fun z => [KC k52 z.1 z.2 ([⟨5, 8⟩] : List S52)]) #[.agg #[.slice A7_ (([⟨5, 8⟩] : List S52).length) c8_]] rfl rfl rfl rfl rfl Try.func16 rfl (by decide) rfl rfl (fun w ht => seq_Map_Pairs.con _ _ _ _ (pairs_f ([⟨5, 8⟩] : List S52) (by first | decide | (simp; done) | omega)) w (Tri.fact ht 17 rfl))) ?_
  intro z36_
  refine s_v rfl rfl rfl rfl (v_assign rfl rfl) ?_
  refine s_end ?_
  refine q_seq ?_
  refine c_seq rfl ?_
  refine r_ord (l := [0, 1, 2, 3, 4, 5, 6, 7, 8, 9, 10, 11, 12, 13, 14, 15, 16, 17, 18, 19, 20, 21, 22, 23, 24, 25, 26, 27, 28, 29, 30, 31, 32, 33, 34, 35, 36, 37, 38, 39, 40, 41, 42, 43, 44, 45, 46, 47, 48, 49, 50, 51, 52, 53, 54, 55, 56, 57, 58, 59, 60, 61, 62, 63, 64, 65, 66, 67, 68, 69, 70, 71, 72, 73]) rfl (by kernel_rfl) (by kernel_rfl) ?_
  refine s_v rfl rfl rfl rfl (v_fa rfl Try.underlying34 rfl SZ4 rfl) ?_
  refine s_v rfl rfl rfl rfl (v_ld 20 rfl Try.underlying4 rfl rfl rfl rfl) ?_
  refine s_v rfl rfl rfl rfl (v_not rfl rfl) ?_
  refine s_v rfl rfl rfl rfl (v_move rfl rfl) ?_
  refine s_vg rfl rfl rfl rfl (v_fa rfl Try.underlying34 rfl SZ4 rfl) ?_
  refine s_vg rfl rfl rfl rfl (v_ld 17 rfl Try.underlying4 rfl rfl rfl rfl) ?_
  refine s_v rfl rfl rfl rfl (v_pick rfl rfl rfl rfl) ?_
  refine s_v rfl rfl rfl rfl (v_move rfl rfl) ?_
  refine s_vg rfl rfl rfl rfl (v_fa rfl Try.underlying34 rfl SZ29 rfl) ?_
  refine s_vg rfl rfl rfl rfl (v_ld 17 rfl Try.underlying29 rfl rfl rfl rfl) ?_
  refine s_vg rfl rfl rfl rfl (v_arith rfl rfl rfl rfl) ?_
  refine s_v rfl rfl rfl rfl (v_pick rfl rfl rfl rfl) ?_
  refine s_v rfl rfl rfl rfl (v_move rfl rfl) ?_
  refine s_vg rfl rfl rfl rfl (v_fa rfl Try.underlying34 rfl SZ4 rfl) ?_
  refine s_vg rfl rfl rfl rfl (v_ld 13 rfl Try.underlying4 rfl rfl rfl rfl) ?_
  refine s_v rfl rfl rfl rfl (v_pick rfl rfl rfl rfl) ?_
  refine s_v rfl rfl rfl rfl (v_move rfl rfl) ?_
  refine s_vg rfl rfl rfl rfl (v_fa rfl Try.underlying34 rfl SZ29 rfl) ?_
  refine s_vg rfl rfl rfl rfl (v_ld 13 rfl Try.underlying29 rfl rfl rfl rfl) ?_
  refine s_vg rfl rfl rfl rfl (v_arith rfl rfl rfl rfl) ?_
  refine s_v rfl rfl rfl rfl (v_pick rfl rfl rfl rfl) ?_
  refine s_v rfl rfl rfl rfl (v_move rfl rfl) ?_
  refine s_vg rfl rfl rfl rfl (v_fa rfl Try.underlying34 rfl SZ32 rfl) ?_
  refine s_vg rfl rfl rfl rfl (v_ld 9 rfl Try.underlying32 rfl rfl rfl rfl) ?_
  refine s_vg rfl rfl rfl rfl (v_len rfl rfl rfl Try.underlying32 rfl rfl) ?_
  refine s_vg rfl rfl rfl rfl (v_arith rfl rfl rfl rfl) ?_
  refine s_v rfl rfl rfl rfl (v_pick rfl rfl rfl rfl) ?_
  refine s_v rfl rfl rfl rfl (v_move rfl rfl) ?_
  refine s_vg rfl rfl rfl rfl (v_fa rfl Try.underlying34 rfl SZ32 rfl) ?_
  refine s_vg rfl rfl rfl rfl (v_ld 9 rfl Try.underlying32 rfl rfl rfl rfl) ?_
  refine s_vg rfl rfl rfl rfl (v_iaK (i := 12) rfl Try.underlying32 SZ29 rfl rfl rfl rfl (by first | decide | omega) (by first | decide | omega | (simp; done) | (simp; omega))) ?_
  refine s_vg rfl rfl rfl rfl (v_ldK (v := .int .u64 (rd ([5] : List Int) 0)) 0 12 rfl Try.underlying29 rfl rfl rfl rfl (by first | decide | omega) (by first | decide | omega | (simp; done) | (simp; omega)) (fun w K h => h)) ?_
  refine s_vg rfl rfl rfl rfl (v_arith rfl rfl rfl rfl) ?_
  refine s_v rfl rfl rfl rfl (v_pick rfl rfl rfl rfl) ?_
  refine s_v rfl rfl rfl rfl (v_move rfl rfl) ?_
  refine s_vg rfl rfl rfl rfl (v_fa rfl Try.underlying34 rfl SZ29 rfl) ?_
  refine s_vg rfl rfl rfl rfl (v_ld 5 rfl Try.underlying29 rfl rfl rfl rfl) ?_
  refine s_vg rfl rfl rfl rfl (v_arith rfl rfl rfl rfl) ?_
  refine s_v rfl rfl rfl rfl (v_pick rfl rfl rfl rfl) ?_
  refine s_v rfl rfl rfl rfl (v_move rfl rfl) ?_
  refine s_vg rfl rfl rfl rfl (v_ldA [.slice A24_ (([] : List S52).length) c25_] 6 rfl Try.underlying27 rfl SZ27 rfl rfl rfl rfl) ?_
  refine s_eg rfl rfl (e_callK (fun z : Option Addr × Nat => .slice z.1 (([] : List S52).length) z.2) (fun z => [KC k52 z.1 z.2 ([] : List S52)]) #[.agg #[.slice A24_ (([] : List S52).length) c25_]] rfl rfl rfl rfl rfl Try.func16 rfl (by decide) rfl rfl (fun w ht => seq_Map_Pairs.con _ _ _ _ (pairs_f ([] : List S52) (by first | decide | (simp; done) | omega)) w (Tri.fact ht 7 rfl))) ?_
  intro z37_
  refine s_vg rfl rfl rfl rfl (v_len rfl rfl rfl Try.underlying25 rfl rfl) ?_
  refine s_vg rfl rfl rfl rfl (v_arith rfl rfl rfl rfl) ?_
  refine s_v rfl rfl rfl rfl (v_pick rfl rfl rfl rfl) ?_
  refine s_v rfl rfl rfl rfl (v_move rfl rfl) ?_
  refine s_vg rfl rfl rfl rfl (v_fa rfl Try.underlying34 rfl SZ29 rfl) ?_
  refine s_vg rfl rfl rfl rfl (v_ld 2 rfl Try.underlying29 rfl rfl rfl rfl) ?_
  refine s_vg rfl rfl rfl rfl (v_arith rfl rfl rfl rfl) ?_
  refine s_v rfl rfl rfl rfl (v_pick rfl rfl rfl rfl) ?_
  refine s_v rfl rfl rfl rfl (v_move rfl rfl) ?_
  refine s_vg rfl rfl rfl rfl (v_move rfl rfl) ?_
  refine s_vg rfl rfl rfl rfl (v_len rfl rfl rfl Try.underlying25 rfl rfl) ?_
  refine s_vg rfl rfl rfl rfl (v_arith rfl rfl rfl rfl) ?_
  refine s_v rfl rfl rfl rfl (v_pick rfl rfl rfl rfl) ?_
  refine s_v rfl rfl rfl rfl (v_move rfl rfl) ?_
  refine s_vg rfl rfl rfl rfl (v_move rfl rfl) ?_
  refine s_vg rfl rfl rfl rfl (v_iaK (i := 1) rfl Try.underlying25 SZ52 rfl rfl rfl rfl (by first | decide | omega) (by first | decide | omega | (simp; done) | (simp; omega))) ?_
  refine s_vg rfl rfl rfl rfl (v_ldKA z52 [.int .u64 ((rd_T52 ([⟨5, 8⟩] : List S52) 0).f0), .int .u64 ((rd_T52 ([⟨5, 8⟩] : List S52) 0).f1)] 1 rfl Try.underlying52 rfl SZ52 rfl rfl rfl rfl (by first | decide | omega) (by first | decide | omega | (simp; done) | (simp; omega)) (fun w K h => k52_open h)) ?_
  refine s_vg rfl rfl rfl rfl (v_build (places := #[(0, 1), (1, 1)]) #[.int .u64 5, .int .u64 8] rfl ZR52 Try.underlying52 (by kernel_rfl) rfl rfl) ?_
  refine s_vg rfl rfl rfl rfl (v_eqA rfl rfl rfl (by kernel_rfl) (eqS52 ((rd_T52 ([⟨5, 8⟩] : List S52) 0).f0) ((rd_T52 ([⟨5, 8⟩] : List S52) 0).f1) 5 8)) ?_
  refine s_v rfl rfl rfl rfl (v_pick rfl rfl rfl rfl) ?_
  refine s_v rfl rfl rfl rfl (v_move rfl rfl) ?_
  refine s_vg rfl rfl rfl rfl (v_ldA [.bool false, .bool true, .int .u64 8, .slice A32_ (([] : List Int).length) c33_] 2 rfl Try.underlying34 rfl SZ34 rfl rfl rfl rfl) ?_
  refine s_vg rfl rfl rfl rfl (v_ldA [.bool false, .bool true, .int .u64 8, .slice A26_ (([] : List Int).length) c27_] 6 rfl Try.underlying34 rfl SZ34 rfl rfl rfl rfl) ?_
  refine s_eg rfl rfl (e_callK (fun z : Unit => .bool true) (fun z => []) #[.agg #[.bool false, .bool true, .int .u64 8, .slice A32_ (([] : List Int).length) c33_], .agg #[.bool false, .bool true, .int .u64 8, .slice A26_ (([] : List Int).length) c27_]] rfl rfl rfl rfl rfl Try.func17 rfl (by decide) rfl rfl (fun w ht => seq_Same.con 5000 _ _ _ _ _ _ _ _ _ _ _ _ _ ((same_f false true 8 ([] : List Int) false true 8 ([] : List Int) (by first | decide | (simp; done) | omega) 5000 (by omega)).trans (congrArg some (by decide))) w (Tri.fact ht 5 rfl) (Tri.fact ht 9 rfl))) ?_
  intro z38_
  refine s_v rfl rfl rfl rfl (v_pick rfl rfl rfl rfl) ?_
  refine s_v rfl rfl rfl rfl (v_move rfl rfl) ?_
  refine s_vg rfl rfl rfl rfl (v_ldA [.bool false, .bool false, .int .u64 0, .slice A4_ (([] : List Int).length) c5_] 21 rfl Try.underlying34 rfl SZ34 rfl rfl rfl rfl) ?_
  refine s_vg rfl rfl rfl rfl (v_ldA [.bool false, .bool true, .int .u64 7, .slice A9_ (([] : List Int).length) c10_] 18 rfl Try.underlying34 rfl SZ34 rfl rfl rfl rfl) ?_
  refine s_eg rfl rfl (e_callK (fun z : Unit => .bool false) (fun z => []) #[.agg #[.bool false, .bool false, .int .u64 0, .slice A4_ (([] : List Int).length) c5_], .agg #[.bool false, .bool true, .int .u64 7, .slice A9_ (([] : List Int).length) c10_]] rfl rfl rfl rfl rfl Try.func17 rfl (by decide) rfl rfl (fun w ht => seq_Same.con 5000 _ _ _ _ _ _ _ _ _ _ _ _ _ ((same_f false false 0 ([] : List Int) false true 7 ([] : List Int) (by first | decide | (simp; done) | omega) 5000 (by omega)).trans (congrArg some (by decide))) w (Tri.fact ht 23 rfl) (Tri.fact ht 20 rfl))) ?_
  intro z39_
  refine s_vg rfl rfl rfl rfl (v_not rfl rfl) ?_
  refine s_v rfl rfl rfl rfl (v_pick rfl rfl rfl rfl) ?_
  refine s_v rfl rfl rfl rfl (v_assign rfl rfl) ?_
  refine s_end ?_
  refine q_seq ?_
  refine c_ret rfl ?_
  refine q_take [] rfl (by decide) ?_
  exact q_post rfl (.cons rfl (.nil)) hX
theorem alive_calls (w : World) : Calls Try.prog 10 #[] w fun e w' => ∃ z : Unit, e = .returned (.bool true) ∧ (∀ φ ∈ ([] : List (World → Prop)), FreshF w.heap.size w' φ) ∧ Below w.heap.size w w' := by
  refine (calls_of_con (R := fun v L => v = .bool true) (alive_con w []) (Tri.nil w) rfl).mono ?_
  rintro e w' ⟨v, L', rfl, rfl, ht⟩
  exact ⟨(), rfl, fun _ h => (by cases h), ht.below⟩
end Go.Eng
