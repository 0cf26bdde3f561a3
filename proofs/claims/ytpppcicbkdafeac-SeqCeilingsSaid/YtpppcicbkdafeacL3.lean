/- Own text, written by an own program: L3. -/
import Derived.Test.YtpppcicbkdafeacP12
import Derived.Test.YtpppcicbkdafeacEK
namespace Go.Eng
open Go.Proofs Go.RowKit Go.Proofs.YtpppcicbkdafeacW.PrintWords Go.Proofs.Ytpppcicbkdafeac.GSeq
set_option linter.unusedVariables false
set_option linter.unusedSimpArgs false
set_option maxRecDepth 100000 in
set_option maxHeartbeats 4000000 in
theorem seqCeilings_con (A0 : Option Addr) (c0 : Nat) (l0 : List S62) (a1 a2 : Int) (hw : ∀ x ∈ l0, x.f0 ≤ 18446744073709551615) (w0 : World) (H : List Nat) : Con Try.prog 7 #[.slice A0 l0.length c0, .int .u64 a1, .int .u64 a2] w0 H [.f (KC k62 A0 c0 l0)] (fun X => X (.bool true) []) := by
  refine con_enter (c := bodyOf Try.f7) Try.func7 rfl (m := 109) rfl rfl rfl ?_
  intro X hX _
  obtain ⟨M, hM⟩ : ∃ M, ofL [] (l0.map new) = M := ⟨_, rfl⟩
  have hsM : Srt M := hM ▸ srtM l0
  have hwM : ∀ p ∈ M, p.f0 ≤ 18446744073709551615 := fun p hp => by
    rcases mem_ofL (l0.map new) [] p (hM ▸ hp) with h | h
    · cases h
    · obtain ⟨x, hx, rfl⟩ := List.mem_map.1 h; exact hw x hx
  rcases ceil_law hsM hwM a1 a2 with ⟨hD4, hD5⟩ | ⟨x, v, qx, qv, hD4, hD5, hkx, hD1, hD2, hq⟩
  ·
    refine c_seq rfl ?_
    refine r_ord (l := [0]) rfl (by kernel_rfl) (by kernel_rfl) ?_
    refine s_v rfl rfl rfl rfl (v_assign rfl rfl) ?_
    refine s_end ?_
    refine q_seq ?_
    refine c_seq rfl ?_
    refine c_seq rfl ?_
    refine r_ord (l := [0, 1, 2]) rfl (by kernel_rfl) (by kernel_rfl) ?_
    refine s_v rfl rfl rfl rfl (v_move rfl rfl) ?_
    refine s_v rfl rfl rfl rfl (v_len rfl rfl rfl Try.underlying28 rfl rfl) ?_
    refine s_v rfl rfl rfl rfl (v_arith rfl rfl rfl rfl) ?_
    refine s_end ?_
    refine q_seq ?_
    refine c_cond (t := decide (((l0.length : Nat) : Int) > 100)) rfl rfl (fun h1_ => ?_) (fun h1_ => ?_)
    ·
      have h1_d := of_decide_eq_true h1_
      refine c_seq rfl ?_
      refine r_ord (l := [0, 1]) rfl (by kernel_rfl) (by kernel_rfl) ?_
      refine s_e rfl rfl (e_callK (fun z : Unit => .bool true) (fun z => []) #[] rfl rfl rfl rfl rfl Try.func10 rfl (by decide) rfl rfl (fun w ht => alive_calls w)) ?_
      intro z2_
      refine s_v rfl rfl rfl rfl (v_assign rfl rfl) ?_
      refine s_end ?_
      refine q_seq ?_
      refine c_ret rfl ?_
      refine q_then_ret ?_
      refine q_take [] rfl (by decide) ?_
      exact q_post rfl (.cons rfl (.nil)) hX
    ·
      have h1_d := of_decide_eq_false h1_
      refine c_skip rfl ?_
      refine q_seq ?_
      refine c_seq rfl ?_
      refine r_ord (l := [0, 1, 2, 3, 4]) rfl (by kernel_rfl) (by kernel_rfl) ?_
      refine s_v rfl rfl rfl rfl (v_move rfl rfl) ?_
      refine s_e rfl rfl (e_callK (fun z : Option Addr × Nat => .slice z.1 ((l0.map new).length) z.2) (fun z => [KC k52 z.1 z.2 (l0.map new)]) #[.slice A0 l0.length c0] rfl rfl rfl rfl rfl Try.func19 rfl (by decide) rfl rfl (fun w ht => stepstonelaw07_News.con 5000 _ _ _ _ (news_f l0 (by omega) 5000 (by omega)) w (Tri.fact ht 0 rfl))) ?_
      intro z3_
      refine s_e rfl rfl (e_callK (fun z : Option Addr × Nat => .agg #[.slice z.1 M.length z.2]) (fun z => [KC k52 z.1 z.2 M]) #[.slice z3_.1 ((l0.map new).length) z3_.2] rfl rfl rfl rfl rfl Try.func18 rfl (by decide) rfl rfl (fun w ht => seq_Of.con 5000 _ _ _ _ ((of_f (l0.map new) (by simp; omega) 5000 (by omega)).trans (congrArg some hM)) w (Tri.fact ht 0 rfl))) ?_
      intro z4_
      refine s_e rfl rfl (e_alloc rfl rfl rfl ZR27) ?_
      intro b5_
      refine s_e rfl rfl (e_stA 0 rfl rfl SZ27 rfl rfl rfl rfl rfl rfl) ?_
      refine s_end ?_
      refine q_seq ?_
      refine c_seq rfl ?_
      refine r_ord (l := [0, 1, 2, 3, 4, 5, 6, 7, 8, 9, 10]) rfl (by kernel_rfl) (by kernel_rfl) ?_
      refine s_v rfl rfl rfl rfl (v_ldA [.slice z4_.1 M.length z4_.2] 0 rfl Try.underlying27 rfl SZ27 rfl rfl rfl rfl) ?_
      refine s_v rfl rfl rfl rfl (v_move rfl rfl) ?_
      refine s_v rfl rfl rfl rfl (v_build (places := #[(0, 1), (1, 1), (2, 1), (3, 1), (4, 1)]) #[.int .i64 4, .int .u64 a1, .int .u64 0, .int .i64 0, .int .i64 0] rfl ZR31 Try.underlying31 (by kernel_rfl) rfl rfl) ?_
      refine s_e rfl rfl (e_callF [1] #[.agg #[.slice z4_.1 M.length z4_.2], .agg #[.int .i64 4, .int .u64 a1, .int .u64 0, .int .i64 0, .int .i64 0]] rfl rfl rfl rfl rfl Try.func11 rfl (by decide) rfl rfl rfl rfl (fun w ht => do_conr z4_.1 z4_.2 M 4 a1 0 0 0 hsM (by have h_ := lenM l0 (by omega); rw [hM] at h_; omega) M false false 0 ([] : List Int) hD4 w _)) ?_
      intro A6_ c7_ A8_ c9_
      refine s_v rfl rfl rfl rfl (v_move rfl rfl) ?_
      refine s_v rfl rfl rfl rfl (v_ext rfl rfl rfl) ?_
      refine s_v rfl rfl rfl rfl (v_ext rfl rfl rfl) ?_
      refine s_e rfl rfl (e_alloc rfl rfl rfl ZR27) ?_
      intro b10_
      refine s_e rfl rfl (e_alloc rfl rfl rfl ZR34) ?_
      intro b11_
      refine s_e rfl rfl (e_stA 1 rfl rfl SZ27 rfl rfl rfl rfl rfl rfl) ?_
      refine s_e rfl rfl (e_stA 0 rfl rfl SZ34 rfl rfl rfl rfl rfl rfl) ?_
      refine s_end ?_
      refine q_seq ?_
      refine c_seq rfl ?_
      refine r_ord (l := [0, 1, 2, 3, 4, 5, 6, 7, 8, 9, 10]) rfl (by kernel_rfl) (by kernel_rfl) ?_
      refine s_v rfl rfl rfl rfl (v_ldA [.slice z4_.1 M.length z4_.2] 4 rfl Try.underlying27 rfl SZ27 rfl rfl rfl rfl) ?_
      refine s_v rfl rfl rfl rfl (v_move rfl rfl) ?_
      refine s_v rfl rfl rfl rfl (v_build (places := #[(0, 1), (1, 1), (2, 1), (3, 1), (4, 1)]) #[.int .i64 5, .int .u64 a1, .int .u64 18446744073709551615, .int .i64 1, .int .i64 0] rfl ZR31 Try.underlying31 (by kernel_rfl) rfl rfl) ?_
      refine s_e rfl rfl (e_callF [5] #[.agg #[.slice z4_.1 M.length z4_.2], .agg #[.int .i64 5, .int .u64 a1, .int .u64 18446744073709551615, .int .i64 1, .int .i64 0]] rfl rfl rfl rfl rfl Try.func11 rfl (by decide) rfl rfl rfl rfl (fun w ht => do_conr z4_.1 z4_.2 M 5 a1 18446744073709551615 1 0 hsM (by have h_ := lenM l0 (by omega); rw [hM] at h_; omega) M false false 0 ([] : List Int) hD5 w _)) ?_
      intro A12_ c13_ A14_ c15_
      refine s_v rfl rfl rfl rfl (v_move rfl rfl) ?_
      refine s_v rfl rfl rfl rfl (v_ext rfl rfl rfl) ?_
      refine s_v rfl rfl rfl rfl (v_ext rfl rfl rfl) ?_
      refine s_e rfl rfl (e_alloc rfl rfl rfl ZR27) ?_
      intro b16_
      refine s_e rfl rfl (e_alloc rfl rfl rfl ZR34) ?_
      intro b17_
      refine s_e rfl rfl (e_stA 1 rfl rfl SZ27 rfl rfl rfl rfl rfl rfl) ?_
      refine s_e rfl rfl (e_stA 0 rfl rfl SZ34 rfl rfl rfl rfl rfl rfl) ?_
      refine s_end ?_
      refine q_seq ?_
      refine c_seq rfl ?_
      refine c_seq rfl ?_
      refine r_ord (l := [0, 1, 2]) rfl (by kernel_rfl) (by kernel_rfl) ?_
      refine s_v rfl rfl rfl rfl (v_fa rfl Try.underlying34 rfl SZ4 rfl) ?_
      refine s_v rfl rfl rfl rfl (v_ld 4 rfl Try.underlying4 rfl rfl rfl rfl) ?_
      refine s_v rfl rfl rfl rfl (v_not rfl rfl) ?_
      refine s_end ?_
      refine q_seq ?_
      refine c_cond1 rfl rfl ?_
      refine c_seq rfl ?_
      refine r_ord (l := [0, 1, 2, 3, 4, 5, 6, 7, 8, 9, 10, 11, 12]) rfl (by kernel_rfl) (by kernel_rfl) ?_
      refine s_e rfl rfl (e_callK (fun z : Unit => .bool true) (fun z => []) #[] rfl rfl rfl rfl rfl Try.func10 rfl (by decide) rfl rfl (fun w ht => alive_calls w)) ?_
      intro z18_
      refine s_v rfl rfl rfl rfl (v_move rfl rfl) ?_
      refine s_vg rfl rfl rfl rfl (v_fa rfl Try.underlying34 rfl SZ32 rfl) ?_
      refine s_vg rfl rfl rfl rfl (v_ld 0 rfl Try.underlying32 rfl rfl rfl rfl) ?_
      refine s_vg rfl rfl rfl rfl (v_len rfl rfl rfl Try.underlying32 rfl rfl) ?_
      refine s_vg rfl rfl rfl rfl (v_arith rfl rfl rfl rfl) ?_
      refine s_v rfl rfl rfl rfl (v_pick rfl rfl rfl rfl) ?_
      refine s_v rfl rfl rfl rfl (v_move rfl rfl) ?_
      refine s_vg rfl rfl rfl rfl (v_fa rfl Try.underlying34 rfl SZ29 rfl) ?_
      refine s_vg rfl rfl rfl rfl (v_ld 4 rfl Try.underlying29 rfl rfl rfl rfl) ?_
      refine s_vg rfl rfl rfl rfl (v_arith rfl rfl rfl rfl) ?_
      refine s_v rfl rfl rfl rfl (v_pick rfl rfl rfl rfl) ?_
      refine s_v rfl rfl rfl rfl (v_assign rfl rfl) ?_
      refine s_end ?_
      refine q_seq ?_
      refine c_ret rfl ?_
      refine q_then_ret ?_
      refine q_take [] rfl (by decide) ?_
      exact q_post rfl (.cons rfl (.nil)) hX
  ·
    refine c_seq rfl ?_
    refine r_ord (l := [0]) rfl (by kernel_rfl) (by kernel_rfl) ?_
    refine s_v rfl rfl rfl rfl (v_assign rfl rfl) ?_
    refine s_end ?_
    refine q_seq ?_
    refine c_seq rfl ?_
    refine c_seq rfl ?_
    refine r_ord (l := [0, 1, 2]) rfl (by kernel_rfl) (by kernel_rfl) ?_
    refine s_v rfl rfl rfl rfl (v_move rfl rfl) ?_
    refine s_v rfl rfl rfl rfl (v_len rfl rfl rfl Try.underlying28 rfl rfl) ?_
    refine s_v rfl rfl rfl rfl (v_arith rfl rfl rfl rfl) ?_
    refine s_end ?_
    refine q_seq ?_
    refine c_cond (t := decide (((l0.length : Nat) : Int) > 100)) rfl rfl (fun h19_ => ?_) (fun h19_ => ?_)
    ·
      have h19_d := of_decide_eq_true h19_
      refine c_seq rfl ?_
      refine r_ord (l := [0, 1]) rfl (by kernel_rfl) (by kernel_rfl) ?_
      refine s_e rfl rfl (e_callK (fun z : Unit => .bool true) (fun z => []) #[] rfl rfl rfl rfl rfl Try.func10 rfl (by decide) rfl rfl (fun w ht => alive_calls w)) ?_
      intro z20_
      refine s_v rfl rfl rfl rfl (v_assign rfl rfl) ?_
      refine s_end ?_
      refine q_seq ?_
      refine c_ret rfl ?_
      refine q_then_ret ?_
      refine q_take [] rfl (by decide) ?_
      exact q_post rfl (.cons rfl (.nil)) hX
    ·
      have h19_d := of_decide_eq_false h19_
      refine c_skip rfl ?_
      refine q_seq ?_
      refine c_seq rfl ?_
      refine r_ord (l := [0, 1, 2, 3, 4]) rfl (by kernel_rfl) (by kernel_rfl) ?_
      refine s_v rfl rfl rfl rfl (v_move rfl rfl) ?_
      refine s_e rfl rfl (e_callK (fun z : Option Addr × Nat => .slice z.1 ((l0.map new).length) z.2) (fun z => [KC k52 z.1 z.2 (l0.map new)]) #[.slice A0 l0.length c0] rfl rfl rfl rfl rfl Try.func19 rfl (by decide) rfl rfl (fun w ht => stepstonelaw07_News.con 5000 _ _ _ _ (news_f l0 (by omega) 5000 (by omega)) w (Tri.fact ht 0 rfl))) ?_
      intro z21_
      refine s_e rfl rfl (e_callK (fun z : Option Addr × Nat => .agg #[.slice z.1 M.length z.2]) (fun z => [KC k52 z.1 z.2 M]) #[.slice z21_.1 ((l0.map new).length) z21_.2] rfl rfl rfl rfl rfl Try.func18 rfl (by decide) rfl rfl (fun w ht => seq_Of.con 5000 _ _ _ _ ((of_f (l0.map new) (by simp; omega) 5000 (by omega)).trans (congrArg some hM)) w (Tri.fact ht 0 rfl))) ?_
      intro z22_
      refine s_e rfl rfl (e_alloc rfl rfl rfl ZR27) ?_
      intro b23_
      refine s_e rfl rfl (e_stA 0 rfl rfl SZ27 rfl rfl rfl rfl rfl rfl) ?_
      refine s_end ?_
      refine q_seq ?_
      refine c_seq rfl ?_
      refine r_ord (l := [0, 1, 2, 3, 4, 5, 6, 7, 8, 9, 10]) rfl (by kernel_rfl) (by kernel_rfl) ?_
      refine s_v rfl rfl rfl rfl (v_ldA [.slice z22_.1 M.length z22_.2] 0 rfl Try.underlying27 rfl SZ27 rfl rfl rfl rfl) ?_
      refine s_v rfl rfl rfl rfl (v_move rfl rfl) ?_
      refine s_v rfl rfl rfl rfl (v_build (places := #[(0, 1), (1, 1), (2, 1), (3, 1), (4, 1)]) #[.int .i64 4, .int .u64 a1, .int .u64 0, .int .i64 0, .int .i64 0] rfl ZR31 Try.underlying31 (by kernel_rfl) rfl rfl) ?_
      refine s_e rfl rfl (e_callF [1] #[.agg #[.slice z22_.1 M.length z22_.2], .agg #[.int .i64 4, .int .u64 a1, .int .u64 0, .int .i64 0, .int .i64 0]] rfl rfl rfl rfl rfl Try.func11 rfl (by decide) rfl rfl rfl rfl (fun w ht => do_conr z22_.1 z22_.2 M 4 a1 0 0 0 hsM (by have h_ := lenM l0 (by omega); rw [hM] at h_; omega) M false true x ([] : List Int) hD4 w _)) ?_
      intro A24_ c25_ A26_ c27_
      refine s_v rfl rfl rfl rfl (v_move rfl rfl) ?_
      refine s_v rfl rfl rfl rfl (v_ext rfl rfl rfl) ?_
      refine s_v rfl rfl rfl rfl (v_ext rfl rfl rfl) ?_
      refine s_e rfl rfl (e_alloc rfl rfl rfl ZR27) ?_
      intro b28_
      refine s_e rfl rfl (e_alloc rfl rfl rfl ZR34) ?_
      intro b29_
      refine s_e rfl rfl (e_stA 1 rfl rfl SZ27 rfl rfl rfl rfl rfl rfl) ?_
      refine s_e rfl rfl (e_stA 0 rfl rfl SZ34 rfl rfl rfl rfl rfl rfl) ?_
      refine s_end ?_
      refine q_seq ?_
      refine c_seq rfl ?_
      refine r_ord (l := [0, 1, 2, 3, 4, 5, 6, 7, 8, 9, 10]) rfl (by kernel_rfl) (by kernel_rfl) ?_
      refine s_v rfl rfl rfl rfl (v_ldA [.slice z22_.1 M.length z22_.2] 4 rfl Try.underlying27 rfl SZ27 rfl rfl rfl rfl) ?_
      refine s_v rfl rfl rfl rfl (v_move rfl rfl) ?_
      refine s_v rfl rfl rfl rfl (v_build (places := #[(0, 1), (1, 1), (2, 1), (3, 1), (4, 1)]) #[.int .i64 5, .int .u64 a1, .int .u64 18446744073709551615, .int .i64 1, .int .i64 0] rfl ZR31 Try.underlying31 (by kernel_rfl) rfl rfl) ?_
      refine s_e rfl rfl (e_callF [5] #[.agg #[.slice z22_.1 M.length z22_.2], .agg #[.int .i64 5, .int .u64 a1, .int .u64 18446744073709551615, .int .i64 1, .int .i64 0]] rfl rfl rfl rfl rfl Try.func11 rfl (by decide) rfl rfl rfl rfl (fun w ht => do_conr z22_.1 z22_.2 M 5 a1 18446744073709551615 1 0 hsM (by have h_ := lenM l0 (by omega); rw [hM] at h_; omega) M false false 0 ([x] : List Int) hD5 w _)) ?_
      intro A30_ c31_ A32_ c33_
      refine s_v rfl rfl rfl rfl (v_move rfl rfl) ?_
      refine s_v rfl rfl rfl rfl (v_ext rfl rfl rfl) ?_
      refine s_v rfl rfl rfl rfl (v_ext rfl rfl rfl) ?_
      refine s_e rfl rfl (e_alloc rfl rfl rfl ZR27) ?_
      intro b34_
      refine s_e rfl rfl (e_alloc rfl rfl rfl ZR34) ?_
      intro b35_
      refine s_e rfl rfl (e_stA 1 rfl rfl SZ27 rfl rfl rfl rfl rfl rfl) ?_
      refine s_e rfl rfl (e_stA 0 rfl rfl SZ34 rfl rfl rfl rfl rfl rfl) ?_
      refine s_end ?_
      refine q_seq ?_
      refine c_seq rfl ?_
      refine c_seq rfl ?_
      refine r_ord (l := [0, 1, 2]) rfl (by kernel_rfl) (by kernel_rfl) ?_
      refine s_v rfl rfl rfl rfl (v_fa rfl Try.underlying34 rfl SZ4 rfl) ?_
      refine s_v rfl rfl rfl rfl (v_ld 4 rfl Try.underlying4 rfl rfl rfl rfl) ?_
      refine s_v rfl rfl rfl rfl (v_not rfl rfl) ?_
      refine s_end ?_
      refine q_seq ?_
      refine c_cond0 rfl rfl ?_
      refine c_skip rfl ?_
      refine q_seq ?_
      refine c_seq rfl ?_
      refine r_ord (l := [0, 1, 2, 3, 4, 5, 6, 7, 8, 9, 10, 11]) rfl (by kernel_rfl) (by kernel_rfl) ?_
      refine s_v rfl rfl rfl rfl (v_ldA [.slice z22_.1 M.length z22_.2] 8 rfl Try.underlying27 rfl SZ27 rfl rfl rfl rfl) ?_
      refine s_v rfl rfl rfl rfl (v_fa rfl Try.underlying34 rfl SZ29 rfl) ?_
      refine s_v rfl rfl rfl rfl (v_ld 4 rfl Try.underlying29 rfl rfl rfl rfl) ?_
      refine s_v rfl rfl rfl rfl (v_build (places := #[(0, 1), (1, 1), (2, 1), (3, 1), (4, 1)]) #[.int .i64 1, .int .u64 x, .int .u64 0, .int .i64 0, .int .i64 0] rfl ZR31 Try.underlying31 (by kernel_rfl) rfl rfl) ?_
      refine s_e rfl rfl (e_callF [9] #[.agg #[.slice z22_.1 M.length z22_.2], .agg #[.int .i64 1, .int .u64 x, .int .u64 0, .int .i64 0, .int .i64 0]] rfl rfl rfl rfl rfl Try.func11 rfl (by decide) rfl rfl rfl rfl (fun w ht => do_conr z22_.1 z22_.2 M 1 x 0 0 0 hsM (by have h_ := lenM l0 (by omega); rw [hM] at h_; omega) M false true v ([] : List Int) hD1 w _)) ?_
      intro A36_ c37_ A38_ c39_
      refine s_v rfl rfl rfl rfl (v_move rfl rfl) ?_
      refine s_v rfl rfl rfl rfl (v_ext rfl rfl rfl) ?_
      refine s_v rfl rfl rfl rfl (v_ext rfl rfl rfl) ?_
      refine s_e rfl rfl (e_alloc rfl rfl rfl ZR27) ?_
      intro b40_
      refine s_e rfl rfl (e_alloc rfl rfl rfl ZR34) ?_
      intro b41_
      refine s_e rfl rfl (e_stA 1 rfl rfl SZ27 rfl rfl rfl rfl rfl rfl) ?_
      refine s_e rfl rfl (e_stA 0 rfl rfl SZ34 rfl rfl rfl rfl rfl rfl) ?_
      refine s_end ?_
      refine q_seq ?_
      refine c_seq rfl ?_
      refine r_ord (l := [0, 1, 2, 3, 4, 5, 6, 7, 8, 9, 10]) rfl (by kernel_rfl) (by kernel_rfl) ?_
      refine s_v rfl rfl rfl rfl (v_ldA [.slice z22_.1 M.length z22_.2] 12 rfl Try.underlying27 rfl SZ27 rfl rfl rfl rfl) ?_
      refine s_v rfl rfl rfl rfl (v_move rfl rfl) ?_
      refine s_v rfl rfl rfl rfl (v_build (places := #[(0, 1), (1, 1), (2, 1), (3, 1), (4, 1)]) #[.int .i64 1, .int .u64 a2, .int .u64 0, .int .i64 0, .int .i64 0] rfl ZR31 Try.underlying31 (by kernel_rfl) rfl rfl) ?_
      refine s_e rfl rfl (e_callF [13] #[.agg #[.slice z22_.1 M.length z22_.2], .agg #[.int .i64 1, .int .u64 a2, .int .u64 0, .int .i64 0, .int .i64 0]] rfl rfl rfl rfl rfl Try.func11 rfl (by decide) rfl rfl rfl rfl (fun w ht => do_conr z22_.1 z22_.2 M 1 a2 0 0 0 hsM (by have h_ := lenM l0 (by omega); rw [hM] at h_; omega) M false qx qv ([] : List Int) hD2 w _)) ?_
      intro A42_ c43_ A44_ c45_
      refine s_v rfl rfl rfl rfl (v_move rfl rfl) ?_
      refine s_v rfl rfl rfl rfl (v_ext rfl rfl rfl) ?_
      refine s_v rfl rfl rfl rfl (v_ext rfl rfl rfl) ?_
      refine s_e rfl rfl (e_alloc rfl rfl rfl ZR27) ?_
      intro b46_
      refine s_e rfl rfl (e_alloc rfl rfl rfl ZR34) ?_
      intro b47_
      refine s_e rfl rfl (e_stA 1 rfl rfl SZ27 rfl rfl rfl rfl rfl rfl) ?_
      refine s_e rfl rfl (e_stA 0 rfl rfl SZ34 rfl rfl rfl rfl rfl rfl) ?_
      refine s_end ?_
      refine q_seq ?_
      refine c_seq rfl ?_
      refine r_any [.b b47_ (.cells #[.bool false, .bool qx, .int .u64 qv, .slice A44_ (([] : List Int).length) c45_] 34 (0, 0)), .b b46_ (.cells #[.slice A42_ M.length c43_] 27 (0, 0)), .f (KC k52 A42_ c43_ M), .f (KC (Kd.int .u64) A44_ c45_ ([] : List Int)), .b b41_ (.cells #[.bool false, .bool true, .int .u64 v, .slice A38_ (([] : List Int).length) c39_] 34 (0, 0)), .b b40_ (.cells #[.slice A36_ M.length c37_] 27 (0, 0)), .f (KC k52 A36_ c37_ M), .f (KC (Kd.int .u64) A38_ c39_ ([] : List Int)), .b b35_ (.cells #[.bool false, .bool false, .int .u64 0, .slice A32_ (([x] : List Int).length) c33_] 34 (0, 0)), .b b34_ (.cells #[.slice A30_ M.length c31_] 27 (0, 0)), .f (KC k52 A30_ c31_ M), .f (KC (Kd.int .u64) A32_ c33_ ([x] : List Int)), .b b29_ (.cells #[.bool false, .bool true, .int .u64 x, .slice A26_ (([] : List Int).length) c27_] 34 (0, 0)), .b b28_ (.cells #[.slice A24_ M.length c25_] 27 (0, 0)), .f (KC k52 A24_ c25_ M), .f (KC (Kd.int .u64) A26_ c27_ ([] : List Int)), .b b23_ (.cells #[.slice z22_.1 M.length z22_.2] 27 (0, 0)), .f (KC k52 z22_.1 z22_.2 M), .f (KC k52 z21_.1 z21_.2 (l0.map new)), .f (KC k62 A0 c0 l0)] (by kernel_rfl) rfl (by kernel_rfl) (mem_pick (idx := [0, 1, 2, 3, 4, 5, 6, 7, 8, 9, 10, 11, 12, 13, 14, 15, 16, 17, 18, 19]) rfl) ?_
      refine a_1 (i := 0) (by kernel_rfl) ?_
      refine i_e rfl rfl (e_callK (fun z : Unit => .bool true) (fun z => []) #[] rfl rfl rfl rfl rfl Try.func10 rfl (by decide) rfl rfl (fun w ht => alive_calls w)) ?_
      intro z48_
      refine ⟨(mem_pick (idx := [0, 1, 2, 3, 4, 5, 6, 7, 8, 9, 10, 11, 12, 13, 14, 15, 16, 17, 18, 19]) rfl), ?_⟩
      refine a_v 1 rfl (by kernel_rfl) (by kernel_rfl) (by kernel_rfl) rfl rfl rfl (v_move rfl rfl) ?_
      refine a_v 2 rfl (by kernel_rfl) (by kernel_rfl) (by kernel_rfl) rfl rfl rfl (v_fa rfl Try.underlying34 rfl SZ32 rfl) ?_
      refine a_v 3 rfl (by kernel_rfl) (by kernel_rfl) (by kernel_rfl) rfl rfl rfl (v_ld 8 rfl Try.underlying32 rfl rfl rfl rfl) ?_
      refine a_v 4 rfl (by kernel_rfl) (by kernel_rfl) (by kernel_rfl) rfl rfl rfl (v_len rfl rfl rfl Try.underlying32 rfl rfl) ?_
      refine a_v 5 rfl (by kernel_rfl) (by kernel_rfl) (by kernel_rfl) rfl rfl rfl (v_arith rfl rfl rfl rfl) ?_
      refine a_v 6 rfl (by kernel_rfl) (by kernel_rfl) (by kernel_rfl) rfl rfl rfl (v_pick rfl rfl rfl rfl) ?_
      refine a_v 7 rfl (by kernel_rfl) (by kernel_rfl) (by kernel_rfl) rfl rfl rfl (v_move rfl rfl) ?_
      refine a_v 8 rfl (by kernel_rfl) (by kernel_rfl) (by kernel_rfl) rfl rfl rfl (v_fa rfl Try.underlying34 rfl SZ32 rfl) ?_
      refine a_v 9 rfl (by kernel_rfl) (by kernel_rfl) (by kernel_rfl) rfl rfl rfl (v_ld 8 rfl Try.underlying32 rfl rfl rfl rfl) ?_
      refine a_v 10 rfl (by kernel_rfl) (by kernel_rfl) (by kernel_rfl) rfl rfl rfl (v_iaK (i := 11) rfl Try.underlying32 SZ29 rfl rfl rfl rfl (by omega) (by first | omega | (simp; done) | (simp; omega))) ?_
      refine a_v 11 rfl (by kernel_rfl) (by kernel_rfl) (by kernel_rfl) rfl rfl rfl (v_ldK 0 11 rfl Try.underlying29 rfl rfl rfl rfl (by omega) (by first | omega | (simp; done) | (simp; omega)) (fun w K h => h)) ?_
      refine a_v 12 rfl (by kernel_rfl) (by kernel_rfl) (by kernel_rfl) rfl rfl rfl (v_fa rfl Try.underlying34 rfl SZ29 rfl) ?_
      refine a_v 13 rfl (by kernel_rfl) (by kernel_rfl) (by kernel_rfl) rfl rfl rfl (v_ld 12 rfl Try.underlying29 rfl rfl rfl rfl) ?_
      refine a_v 14 rfl (by kernel_rfl) (by kernel_rfl) (by kernel_rfl) rfl rfl rfl (OpV.cast (v := .bool true) (v_arith rfl rfl rfl rfl) (by simp [rd])) ?_
      refine a_v 15 rfl (by kernel_rfl) (by kernel_rfl) (by kernel_rfl) rfl rfl rfl (v_pick rfl rfl rfl rfl) ?_
      refine a_v 16 rfl (by kernel_rfl) (by kernel_rfl) (by kernel_rfl) rfl rfl rfl (v_move rfl rfl) ?_
      refine a_v 17 rfl (by kernel_rfl) (by kernel_rfl) (by kernel_rfl) rfl rfl rfl (v_fa rfl Try.underlying34 rfl SZ29 rfl) ?_
      refine a_v 18 rfl (by kernel_rfl) (by kernel_rfl) (by kernel_rfl) rfl rfl rfl (v_ld 12 rfl Try.underlying29 rfl rfl rfl rfl) ?_
      refine a_v 19 rfl (by kernel_rfl) (by kernel_rfl) (by kernel_rfl) rfl rfl rfl (v_move rfl rfl) ?_
      refine a_v 20 rfl (by kernel_rfl) (by kernel_rfl) (by kernel_rfl) rfl rfl rfl (OpV.cast (v := .bool true) (v_arith rfl rfl rfl rfl) (by simp; omega)) ?_
      refine a_v 21 rfl (by kernel_rfl) (by kernel_rfl) (by kernel_rfl) rfl rfl rfl (v_pick rfl rfl rfl rfl) ?_
      refine a_v 22 rfl (by kernel_rfl) (by kernel_rfl) (by kernel_rfl) rfl rfl rfl (v_move rfl rfl) ?_
      refine a_v 23 rfl (by kernel_rfl) (by kernel_rfl) (by kernel_rfl) rfl rfl rfl (v_fa rfl Try.underlying34 rfl SZ4 rfl) ?_
      refine a_v 24 rfl (by kernel_rfl) (by kernel_rfl) (by kernel_rfl) rfl rfl rfl (v_ld 4 rfl Try.underlying4 rfl rfl rfl rfl) ?_
      refine a_v 25 rfl (by kernel_rfl) (by kernel_rfl) (by kernel_rfl) rfl rfl rfl (v_pick rfl rfl rfl rfl) ?_
      refine a_v 26 rfl (by kernel_rfl) (by kernel_rfl) (by kernel_rfl) rfl rfl rfl (v_move rfl rfl) ?_
      refine a_v 27 rfl (by kernel_rfl) (by kernel_rfl) (by kernel_rfl) rfl rfl rfl (v_move rfl rfl) ?_
      refine a_v 28 rfl (by kernel_rfl) (by kernel_rfl) (by kernel_rfl) rfl rfl rfl (v_move rfl rfl) ?_
      refine a_v 29 rfl (by kernel_rfl) (by kernel_rfl) (by kernel_rfl) rfl rfl rfl (v_arith rfl rfl rfl rfl) ?_
      refine a_v 30 rfl (by kernel_rfl) (by kernel_rfl) (by kernel_rfl) rfl rfl rfl (v_move rfl rfl) ?_
      refine a_splitv (d := 97) (t := decide ((a2 : Int) < a1)) rfl (fun h49_ => ?_) (fun h49_ => ?_)
      ·
        have h49_d := of_decide_eq_true h49_
        refine a_no 31 rfl (by kernel_rfl) (by kernel_rfl) (by kernel_rfl) rfl rfl rfl ?_
        refine a_no 32 rfl (by kernel_rfl) (by kernel_rfl) (by kernel_rfl) rfl rfl rfl ?_
        refine a_no 33 rfl (by kernel_rfl) (by kernel_rfl) (by kernel_rfl) rfl rfl rfl ?_
        refine a_no 34 rfl (by kernel_rfl) (by kernel_rfl) (by kernel_rfl) rfl rfl rfl ?_
        refine a_v 35 rfl (by kernel_rfl) (by kernel_rfl) (by kernel_rfl) rfl rfl rfl (v_pick rfl rfl rfl rfl) ?_
        refine a_v 36 rfl (by kernel_rfl) (by kernel_rfl) (by kernel_rfl) rfl rfl rfl (v_move rfl rfl) ?_
        refine a_no 37 rfl (by kernel_rfl) (by kernel_rfl) (by kernel_rfl) rfl rfl rfl ?_
        refine a_no 38 rfl (by kernel_rfl) (by kernel_rfl) (by kernel_rfl) rfl rfl rfl ?_
        refine a_no 39 rfl (by kernel_rfl) (by kernel_rfl) (by kernel_rfl) rfl rfl rfl ?_
        refine a_v 40 rfl (by kernel_rfl) (by kernel_rfl) (by kernel_rfl) rfl rfl rfl (v_pick rfl rfl rfl rfl) ?_
        refine a_v 41 rfl (by kernel_rfl) (by kernel_rfl) (by kernel_rfl) rfl rfl rfl (v_pick rfl rfl rfl rfl) ?_
        refine a_v 42 rfl (by kernel_rfl) (by kernel_rfl) (by kernel_rfl) rfl rfl rfl (v_assign rfl rfl) ?_
        refine a_end (by kernel_rfl) ?_
        refine q_seq ?_
        refine c_ret rfl ?_
        refine q_take [] rfl (by decide) ?_
        exact q_post rfl (.cons rfl (.nil)) hX
      ·
        have h49_d := of_decide_eq_false h49_
        refine a_v 31 rfl (by kernel_rfl) (by kernel_rfl) (by kernel_rfl) rfl rfl rfl (v_move rfl rfl) ?_
        refine a_v 32 rfl (by kernel_rfl) (by kernel_rfl) (by kernel_rfl) rfl rfl rfl (v_fa rfl Try.underlying34 rfl SZ29 rfl) ?_
        refine a_v 33 rfl (by kernel_rfl) (by kernel_rfl) (by kernel_rfl) rfl rfl rfl (v_ld 12 rfl Try.underlying29 rfl rfl rfl rfl) ?_
        refine a_v 34 rfl (by kernel_rfl) (by kernel_rfl) (by kernel_rfl) rfl rfl rfl (v_arith rfl rfl rfl rfl) ?_
        refine a_v 35 rfl (by kernel_rfl) (by kernel_rfl) (by kernel_rfl) rfl rfl rfl (v_pick rfl rfl rfl rfl) ?_
        refine a_v 36 rfl (by kernel_rfl) (by kernel_rfl) (by kernel_rfl) rfl rfl rfl (v_move rfl rfl) ?_
        refine a_splitv (d := 103) (t := decide ((a2 : Int) ≥ x)) rfl (fun h50_ => ?_) (fun h50_ => ?_)
        ·
          have h50_d := of_decide_eq_true h50_
          refine a_no 37 rfl (by kernel_rfl) (by kernel_rfl) (by kernel_rfl) rfl rfl rfl ?_
          refine a_no 38 rfl (by kernel_rfl) (by kernel_rfl) (by kernel_rfl) rfl rfl rfl ?_
          refine a_no 39 rfl (by kernel_rfl) (by kernel_rfl) (by kernel_rfl) rfl rfl rfl ?_
          refine a_v 40 rfl (by kernel_rfl) (by kernel_rfl) (by kernel_rfl) rfl rfl rfl (v_pick rfl rfl rfl rfl) ?_
          refine a_v 41 rfl (by kernel_rfl) (by kernel_rfl) (by kernel_rfl) rfl rfl rfl (v_pick rfl rfl rfl rfl) ?_
          refine a_v 42 rfl (by kernel_rfl) (by kernel_rfl) (by kernel_rfl) rfl rfl rfl (v_assign rfl rfl) ?_
          refine a_end (by kernel_rfl) ?_
          refine q_seq ?_
          refine c_ret rfl ?_
          refine q_take [] rfl (by decide) ?_
          exact q_post rfl (.cons rfl (.nil)) hX
        ·
          have h50_d := of_decide_eq_false h50_
          refine a_v 37 rfl (by kernel_rfl) (by kernel_rfl) (by kernel_rfl) rfl rfl rfl (v_fa rfl Try.underlying34 rfl SZ4 rfl) ?_
          refine a_v 38 rfl (by kernel_rfl) (by kernel_rfl) (by kernel_rfl) rfl rfl rfl (v_ld 0 rfl Try.underlying4 rfl rfl rfl rfl) ?_
          refine a_v 39 rfl (by kernel_rfl) (by kernel_rfl) (by kernel_rfl) rfl rfl rfl (OpV.cast (v := .bool true) (v_not rfl rfl) (by cases hqx : qx with | false => rfl | true => exfalso; rcases hq hqx with h_ | h_ <;> omega)) ?_
          refine a_v 40 rfl (by kernel_rfl) (by kernel_rfl) (by kernel_rfl) rfl rfl rfl (v_pick rfl rfl rfl rfl) ?_
          refine a_v 41 rfl (by kernel_rfl) (by kernel_rfl) (by kernel_rfl) rfl rfl rfl (v_pick rfl rfl rfl rfl) ?_
          refine a_v 42 rfl (by kernel_rfl) (by kernel_rfl) (by kernel_rfl) rfl rfl rfl (v_assign rfl rfl) ?_
          refine a_end (by kernel_rfl) ?_
          refine q_seq ?_
          refine c_ret rfl ?_
          refine q_take [] rfl (by decide) ?_
          exact q_post rfl (.cons rfl (.nil)) hX
end Go.Eng
