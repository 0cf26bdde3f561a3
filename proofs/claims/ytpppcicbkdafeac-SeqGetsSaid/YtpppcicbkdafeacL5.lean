/- Own text, written by an own program: L5. -/
import Derived.Test.YtpppcicbkdafeacP12
import Derived.Test.YtpppcicbkdafeacEK
namespace Go.Eng
open Go.Proofs Go.RowKit Go.Proofs.YtpppcicbkdafeacW.PrintWords Go.Proofs.Ytpppcicbkdafeac.GSeq
set_option linter.unusedVariables false
set_option linter.unusedSimpArgs false
set_option maxRecDepth 100000 in
set_option maxHeartbeats 4000000 in
theorem gets_con (A : Option Addr) (c : Nat) (l : List S52) (x : Int) (hs : Srt l) (hl : l.length ≤ 1000) (q : Bool) (v : Int) (hD : Dm l 1 x 0 0 = (l, false, q, v, [])) (w0 : World) (H : List Nat) : Con Try.prog 21 #[.agg #[.slice A l.length c], .int .u64 x] w0 H [.f (KC k52 A c l)] (fun X => ∀ A2 c2, X (.agg #[.bool false, .bool q, .int .u64 v, .slice A2 ([] : List Int).length c2]) [.f (KC (Kd.int .u64) A2 c2 ([] : List Int))]) := by
  refine con_enter (c := bodyOf Try.f21) Try.func21 rfl (m := 15) rfl rfl rfl ?_
  intro X hX _
  refine c_seq rfl ?_
  refine r_ord (l := [0, 1]) rfl (by kernel_rfl) (by kernel_rfl) ?_
  refine s_e rfl rfl (e_box rfl rfl rfl rfl) ?_
  intro b1_
  refine s_e rfl rfl (e_alloc rfl rfl rfl ZR34) ?_
  intro b2_
  refine s_end ?_
  refine q_seq ?_
  refine c_seq rfl ?_
  refine r_ord (l := [0, 1, 2, 3, 4, 5, 6, 7, 8, 9, 10]) rfl (by kernel_rfl) (by kernel_rfl) ?_
  refine s_v rfl rfl rfl rfl (v_ldA [.slice A l.length c] 1 rfl Try.underlying27 rfl SZ27 rfl rfl rfl rfl) ?_
  refine s_v rfl rfl rfl rfl (v_move rfl rfl) ?_
  refine s_v rfl rfl rfl rfl (v_build (places := #[(0, 1), (1, 1), (2, 1), (3, 1), (4, 1)]) #[.int .i64 1, .int .u64 x, .int .u64 0, .int .i64 0, .int .i64 0] rfl ZR31 Try.underlying31 (by kernel_rfl) rfl rfl) ?_
  refine s_e rfl rfl (e_callF [2] #[.agg #[.slice A l.length c], .agg #[.int .i64 1, .int .u64 x, .int .u64 0, .int .i64 0, .int .i64 0]] rfl rfl rfl rfl rfl Try.func11 rfl (by decide) rfl rfl rfl rfl (fun w ht => do_conr A c l 1 x 0 0 0 hs hl l false q v ([] : List Int) hD w _)) ?_
  intro A3_ c4_ A5_ c6_
  refine s_v rfl rfl rfl rfl (v_move rfl rfl) ?_
  refine s_v rfl rfl rfl rfl (v_ext rfl rfl rfl) ?_
  refine s_v rfl rfl rfl rfl (v_ext rfl rfl rfl) ?_
  refine s_e rfl rfl (e_alloc rfl rfl rfl ZR27) ?_
  intro b7_
  refine s_e rfl rfl (e_alloc rfl rfl rfl ZR34) ?_
  intro b8_
  refine s_e rfl rfl (e_stA 1 rfl rfl SZ27 rfl rfl rfl rfl rfl rfl) ?_
  refine s_e rfl rfl (e_stA 0 rfl rfl SZ34 rfl rfl rfl rfl rfl rfl) ?_
  refine s_end ?_
  refine q_seq ?_
  refine c_seq rfl ?_
  refine r_ord (l := [0, 1]) rfl (by kernel_rfl) (by kernel_rfl) ?_
  refine s_v rfl rfl rfl rfl (v_ldA [.bool false, .bool q, .int .u64 v, .slice A5_ (([] : List Int).length) c6_] 0 rfl Try.underlying34 rfl SZ34 rfl rfl rfl rfl) ?_
  refine s_e rfl rfl (e_stA 4 rfl rfl SZ34 rfl rfl rfl rfl rfl rfl) ?_
  refine s_end ?_
  refine q_seq ?_
  refine c_ret rfl ?_
  exact q_ret (vs := [.agg #[.bool false, .bool q, .int .u64 v, .slice A5_ (([] : List Int).length) c6_]]) rfl (.agg [.bool false, .bool q, .int .u64 v, .slice A5_ (([] : List Int).length) c6_] 4 rfl Try.underlying34 rfl SZ34 rfl rfl rfl .nil) [3] rfl (by decide) (hX _ _)
set_option maxRecDepth 100000 in
set_option maxHeartbeats 4000000 in
theorem seqGets_con (A0 : Option Addr) (c0 : Nat) (l0 : List S62) (z0 z1 z2 : Int) (w0 : World) (H : List Nat) : Con Try.prog 6 #[.slice A0 l0.length c0, .agg #[.int .u64 z0, .int .u64 z1, .int .u64 z2]] w0 H [.f (KC k62 A0 c0 l0)] (fun X => X (.bool true) []) := by
  refine con_enter (c := bodyOf Try.f6) Try.func6 rfl (m := 87) rfl rfl rfl ?_
  intro X hX _
  obtain ⟨M, hM⟩ : ∃ M, ofL [] (l0.map new) = M := ⟨_, rfl⟩
  have hsM : Srt M := hM ▸ srtM l0
  obtain ⟨qo, vo, hqo, _⟩ := getM_shape M z2
  have hgM : Dm M 1 z2 0 0 = (M, false, qo, vo, []) := by simp [Dm, hqo]
  have hpk : Dm (ins M z0 z1) 1 z0 0 0 = ((ins M z0 z1), false, true, z1, []) := by simp [Dm, getM_ins_eq]
  have hdk : Dm (del M z0) 1 z0 0 0 = ((del M z0), false, false, 0, []) := by simp [Dm, getM_del_eq]
  ·
    refine c_seq rfl ?_
    refine r_ord (l := [0, 1]) rfl (by kernel_rfl) (by kernel_rfl) ?_
    refine s_e rfl rfl (e_box rfl rfl rfl rfl) ?_
    intro b1_
    refine s_v rfl rfl rfl rfl (v_assign rfl rfl) ?_
    refine s_end ?_
    refine q_seq ?_
    refine c_seq rfl ?_
    refine r_any [.b b1_ (.cells #[.int .u64 z0, .int .u64 z1, .int .u64 z2] 47 (0, 0)), .f (KC k62 A0 c0 l0)] (by kernel_rfl) rfl (by kernel_rfl) (mem_pick (idx := [0, 1]) rfl) ?_
    refine a_v 0 rfl (by kernel_rfl) (by kernel_rfl) (by kernel_rfl) rfl rfl rfl (v_iaA rfl Try.underlying47 SZ29 rfl rfl (by decide) (by decide)) ?_
    refine a_v 1 rfl (by kernel_rfl) (by kernel_rfl) (by kernel_rfl) rfl rfl rfl (v_ld 0 rfl Try.underlying29 rfl rfl rfl rfl) ?_
    refine a_v 2 rfl (by kernel_rfl) (by kernel_rfl) (by kernel_rfl) rfl rfl rfl (v_iaA rfl Try.underlying47 SZ29 rfl rfl (by decide) (by decide)) ?_
    refine a_v 3 rfl (by kernel_rfl) (by kernel_rfl) (by kernel_rfl) rfl rfl rfl (v_ld 0 rfl Try.underlying29 rfl rfl rfl rfl) ?_
    refine a_v 4 rfl (by kernel_rfl) (by kernel_rfl) (by kernel_rfl) rfl rfl rfl (v_iaA rfl Try.underlying47 SZ29 rfl rfl (by decide) (by decide)) ?_
    refine a_v 5 rfl (by kernel_rfl) (by kernel_rfl) (by kernel_rfl) rfl rfl rfl (v_ld 0 rfl Try.underlying29 rfl rfl rfl rfl) ?_
    refine a_v 6 rfl (by kernel_rfl) (by kernel_rfl) (by kernel_rfl) rfl rfl rfl (v_assign rfl rfl) ?_
    refine a_v 7 rfl (by kernel_rfl) (by kernel_rfl) (by kernel_rfl) rfl rfl rfl (v_assign rfl rfl) ?_
    refine a_v 8 rfl (by kernel_rfl) (by kernel_rfl) (by kernel_rfl) rfl rfl rfl (v_assign rfl rfl) ?_
    refine a_end (by kernel_rfl) ?_
    refine q_seq ?_
    refine c_seq rfl ?_
    refine c_seq rfl ?_
    refine r_ord (l := [0, 1, 2]) rfl (by kernel_rfl) (by kernel_rfl) ?_
    refine s_v rfl rfl rfl rfl (v_move rfl rfl) ?_
    refine s_v rfl rfl rfl rfl (v_len rfl rfl rfl Try.underlying28 rfl rfl) ?_
    refine s_v rfl rfl rfl rfl (v_arith rfl rfl rfl rfl) ?_
    refine s_end ?_
    refine q_seq ?_
    refine c_cond (t := decide (((l0.length : Nat) : Int) > 100)) rfl rfl (fun h2_ => ?_) (fun h2_ => ?_)
    ·
      have h2_d := of_decide_eq_true h2_
      refine c_seq rfl ?_
      refine r_ord (l := [0, 1]) rfl (by kernel_rfl) (by kernel_rfl) ?_
      refine s_e rfl rfl (e_callK (fun z : Unit => .bool true) (fun z => []) #[] rfl rfl rfl rfl rfl Try.func10 rfl (by decide) rfl rfl (fun w ht => alive_calls w)) ?_
      intro z3_
      refine s_v rfl rfl rfl rfl (v_assign rfl rfl) ?_
      refine s_end ?_
      refine q_seq ?_
      refine c_ret rfl ?_
      refine q_then_ret ?_
      refine q_take [] rfl (by decide) ?_
      exact q_post rfl (.cons rfl (.nil)) hX
    ·
      have h2_d := of_decide_eq_false h2_
      have hlM_ : M.length ≤ 100 := by have h_ := lenM l0 (by omega); rw [hM] at h_; exact h_
      refine c_skip rfl ?_
      refine q_seq ?_
      refine c_seq rfl ?_
      refine r_ord (l := [0, 1, 2, 3, 4]) rfl (by kernel_rfl) (by kernel_rfl) ?_
      refine s_v rfl rfl rfl rfl (v_move rfl rfl) ?_
      refine s_e rfl rfl (e_callK (fun z : Option Addr × Nat => .slice z.1 ((l0.map new).length) z.2) (fun z => [KC k52 z.1 z.2 (l0.map new)]) #[.slice A0 l0.length c0] rfl rfl rfl rfl rfl Try.func19 rfl (by decide) rfl rfl (fun w ht => stepstonelaw07_News.con 5000 _ _ _ _ (news_f l0 (by omega) 5000 (by omega)) w (Tri.fact ht 1 rfl))) ?_
      intro z4_
      refine s_e rfl rfl (e_callK (fun z : Option Addr × Nat => .agg #[.slice z.1 M.length z.2]) (fun z => [KC k52 z.1 z.2 M]) #[.slice z4_.1 ((l0.map new).length) z4_.2] rfl rfl rfl rfl rfl Try.func18 rfl (by decide) rfl rfl (fun w ht => seq_Of.con 5000 _ _ _ _ ((of_f (l0.map new) (by simp; omega) 5000 (by omega)).trans (congrArg some hM)) w (Tri.fact ht 0 rfl))) ?_
      intro z5_
      refine s_e rfl rfl (e_alloc rfl rfl rfl ZR27) ?_
      intro b6_
      refine s_e rfl rfl (e_stA 0 rfl rfl SZ27 rfl rfl rfl rfl rfl rfl) ?_
      refine s_end ?_
      refine q_seq ?_
      refine c_seq rfl ?_
      refine r_ord (l := [0, 1, 2, 3, 4, 5, 6, 7, 8, 9, 10, 11]) rfl (by kernel_rfl) (by kernel_rfl) ?_
      refine s_v rfl rfl rfl rfl (v_ldA [.slice z5_.1 M.length z5_.2] 0 rfl Try.underlying27 rfl SZ27 rfl rfl rfl rfl) ?_
      refine s_v rfl rfl rfl rfl (v_move rfl rfl) ?_
      refine s_v rfl rfl rfl rfl (v_move rfl rfl) ?_
      refine s_v rfl rfl rfl rfl (v_build (places := #[(0, 1), (1, 1), (2, 1), (3, 1), (4, 1)]) #[.int .i64 2, .int .u64 z0, .int .u64 z1, .int .i64 0, .int .i64 0] rfl ZR31 Try.underlying31 (by kernel_rfl) rfl rfl) ?_
      have hD2 : Dm M 2 z0 z1 0 = ((ins M z0 z1), false, (getM M z0).2.1, (getM M z0).2.2.1, []) := by
        have h1_ : (getM M z0).1 = false := by unfold getM; split <;> rfl
        have h2_ := getM_keys M z0
        show ((ins M z0 z1), getM M z0) = _
        rw [← h1_, ← h2_]
      refine s_e rfl rfl (e_callF [1] #[.agg #[.slice z5_.1 M.length z5_.2], .agg #[.int .i64 2, .int .u64 z0, .int .u64 z1, .int .i64 0, .int .i64 0]] rfl rfl rfl rfl rfl Try.func11 rfl (by decide) rfl rfl rfl rfl (fun w ht => do_conr z5_.1 z5_.2 M 2 z0 z1 0 0 hsM (Nat.le_trans hlM_ (by decide)) (ins M z0 z1) false ((getM M z0).2.1) ((getM M z0).2.2.1) ([] : List Int) hD2 w _)) ?_
      intro A7_ c8_ A9_ c10_
      refine s_v rfl rfl rfl rfl (v_move rfl rfl) ?_
      refine s_v rfl rfl rfl rfl (v_ext rfl rfl rfl) ?_
      refine s_v rfl rfl rfl rfl (v_ext rfl rfl rfl) ?_
      refine s_e rfl rfl (e_alloc rfl rfl rfl ZR27) ?_
      intro b11_
      refine s_e rfl rfl (e_alloc rfl rfl rfl ZR34) ?_
      intro b12_
      refine s_e rfl rfl (e_stA 1 rfl rfl SZ27 rfl rfl rfl rfl rfl rfl) ?_
      refine s_e rfl rfl (e_stA 0 rfl rfl SZ34 rfl rfl rfl rfl rfl rfl) ?_
      refine s_end ?_
      refine q_seq ?_
      refine c_seq rfl ?_
      refine r_ord (l := [0, 1, 2, 3, 4, 5, 6, 7, 8, 9, 10]) rfl (by kernel_rfl) (by kernel_rfl) ?_
      refine s_v rfl rfl rfl rfl (v_ldA [.slice z5_.1 M.length z5_.2] 4 rfl Try.underlying27 rfl SZ27 rfl rfl rfl rfl) ?_
      refine s_v rfl rfl rfl rfl (v_move rfl rfl) ?_
      refine s_v rfl rfl rfl rfl (v_build (places := #[(0, 1), (1, 1), (2, 1), (3, 1), (4, 1)]) #[.int .i64 3, .int .u64 z0, .int .u64 0, .int .i64 0, .int .i64 0] rfl ZR31 Try.underlying31 (by kernel_rfl) rfl rfl) ?_
      have hD3 : Dm M 3 z0 0 0 = ((del M z0), false, (getM M z0).2.1, (getM M z0).2.2.1, []) := by
        have h1_ : (getM M z0).1 = false := by unfold getM; split <;> rfl
        have h2_ := getM_keys M z0
        show ((del M z0), getM M z0) = _
        rw [← h1_, ← h2_]
      refine s_e rfl rfl (e_callF [5] #[.agg #[.slice z5_.1 M.length z5_.2], .agg #[.int .i64 3, .int .u64 z0, .int .u64 0, .int .i64 0, .int .i64 0]] rfl rfl rfl rfl rfl Try.func11 rfl (by decide) rfl rfl rfl rfl (fun w ht => do_conr z5_.1 z5_.2 M 3 z0 0 0 0 hsM (Nat.le_trans hlM_ (by decide)) (del M z0) false ((getM M z0).2.1) ((getM M z0).2.2.1) ([] : List Int) hD3 w _)) ?_
      intro A13_ c14_ A15_ c16_
      refine s_v rfl rfl rfl rfl (v_move rfl rfl) ?_
      refine s_v rfl rfl rfl rfl (v_ext rfl rfl rfl) ?_
      refine s_v rfl rfl rfl rfl (v_ext rfl rfl rfl) ?_
      refine s_e rfl rfl (e_alloc rfl rfl rfl ZR27) ?_
      intro b17_
      refine s_e rfl rfl (e_alloc rfl rfl rfl ZR34) ?_
      intro b18_
      refine s_e rfl rfl (e_stA 1 rfl rfl SZ27 rfl rfl rfl rfl rfl rfl) ?_
      refine s_e rfl rfl (e_stA 0 rfl rfl SZ34 rfl rfl rfl rfl rfl rfl) ?_
      refine s_end ?_
      refine q_seq ?_
      refine c_seq rfl ?_
      refine r_ord (l := [0]) rfl (by kernel_rfl) (by kernel_rfl) ?_
      refine s_v rfl rfl rfl rfl (v_assign rfl rfl) ?_
      refine s_end ?_
      refine q_seq ?_
      refine c_seq rfl ?_
      refine c_seq rfl ?_
      refine r_any [.b b18_ (.cells #[.bool false, .bool ((getM M z0).2.1), .int .u64 ((getM M z0).2.2.1), .slice A15_ (([] : List Int).length) c16_] 34 (0, 0)), .b b17_ (.cells #[.slice A13_ ((del M z0).length) c14_] 27 (0, 0)), .f (KC k52 A13_ c14_ (del M z0)), .f (KC (Kd.int .u64) A15_ c16_ ([] : List Int)), .b b12_ (.cells #[.bool false, .bool ((getM M z0).2.1), .int .u64 ((getM M z0).2.2.1), .slice A9_ (([] : List Int).length) c10_] 34 (0, 0)), .b b11_ (.cells #[.slice A7_ ((ins M z0 z1).length) c8_] 27 (0, 0)), .f (KC k52 A7_ c8_ (ins M z0 z1)), .f (KC (Kd.int .u64) A9_ c10_ ([] : List Int)), .b b6_ (.cells #[.slice z5_.1 M.length z5_.2] 27 (0, 0)), .f (KC k52 z5_.1 z5_.2 M), .f (KC k52 z4_.1 z4_.2 (l0.map new)), .b b1_ (.cells #[.int .u64 z0, .int .u64 z1, .int .u64 z2] 47 (0, 0)), .f (KC k62 A0 c0 l0)] (by kernel_rfl) rfl (by kernel_rfl) (mem_pick (idx := [0, 1, 2, 3, 4, 5, 6, 7, 8, 9, 10, 11, 12]) rfl) ?_
      refine a_v 0 rfl (by kernel_rfl) (by kernel_rfl) (by kernel_rfl) rfl rfl rfl (v_move rfl rfl) ?_
      refine a_v 1 rfl (by kernel_rfl) (by kernel_rfl) (by kernel_rfl) rfl rfl rfl (v_move rfl rfl) ?_
      refine a_v 2 rfl (by kernel_rfl) (by kernel_rfl) (by kernel_rfl) rfl rfl rfl (v_arith rfl rfl rfl rfl) ?_
      refine a_v 3 rfl (by kernel_rfl) (by kernel_rfl) (by kernel_rfl) rfl rfl rfl (v_move rfl rfl) ?_
      refine a_splitv (d := 45) (t := (z2 : Int) != z0) rfl (fun h19_ => ?_) (fun h19_ => ?_)
      ·
        have h19_d : z2 ≠ z0 := by simpa using h19_
        have hgP : Dm (ins M z0 z1) 1 z2 0 0 = ((ins M z0 z1), false, qo, vo, []) := by simp [Dm, getM_ins_ne M h19_d, hqo]
        have hgD : Dm (del M z0) 1 z2 0 0 = ((del M z0), false, qo, vo, []) := by simp [Dm, getM_del_ne M h19_d, hqo]
        refine a_v 4 rfl (by kernel_rfl) (by kernel_rfl) (by kernel_rfl) rfl rfl rfl (v_move rfl rfl) ?_
        refine a_v 5 rfl (by kernel_rfl) (by kernel_rfl) (by kernel_rfl) rfl rfl rfl (v_ldA [.slice A7_ ((ins M z0 z1).length) c8_] 5 rfl Try.underlying27 rfl SZ27 rfl rfl rfl rfl) ?_
        refine a_v 6 rfl (by kernel_rfl) (by kernel_rfl) (by kernel_rfl) rfl rfl rfl (v_move rfl rfl) ?_
        refine a_v 8 rfl (by kernel_rfl) (by kernel_rfl) (by kernel_rfl) rfl rfl rfl (v_move rfl rfl) ?_
        refine a_v 9 rfl (by kernel_rfl) (by kernel_rfl) (by kernel_rfl) rfl rfl rfl (v_ldA [.slice z5_.1 M.length z5_.2] 8 rfl Try.underlying27 rfl SZ27 rfl rfl rfl rfl) ?_
        refine a_v 10 rfl (by kernel_rfl) (by kernel_rfl) (by kernel_rfl) rfl rfl rfl (v_move rfl rfl) ?_
        refine a_1 (i := 7) (by kernel_rfl) ?_
        refine i_e rfl rfl (e_callF [6] #[.agg #[.slice A7_ ((ins M z0 z1).length) c8_], .int .u64 z2] rfl rfl rfl rfl rfl Try.func21 rfl (by decide) rfl rfl rfl rfl (fun w ht => gets_con A7_ c8_ (ins M z0 z1) z2 (srt_ins hsM _ _) (Nat.le_trans (ins_len M z0 z1) (by have := hlM_; omega)) qo vo hgP w _)) ?_
        intro A20_ c21_
        refine ⟨(mem_pick (idx := [1, 2, 3, 4, 5, 6, 7, 8, 9, 10, 11, 12, 13]) rfl), ?_⟩
        refine a_1 (i := 11) (by kernel_rfl) ?_
        refine i_e rfl rfl (e_callF [10] #[.agg #[.slice z5_.1 M.length z5_.2], .int .u64 z2] rfl rfl rfl rfl rfl Try.func21 rfl (by decide) rfl rfl rfl rfl (fun w ht => gets_con z5_.1 z5_.2 M z2 hsM (Nat.le_trans hlM_ (by decide)) qo vo hgM w _)) ?_
        intro A22_ c23_
        refine ⟨(mem_pick (idx := [2, 3, 4, 5, 6, 7, 8, 9, 10, 11, 12, 13, 14]) rfl), ?_⟩
        refine a_1 (i := 12) (by kernel_rfl) ?_
        refine i_e rfl rfl (e_callK (fun z : Unit => .bool true) (fun z => []) #[.agg #[.bool false, .bool qo, .int .u64 vo, .slice A20_ (([] : List Int).length) c21_], .agg #[.bool false, .bool qo, .int .u64 vo, .slice A22_ (([] : List Int).length) c23_]] rfl rfl rfl rfl rfl Try.func17 rfl (by decide) rfl rfl (fun w ht => seq_Same.con 5000 _ _ _ _ _ _ _ _ _ _ _ _ _ ((same_f false qo vo ([] : List Int) false qo vo ([] : List Int) (by decide) 5000 (by omega)).trans (congrArg some (sameB_self _ _ _ _))) w (Tri.fact ht 1 rfl) (Tri.fact ht 0 rfl))) ?_
        intro z24_
        refine ⟨(mem_pick (idx := [2, 3, 4, 5, 6, 7, 8, 9, 10, 11, 12, 13, 14]) rfl), ?_⟩
        refine a_v 13 rfl (by kernel_rfl) (by kernel_rfl) (by kernel_rfl) rfl rfl rfl (v_not rfl rfl) ?_
        refine a_v 14 rfl (by kernel_rfl) (by kernel_rfl) (by kernel_rfl) rfl rfl rfl (v_move rfl rfl) ?_
        refine a_v 15 rfl (by kernel_rfl) (by kernel_rfl) (by kernel_rfl) rfl rfl rfl (v_move rfl rfl) ?_
        refine a_v 16 rfl (by kernel_rfl) (by kernel_rfl) (by kernel_rfl) rfl rfl rfl (v_ldA [.slice A13_ ((del M z0).length) c14_] 1 rfl Try.underlying27 rfl SZ27 rfl rfl rfl rfl) ?_
        refine a_v 17 rfl (by kernel_rfl) (by kernel_rfl) (by kernel_rfl) rfl rfl rfl (v_move rfl rfl) ?_
        refine a_v 19 rfl (by kernel_rfl) (by kernel_rfl) (by kernel_rfl) rfl rfl rfl (v_move rfl rfl) ?_
        refine a_v 20 rfl (by kernel_rfl) (by kernel_rfl) (by kernel_rfl) rfl rfl rfl (v_ldA [.slice z5_.1 M.length z5_.2] 8 rfl Try.underlying27 rfl SZ27 rfl rfl rfl rfl) ?_
        refine a_v 21 rfl (by kernel_rfl) (by kernel_rfl) (by kernel_rfl) rfl rfl rfl (v_move rfl rfl) ?_
        refine a_1 (i := 18) (by kernel_rfl) ?_
        refine i_e rfl rfl (e_callF [4] #[.agg #[.slice A13_ ((del M z0).length) c14_], .int .u64 z2] rfl rfl rfl rfl rfl Try.func21 rfl (by decide) rfl rfl rfl rfl (fun w ht => gets_con A13_ c14_ (del M z0) z2 (srt_del hsM _) (Nat.le_trans (del_len M z0) (by have := hlM_; omega)) qo vo hgD w _)) ?_
        intro A25_ c26_
        refine ⟨(mem_pick (idx := [3, 4, 5, 6, 7, 8, 9, 10, 11, 12, 13, 14, 15]) rfl), ?_⟩
        refine a_1 (i := 22) (by kernel_rfl) ?_
        refine i_e rfl rfl (e_callF [12] #[.agg #[.slice z5_.1 M.length z5_.2], .int .u64 z2] rfl rfl rfl rfl rfl Try.func21 rfl (by decide) rfl rfl rfl rfl (fun w ht => gets_con z5_.1 z5_.2 M z2 hsM (Nat.le_trans hlM_ (by decide)) qo vo hgM w _)) ?_
        intro A27_ c28_
        refine ⟨(mem_pick (idx := [4, 5, 6, 7, 8, 9, 10, 11, 12, 13, 14, 15, 16]) rfl), ?_⟩
        refine a_1 (i := 23) (by kernel_rfl) ?_
        refine i_e rfl rfl (e_callK (fun z : Unit => .bool true) (fun z => []) #[.agg #[.bool false, .bool qo, .int .u64 vo, .slice A25_ (([] : List Int).length) c26_], .agg #[.bool false, .bool qo, .int .u64 vo, .slice A27_ (([] : List Int).length) c28_]] rfl rfl rfl rfl rfl Try.func17 rfl (by decide) rfl rfl (fun w ht => seq_Same.con 5000 _ _ _ _ _ _ _ _ _ _ _ _ _ ((same_f false qo vo ([] : List Int) false qo vo ([] : List Int) (by decide) 5000 (by omega)).trans (congrArg some (sameB_self _ _ _ _))) w (Tri.fact ht 1 rfl) (Tri.fact ht 0 rfl))) ?_
        intro z29_
        refine ⟨(mem_pick (idx := [4, 5, 6, 7, 8, 9, 10, 11, 12, 13, 14, 15, 16]) rfl), ?_⟩
        refine a_v 24 rfl (by kernel_rfl) (by kernel_rfl) (by kernel_rfl) rfl rfl rfl (v_not rfl rfl) ?_
        refine a_v 25 rfl (by kernel_rfl) (by kernel_rfl) (by kernel_rfl) rfl rfl rfl (v_pick rfl rfl rfl rfl) ?_
        refine a_v 26 rfl (by kernel_rfl) (by kernel_rfl) (by kernel_rfl) rfl rfl rfl (v_pick rfl rfl rfl rfl) ?_
        refine a_end (by kernel_rfl) ?_
        refine q_seq ?_
        refine c_cond0 rfl rfl ?_
        refine c_skip rfl ?_
        refine q_seq ?_
        refine c_seq rfl ?_
        refine r_ord (l := [0, 1, 2, 3, 4, 5, 6, 7, 8, 9, 10, 11, 12, 13, 14, 15, 16, 17, 18]) rfl (by kernel_rfl) (by kernel_rfl) ?_
        refine s_e rfl rfl (e_callK (fun z : Unit => .bool true) (fun z => []) #[] rfl rfl rfl rfl rfl Try.func10 rfl (by decide) rfl rfl (fun w ht => alive_calls w)) ?_
        intro z30_
        refine s_v rfl rfl rfl rfl (v_move rfl rfl) ?_
        refine s_vg rfl rfl rfl rfl (v_move rfl rfl) ?_
        refine s_vg rfl rfl rfl rfl (v_ldA [.slice A7_ ((ins M z0 z1).length) c8_] 9 rfl Try.underlying27 rfl SZ27 rfl rfl rfl rfl) ?_
        refine s_vg rfl rfl rfl rfl (v_move rfl rfl) ?_
        refine s_eg rfl rfl (e_callF [10] #[.agg #[.slice A7_ ((ins M z0 z1).length) c8_], .int .u64 z0] rfl rfl rfl rfl rfl Try.func21 rfl (by decide) rfl rfl rfl rfl (fun w ht => gets_con A7_ c8_ (ins M z0 z1) z0 (srt_ins hsM _ _) (Nat.le_trans (ins_len M z0 z1) (by have := hlM_; omega)) true z1 hpk w _)) ?_
        intro A31_ c32_
        refine s_vg rfl rfl rfl rfl (v_move rfl rfl) ?_
        refine s_vg rfl rfl rfl rfl (v_build (places := #[(0, 1), (1, 1), (2, 1), (3, 1)]) #[.bool false, .bool true, .int .u64 z1, .slice none 0 0] rfl ZR34 Try.underlying34 (by kernel_rfl) rfl rfl) ?_
        refine s_knowT (KC_nil (Kd.int .u64)) ?_
        refine s_eg rfl rfl (e_callK (fun z : Unit => .bool true) (fun z => []) #[.agg #[.bool false, .bool true, .int .u64 z1, .slice A31_ (([] : List Int).length) c32_], .agg #[.bool false, .bool true, .int .u64 z1, .slice none 0 0]] rfl rfl rfl rfl rfl Try.func17 rfl (by decide) rfl rfl (fun w ht => seq_Same.con 5000 _ _ _ _ _ _ _ _ _ _ _ _ _ ((same_f false true z1 ([] : List Int) false true z1 ([] : List Int) (by decide) 5000 (by omega)).trans (congrArg some (sameB_self _ _ _ _))) w (Tri.fact ht 1 rfl) (Tri.fact ht 0 rfl))) ?_
        intro z33_
        refine s_v rfl rfl rfl rfl (v_pick rfl rfl rfl rfl) ?_
        refine s_v rfl rfl rfl rfl (v_move rfl rfl) ?_
        refine s_vg rfl rfl rfl rfl (v_move rfl rfl) ?_
        refine s_vg rfl rfl rfl rfl (v_ldA [.slice A13_ ((del M z0).length) c14_] 7 rfl Try.underlying27 rfl SZ27 rfl rfl rfl rfl) ?_
        refine s_vg rfl rfl rfl rfl (v_move rfl rfl) ?_
        refine s_eg rfl rfl (e_callF [8] #[.agg #[.slice A13_ ((del M z0).length) c14_], .int .u64 z0] rfl rfl rfl rfl rfl Try.func21 rfl (by decide) rfl rfl rfl rfl (fun w ht => gets_con A13_ c14_ (del M z0) z0 (srt_del hsM _) (Nat.le_trans (del_len M z0) (by have := hlM_; omega)) false 0 hdk w _)) ?_
        intro A34_ c35_
        refine s_vg rfl rfl rfl rfl (v_build (places := #[(0, 1), (1, 1), (2, 1), (3, 1)]) #[.bool false, .bool false, .int .u64 0, .slice none 0 0] rfl ZR34 Try.underlying34 (by kernel_rfl) rfl rfl) ?_
        refine s_eg rfl rfl (e_callK (fun z : Unit => .bool true) (fun z => []) #[.agg #[.bool false, .bool false, .int .u64 0, .slice A34_ (([] : List Int).length) c35_], .agg #[.bool false, .bool false, .int .u64 0, .slice none 0 0]] rfl rfl rfl rfl rfl Try.func17 rfl (by decide) rfl rfl (fun w ht => seq_Same.con 5000 _ _ _ _ _ _ _ _ _ _ _ _ _ ((same_f false false 0 ([] : List Int) false false 0 ([] : List Int) (by decide) 5000 (by omega)).trans (congrArg some (sameB_self _ _ _ _))) w (Tri.fact ht 0 rfl) (Tri.fact ht 1 rfl))) ?_
        intro z36_
        refine s_v rfl rfl rfl rfl (v_pick rfl rfl rfl rfl) ?_
        refine s_v rfl rfl rfl rfl (v_assign rfl rfl) ?_
        refine s_end ?_
        refine q_seq ?_
        refine c_ret rfl ?_
        refine q_take [] rfl (by decide) ?_
        exact q_post rfl (.cons rfl (.nil)) hX
      ·
        have h19_d : z2 = z0 := by simpa using h19_
        refine a_no 4 rfl (by kernel_rfl) (by kernel_rfl) (by kernel_rfl) rfl rfl rfl ?_
        refine a_no 5 rfl (by kernel_rfl) (by kernel_rfl) (by kernel_rfl) rfl rfl rfl ?_
        refine a_no 6 rfl (by kernel_rfl) (by kernel_rfl) (by kernel_rfl) rfl rfl rfl ?_
        refine a_no 7 rfl (by kernel_rfl) (by kernel_rfl) (by kernel_rfl) rfl rfl rfl ?_
        refine a_no 8 rfl (by kernel_rfl) (by kernel_rfl) (by kernel_rfl) rfl rfl rfl ?_
        refine a_no 9 rfl (by kernel_rfl) (by kernel_rfl) (by kernel_rfl) rfl rfl rfl ?_
        refine a_no 10 rfl (by kernel_rfl) (by kernel_rfl) (by kernel_rfl) rfl rfl rfl ?_
        refine a_no 11 rfl (by kernel_rfl) (by kernel_rfl) (by kernel_rfl) rfl rfl rfl ?_
        refine a_no 12 rfl (by kernel_rfl) (by kernel_rfl) (by kernel_rfl) rfl rfl rfl ?_
        refine a_no 13 rfl (by kernel_rfl) (by kernel_rfl) (by kernel_rfl) rfl rfl rfl ?_
        refine a_no 14 rfl (by kernel_rfl) (by kernel_rfl) (by kernel_rfl) rfl rfl rfl ?_
        refine a_no 15 rfl (by kernel_rfl) (by kernel_rfl) (by kernel_rfl) rfl rfl rfl ?_
        refine a_no 16 rfl (by kernel_rfl) (by kernel_rfl) (by kernel_rfl) rfl rfl rfl ?_
        refine a_no 17 rfl (by kernel_rfl) (by kernel_rfl) (by kernel_rfl) rfl rfl rfl ?_
        refine a_no 18 rfl (by kernel_rfl) (by kernel_rfl) (by kernel_rfl) rfl rfl rfl ?_
        refine a_no 19 rfl (by kernel_rfl) (by kernel_rfl) (by kernel_rfl) rfl rfl rfl ?_
        refine a_no 20 rfl (by kernel_rfl) (by kernel_rfl) (by kernel_rfl) rfl rfl rfl ?_
        refine a_no 21 rfl (by kernel_rfl) (by kernel_rfl) (by kernel_rfl) rfl rfl rfl ?_
        refine a_no 22 rfl (by kernel_rfl) (by kernel_rfl) (by kernel_rfl) rfl rfl rfl ?_
        refine a_no 23 rfl (by kernel_rfl) (by kernel_rfl) (by kernel_rfl) rfl rfl rfl ?_
        refine a_no 24 rfl (by kernel_rfl) (by kernel_rfl) (by kernel_rfl) rfl rfl rfl ?_
        refine a_no 25 rfl (by kernel_rfl) (by kernel_rfl) (by kernel_rfl) rfl rfl rfl ?_
        refine a_v 26 rfl (by kernel_rfl) (by kernel_rfl) (by kernel_rfl) rfl rfl rfl (v_pick rfl rfl rfl rfl) ?_
        refine a_end (by kernel_rfl) ?_
        refine q_seq ?_
        refine c_cond0 rfl rfl ?_
        refine c_skip rfl ?_
        refine q_seq ?_
        refine c_seq rfl ?_
        refine r_ord (l := [0, 1, 2, 3, 4, 5, 6, 7, 8, 9, 10, 11, 12, 13, 14, 15, 16, 17, 18]) rfl (by kernel_rfl) (by kernel_rfl) ?_
        refine s_e rfl rfl (e_callK (fun z : Unit => .bool true) (fun z => []) #[] rfl rfl rfl rfl rfl Try.func10 rfl (by decide) rfl rfl (fun w ht => alive_calls w)) ?_
        intro z37_
        refine s_v rfl rfl rfl rfl (v_move rfl rfl) ?_
        refine s_vg rfl rfl rfl rfl (v_move rfl rfl) ?_
        refine s_vg rfl rfl rfl rfl (v_ldA [.slice A7_ ((ins M z0 z1).length) c8_] 5 rfl Try.underlying27 rfl SZ27 rfl rfl rfl rfl) ?_
        refine s_vg rfl rfl rfl rfl (v_move rfl rfl) ?_
        refine s_eg rfl rfl (e_callF [6] #[.agg #[.slice A7_ ((ins M z0 z1).length) c8_], .int .u64 z0] rfl rfl rfl rfl rfl Try.func21 rfl (by decide) rfl rfl rfl rfl (fun w ht => gets_con A7_ c8_ (ins M z0 z1) z0 (srt_ins hsM _ _) (Nat.le_trans (ins_len M z0 z1) (by have := hlM_; omega)) true z1 hpk w _)) ?_
        intro A38_ c39_
        refine s_vg rfl rfl rfl rfl (v_move rfl rfl) ?_
        refine s_vg rfl rfl rfl rfl (v_build (places := #[(0, 1), (1, 1), (2, 1), (3, 1)]) #[.bool false, .bool true, .int .u64 z1, .slice none 0 0] rfl ZR34 Try.underlying34 (by kernel_rfl) rfl rfl) ?_
        refine s_knowT (KC_nil (Kd.int .u64)) ?_
        refine s_eg rfl rfl (e_callK (fun z : Unit => .bool true) (fun z => []) #[.agg #[.bool false, .bool true, .int .u64 z1, .slice A38_ (([] : List Int).length) c39_], .agg #[.bool false, .bool true, .int .u64 z1, .slice none 0 0]] rfl rfl rfl rfl rfl Try.func17 rfl (by decide) rfl rfl (fun w ht => seq_Same.con 5000 _ _ _ _ _ _ _ _ _ _ _ _ _ ((same_f false true z1 ([] : List Int) false true z1 ([] : List Int) (by decide) 5000 (by omega)).trans (congrArg some (sameB_self _ _ _ _))) w (Tri.fact ht 1 rfl) (Tri.fact ht 0 rfl))) ?_
        intro z40_
        refine s_v rfl rfl rfl rfl (v_pick rfl rfl rfl rfl) ?_
        refine s_v rfl rfl rfl rfl (v_move rfl rfl) ?_
        refine s_vg rfl rfl rfl rfl (v_move rfl rfl) ?_
        refine s_vg rfl rfl rfl rfl (v_ldA [.slice A13_ ((del M z0).length) c14_] 3 rfl Try.underlying27 rfl SZ27 rfl rfl rfl rfl) ?_
        refine s_vg rfl rfl rfl rfl (v_move rfl rfl) ?_
        refine s_eg rfl rfl (e_callF [4] #[.agg #[.slice A13_ ((del M z0).length) c14_], .int .u64 z0] rfl rfl rfl rfl rfl Try.func21 rfl (by decide) rfl rfl rfl rfl (fun w ht => gets_con A13_ c14_ (del M z0) z0 (srt_del hsM _) (Nat.le_trans (del_len M z0) (by have := hlM_; omega)) false 0 hdk w _)) ?_
        intro A41_ c42_
        refine s_vg rfl rfl rfl rfl (v_build (places := #[(0, 1), (1, 1), (2, 1), (3, 1)]) #[.bool false, .bool false, .int .u64 0, .slice none 0 0] rfl ZR34 Try.underlying34 (by kernel_rfl) rfl rfl) ?_
        refine s_eg rfl rfl (e_callK (fun z : Unit => .bool true) (fun z => []) #[.agg #[.bool false, .bool false, .int .u64 0, .slice A41_ (([] : List Int).length) c42_], .agg #[.bool false, .bool false, .int .u64 0, .slice none 0 0]] rfl rfl rfl rfl rfl Try.func17 rfl (by decide) rfl rfl (fun w ht => seq_Same.con 5000 _ _ _ _ _ _ _ _ _ _ _ _ _ ((same_f false false 0 ([] : List Int) false false 0 ([] : List Int) (by decide) 5000 (by omega)).trans (congrArg some (sameB_self _ _ _ _))) w (Tri.fact ht 0 rfl) (Tri.fact ht 1 rfl))) ?_
        intro z43_
        refine s_v rfl rfl rfl rfl (v_pick rfl rfl rfl rfl) ?_
        refine s_v rfl rfl rfl rfl (v_assign rfl rfl) ?_
        refine s_end ?_
        refine q_seq ?_
        refine c_ret rfl ?_
        refine q_take [] rfl (by decide) ?_
        exact q_post rfl (.cons rfl (.nil)) hX
end Go.Eng
