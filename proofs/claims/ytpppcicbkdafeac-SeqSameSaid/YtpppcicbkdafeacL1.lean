/- Own text, written by an own program: L1. -/
import Derived.Test.YtpppcicbkdafeacP9
import Derived.Test.YtpppcicbkdafeacEK
namespace Go.Eng
open Go.Proofs Go.RowKit Go.Proofs.YtpppcicbkdafeacW.PrintWords Go.Proofs.Ytpppcicbkdafeac.GSeq
set_option linter.unusedVariables false
set_option linter.unusedSimpArgs false
set_option maxRecDepth 100000 in
set_option maxHeartbeats 4000000 in
theorem seqSame_con (a0 a1 : Bool) (a2 : Int) (A : Option Addr) (c : Nat) (a3 : List Int) (b0 b1 : Bool) (b2 : Int) (B : Option Addr) (d : Nat) (b3 : List Int) (w0 : World) (H : List Nat) : Con Try.prog 4 #[.agg #[.bool a0, .bool a1, .int .u64 a2, .slice A a3.length c], .agg #[.bool b0, .bool b1, .int .u64 b2, .slice B b3.length d]] w0 H [.f (KC (Kd.int .u64) A c a3), .f (KC (Kd.int .u64) B d b3)] (fun X => X (.bool true) []) := by
  refine con_enter (c := bodyOf Try.f4) Try.func4 rfl (m := 40) rfl rfl rfl ?_
  intro X hX _
  refine c_seq rfl ?_
  refine r_ord (l := [0, 1, 2]) rfl (by kernel_rfl) (by kernel_rfl) ?_
  refine s_e rfl rfl (e_box rfl rfl rfl rfl) ?_
  intro b1_
  refine s_e rfl rfl (e_box rfl rfl rfl rfl) ?_
  intro b2_
  refine s_v rfl rfl rfl rfl (v_assign rfl rfl) ?_
  refine s_end ?_
  refine q_seq ?_
  refine c_seq rfl ?_
  refine c_seq rfl ?_
  refine r_ord (l := [0, 1, 2, 3, 4, 5, 6, 7, 8, 9]) rfl (by kernel_rfl) (by kernel_rfl) ?_
  refine s_v rfl rfl rfl rfl (v_fa rfl Try.underlying34 rfl SZ32 rfl) ?_
  refine s_v rfl rfl rfl rfl (v_ld 1 rfl Try.underlying32 rfl rfl rfl rfl) ?_
  refine s_v rfl rfl rfl rfl (v_len rfl rfl rfl Try.underlying32 rfl rfl) ?_
  refine s_v rfl rfl rfl rfl (v_arith rfl rfl rfl rfl) ?_
  refine s_v rfl rfl rfl rfl (v_move rfl rfl) ?_
  refine s_splitv (d := 9) (t := decide (((a3.length : Nat) : Int) > 500)) rfl (fun h3_ => ?_) (fun h3_ => ?_)
  ·
    have h3_d := of_decide_eq_true h3_
    refine s_no rfl rfl rfl rfl ?_
    refine s_no rfl rfl rfl rfl ?_
    refine s_no rfl rfl rfl rfl ?_
    refine s_no rfl rfl rfl rfl ?_
    refine s_v rfl rfl rfl rfl (v_pick rfl rfl rfl rfl) ?_
    refine s_end ?_
    refine q_seq ?_
    refine c_cond1 rfl rfl ?_
    refine c_seq rfl ?_
    refine r_ord (l := [0, 1]) rfl (by kernel_rfl) (by kernel_rfl) ?_
    refine s_e rfl rfl (e_callK (fun z : Unit => .bool true) (fun z => []) #[] rfl rfl rfl rfl rfl Try.func10 rfl (by decide) rfl rfl (fun w ht => alive_calls w)) ?_
    intro z4_
    refine s_v rfl rfl rfl rfl (v_assign rfl rfl) ?_
    refine s_end ?_
    refine q_seq ?_
    refine c_ret rfl ?_
    refine q_then_ret ?_
    refine q_take [] rfl (by decide) ?_
    exact q_post rfl (.cons rfl (.nil)) hX
  ·
    have h3_d := of_decide_eq_false h3_
    refine s_vg rfl rfl rfl rfl (v_fa rfl Try.underlying34 rfl SZ32 rfl) ?_
    refine s_vg rfl rfl rfl rfl (v_ld 0 rfl Try.underlying32 rfl rfl rfl rfl) ?_
    refine s_vg rfl rfl rfl rfl (v_len rfl rfl rfl Try.underlying32 rfl rfl) ?_
    refine s_vg rfl rfl rfl rfl (v_arith rfl rfl rfl rfl) ?_
    refine s_v rfl rfl rfl rfl (v_pick rfl rfl rfl rfl) ?_
    refine s_end ?_
    refine q_seq ?_
    refine c_cond (t := decide (((b3.length : Nat) : Int) > 500)) rfl rfl (fun h5_ => ?_) (fun h5_ => ?_)
    ·
      have h5_d := of_decide_eq_true h5_
      refine c_seq rfl ?_
      refine r_ord (l := [0, 1]) rfl (by kernel_rfl) (by kernel_rfl) ?_
      refine s_e rfl rfl (e_callK (fun z : Unit => .bool true) (fun z => []) #[] rfl rfl rfl rfl rfl Try.func10 rfl (by decide) rfl rfl (fun w ht => alive_calls w)) ?_
      intro z6_
      refine s_v rfl rfl rfl rfl (v_assign rfl rfl) ?_
      refine s_end ?_
      refine q_seq ?_
      refine c_ret rfl ?_
      refine q_then_ret ?_
      refine q_take [] rfl (by decide) ?_
      exact q_post rfl (.cons rfl (.nil)) hX
    ·
      have h5_d := of_decide_eq_false h5_
      refine c_skip rfl ?_
      refine q_seq ?_
      refine c_seq rfl ?_
      refine r_any [.b b2_ (.cells #[.bool b0, .bool b1, .int .u64 b2, .slice B b3.length d] 34 (0, 0)), .b b1_ (.cells #[.bool a0, .bool a1, .int .u64 a2, .slice A a3.length c] 34 (0, 0)), .f (KC (Kd.int .u64) A c a3), .f (KC (Kd.int .u64) B d b3)] (by kernel_rfl) rfl (by kernel_rfl) (mem_pick (idx := [0, 1, 2, 3]) rfl) ?_
      refine a_1 (i := 0) (by kernel_rfl) ?_
      refine i_e rfl rfl (e_callK (fun z : Unit => .bool true) (fun z => []) #[] rfl rfl rfl rfl rfl Try.func10 rfl (by decide) rfl rfl (fun w ht => alive_calls w)) ?_
      intro z7_
      refine ⟨(mem_pick (idx := [0, 1, 2, 3]) rfl), ?_⟩
      refine a_v 1 rfl (by kernel_rfl) (by kernel_rfl) (by kernel_rfl) rfl rfl rfl (v_move rfl rfl) ?_
      refine a_v 2 rfl (by kernel_rfl) (by kernel_rfl) (by kernel_rfl) rfl rfl rfl (v_ldA [.bool a0, .bool a1, .int .u64 a2, .slice A a3.length c] 1 rfl Try.underlying34 rfl SZ34 rfl rfl rfl rfl) ?_
      refine a_v 3 rfl (by kernel_rfl) (by kernel_rfl) (by kernel_rfl) rfl rfl rfl (v_ldA [.bool b0, .bool b1, .int .u64 b2, .slice B b3.length d] 0 rfl Try.underlying34 rfl SZ34 rfl rfl rfl rfl) ?_
      refine a_v 5 rfl (by kernel_rfl) (by kernel_rfl) (by kernel_rfl) rfl rfl rfl (v_ldA [.bool a0, .bool a1, .int .u64 a2, .slice A a3.length c] 1 rfl Try.underlying34 rfl SZ34 rfl rfl rfl rfl) ?_
      refine a_v 6 rfl (by kernel_rfl) (by kernel_rfl) (by kernel_rfl) rfl rfl rfl (v_ldA [.bool b0, .bool b1, .int .u64 b2, .slice B b3.length d] 0 rfl Try.underlying34 rfl SZ34 rfl rfl rfl rfl) ?_
      refine a_1 (i := 4) (by kernel_rfl) ?_
      refine i_e rfl rfl (e_callK (fun z : Unit => .bool (sameB a0 a1 a2 a3 b0 b1 b2 b3)) (fun z => []) #[.agg #[.bool a0, .bool a1, .int .u64 a2, .slice A a3.length c], .agg #[.bool b0, .bool b1, .int .u64 b2, .slice B b3.length d]] rfl rfl rfl rfl rfl Try.func17 rfl (by decide) rfl rfl (fun w ht => seq_Same.con 5000 _ _ _ _ _ _ _ _ _ _ _ _ _ (same_f a0 a1 a2 a3 b0 b1 b2 b3 (by first | decide | (simp; done) | omega) 5000 (by omega)) w (Tri.fact ht 2 rfl) (Tri.fact ht 3 rfl))) ?_
      intro z8_
      refine ⟨(mem_pick (idx := [0, 1, 2, 3]) rfl), ?_⟩
      refine a_1 (i := 7) (by kernel_rfl) ?_
      refine i_e rfl rfl (e_callK (fun z : Unit => .bool (sameB a0 a1 a2 a3 b0 b1 b2 b3)) (fun z => []) #[.agg #[.bool a0, .bool a1, .int .u64 a2, .slice A a3.length c], .agg #[.bool b0, .bool b1, .int .u64 b2, .slice B b3.length d]] rfl rfl rfl rfl rfl Try.func13 rfl (by decide) rfl rfl (fun w ht => stepstoneref07_Same.con 5000 _ _ _ _ _ _ _ _ _ _ _ _ _ (refSame_f a0 a1 a2 a3 b0 b1 b2 b3 (by first | decide | (simp; done) | omega) 5000 (by omega)) w (Tri.fact ht 2 rfl) (Tri.fact ht 3 rfl))) ?_
      intro z9_
      refine ⟨(mem_pick (idx := [0, 1, 2, 3]) rfl), ?_⟩
      refine a_v 8 rfl (by kernel_rfl) (by kernel_rfl) (by kernel_rfl) rfl rfl rfl (OpV.cast (v := .bool true) (v_eqB rfl Try.underlying4 rfl rfl) (by simp)) ?_
      refine a_v 9 rfl (by kernel_rfl) (by kernel_rfl) (by kernel_rfl) rfl rfl rfl (v_pick rfl rfl rfl rfl) ?_
      refine a_v 10 rfl (by kernel_rfl) (by kernel_rfl) (by kernel_rfl) rfl rfl rfl (v_move rfl rfl) ?_
      refine a_v 11 rfl (by kernel_rfl) (by kernel_rfl) (by kernel_rfl) rfl rfl rfl (v_ldA [.bool a0, .bool a1, .int .u64 a2, .slice A a3.length c] 1 rfl Try.underlying34 rfl SZ34 rfl rfl rfl rfl) ?_
      refine a_v 12 rfl (by kernel_rfl) (by kernel_rfl) (by kernel_rfl) rfl rfl rfl (v_ldA [.bool a0, .bool a1, .int .u64 a2, .slice A a3.length c] 1 rfl Try.underlying34 rfl SZ34 rfl rfl rfl rfl) ?_
      refine a_1 (i := 13) (by kernel_rfl) ?_
      refine i_e rfl rfl (e_callK (fun z : Unit => .bool true) (fun z => []) #[.agg #[.bool a0, .bool a1, .int .u64 a2, .slice A a3.length c], .agg #[.bool a0, .bool a1, .int .u64 a2, .slice A a3.length c]] rfl rfl rfl rfl rfl Try.func17 rfl (by decide) rfl rfl (fun w ht => seq_Same.con 5000 _ _ _ _ _ _ _ _ _ _ _ _ _ ((same_f a0 a1 a2 a3 a0 a1 a2 a3 (by first | decide | (simp; done) | omega) 5000 (by omega)).trans (congrArg some (sameB_self _ _ _ _))) w (Tri.fact ht 2 rfl) (Tri.fact ht 2 rfl))) ?_
      intro z10_
      refine ⟨(mem_pick (idx := [0, 1, 2, 3]) rfl), ?_⟩
      refine a_v 14 rfl (by kernel_rfl) (by kernel_rfl) (by kernel_rfl) rfl rfl rfl (v_pick rfl rfl rfl rfl) ?_
      refine a_v 15 rfl (by kernel_rfl) (by kernel_rfl) (by kernel_rfl) rfl rfl rfl (v_move rfl rfl) ?_
      refine a_v 16 rfl (by kernel_rfl) (by kernel_rfl) (by kernel_rfl) rfl rfl rfl (v_ldA [.bool b0, .bool b1, .int .u64 b2, .slice B b3.length d] 0 rfl Try.underlying34 rfl SZ34 rfl rfl rfl rfl) ?_
      refine a_v 17 rfl (by kernel_rfl) (by kernel_rfl) (by kernel_rfl) rfl rfl rfl (v_ldA [.bool a0, .bool a1, .int .u64 a2, .slice A a3.length c] 1 rfl Try.underlying34 rfl SZ34 rfl rfl rfl rfl) ?_
      refine a_v 19 rfl (by kernel_rfl) (by kernel_rfl) (by kernel_rfl) rfl rfl rfl (v_ldA [.bool a0, .bool a1, .int .u64 a2, .slice A a3.length c] 1 rfl Try.underlying34 rfl SZ34 rfl rfl rfl rfl) ?_
      refine a_v 20 rfl (by kernel_rfl) (by kernel_rfl) (by kernel_rfl) rfl rfl rfl (v_ldA [.bool b0, .bool b1, .int .u64 b2, .slice B b3.length d] 0 rfl Try.underlying34 rfl SZ34 rfl rfl rfl rfl) ?_
      refine a_1 (i := 18) (by kernel_rfl) ?_
      refine i_e rfl rfl (e_callK (fun z : Unit => .bool (sameB b0 b1 b2 b3 a0 a1 a2 a3)) (fun z => []) #[.agg #[.bool b0, .bool b1, .int .u64 b2, .slice B b3.length d], .agg #[.bool a0, .bool a1, .int .u64 a2, .slice A a3.length c]] rfl rfl rfl rfl rfl Try.func17 rfl (by decide) rfl rfl (fun w ht => seq_Same.con 5000 _ _ _ _ _ _ _ _ _ _ _ _ _ (same_f b0 b1 b2 b3 a0 a1 a2 a3 (by first | decide | (simp; done) | omega) 5000 (by omega)) w (Tri.fact ht 3 rfl) (Tri.fact ht 2 rfl))) ?_
      intro z11_
      refine ⟨(mem_pick (idx := [0, 1, 2, 3]) rfl), ?_⟩
      refine a_1 (i := 21) (by kernel_rfl) ?_
      refine i_e rfl rfl (e_callK (fun z : Unit => .bool (sameB a0 a1 a2 a3 b0 b1 b2 b3)) (fun z => []) #[.agg #[.bool a0, .bool a1, .int .u64 a2, .slice A a3.length c], .agg #[.bool b0, .bool b1, .int .u64 b2, .slice B b3.length d]] rfl rfl rfl rfl rfl Try.func17 rfl (by decide) rfl rfl (fun w ht => seq_Same.con 5000 _ _ _ _ _ _ _ _ _ _ _ _ _ (same_f a0 a1 a2 a3 b0 b1 b2 b3 (by first | decide | (simp; done) | omega) 5000 (by omega)) w (Tri.fact ht 2 rfl) (Tri.fact ht 3 rfl))) ?_
      intro z12_
      refine ⟨(mem_pick (idx := [0, 1, 2, 3]) rfl), ?_⟩
      refine a_v 22 rfl (by kernel_rfl) (by kernel_rfl) (by kernel_rfl) rfl rfl rfl (OpV.cast (v := .bool true) (v_eqB rfl Try.underlying4 rfl rfl) (by rw [sameB_comm]; simp)) ?_
      refine a_v 23 rfl (by kernel_rfl) (by kernel_rfl) (by kernel_rfl) rfl rfl rfl (v_pick rfl rfl rfl rfl) ?_
      refine a_v 24 rfl (by kernel_rfl) (by kernel_rfl) (by kernel_rfl) rfl rfl rfl (v_assign rfl rfl) ?_
      refine a_end (by kernel_rfl) ?_
      refine q_seq ?_
      refine c_ret rfl ?_
      refine q_take [] rfl (by decide) ?_
      exact q_post rfl (.cons rfl (.nil)) hX
set_option maxRecDepth 100000 in
set_option maxHeartbeats 4000000 in
theorem seqOf_con (A : Option Addr) (c : Nat) (l : List S62) (w0 : World) (H : List Nat) : Con Try.prog 5 #[.slice A l.length c] w0 H [.f (KC k62 A c l)] (fun X => X (.bool true) []) := by
  refine con_enter (c := bodyOf Try.f5) Try.func5 rfl (m := 30) rfl rfl rfl ?_
  intro X hX _
  refine c_seq rfl ?_
  refine r_ord (l := [0]) rfl (by kernel_rfl) (by kernel_rfl) ?_
  refine s_v rfl rfl rfl rfl (v_assign rfl rfl) ?_
  refine s_end ?_
  refine q_seq ?_
  refine c_seq rfl ?_
  refine c_seq rfl ?_
  refine r_ord (l := [0, 1, 2]) rfl (by kernel_rfl) (by kernel_rfl) ?_
  refine s_v rfl rfl rfl rfl (v_move rfl rfl) ?_
  refine s_v rfl rfl rfl rfl (v_len rfl rfl rfl Try.underlying28 rfl rfl) ?_
  refine s_v rfl rfl rfl rfl (v_arith rfl rfl rfl rfl) ?_
  refine s_end ?_
  refine q_seq ?_
  refine c_cond (t := decide (((l.length : Nat) : Int) > 100)) rfl rfl (fun h1_ => ?_) (fun h1_ => ?_)
  ·
    have h1_d := of_decide_eq_true h1_
    refine c_seq rfl ?_
    refine r_ord (l := [0, 1]) rfl (by kernel_rfl) (by kernel_rfl) ?_
    refine s_e rfl rfl (e_callK (fun z : Unit => .bool true) (fun z => []) #[] rfl rfl rfl rfl rfl Try.func10 rfl (by decide) rfl rfl (fun w ht => alive_calls w)) ?_
    intro z2_
    refine s_v rfl rfl rfl rfl (v_assign rfl rfl) ?_
    refine s_end ?_
    refine q_seq ?_
    refine c_ret rfl ?_
    refine q_then_ret ?_
    refine q_take [] rfl (by decide) ?_
    exact q_post rfl (.cons rfl (.nil)) hX
  ·
    have h1_d := of_decide_eq_false h1_
    refine c_skip rfl ?_
    refine q_seq ?_
    refine c_seq rfl ?_
    refine r_ord (l := [0, 1, 2, 3, 4]) rfl (by kernel_rfl) (by kernel_rfl) ?_
    refine s_v rfl rfl rfl rfl (v_move rfl rfl) ?_
    refine s_e rfl rfl (e_callK (fun z : Option Addr × Nat => .slice z.1 ((l.map new).length) z.2) (fun z => [KC k52 z.1 z.2 (l.map new)]) #[.slice A l.length c] rfl rfl rfl rfl rfl Try.func19 rfl (by decide) rfl rfl (fun w ht => stepstonelaw07_News.con 5000 _ _ _ _ (news_f l (by omega) 5000 (by omega)) w (Tri.fact ht 0 rfl))) ?_
    intro z3_
    refine s_e rfl rfl (e_callK (fun z : Option Addr × Nat => .agg #[.slice z.1 ((ofL [] (l.map new)).length) z.2]) (fun z => [KC k52 z.1 z.2 (ofL [] (l.map new))]) #[.slice z3_.1 ((l.map new).length) z3_.2] rfl rfl rfl rfl rfl Try.func18 rfl (by decide) rfl rfl (fun w ht => seq_Of.con 5000 _ _ _ _ (of_f (l.map new) (by simp; omega) 5000 (by omega)) w (Tri.fact ht 0 rfl))) ?_
    intro z4_
    refine s_e rfl rfl (e_alloc rfl rfl rfl ZR27) ?_
    intro b5_
    refine s_e rfl rfl (e_stA 0 rfl rfl SZ27 rfl rfl rfl rfl rfl rfl) ?_
    refine s_end ?_
    refine q_seq ?_
    refine c_seq rfl ?_
    refine r_ord (l := [0, 1, 2, 3, 4, 5, 6, 7, 8, 9, 10, 11, 12, 13, 14, 15, 16, 17, 18, 19]) rfl (by kernel_rfl) (by kernel_rfl) ?_
    refine s_e rfl rfl (e_callK (fun z : Unit => .bool true) (fun z => []) #[] rfl rfl rfl rfl rfl Try.func10 rfl (by decide) rfl rfl (fun w ht => alive_calls w)) ?_
    intro z6_
    refine s_v rfl rfl rfl rfl (v_move rfl rfl) ?_
    refine s_vg rfl rfl rfl rfl (v_ldA [.slice z4_.1 ((ofL [] (l.map new)).length) z4_.2] 0 rfl Try.underlying27 rfl SZ27 rfl rfl rfl rfl) ?_
    refine s_eg rfl rfl (e_callK (fun z : Option Addr × Nat => .slice z.1 ((ofL [] (l.map new)).length) z.2) (fun z => [KC k52 z.1 z.2 (ofL [] (l.map new))]) #[.agg #[.slice z4_.1 ((ofL [] (l.map new)).length) z4_.2]] rfl rfl rfl rfl rfl Try.func16 rfl (by decide) rfl rfl (fun w ht => seq_Map_Pairs.con _ _ _ _ (pairs_f (ofL [] (l.map new)) (Nat.le_trans (lenM l (by omega)) (by decide))) w (Tri.fact ht 1 rfl))) ?_
    intro z7_
    refine s_eg rfl rfl (e_callK (fun z : Option Addr × Nat => .slice z.1 (((ofL [] (l.map new)).map old).length) z.2) (fun z => [KC k62 z.1 z.2 ((ofL [] (l.map new)).map old)]) #[.slice z7_.1 ((ofL [] (l.map new)).length) z7_.2] rfl rfl rfl rfl rfl Try.func15 rfl (by decide) rfl rfl (fun w ht => stepstonelaw07_Olds.con 5000 _ _ _ _ (olds_f (ofL [] (l.map new)) (Nat.le_trans (lenM l (by omega)) (by decide)) 5000 (by omega)) w (Tri.fact ht 0 rfl))) ?_
    intro z8_
    refine s_vg rfl rfl rfl rfl (v_move rfl rfl) ?_
    refine s_eg rfl rfl (e_callK (fun z : Option Addr × Nat => .slice z.1 (((ofL [] (l.map new)).map old).length) z.2) (fun z => [KC k62 z.1 z.2 ((ofL [] (l.map new)).map old)]) #[.slice A l.length c] rfl rfl rfl rfl rfl Try.func20 rfl (by decide) rfl rfl (fun w ht => stepstoneref07_Of.con 5000 _ _ _ _ (refOf_f l (by omega) 5000 (by omega)) w (Tri.fact ht 5 rfl))) ?_
    intro z9_
    refine s_eg rfl rfl (e_callK (fun z : Unit => .bool true) (fun z => []) #[.slice z8_.1 (((ofL [] (l.map new)).map old).length) z8_.2, .slice z9_.1 (((ofL [] (l.map new)).map old).length) z9_.2] rfl rfl rfl rfl rfl Try.func14 rfl (by decide) rfl rfl (fun w ht => stepstoneref07_Equal.con 5000 _ _ _ _ _ _ _ ((equal_f ((ofL [] (l.map new)).map old) ((ofL [] (l.map new)).map old) (by have := lenM l (by omega); simp; omega) 5000 (by omega)).trans (by simp)) w (Tri.fact ht 1 rfl) (Tri.fact ht 0 rfl))) ?_
    intro z10_
    refine s_v rfl rfl rfl rfl (v_pick rfl rfl rfl rfl) ?_
    refine s_v rfl rfl rfl rfl (v_move rfl rfl) ?_
    refine s_vg rfl rfl rfl rfl (v_ldA [.slice z4_.1 ((ofL [] (l.map new)).length) z4_.2] 3 rfl Try.underlying27 rfl SZ27 rfl rfl rfl rfl) ?_
    refine s_eg rfl rfl (e_callK (fun z : Option Addr × Nat => .slice z.1 ((ofL [] (l.map new)).length) z.2) (fun z => [KC k52 z.1 z.2 (ofL [] (l.map new))]) #[.agg #[.slice z4_.1 ((ofL [] (l.map new)).length) z4_.2]] rfl rfl rfl rfl rfl Try.func16 rfl (by decide) rfl rfl (fun w ht => seq_Map_Pairs.con _ _ _ _ (pairs_f (ofL [] (l.map new)) (Nat.le_trans (lenM l (by omega)) (by decide))) w (Tri.fact ht 4 rfl))) ?_
    intro z11_
    refine s_eg rfl rfl (e_callK (fun z : Option Addr × Nat => .agg #[.slice z.1 ((ofL [] (l.map new)).length) z.2]) (fun z => [KC k52 z.1 z.2 (ofL [] (l.map new))]) #[.slice z11_.1 ((ofL [] (l.map new)).length) z11_.2] rfl rfl rfl rfl rfl Try.func18 rfl (by decide) rfl rfl (fun w ht => seq_Of.con 5000 _ _ _ _ ((of_f (ofL [] (l.map new)) (Nat.le_trans (lenM l (by omega)) (by decide)) 5000 (by omega)).trans (congrArg some (ofL_srt (srtM l)))) w (Tri.fact ht 0 rfl))) ?_
    intro z12_
    refine s_eg rfl rfl (e_callK (fun z : Option Addr × Nat => .slice z.1 ((ofL [] (l.map new)).length) z.2) (fun z => [KC k52 z.1 z.2 (ofL [] (l.map new))]) #[.agg #[.slice z12_.1 ((ofL [] (l.map new)).length) z12_.2]] rfl rfl rfl rfl rfl Try.func16 rfl (by decide) rfl rfl (fun w ht => seq_Map_Pairs.con _ _ _ _ (pairs_f (ofL [] (l.map new)) (Nat.le_trans (lenM l (by omega)) (by decide))) w (Tri.fact ht 0 rfl))) ?_
    intro z13_
    refine s_eg rfl rfl (e_callK (fun z : Option Addr × Nat => .slice z.1 (((ofL [] (l.map new)).map old).length) z.2) (fun z => [KC k62 z.1 z.2 ((ofL [] (l.map new)).map old)]) #[.slice z13_.1 ((ofL [] (l.map new)).length) z13_.2] rfl rfl rfl rfl rfl Try.func15 rfl (by decide) rfl rfl (fun w ht => stepstonelaw07_Olds.con 5000 _ _ _ _ (olds_f (ofL [] (l.map new)) (Nat.le_trans (lenM l (by omega)) (by decide)) 5000 (by omega)) w (Tri.fact ht 0 rfl))) ?_
    intro z14_
    refine s_vg rfl rfl rfl rfl (v_move rfl rfl) ?_
    refine s_eg rfl rfl (e_callK (fun z : Option Addr × Nat => .slice z.1 (((ofL [] (l.map new)).map old).length) z.2) (fun z => [KC k62 z.1 z.2 ((ofL [] (l.map new)).map old)]) #[.slice A l.length c] rfl rfl rfl rfl rfl Try.func20 rfl (by decide) rfl rfl (fun w ht => stepstoneref07_Of.con 5000 _ _ _ _ (refOf_f l (by omega) 5000 (by omega)) w (Tri.fact ht 10 rfl))) ?_
    intro z15_
    refine s_eg rfl rfl (e_callK (fun z : Unit => .bool true) (fun z => []) #[.slice z14_.1 (((ofL [] (l.map new)).map old).length) z14_.2, .slice z15_.1 (((ofL [] (l.map new)).map old).length) z15_.2] rfl rfl rfl rfl rfl Try.func14 rfl (by decide) rfl rfl (fun w ht => stepstoneref07_Equal.con 5000 _ _ _ _ _ _ _ ((equal_f ((ofL [] (l.map new)).map old) ((ofL [] (l.map new)).map old) (by have := lenM l (by omega); simp; omega) 5000 (by omega)).trans (by simp)) w (Tri.fact ht 1 rfl) (Tri.fact ht 0 rfl))) ?_
    intro z16_
    refine s_v rfl rfl rfl rfl (v_pick rfl rfl rfl rfl) ?_
    refine s_v rfl rfl rfl rfl (v_assign rfl rfl) ?_
    refine s_end ?_
    refine q_seq ?_
    refine c_ret rfl ?_
    refine q_take [] rfl (by decide) ?_
    exact q_post rfl (.cons rfl (.nil)) hX
end Go.Eng
