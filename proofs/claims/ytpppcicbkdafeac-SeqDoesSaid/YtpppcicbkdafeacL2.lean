/- Own text, written by an own program: L2. -/
import Derived.Test.YtpppcicbkdafeacP11
import Derived.Test.YtpppcicbkdafeacEK
namespace Go.Eng
open Go.Proofs Go.RowKit Go.Proofs.YtpppcicbkdafeacW.PrintWords Go.Proofs.Ytpppcicbkdafeac.GSeq
set_option linter.unusedVariables false
set_option linter.unusedSimpArgs false
set_option maxRecDepth 100000 in
set_option maxHeartbeats 4000000 in
theorem seqDoes_con (A0 : Option Addr) (c0 : Nat) (l0 : List S31) (w0 : World) (H : List Nat) : Con Try.prog 3 #[.slice A0 l0.length c0] w0 H [.f (KC k31 A0 c0 l0)] (fun X => X (.bool true) []) := by
  refine con_enter (c := bodyOf Try.f3) Try.func3 rfl (m := 57) rfl rfl rfl ?_
  intro X hX _
  refine c_seq rfl ?_
  refine r_ord (l := [0]) rfl (by kernel_rfl) (by kernel_rfl) ?_
  refine s_v rfl rfl rfl rfl (v_assign rfl rfl) ?_
  refine s_end ?_
  refine q_seq ?_
  refine c_seq rfl ?_
  refine c_seq rfl ?_
  refine r_ord (l := [0, 1, 2]) rfl (by kernel_rfl) (by kernel_rfl) ?_
  refine s_v rfl rfl rfl rfl (v_move rfl rfl) ?_
  refine s_e rfl rfl (e_callK (fun z : Unit => .bool (decide ((l0.length : Int) ≤ 100))) (fun z => []) #[.slice A0 l0.length c0] rfl rfl rfl rfl rfl Try.func9 rfl (by decide) rfl rfl (fun w ht => stepstonelaw07_few.con _ _ _ _ rfl w (Tri.fact ht 0 rfl))) ?_
  intro z1_
  refine s_v rfl rfl rfl rfl (v_not rfl rfl) ?_
  refine s_end ?_
  refine q_seq ?_
  refine c_cond (t := !(decide ((l0.length : Int) ≤ 100))) rfl rfl (fun h2_ => ?_) (fun h2_ => ?_)
  ·
    refine c_seq rfl ?_
    refine r_ord (l := [0, 1]) rfl (by kernel_rfl) (by kernel_rfl) ?_
    refine s_e rfl rfl (e_callK (fun z : Unit => .bool true) (fun z => []) #[] rfl rfl rfl rfl rfl Try.func10 rfl (by decide) rfl rfl (fun w ht => alive_calls w)) ?_
    intro z3_
    refine s_v rfl rfl rfl rfl (v_assign rfl rfl) ?_
    refine s_end ?_
    refine q_seq ?_
    refine c_ret rfl ?_
    refine q_then_ret ?_
    refine q_take [] rfl (by decide) ?_
    exact q_post rfl (.cons rfl (.nil)) hX
  ·
    have h2_d : (l0.length : Int) ≤ 100 := by simpa using h2_
    refine c_skip rfl ?_
    refine q_seq ?_
    refine c_seq rfl ?_
    refine r_ord (l := [0]) rfl (by kernel_rfl) (by kernel_rfl) ?_
    refine s_e rfl rfl (e_alloc rfl rfl rfl ZR27) ?_
    intro b4_
    refine s_end ?_
    refine q_seq ?_
    refine c_seq rfl ?_
    refine r_ord (l := [0]) rfl (by kernel_rfl) (by kernel_rfl) ?_
    refine s_v rfl rfl rfl rfl (v_assign rfl rfl) ?_
    refine s_end ?_
    refine q_seq ?_
    refine c_seq rfl ?_
    refine c_seq rfl ?_
    refine r_ord (l := [0, 1, 2]) rfl (by kernel_rfl) (by kernel_rfl) ?_
    refine s_v rfl rfl rfl rfl (v_move rfl rfl) ?_
    refine s_v rfl rfl rfl rfl (v_len rfl rfl rfl Try.underlying22 rfl rfl) ?_
    refine s_v rfl rfl rfl rfl (v_move rfl rfl) ?_
    refine s_end ?_
    refine q_seq ?_
    refine c_block rfl ?_
    refine c_knowT (KC_nil k52) ?_
    refine c_knowT (KC_nil k62) ?_
    refine c_loop (σ := (Nat × List S52 × Option Addr × Nat × Option Addr × Nat)) (fun s : (Nat × List S52 × Option Addr × Nat × Option Addr × Nat) => match s with | (i, m, A, c, B, d) => i ≤ l0.length ∧ Srt m ∧ m.length ≤ i) (fun s : (Nat × List S52 × Option Addr × Nat × Option Addr × Nat) => match s with | (i, m, A, c, B, d) => l0.length - i) (fun s : (Nat × List S52 × Option Addr × Nat × Option Addr × Nat) => match s with | (i, m, A, c, B, d) => [(0, .slice A0 l0.length c0), (15, .slice A0 l0.length c0), (16, .int .i64 (l0.length : Nat)), (3, .pointer (some ⟨b4_, 0, none⟩)), (17, .int .i64 ((i : Nat) : Int)), (4, .slice B ((m.map old).length) d)]) (fun s : (Nat × List S52 × Option Addr × Nat × Option Addr × Nat) => match s with | (i, m, A, c, B, d) => [.b b4_ (.cells #[.slice A m.length c] 27 (0, 0)), .f (KC k52 A c m), .f (KC k62 B d (m.map old)), .f (KC k31 A0 c0 l0)]) (0, [], none, 0, none, 0) [2, 1, 0, 3] rfl ⟨Nat.zero_le _, List.Pairwise.nil, Nat.le_refl _⟩ (subF_spec ⟨rfl, rfl, rfl, rfl, rfl, rfl, trivial⟩) rfl (by decide) ?_
    rintro ⟨i, m, A, c, B, d⟩ hs
    have hi0_ : i ≤ l0.length := hs.1
    refine c_seq rfl ?_
    refine r_ord (l := [0]) rfl (by kernel_rfl) (by kernel_rfl) ?_
    refine s_v rfl rfl rfl rfl (v_arith rfl rfl rfl rfl) ?_
    refine s_end ?_
    refine q_seq ?_
    refine c_seq rfl ?_
    refine c_cond (t := decide ((((i : Nat) : Int) : Int) < (l0.length : Nat))) rfl rfl (fun h5_ => ?_) (fun h5_ => ?_)
    ·
      have h5_d := of_decide_eq_true h5_
      have hil : i < l0.length := by omega
      refine c_skip rfl ?_
      refine q_seq ?_
      refine c_seq rfl ?_
      refine c_block rfl ?_
      refine c_seq rfl ?_
      refine r_ord (l := [0, 1, 2, 3]) rfl (by kernel_rfl) (by kernel_rfl) ?_
      refine s_v rfl rfl rfl rfl (v_iaK (i := 3) rfl Try.underlying22 SZ31 rfl rfl rfl rfl (by omega) (by omega)) ?_
      refine s_v rfl rfl rfl rfl (v_ldKA z31 [.int .i64 ((rd_T31 l0 ((i : Nat) : Int)).f0), .int .u64 ((rd_T31 l0 ((i : Nat) : Int)).f1), .int .u64 ((rd_T31 l0 ((i : Nat) : Int)).f2), .int .i64 ((rd_T31 l0 ((i : Nat) : Int)).f3), .int .i64 ((rd_T31 l0 ((i : Nat) : Int)).f4)] 3 rfl Try.underlying31 rfl SZ31 rfl rfl rfl rfl (by omega) (by omega) (fun w K h => k31_open h)) ?_
      refine s_e rfl rfl (e_alloc rfl rfl rfl ZR31) ?_
      intro b6_
      refine s_e rfl rfl (e_stA 0 rfl rfl SZ31 rfl rfl rfl rfl rfl rfl) ?_
      refine s_end ?_
      refine q_seq ?_
      refine c_seq rfl ?_
      refine r_ord (l := [0, 1, 2, 3, 4, 5, 6, 7, 8, 9]) rfl (by kernel_rfl) (by kernel_rfl) ?_
      refine s_v rfl rfl rfl rfl (v_ldA [.slice A m.length c] 1 rfl Try.underlying27 rfl SZ27 rfl rfl rfl rfl) ?_
      refine s_v rfl rfl rfl rfl (v_ldA [.int .i64 ((rd_T31 l0 ((i : Nat) : Int)).f0), .int .u64 ((rd_T31 l0 ((i : Nat) : Int)).f1), .int .u64 ((rd_T31 l0 ((i : Nat) : Int)).f2), .int .i64 ((rd_T31 l0 ((i : Nat) : Int)).f3), .int .i64 ((rd_T31 l0 ((i : Nat) : Int)).f4)] 0 rfl Try.underlying31 rfl SZ31 rfl rfl rfl rfl) ?_
      refine s_dup 2 rfl ?_
      obtain ⟨m1, q0, q1, q2, q3, hD⟩ : ∃ m1 q0 q1 q2 q3, Dm m ((rd_T31 l0 ((i : Nat) : Int)).f0) ((rd_T31 l0 ((i : Nat) : Int)).f1) ((rd_T31 l0 ((i : Nat) : Int)).f2) ((rd_T31 l0 ((i : Nat) : Int)).f3) = (m1, q0, q1, q2, q3) := ⟨_, _, _, _, _, rfl⟩
      have hD_ := Dm_facts hs.2.1 hD
      refine s_e rfl rfl (e_call [0] [1, 2, 3, 4, 5] #[.agg #[.slice A m.length c], .agg #[.int .i64 ((rd_T31 l0 ((i : Nat) : Int)).f0), .int .u64 ((rd_T31 l0 ((i : Nat) : Int)).f1), .int .u64 ((rd_T31 l0 ((i : Nat) : Int)).f2), .int .i64 ((rd_T31 l0 ((i : Nat) : Int)).f3), .int .i64 ((rd_T31 l0 ((i : Nat) : Int)).f4)]] rfl rfl rfl rfl rfl Try.func11 rfl (by decide) rfl rfl rfl rfl (by decide) (fun w ht => do_conr A c m ((rd_T31 l0 ((i : Nat) : Int)).f0) ((rd_T31 l0 ((i : Nat) : Int)).f1) ((rd_T31 l0 ((i : Nat) : Int)).f2) ((rd_T31 l0 ((i : Nat) : Int)).f3) ((rd_T31 l0 ((i : Nat) : Int)).f4) hs.2.1 (by have := hs.2.2; omega) m1 q0 q1 q2 q3 hD w _)) ?_
      intro A7_ c8_ A9_ c10_
      refine s_v rfl rfl rfl rfl (v_move rfl rfl) ?_
      refine s_v rfl rfl rfl rfl (v_ext rfl rfl rfl) ?_
      refine s_v rfl rfl rfl rfl (v_ext rfl rfl rfl) ?_
      refine s_e rfl rfl (e_alloc rfl rfl rfl ZR27) ?_
      intro b11_
      refine s_e rfl rfl (e_alloc rfl rfl rfl ZR34) ?_
      intro b12_
      refine s_e rfl rfl (e_stA 1 rfl rfl SZ27 rfl rfl rfl rfl rfl rfl) ?_
      refine s_e rfl rfl (e_stA 0 rfl rfl SZ34 rfl rfl rfl rfl rfl rfl) ?_
      refine s_end ?_
      refine q_seq ?_
      refine c_seq rfl ?_
      refine r_ord (l := [0, 1, 2, 3, 4, 5, 6, 7, 8]) rfl (by kernel_rfl) (by kernel_rfl) ?_
      refine s_v rfl rfl rfl rfl (v_move rfl rfl) ?_
      refine s_v rfl rfl rfl rfl (v_ldA [.int .i64 ((rd_T31 l0 ((i : Nat) : Int)).f0), .int .u64 ((rd_T31 l0 ((i : Nat) : Int)).f1), .int .u64 ((rd_T31 l0 ((i : Nat) : Int)).f2), .int .i64 ((rd_T31 l0 ((i : Nat) : Int)).f3), .int .i64 ((rd_T31 l0 ((i : Nat) : Int)).f4)] 4 rfl Try.underlying31 rfl SZ31 rfl rfl rfl rfl) ?_
      refine s_dup 7 rfl ?_
      refine s_e rfl rfl (e_call [0] [1, 2, 3, 4, 5, 6, 7, 8, 9] #[.slice B ((m.map old).length) d, .agg #[.int .i64 ((rd_T31 l0 ((i : Nat) : Int)).f0), .int .u64 ((rd_T31 l0 ((i : Nat) : Int)).f1), .int .u64 ((rd_T31 l0 ((i : Nat) : Int)).f2), .int .i64 ((rd_T31 l0 ((i : Nat) : Int)).f3), .int .i64 ((rd_T31 l0 ((i : Nat) : Int)).f4)]] rfl rfl rfl rfl rfl Try.func12 rfl (by decide) rfl rfl rfl rfl (by decide) (fun w ht => rdo_conr B d m ((rd_T31 l0 ((i : Nat) : Int)).f0) ((rd_T31 l0 ((i : Nat) : Int)).f1) ((rd_T31 l0 ((i : Nat) : Int)).f2) ((rd_T31 l0 ((i : Nat) : Int)).f3) ((rd_T31 l0 ((i : Nat) : Int)).f4) hs.2.1 (by have := hs.2.2; omega) m1 q0 q1 q2 q3 hD w _)) ?_
      intro A13_ c14_ A15_ c16_
      refine s_v rfl rfl rfl rfl (v_move rfl rfl) ?_
      refine s_v rfl rfl rfl rfl (v_ext rfl rfl rfl) ?_
      refine s_v rfl rfl rfl rfl (v_ext rfl rfl rfl) ?_
      refine s_e rfl rfl (e_alloc rfl rfl rfl ZR34) ?_
      intro b17_
      refine s_v rfl rfl rfl rfl (v_assign rfl rfl) ?_
      refine s_e rfl rfl (e_stA 0 rfl rfl SZ34 rfl rfl rfl rfl rfl rfl) ?_
      refine s_end ?_
      refine q_seq ?_
      refine c_seq rfl ?_
      refine c_seq rfl ?_
      refine r_ord (l := [0, 1, 2, 3, 4, 5, 6, 7, 8, 9, 10, 11, 12, 13, 14, 15, 16, 17, 18, 19]) rfl (by kernel_rfl) (by kernel_rfl) ?_
      refine s_v rfl rfl rfl rfl (v_ldA [.bool q0, .bool q1, .int .u64 q2, .slice A9_ q3.length c10_] 3 rfl Try.underlying34 rfl SZ34 rfl rfl rfl rfl) ?_
      refine s_v rfl rfl rfl rfl (v_ldA [.bool q0, .bool q1, .int .u64 q2, .slice A15_ q3.length c16_] 0 rfl Try.underlying34 rfl SZ34 rfl rfl rfl rfl) ?_
      refine s_e rfl rfl (e_callK (fun z : Unit => .bool true) (fun z => []) #[.agg #[.bool q0, .bool q1, .int .u64 q2, .slice A9_ q3.length c10_], .agg #[.bool q0, .bool q1, .int .u64 q2, .slice A15_ q3.length c16_]] rfl rfl rfl rfl rfl Try.func13 rfl (by decide) rfl rfl (fun w ht => stepstoneref07_Same.con 5000 _ _ _ _ _ _ _ _ _ _ _ _ _ ((refSame_f q0 q1 q2 q3 q0 q1 q2 q3 (by have := hs.2.2; have := hD_.2.2; omega) 5000 (by omega)).trans (congrArg some (sameB_self _ _ _ _))) w (Tri.fact ht 6 rfl) (Tri.fact ht 2 rfl))) ?_
      intro z18_
      refine s_v rfl rfl rfl rfl (v_not rfl rfl) ?_
      refine s_v rfl rfl rfl rfl (v_move rfl rfl) ?_
      refine s_vg rfl rfl rfl rfl (v_ldA [.slice A7_ m1.length c8_] 4 rfl Try.underlying27 rfl SZ27 rfl rfl rfl rfl) ?_
      refine s_eg rfl rfl (e_callK (fun z : Option Addr × Nat => .slice z.1 m1.length z.2) (fun z => [KC k52 z.1 z.2 m1]) #[.agg #[.slice A7_ m1.length c8_]] rfl rfl rfl rfl rfl Try.func16 rfl (by decide) rfl rfl (fun w ht => seq_Map_Pairs.con _ _ _ _ (pairs_f m1 (by have := hs.2.2; have := hD_.2.1; omega)) w (Tri.fact ht 5 rfl))) ?_
      intro z19_
      refine s_eg rfl rfl (e_callK (fun z : Option Addr × Nat => .slice z.1 ((m1.map old).length) z.2) (fun z => [KC k62 z.1 z.2 (m1.map old)]) #[.slice z19_.1 m1.length z19_.2] rfl rfl rfl rfl rfl Try.func15 rfl (by decide) rfl rfl (fun w ht => stepstonelaw07_Olds.con 5000 _ _ _ _ (olds_f m1 (by have := hs.2.2; have := hD_.2.1; omega) 5000 (by omega)) w (Tri.fact ht 0 rfl))) ?_
      intro z20_
      refine s_vg rfl rfl rfl rfl (v_move rfl rfl) ?_
      refine s_eg rfl rfl (e_callK (fun z : Unit => .bool true) (fun z => []) #[.slice z20_.1 ((m1.map old).length) z20_.2, .slice A13_ ((m1.map old).length) c14_] rfl rfl rfl rfl rfl Try.func14 rfl (by decide) rfl rfl (fun w ht => stepstoneref07_Equal.con 5000 _ _ _ _ _ _ _ ((equal_f (m1.map old) (m1.map old) (by have := hs.2.2; have := hD_.2.1; rw [List.length_map]; omega) 5000 (by omega)).trans (by simp)) w (Tri.fact ht 0 rfl) (Tri.fact ht 3 rfl))) ?_
      intro z21_
      refine s_vg rfl rfl rfl rfl (v_not rfl rfl) ?_
      refine s_v rfl rfl rfl rfl (v_pick rfl rfl rfl rfl) ?_
      refine s_v rfl rfl rfl rfl (v_move rfl rfl) ?_
      refine s_vg rfl rfl rfl rfl (v_ldA [.slice A m.length c] 10 rfl Try.underlying27 rfl SZ27 rfl rfl rfl rfl) ?_
      refine s_eg rfl rfl (e_callK (fun z : Option Addr × Nat => .slice z.1 m.length z.2) (fun z => [KC k52 z.1 z.2 m]) #[.agg #[.slice A m.length c]] rfl rfl rfl rfl rfl Try.func16 rfl (by decide) rfl rfl (fun w ht => seq_Map_Pairs.con _ _ _ _ (pairs_f m (by have := hs.2.2; omega)) w (Tri.fact ht 11 rfl))) ?_
      intro z22_
      refine s_eg rfl rfl (e_callK (fun z : Option Addr × Nat => .slice z.1 ((m.map old).length) z.2) (fun z => [KC k62 z.1 z.2 (m.map old)]) #[.slice z22_.1 m.length z22_.2] rfl rfl rfl rfl rfl Try.func15 rfl (by decide) rfl rfl (fun w ht => stepstonelaw07_Olds.con 5000 _ _ _ _ (olds_f m (by have := hs.2.2; omega) 5000 (by omega)) w (Tri.fact ht 0 rfl))) ?_
      intro z23_
      refine s_vg rfl rfl rfl rfl (v_move rfl rfl) ?_
      refine s_eg rfl rfl (e_callK (fun z : Unit => .bool true) (fun z => []) #[.slice z23_.1 ((m.map old).length) z23_.2, .slice B ((m.map old).length) d] rfl rfl rfl rfl rfl Try.func14 rfl (by decide) rfl rfl (fun w ht => stepstoneref07_Equal.con 5000 _ _ _ _ _ _ _ ((equal_f (m.map old) (m.map old) (by have := hs.2.2; rw [List.length_map]; omega) 5000 (by omega)).trans (by simp)) w (Tri.fact ht 0 rfl) (Tri.fact ht 14 rfl))) ?_
      intro z24_
      refine s_vg rfl rfl rfl rfl (v_not rfl rfl) ?_
      refine s_v rfl rfl rfl rfl (v_pick rfl rfl rfl rfl) ?_
      refine s_end ?_
      refine q_seq ?_
      refine c_cond0 rfl rfl ?_
      refine c_skip rfl ?_
      refine q_seq ?_
      refine r_ord (l := [0, 1, 2, 3]) rfl (by kernel_rfl) (by kernel_rfl) ?_
      refine s_v rfl rfl rfl rfl (v_ldA [.slice A7_ m1.length c8_] 8 rfl Try.underlying27 rfl SZ27 rfl rfl rfl rfl) ?_
      refine s_v rfl rfl rfl rfl (v_move rfl rfl) ?_
      refine s_e rfl rfl (e_stA 12 rfl rfl SZ27 rfl rfl rfl rfl rfl rfl) ?_
      refine s_v rfl rfl rfl rfl (v_assign rfl rfl) ?_
      refine s_end ?_
      refine q_block ?_
      refine q_seq ?_
      refine r_ord (l := [0, 1]) rfl (by kernel_rfl) (by kernel_rfl) ?_
      refine s_v rfl rfl rfl rfl (OpV.cast (v := .int .i64 ((i + 1 : Nat) : Int)) (v_arith rfl rfl rfl rfl) (inc64 (by omega))) ?_
      refine s_v rfl rfl rfl rfl (v_move rfl rfl) ?_
      refine s_end ?_
      exact q_again (i + 1, m1, A7_, c8_, A13_, c14_) [12, 9, 5, 15] ⟨by omega, hD_.1, by have := hD_.2.1; omega⟩ (by show l0.length - (i + 1) < l0.length - i; omega) (subF_spec ⟨rfl, rfl, rfl, rfl, rfl, rfl, trivial⟩) rfl (by decide)
    ·
      have h5_d := of_decide_eq_false h5_
      refine c_exit (i := 0) rfl rfl ?_
      refine q_then_exit ?_
      refine q_then_exit ?_
      refine q_block_here rfl ?_
      refine q_seq ?_
      refine c_seq rfl ?_
      refine r_ord (l := [0, 1]) rfl (by kernel_rfl) (by kernel_rfl) ?_
      refine s_e rfl rfl (e_callK (fun z : Unit => .bool true) (fun z => []) #[] rfl rfl rfl rfl rfl Try.func10 rfl (by decide) rfl rfl (fun w ht => alive_calls w)) ?_
      intro z25_
      refine s_v rfl rfl rfl rfl (v_assign rfl rfl) ?_
      refine s_end ?_
      refine q_seq ?_
      refine c_ret rfl ?_
      refine q_take [] rfl (by decide) ?_
      exact q_post rfl (.cons rfl (.nil)) hX
end Go.Eng
