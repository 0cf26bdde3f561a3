/- Own text, written by an own program: L4. -/
import Derived.Test.YtpppcicbkdafeacP12
import Derived.Test.YtpppcicbkdafeacEK
namespace Go.Eng
open Go.Proofs Go.RowKit Go.Proofs.YtpppcicbkdafeacW.PrintWords Go.Proofs.Ytpppcicbkdafeac.GSeq
set_option linter.unusedVariables false
set_option linter.unusedSimpArgs false
theorem dec64 {i : Nat} (h : i < 1000000) (h0 : 0 < i) : Value.int .i64 (IntKind.wrap .i64 (((i : Nat) : Int) - 1)) = .int .i64 ((i - 1 : Nat) : Int) := by
  congr 1
  simp only [IntKind.wrap, IntKind.bits, IntKind.signed]
  simp
  omega
theorem rd_at {l : List Int} {i : Nat} (h : i < l.length) : rd l (i : Int) = l[i] := by
  simp [rd, List.getD_eq_getElem?_getD, h]
theorem rng_at {M : List S52} {K V N : Int} {i : Nat} (h : i < (rngM M K V N).length) : rd (rngM M K V N) (i : Int) ∈ rngM M K V N := by
  rw [rd_at h]; exact List.getElem_mem h
theorem rng_prev {M : List S52} (hs : Srt M) {K V N : Int} {i : Nat} (h : i < (rngM M K V N).length) (h0 : 0 < i) : rd (rngM M K V N) ((i - 1 : Nat) : Int) < rd (rngM M K V N) (i : Int) := by
  obtain ⟨j, rfl⟩ : ∃ j, i = j + 1 := ⟨i - 1, by omega⟩
  rw [rd_at h, show j + 1 - 1 = j by omega, rd_at (by omega)]
  exact rng_step hs h
theorem cnt_len (l : List S52) (k v : Int) : cntM l k v ≤ l.length := by
  unfold cntM kf
  refine Nat.le_trans (List.length_filter_le _ _) ?_
  rw [List.length_map]
  exact List.length_filter_le _ _
set_option maxRecDepth 100000 in
set_option maxHeartbeats 4000000 in
theorem seqRanges_con (A0 : Option Addr) (c0 : Nat) (l0 : List S62) (o0 K V N o4 : Int) (w0 : World) (H : List Nat) : Con Try.prog 8 #[.slice A0 l0.length c0, .agg #[.int .i64 o0, .int .u64 K, .int .u64 V, .int .i64 N, .int .i64 o4]] w0 H [.f (KC k62 A0 c0 l0)] (fun X => X (.bool true) []) := by
  refine con_enter (c := bodyOf Try.f8) Try.func8 rfl (m := 118) rfl rfl rfl ?_
  intro X hX _
  obtain ⟨M, hM⟩ : ∃ M, ofL [] (l0.map new) = M := ⟨_, rfl⟩
  have hsM : Srt M := hM ▸ srtM l0
  ·
    refine c_seq rfl ?_
    refine r_ord (l := [0, 1]) rfl (by kernel_rfl) (by kernel_rfl) ?_
    refine s_e rfl rfl (e_box rfl rfl rfl rfl) ?_
    intro b1_
    refine s_v rfl rfl rfl rfl (v_assign rfl rfl) ?_
    refine s_end ?_
    refine q_seq ?_
    refine c_seq rfl ?_
    refine c_seq rfl ?_
    refine r_ord (l := [0, 1, 2]) rfl (by kernel_rfl) (by kernel_rfl) ?_
    refine s_v rfl rfl rfl rfl (v_move rfl rfl) ?_
    refine s_v rfl rfl rfl rfl (v_len rfl rfl rfl Try.underlying28 rfl rfl) ?_
    refine s_v rfl rfl rfl rfl (v_arith rfl rfl rfl rfl) ?_
    refine s_end ?_
    refine q_seq ?_
    refine c_cond (t := decide (((l0.length : Nat) : Int) > 100)) rfl rfl (fun h2_ => ?_) (fun h2_ => ?_)
    ·
      have h2_d := of_decide_eq_true h2_
      refine c_seq rfl ?_
      refine r_ord (l := [0, 1]) rfl (by kernel_rfl) (by kernel_rfl) ?_
      refine s_e rfl rfl (e_callK (fun z : Unit => .bool true) (fun z => []) #[] rfl rfl rfl rfl rfl Try.func10 rfl (by decide) rfl rfl (fun w ht => alive_calls w)) ?_
      intro z3_
      refine s_v rfl rfl rfl rfl (v_assign rfl rfl) ?_
      refine s_end ?_
      refine q_seq ?_
      refine c_ret rfl ?_
      refine q_then_ret ?_
      refine q_take [] rfl (by decide) ?_
      exact q_post rfl (.cons rfl (.nil)) hX
    ·
      have h2_d := of_decide_eq_false h2_
      refine c_skip rfl ?_
      refine q_seq ?_
      refine c_seq rfl ?_
      refine r_ord (l := [0, 1]) rfl (by kernel_rfl) (by kernel_rfl) ?_
      refine s_v rfl rfl rfl rfl (v_fa rfl Try.underlying31 rfl SZ3 rfl) ?_
      refine s_e rfl rfl (e_st 0 rfl rfl SZ3 rfl rfl rfl rfl (blt_lt rfl)) ?_
      refine s_end ?_
      refine q_seq ?_
      refine c_seq rfl ?_
      refine r_ord (l := [0, 1, 2, 3, 4]) rfl (by kernel_rfl) (by kernel_rfl) ?_
      refine s_v rfl rfl rfl rfl (v_move rfl rfl) ?_
      refine s_e rfl rfl (e_callK (fun z : Option Addr × Nat => .slice z.1 ((l0.map new).length) z.2) (fun z => [KC k52 z.1 z.2 (l0.map new)]) #[.slice A0 l0.length c0] rfl rfl rfl rfl rfl Try.func19 rfl (by decide) rfl rfl (fun w ht => stepstonelaw07_News.con 5000 _ _ _ _ (news_f l0 (by omega) 5000 (by omega)) w (Tri.fact ht 1 rfl))) ?_
      intro z4_
      refine s_e rfl rfl (e_callK (fun z : Option Addr × Nat => .agg #[.slice z.1 M.length z.2]) (fun z => [KC k52 z.1 z.2 M]) #[.slice z4_.1 ((l0.map new).length) z4_.2] rfl rfl rfl rfl rfl Try.func18 rfl (by decide) rfl rfl (fun w ht => seq_Of.con 5000 _ _ _ _ ((of_f (l0.map new) (by simp; omega) 5000 (by omega)).trans (congrArg some hM)) w (Tri.fact ht 0 rfl))) ?_
      intro z5_
      refine s_e rfl rfl (e_alloc rfl rfl rfl ZR27) ?_
      intro b6_
      refine s_e rfl rfl (e_stA 0 rfl rfl SZ27 rfl rfl rfl rfl rfl rfl) ?_
      refine s_end ?_
      refine q_seq ?_
      refine c_seq rfl ?_
      refine r_ord (l := [0, 1, 2, 3, 4, 5, 6, 7, 8, 9]) rfl (by kernel_rfl) (by kernel_rfl) ?_
      refine s_v rfl rfl rfl rfl (v_ldA [.slice z5_.1 M.length z5_.2] 0 rfl Try.underlying27 rfl SZ27 rfl rfl rfl rfl) ?_
      refine s_v rfl rfl rfl rfl (v_ldA [.int .i64 5, .int .u64 K, .int .u64 V, .int .i64 N, .int .i64 o4] 3 rfl Try.underlying31 rfl SZ31 rfl rfl rfl rfl) ?_
      have hlM_ : M.length ≤ 100 := by have h_ := lenM l0 (by omega); rw [hM] at h_; exact h_
      refine s_e rfl rfl (e_callF [1] #[.agg #[.slice z5_.1 M.length z5_.2], .agg #[.int .i64 5, .int .u64 K, .int .u64 V, .int .i64 N, .int .i64 o4]] rfl rfl rfl rfl rfl Try.func11 rfl (by decide) rfl rfl rfl rfl (fun w ht => do_conr z5_.1 z5_.2 M 5 K V N o4 hsM (by have h_ := lenM l0 (by omega); rw [hM] at h_; omega) M false false 0 (rngM M K V N) (by simp [Dm]) w _)) ?_
      intro A7_ c8_ A9_ c10_
      refine s_v rfl rfl rfl rfl (v_move rfl rfl) ?_
      refine s_v rfl rfl rfl rfl (v_ext rfl rfl rfl) ?_
      refine s_v rfl rfl rfl rfl (v_ext rfl rfl rfl) ?_
      refine s_e rfl rfl (e_alloc rfl rfl rfl ZR27) ?_
      intro b11_
      refine s_e rfl rfl (e_alloc rfl rfl rfl ZR34) ?_
      intro b12_
      refine s_e rfl rfl (e_stA 1 rfl rfl SZ27 rfl rfl rfl rfl rfl rfl) ?_
      refine s_e rfl rfl (e_stA 0 rfl rfl SZ34 rfl rfl rfl rfl rfl rfl) ?_
      refine s_end ?_
      refine q_seq ?_
      refine c_seq rfl ?_
      refine c_seq rfl ?_
      refine r_ord (l := [0, 1, 2, 3]) rfl (by kernel_rfl) (by kernel_rfl) ?_
      refine s_v rfl rfl rfl rfl (v_fa rfl Try.underlying34 rfl SZ32 rfl) ?_
      refine s_v rfl rfl rfl rfl (v_ld 0 rfl Try.underlying32 rfl rfl rfl rfl) ?_
      refine s_v rfl rfl rfl rfl (v_len rfl rfl rfl Try.underlying32 rfl rfl) ?_
      refine s_v rfl rfl rfl rfl (v_move rfl rfl) ?_
      refine s_end ?_
      refine q_seq ?_
      refine c_block rfl ?_
      refine c_loop (σ := Nat) (fun i => i ≤ (rngM M K V N).length) (fun i => (rngM M K V N).length - i) (fun i => [(3, .pointer (some ⟨b1_, 0, none⟩)), (5, .pointer (some ⟨b6_, 0, none⟩)), (7, .pointer (some ⟨b12_, 0, none⟩)), (30, .slice A9_ ((rngM M K V N).length) c10_), (31, .int .i64 ((rngM M K V N).length : Nat)), (32, .int .i64 ((i : Nat) : Int))]) (fun i => [.b b1_ (.cells #[.int .i64 5, .int .u64 K, .int .u64 V, .int .i64 N, .int .i64 o4] 31 (0, 0)), .b b6_ (.cells #[.slice z5_.1 M.length z5_.2] 27 (0, 0)), .b b12_ (.cells #[.bool false, .bool false, .int .u64 0, .slice A9_ ((rngM M K V N).length) c10_] 34 (0, 0)), .f (KC k52 A7_ c8_ M), .f (KC (Kd.int .u64) A9_ c10_ (rngM M K V N)), .f (KC k52 z5_.1 z5_.2 M)]) 0 [7, 4, 0, 2, 3, 5] rfl (Nat.zero_le _) (subF_spec ⟨rfl, rfl, rfl, rfl, rfl, rfl, trivial⟩) rfl (by decide) ?_
      rintro i hs
      have hs_ := hs
      have hrl : (rngM M K V N).length ≤ 1000 := by have := rng_len M K V N; have := hlM_; omega
      refine c_seq rfl ?_
      refine r_ord (l := [0]) rfl (by kernel_rfl) (by kernel_rfl) ?_
      refine s_v rfl rfl rfl rfl (v_arith rfl rfl rfl rfl) ?_
      refine s_end ?_
      refine q_seq ?_
      refine c_seq rfl ?_
      refine c_cond (t := decide ((((i : Nat) : Int) : Int) < ((rngM M K V N).length : Nat))) rfl rfl (fun h13_ => ?_) (fun h13_ => ?_)
      ·
        have h13_d := of_decide_eq_true h13_
        have hil : i < (rngM M K V N).length := by omega
        refine c_skip rfl ?_
        refine q_seq ?_
        refine c_seq rfl ?_
        refine c_block rfl ?_
        refine c_seq rfl ?_
        refine r_ord (l := [0, 1, 2, 3, 4]) rfl (by kernel_rfl) (by kernel_rfl) ?_
        refine s_v rfl rfl rfl rfl (v_move rfl rfl) ?_
        refine s_v rfl rfl rfl rfl (v_iaK (i := 4) rfl Try.underlying32 SZ29 rfl rfl rfl rfl (by omega) (by first | omega | (simp; done) | (simp; omega))) ?_
        refine s_v rfl rfl rfl rfl (v_ldK (v := .int .u64 (rd (rngM M K V N) ((i : Nat) : Int))) 0 4 rfl Try.underlying29 rfl rfl rfl rfl (by omega) (by first | omega | (simp; done) | (simp; omega)) (fun w K h => h)) ?_
        refine s_v rfl rfl rfl rfl (v_assign rfl rfl) ?_
        refine s_v rfl rfl rfl rfl (v_assign rfl rfl) ?_
        refine s_end ?_
        refine q_seq ?_
        refine c_seq rfl ?_
        refine r_ord (l := [0, 1, 2, 3, 4, 5, 6, 7, 8, 9, 10]) rfl (by kernel_rfl) (by kernel_rfl) ?_
        refine s_v rfl rfl rfl rfl (v_ldA [.slice z5_.1 M.length z5_.2] 1 rfl Try.underlying27 rfl SZ27 rfl rfl rfl rfl) ?_
        refine s_v rfl rfl rfl rfl (v_move rfl rfl) ?_
        refine s_v rfl rfl rfl rfl (v_build (places := #[(0, 1), (1, 1), (2, 1), (3, 1), (4, 1)]) #[.int .i64 1, .int .u64 (rd (rngM M K V N) ((i : Nat) : Int)), .int .u64 0, .int .i64 0, .int .i64 0] rfl ZR31 Try.underlying31 (by kernel_rfl) rfl rfl) ?_
        obtain ⟨hk1, hk2, v, hDx⟩ := rng_mem (rng_at hil)
        refine s_e rfl rfl (e_callF [5] #[.agg #[.slice z5_.1 M.length z5_.2], .agg #[.int .i64 1, .int .u64 (rd (rngM M K V N) ((i : Nat) : Int)), .int .u64 0, .int .i64 0, .int .i64 0]] rfl rfl rfl rfl rfl Try.func11 rfl (by decide) rfl rfl rfl rfl (fun w ht => do_conr z5_.1 z5_.2 M 1 (rd (rngM M K V N) ((i : Nat) : Int)) 0 0 0 hsM (by have h_ := lenM l0 (by omega); rw [hM] at h_; omega) M false true v ([] : List Int) hDx w _)) ?_
        intro A14_ c15_ A16_ c17_
        refine s_v rfl rfl rfl rfl (v_move rfl rfl) ?_
        refine s_v rfl rfl rfl rfl (v_ext rfl rfl rfl) ?_
        refine s_v rfl rfl rfl rfl (v_ext rfl rfl rfl) ?_
        refine s_e rfl rfl (e_alloc rfl rfl rfl ZR27) ?_
        intro b18_
        refine s_e rfl rfl (e_alloc rfl rfl rfl ZR34) ?_
        intro b19_
        refine s_e rfl rfl (e_stA 1 rfl rfl SZ27 rfl rfl rfl rfl rfl rfl) ?_
        refine s_e rfl rfl (e_stA 0 rfl rfl SZ34 rfl rfl rfl rfl rfl rfl) ?_
        refine s_end ?_
        refine q_seq ?_
        refine c_seq rfl ?_
        refine r_ord (l := [0, 1, 2, 3, 4, 5, 6, 7, 8, 9, 10, 11, 12, 13, 14, 15, 16, 17, 18, 19, 20, 21, 22, 23, 24, 25, 26, 27, 28]) rfl (by kernel_rfl) (by kernel_rfl) ?_
        refine s_v rfl rfl rfl rfl (v_fa rfl Try.underlying34 rfl SZ4 rfl) ?_
        refine s_v rfl rfl rfl rfl (v_ld 0 rfl Try.underlying4 rfl rfl rfl rfl) ?_
        refine s_v rfl rfl rfl rfl (v_not rfl rfl) ?_
        refine s_v rfl rfl rfl rfl (v_move rfl rfl) ?_
        refine s_vg rfl rfl rfl rfl (v_move rfl rfl) ?_
        refine s_vg rfl rfl rfl rfl (v_fa rfl Try.underlying31 rfl SZ29 rfl) ?_
        refine s_vg rfl rfl rfl rfl (v_ld 4 rfl Try.underlying29 rfl rfl rfl rfl) ?_
        refine s_vg rfl rfl rfl rfl (OpV.cast (v := .bool false) (v_arith rfl rfl rfl rfl) (congrArg Value.bool (decide_eq_false (by omega)))) ?_
        refine s_v rfl rfl rfl rfl (v_pick rfl rfl rfl rfl) ?_
        refine s_v rfl rfl rfl rfl (v_move rfl rfl) ?_
        refine s_vg rfl rfl rfl rfl (v_move rfl rfl) ?_
        refine s_vg rfl rfl rfl rfl (v_fa rfl Try.underlying31 rfl SZ29 rfl) ?_
        refine s_vg rfl rfl rfl rfl (v_ld 4 rfl Try.underlying29 rfl rfl rfl rfl) ?_
        refine s_vg rfl rfl rfl rfl (OpV.cast (v := .bool false) (v_arith rfl rfl rfl rfl) (congrArg Value.bool (decide_eq_false (by omega)))) ?_
        refine s_v rfl rfl rfl rfl (v_pick rfl rfl rfl rfl) ?_
        refine s_v rfl rfl rfl rfl (v_move rfl rfl) ?_
        refine s_vg rfl rfl rfl rfl (v_move rfl rfl) ?_
        refine s_vg rfl rfl rfl rfl (v_arith rfl rfl rfl rfl) ?_
        refine s_vg rfl rfl rfl rfl (v_move rfl rfl) ?_
        refine s_splitv (d := 62) (t := decide ((((i : Nat) : Int) : Int) > 0)) rfl (fun h20_ => ?_) (fun h20_ => ?_)
        ·
          have h20_d := of_decide_eq_true h20_
          refine s_vg rfl rfl rfl rfl (v_fa rfl Try.underlying34 rfl SZ32 rfl) ?_
          refine s_vg rfl rfl rfl rfl (v_ld 6 rfl Try.underlying32 rfl rfl rfl rfl) ?_
          refine s_vg rfl rfl rfl rfl (v_move rfl rfl) ?_
          refine s_vg rfl rfl rfl rfl (OpV.cast (v := .int .i64 ((i - 1 : Nat) : Int)) (v_arith rfl rfl rfl rfl) (dec64 (by omega) (by omega))) ?_
          refine s_vg rfl rfl rfl rfl (v_iaK (i := 8) rfl Try.underlying32 SZ29 rfl rfl rfl rfl (by omega) (by first | omega | (simp; done) | (simp; omega))) ?_
          refine s_vg rfl rfl rfl rfl (v_ldK (v := .int .u64 (rd (rngM M K V N) ((i - 1 : Nat) : Int))) 0 8 rfl Try.underlying29 rfl rfl rfl rfl (by omega) (by first | omega | (simp; done) | (simp; omega)) (fun w K h => h)) ?_
          refine s_vg rfl rfl rfl rfl (v_move rfl rfl) ?_
          refine s_vg rfl rfl rfl rfl (OpV.cast (v := .bool false) (v_arith rfl rfl rfl rfl) (congrArg Value.bool (decide_eq_false (by have h_ := rng_prev hsM hil (by omega); omega)))) ?_
          refine s_vg rfl rfl rfl rfl (v_pick rfl rfl rfl rfl) ?_
          refine s_v rfl rfl rfl rfl (v_pick rfl rfl rfl rfl) ?_
          refine s_end ?_
          refine q_seq ?_
          refine c_cond0 rfl rfl ?_
          refine c_skip rfl ?_
          refine q_block ?_
          refine q_seq ?_
          refine r_ord (l := [0, 1]) rfl (by kernel_rfl) (by kernel_rfl) ?_
          refine s_v rfl rfl rfl rfl (OpV.cast (v := .int .i64 ((i + 1 : Nat) : Int)) (v_arith rfl rfl rfl rfl) (inc64 (by omega))) ?_
          refine s_v rfl rfl rfl rfl (v_move rfl rfl) ?_
          refine s_end ?_
          exact q_again (i + 1) [4, 5, 6, 7, 8, 9] (by show i + 1 ≤ _; omega) (by show _ - (i + 1) < _ - i; omega) (subF_spec ⟨rfl, rfl, rfl, rfl, rfl, rfl, trivial⟩) rfl (by decide)
        ·
          have h20_d := of_decide_eq_false h20_
          refine s_no rfl rfl rfl rfl ?_
          refine s_no rfl rfl rfl rfl ?_
          refine s_no rfl rfl rfl rfl ?_
          refine s_no rfl rfl rfl rfl ?_
          refine s_no rfl rfl rfl rfl ?_
          refine s_no rfl rfl rfl rfl ?_
          refine s_no rfl rfl rfl rfl ?_
          refine s_no rfl rfl rfl rfl ?_
          refine s_vg rfl rfl rfl rfl (v_pick rfl rfl rfl rfl) ?_
          refine s_v rfl rfl rfl rfl (v_pick rfl rfl rfl rfl) ?_
          refine s_end ?_
          refine q_seq ?_
          refine c_cond0 rfl rfl ?_
          refine c_skip rfl ?_
          refine q_block ?_
          refine q_seq ?_
          refine r_ord (l := [0, 1]) rfl (by kernel_rfl) (by kernel_rfl) ?_
          refine s_v rfl rfl rfl rfl (OpV.cast (v := .int .i64 ((i + 1 : Nat) : Int)) (v_arith rfl rfl rfl rfl) (inc64 (by omega))) ?_
          refine s_v rfl rfl rfl rfl (v_move rfl rfl) ?_
          refine s_end ?_
          exact q_again (i + 1) [4, 5, 6, 7, 8, 9] (by show i + 1 ≤ _; omega) (by show _ - (i + 1) < _ - i; omega) (subF_spec ⟨rfl, rfl, rfl, rfl, rfl, rfl, trivial⟩) rfl (by decide)
      ·
        have h13_d := of_decide_eq_false h13_
        clear hs_
        refine c_exit (i := 0) rfl rfl ?_
        refine q_then_exit ?_
        refine q_then_exit ?_
        refine q_block_here rfl ?_
        refine q_seq ?_
        refine c_seq rfl ?_
        refine r_ord (l := [0]) rfl (by kernel_rfl) (by kernel_rfl) ?_
        refine s_v rfl rfl rfl rfl (v_assign rfl rfl) ?_
        refine s_end ?_
        refine q_seq ?_
        refine c_seq rfl ?_
        refine c_seq rfl ?_
        refine r_ord (l := [0, 1, 2, 3]) rfl (by kernel_rfl) (by kernel_rfl) ?_
        refine s_v rfl rfl rfl rfl (v_ldA [.slice z5_.1 M.length z5_.2] 1 rfl Try.underlying27 rfl SZ27 rfl rfl rfl rfl) ?_
        refine s_e rfl rfl (e_callK (fun z : Option Addr × Nat => .slice z.1 M.length z.2) (fun z => [KC k52 z.1 z.2 M]) #[.agg #[.slice z5_.1 M.length z5_.2]] rfl rfl rfl rfl rfl Try.func16 rfl (by decide) rfl rfl (fun w ht => seq_Map_Pairs.con _ _ _ _ (pairs_f M (by have h_ := lenM l0 (by omega); rw [hM] at h_; omega)) w (Tri.fact ht 5 rfl))) ?_
        intro z21_
        refine s_v rfl rfl rfl rfl (v_len rfl rfl rfl Try.underlying25 rfl rfl) ?_
        refine s_v rfl rfl rfl rfl (v_move rfl rfl) ?_
        refine s_end ?_
        refine q_seq ?_
        refine c_block rfl ?_
        refine c_loop (σ := Nat) (fun j => j ≤ M.length) (fun j => M.length - j) (fun j => [(3, .pointer (some ⟨b1_, 0, none⟩)), (5, .pointer (some ⟨b6_, 0, none⟩)), (7, .pointer (some ⟨b12_, 0, none⟩)), (75, .slice z21_.1 M.length z21_.2), (76, .int .i64 (M.length : Nat)), (77, .int .i64 ((j : Nat) : Int)), (12, .int .i64 ((cntM (M.take j) K V : Nat) : Int))]) (fun j => [.b b1_ (.cells #[.int .i64 5, .int .u64 K, .int .u64 V, .int .i64 N, .int .i64 o4] 31 (0, 0)), .b b6_ (.cells #[.slice z5_.1 M.length z5_.2] 27 (0, 0)), .b b12_ (.cells #[.bool false, .bool false, .int .u64 0, .slice A9_ ((rngM M K V N).length) c10_] 34 (0, 0)), .f (KC k52 z21_.1 z21_.2 M), .f (KC k52 A7_ c8_ M), .f (KC (Kd.int .u64) A9_ c10_ (rngM M K V N)), .f (KC k52 z5_.1 z5_.2 M)]) 0 [1, 2, 3, 0, 4, 5, 6] rfl (Nat.zero_le _) (subF_spec ⟨rfl, rfl, rfl, rfl, rfl, rfl, rfl, trivial⟩) rfl (by decide) ?_
        rintro j hs
        have hj_ : j ≤ M.length := hs
        refine c_seq rfl ?_
        refine r_ord (l := [0]) rfl (by kernel_rfl) (by kernel_rfl) ?_
        refine s_v rfl rfl rfl rfl (v_arith rfl rfl rfl rfl) ?_
        refine s_end ?_
        refine q_seq ?_
        refine c_seq rfl ?_
        refine c_cond (t := decide ((((j : Nat) : Int) : Int) < (M.length : Nat))) rfl rfl (fun h22_ => ?_) (fun h22_ => ?_)
        ·
          have h22_d := of_decide_eq_true h22_
          have hjl : j < M.length := by omega
          refine c_skip rfl ?_
          refine q_seq ?_
          refine c_seq rfl ?_
          refine c_block rfl ?_
          refine c_seq rfl ?_
          refine r_ord (l := [0, 1, 2, 3]) rfl (by kernel_rfl) (by kernel_rfl) ?_
          refine s_v rfl rfl rfl rfl (v_iaK (i := 3) rfl Try.underlying25 SZ52 rfl rfl rfl rfl (by omega) (by first | omega | (simp; done) | (simp; omega))) ?_
          refine s_v rfl rfl rfl rfl (v_ldKA z52 [.int .u64 ((rd_T52 M ((j : Nat) : Int)).f0), .int .u64 ((rd_T52 M ((j : Nat) : Int)).f1)] 3 rfl Try.underlying52 rfl SZ52 rfl rfl rfl rfl (by omega) (by first | omega | (simp; done) | (simp; omega)) (fun w K h => k52_open h)) ?_
          refine s_e rfl rfl (e_alloc rfl rfl rfl ZR52) ?_
          intro b23_
          refine s_e rfl rfl (e_stA 0 rfl rfl SZ52 rfl rfl rfl rfl rfl rfl) ?_
          refine s_end ?_
          refine q_seq ?_
          refine c_seq rfl ?_
          refine r_ord (l := [0, 1, 2, 3, 4, 5, 6, 7, 8, 9, 10, 11]) rfl (by kernel_rfl) (by kernel_rfl) ?_
          refine s_v rfl rfl rfl rfl (v_fa rfl Try.underlying52 rfl SZ29 rfl) ?_
          refine s_v rfl rfl rfl rfl (v_ld 0 rfl Try.underlying29 rfl rfl rfl rfl) ?_
          refine s_v rfl rfl rfl rfl (v_fa rfl Try.underlying31 rfl SZ29 rfl) ?_
          refine s_v rfl rfl rfl rfl (v_ld 1 rfl Try.underlying29 rfl rfl rfl rfl) ?_
          refine s_v rfl rfl rfl rfl (v_arith rfl rfl rfl rfl) ?_
          refine s_v rfl rfl rfl rfl (v_move rfl rfl) ?_
          refine s_splitv (d := 86) (t := decide (((rd_T52 M ((j : Nat) : Int)).f0 : Int) ≥ K)) rfl (fun h24_ => ?_) (fun h24_ => ?_)
          ·
            have h24_d := of_decide_eq_true h24_
            rw [show (rd_T52 M (j : Int)).f0 = (M[j]).f0 from by rw [rd52 hjl]] at h24_d
            refine s_vg rfl rfl rfl rfl (v_fa rfl Try.underlying52 rfl SZ29 rfl) ?_
            refine s_vg rfl rfl rfl rfl (v_ld 0 rfl Try.underlying29 rfl rfl rfl rfl) ?_
            refine s_vg rfl rfl rfl rfl (v_fa rfl Try.underlying31 rfl SZ29 rfl) ?_
            refine s_vg rfl rfl rfl rfl (v_ld 1 rfl Try.underlying29 rfl rfl rfl rfl) ?_
            refine s_vg rfl rfl rfl rfl (v_arith rfl rfl rfl rfl) ?_
            refine s_v rfl rfl rfl rfl (v_pick rfl rfl rfl rfl) ?_
            refine s_end ?_
            refine q_seq ?_
            refine c_cond (t := decide (((rd_T52 M ((j : Nat) : Int)).f0 : Int) ≤ V)) rfl rfl (fun h25_ => ?_) (fun h25_ => ?_)
            ·
              have h25_d := of_decide_eq_true h25_
              rw [show (rd_T52 M (j : Int)).f0 = (M[j]).f0 from by rw [rd52 hjl]] at h25_d
              have hce : cntM (M.take (j + 1)) K V = cntM (M.take j) K V + 1 := by rw [cnt_take hjl, if_pos ⟨h24_d, h25_d⟩]
              refine r_ord (l := [0, 1, 2]) rfl (by kernel_rfl) (by kernel_rfl) ?_
              refine s_v rfl rfl rfl rfl (v_move rfl rfl) ?_
              refine s_v rfl rfl rfl rfl (OpV.cast (v := .int .i64 ((cntM (M.take j) K V + 1 : Nat) : Int)) (v_arith rfl rfl rfl rfl) (inc64 (by have := cnt_len (M.take j) K V; rw [List.length_take] at this; omega))) ?_
              refine s_v rfl rfl rfl rfl (v_assign rfl rfl) ?_
              refine s_end ?_
              refine q_block ?_
              refine q_seq ?_
              refine r_ord (l := [0, 1]) rfl (by kernel_rfl) (by kernel_rfl) ?_
              refine s_v rfl rfl rfl rfl (OpV.cast (v := .int .i64 ((j + 1 : Nat) : Int)) (v_arith rfl rfl rfl rfl) (inc64 (by omega))) ?_
              refine s_v rfl rfl rfl rfl (v_move rfl rfl) ?_
              refine s_end ?_
              exact q_again (j + 1) [1, 2, 3, 4, 5, 6, 7] (by show j + 1 ≤ _; omega) (by show _ - (j + 1) < _ - j; omega) (subF_spec ⟨rfl, rfl, rfl, rfl, rfl, rfl, (congrArg (fun x : Nat => some (Value.int .i64 (x : Int))) hce.symm), trivial⟩) rfl (by decide)
            ·
              have h25_d := of_decide_eq_false h25_
              rw [show (rd_T52 M (j : Int)).f0 = (M[j]).f0 from by rw [rd52 hjl]] at h25_d
              have hce : cntM (M.take (j + 1)) K V = cntM (M.take j) K V := by rw [cnt_take hjl, if_neg (fun h => by have := h25_d; omega)]
              refine c_skip rfl ?_
              refine q_block ?_
              refine q_seq ?_
              refine r_ord (l := [0, 1]) rfl (by kernel_rfl) (by kernel_rfl) ?_
              refine s_v rfl rfl rfl rfl (OpV.cast (v := .int .i64 ((j + 1 : Nat) : Int)) (v_arith rfl rfl rfl rfl) (inc64 (by omega))) ?_
              refine s_v rfl rfl rfl rfl (v_move rfl rfl) ?_
              refine s_end ?_
              exact q_again (j + 1) [1, 2, 3, 4, 5, 6, 7] (by show j + 1 ≤ _; omega) (by show _ - (j + 1) < _ - j; omega) (subF_spec ⟨rfl, rfl, rfl, rfl, rfl, rfl, (congrArg (fun x : Nat => some (Value.int .i64 (x : Int))) hce.symm), trivial⟩) rfl (by decide)
          ·
            have h24_d := of_decide_eq_false h24_
            rw [show (rd_T52 M (j : Int)).f0 = (M[j]).f0 from by rw [rd52 hjl]] at h24_d
            have hce : cntM (M.take (j + 1)) K V = cntM (M.take j) K V := by rw [cnt_take hjl, if_neg (fun h => by have := h24_d; omega)]
            refine s_no rfl rfl rfl rfl ?_
            refine s_no rfl rfl rfl rfl ?_
            refine s_no rfl rfl rfl rfl ?_
            refine s_no rfl rfl rfl rfl ?_
            refine s_no rfl rfl rfl rfl ?_
            refine s_v rfl rfl rfl rfl (v_pick rfl rfl rfl rfl) ?_
            refine s_end ?_
            refine q_seq ?_
            refine c_cond0 rfl rfl ?_
            refine c_skip rfl ?_
            refine q_block ?_
            refine q_seq ?_
            refine r_ord (l := [0, 1]) rfl (by kernel_rfl) (by kernel_rfl) ?_
            refine s_v rfl rfl rfl rfl (OpV.cast (v := .int .i64 ((j + 1 : Nat) : Int)) (v_arith rfl rfl rfl rfl) (inc64 (by omega))) ?_
            refine s_v rfl rfl rfl rfl (v_move rfl rfl) ?_
            refine s_end ?_
            exact q_again (j + 1) [1, 2, 3, 4, 5, 6, 7] (by show j + 1 ≤ _; omega) (by show _ - (j + 1) < _ - j; omega) (subF_spec ⟨rfl, rfl, rfl, rfl, rfl, rfl, (congrArg (fun x : Nat => some (Value.int .i64 (x : Int))) hce.symm), trivial⟩) rfl (by decide)
        ·
          have h22_d := of_decide_eq_false h22_
          obtain rfl : j = M.length := by omega
          refine c_exit (i := 2) rfl rfl ?_
          refine q_then_exit ?_
          refine q_then_exit ?_
          refine q_block_here rfl ?_
          refine q_seq ?_
          refine c_seq rfl ?_
          refine r_ord (l := [0, 1, 2, 3, 4, 5, 6, 7, 8, 9, 10, 11, 12, 13, 14, 15, 16, 17, 18, 19, 20, 21, 22]) rfl (by kernel_rfl) (by kernel_rfl) ?_
          refine s_e rfl rfl (e_callK (fun z : Unit => .bool true) (fun z => []) #[] rfl rfl rfl rfl rfl Try.func10 rfl (by decide) rfl rfl (fun w ht => alive_calls w)) ?_
          intro z26_
          refine s_v rfl rfl rfl rfl (v_move rfl rfl) ?_
          refine s_vg rfl rfl rfl rfl (v_fa rfl Try.underlying34 rfl SZ32 rfl) ?_
          refine s_vg rfl rfl rfl rfl (v_ld 2 rfl Try.underlying32 rfl rfl rfl rfl) ?_
          refine s_vg rfl rfl rfl rfl (v_len rfl rfl rfl Try.underlying32 rfl rfl) ?_
          refine s_vg rfl rfl rfl rfl (v_move rfl rfl) ?_
          refine s_vg rfl rfl rfl rfl (v_fa rfl Try.underlying31 rfl SZ3 rfl) ?_
          refine s_vg rfl rfl rfl rfl (v_ld 0 rfl Try.underlying3 rfl rfl rfl rfl) ?_
          refine s_vg rfl rfl rfl rfl (v_min (x := .tmp 0) (y := .tmp 0) rfl rfl rfl) ?_
          refine s_vg rfl rfl rfl rfl (v_max (x := .tmp 0) (y := .tmp 0) rfl rfl rfl) ?_
          refine s_vg rfl rfl rfl rfl (OpV.cast (v := .bool true) (v_arith rfl rfl rfl rfl) (by have h_ := rng_cnt M K V N; rw [List.take_length] ; simpa using h_)) ?_
          refine s_v rfl rfl rfl rfl (v_pick rfl rfl rfl rfl) ?_
          refine s_v rfl rfl rfl rfl (v_move rfl rfl) ?_
          refine s_vg rfl rfl rfl rfl (v_fa rfl Try.underlying34 rfl SZ4 rfl) ?_
          refine s_vg rfl rfl rfl rfl (v_ld 2 rfl Try.underlying4 rfl rfl rfl rfl) ?_
          refine s_vg rfl rfl rfl rfl (v_not rfl rfl) ?_
          refine s_v rfl rfl rfl rfl (v_pick rfl rfl rfl rfl) ?_
          refine s_v rfl rfl rfl rfl (v_move rfl rfl) ?_
          refine s_vg rfl rfl rfl rfl (v_fa rfl Try.underlying34 rfl SZ29 rfl) ?_
          refine s_vg rfl rfl rfl rfl (v_ld 2 rfl Try.underlying29 rfl rfl rfl rfl) ?_
          refine s_vg rfl rfl rfl rfl (v_arith rfl rfl rfl rfl) ?_
          refine s_v rfl rfl rfl rfl (v_pick rfl rfl rfl rfl) ?_
          refine s_v rfl rfl rfl rfl (v_assign rfl rfl) ?_
          refine s_end ?_
          refine q_seq ?_
          refine c_ret rfl ?_
          refine q_take [] rfl (by decide) ?_
          exact q_post rfl (.cons rfl (.nil)) hX
end Go.Eng
