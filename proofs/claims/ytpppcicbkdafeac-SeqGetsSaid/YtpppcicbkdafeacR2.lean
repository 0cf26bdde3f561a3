/- Own text, written by an own program: R2. -/
import Derived.Test.YtpppcicbkdafeacR1
import Derived.Test.YtpppcicbkdafeacEK
namespace Go.Eng
open Go.Proofs Go.RowKit Go.Proofs.YtpppcicbkdafeacW.PrintWords Go.Proofs.Ytpppcicbkdafeac.GSeq
set_option linter.unusedVariables false
set_option linter.unusedSimpArgs false
/-- What the document's Range has told so far, in a row of its own, or in none. -/
def QInv (m : List Int) : Option (Nat × Nat × Nat × Array Value) → Prop
  | none => m = []
  | some (n, _, cap, cur) => n = m.length ∧ n ≤ cap ∧ cap ≤ maxLen ∧ cur.size = cap * 1 ∧ cur.toList.take (n * 1) = m.map (Value.int .u64)
theorem QInv.first {m : List Int} {x : Int} (h : m = []) {g cap : Nat} {cur : Array Value} (h1 : 1 ≤ cap) (h2 : cap ≤ maxLen) (h3 : cur.size = cap * 1) (htk : cur.toList.take (1 * 1) = [.int .u64 x]) : QInv (m ++ [x]) (some (1, g, cap, cur)) := by
  subst h
  exact ⟨rfl, h1, h2, h3, htk⟩
theorem QInv.next {m : List Int} {x : Int} {n g0 c0 : Nat} {u0 : Array Value} (hs : QInv m (some (n, g0, c0, u0))) {g cap : Nat} {cur : Array Value} (h1 : n + 1 ≤ cap) (h2 : cap ≤ maxLen) (h3 : cur.size = cap * 1) (htk : cur.toList.take ((n + 1) * 1) = u0.toList.take (n * 1) ++ [.int .u64 x]) : QInv (m ++ [x]) (some (n + 1, g, cap, cur)) := by
  obtain ⟨e1, _, _, _, e5⟩ := hs
  exact ⟨by simp [e1], h1, h2, h3, by rw [htk, e5]; simp⟩
set_option maxRecDepth 100000 in
set_option maxHeartbeats 4000000 in
theorem rdo_range (A : Option Addr) (c : Nat) (l : List S52) (o1 o2 o3 o4 : Int) (hs : Srt l) (hl : l.length ≤ 1000)  (w0 : World) (H : List Nat) : Con Try.prog 12 #[.slice A (l.map old).length c, .agg #[.int .i64 5, .int .u64 o1, .int .u64 o2, .int .i64 o3, .int .i64 o4]] w0 H [.f (KC k62 A c (l.map old))] (fun X => ∀ A1 c1 A2 c2, X (.tuple #[.slice A1 (l.map old).length c1, .agg #[.bool false, .bool false, .int .u64 0, .slice A2 (rngM l o1 o2 o3).length c2]]) [.f (KC k62 A1 c1 (l.map old)), .f (KC (Kd.int .u64) A2 c2 (rngM l o1 o2 o3))]) := by
  refine con_enter (c := bodyOf Try.f12) Try.func12 rfl (m := 112) rfl rfl rfl ?_
  intro X hX _
  refine c_seq rfl ?_
  refine r_ord (l := [0, 1, 2]) rfl (by kernel_rfl) (by kernel_rfl) ?_
  refine s_e rfl rfl (e_box rfl rfl rfl rfl) ?_
  intro b1_
  refine s_v rfl rfl rfl rfl (v_assign rfl rfl) ?_
  refine s_e rfl rfl (e_alloc rfl rfl rfl ZR34) ?_
  intro b2_
  refine s_end ?_
  refine q_seq ?_
  refine c_seq rfl ?_
  refine c_seq rfl ?_
  refine r_ord (l := [0, 1]) rfl (by kernel_rfl) (by kernel_rfl) ?_
  refine s_v rfl rfl rfl rfl (v_fa rfl Try.underlying31 rfl SZ3 rfl) ?_
  refine s_v rfl rfl rfl rfl (v_ld 1 rfl Try.underlying3 rfl rfl rfl rfl) ?_
  refine s_end ?_
  refine q_seq ?_
  refine c_block rfl ?_
  refine c_seq rfl ?_
  refine r_ord (l := [0, 1]) rfl (by kernel_rfl) (by kernel_rfl) ?_
  refine s_v rfl rfl rfl rfl (v_arith rfl rfl rfl rfl) ?_
  refine s_v rfl rfl rfl rfl (v_assign rfl rfl) ?_
  refine s_end ?_
  refine q_seq ?_
  refine c_cond0 rfl rfl ?_
  refine c_seq rfl ?_
  refine r_ord (l := [0, 1]) rfl (by kernel_rfl) (by kernel_rfl) ?_
  refine s_v rfl rfl rfl rfl (v_arith rfl rfl rfl rfl) ?_
  refine s_v rfl rfl rfl rfl (v_assign rfl rfl) ?_
  refine s_end ?_
  refine q_seq ?_
  refine c_cond0 rfl rfl ?_
  refine c_seq rfl ?_
  refine r_ord (l := [0, 1]) rfl (by kernel_rfl) (by kernel_rfl) ?_
  refine s_v rfl rfl rfl rfl (v_arith rfl rfl rfl rfl) ?_
  refine s_v rfl rfl rfl rfl (v_assign rfl rfl) ?_
  refine s_end ?_
  refine q_seq ?_
  refine c_cond0 rfl rfl ?_
  refine c_seq rfl ?_
  refine r_ord (l := [0, 1]) rfl (by kernel_rfl) (by kernel_rfl) ?_
  refine s_v rfl rfl rfl rfl (v_arith rfl rfl rfl rfl) ?_
  refine s_v rfl rfl rfl rfl (v_assign rfl rfl) ?_
  refine s_end ?_
  refine q_seq ?_
  refine c_cond0 rfl rfl ?_
  refine c_seq rfl ?_
  refine r_ord (l := [0, 1]) rfl (by kernel_rfl) (by kernel_rfl) ?_
  refine s_v rfl rfl rfl rfl (v_arith rfl rfl rfl rfl) ?_
  refine s_v rfl rfl rfl rfl (v_assign rfl rfl) ?_
  refine s_end ?_
  refine q_seq ?_
  refine c_cond1 rfl rfl ?_
  refine c_seq rfl ?_
  refine r_ord (l := [0]) rfl (by kernel_rfl) (by kernel_rfl) ?_
  refine s_e rfl rfl (e_alloc rfl rfl rfl ZR34) ?_
  intro b3_
  refine s_end ?_
  refine q_seq ?_
  refine c_seq rfl ?_
  refine c_seq rfl ?_
  refine r_ord (l := [0]) rfl (by kernel_rfl) (by kernel_rfl) ?_
  refine s_v rfl rfl rfl rfl (v_assign rfl rfl) ?_
  refine s_end ?_
  refine q_seq ?_
  refine c_block rfl ?_
  refine c_loop (σ := (Nat × Option (Nat × Nat × Nat × Array Value))) (fun s : (Nat × Option (Nat × Nat × Nat × Array Value)) => s.1 ≤ l.length ∧ QInv (rngM (l.take s.1) o1 o2 o3) s.2) (fun s => l.length - s.1) (fun s => [(0, .slice A ((l.map old).length) c), (3, .pointer (some ⟨b1_, 0, none⟩)), (4, .slice none 0 0), (5, .pointer (some ⟨b2_, 0, none⟩)), (7, .pointer (some ⟨b3_, 0, none⟩)), (8, .int .i64 ((s.1 : Nat) : Int))]) (fun s : (Nat × Option (Nat × Nat × Nat × Array Value)) => match s with | (_, none) => [.b b1_ (.cells #[.int .i64 5, .int .u64 o1, .int .u64 o2, .int .i64 o3, .int .i64 o4] 31 (0, 0)), .b b2_ (.cells #[.bool false, .bool false, .int .u64 0, .slice none 0 0] 34 (0, 0)), .f (KC k62 A c (l.map old)), .b b3_ (.cells #[.bool false, .bool false, .int .u64 0, .slice none 0 0] 34 (0, 0))] | (_, some (n, g, cap, cur)) => [.b b1_ (.cells #[.int .i64 5, .int .u64 o1, .int .u64 o2, .int .i64 o3, .int .i64 o4] 31 (0, 0)), .b b2_ (.cells #[.bool false, .bool false, .int .u64 0, .slice none 0 0] 34 (0, 0)), .f (KC k62 A c (l.map old)), .b b3_ (.cells #[.bool false, .bool false, .int .u64 0, .slice (some ⟨g, 0, none⟩) n cap] 34 (0, 0)), .b g (.cells cur 29 (0, 0))]) (0, none) [2, 1, 3, 0] rfl ⟨Nat.zero_le _, (show rngM (l.take 0) o1 o2 o3 = [] from by simp [rngM, kf])⟩ (subF_spec ⟨rfl, rfl, rfl, rfl, rfl, rfl, trivial⟩) rfl (by decide) ?_
  rintro ⟨i, _ | ⟨n, g, cap, cur⟩⟩ hs_
  ·
    have hi_ : i ≤ l.length := hs_.1
    have hq_ : (rngM (l.take i) o1 o2 o3) = [] := hs_.2
    have hn : ((0 : Nat) : Int) = ((rngM (l.take i) o1 o2 o3).length : Int) := by rw [hq_]; rfl
    refine c_seq rfl ?_
    refine c_seq rfl ?_
    refine r_ord (l := [0, 1, 2, 3]) rfl (by kernel_rfl) (by kernel_rfl) ?_
    refine s_v rfl rfl rfl rfl (v_move rfl rfl) ?_
    refine s_v rfl rfl rfl rfl (v_move rfl rfl) ?_
    refine s_v rfl rfl rfl rfl (v_len rfl rfl rfl Try.underlying28 rfl rfl) ?_
    refine s_v rfl rfl rfl rfl (v_arith rfl rfl rfl rfl) ?_
    refine s_end ?_
    refine q_seq ?_
    refine c_cond (t := decide ((((i : Nat) : Int) : Int) < ((l.map old).length : Nat))) rfl rfl (fun h4_ => ?_) (fun h4_ => ?_)
    ·
      have h4_d := of_decide_eq_true h4_
      have hil : i < l.length := by rw [List.length_map] at h4_d; omega
      refine c_skip rfl ?_
      refine q_seq ?_
      refine c_seq rfl ?_
      refine c_block rfl ?_
      refine c_seq rfl ?_
      refine r_any [.b b1_ (.cells #[.int .i64 5, .int .u64 o1, .int .u64 o2, .int .i64 o3, .int .i64 o4] 31 (0, 0)), .b b2_ (.cells #[.bool false, .bool false, .int .u64 0, .slice none 0 0] 34 (0, 0)), .f (KC k62 A c (l.map old)), .b b3_ (.cells #[.bool false, .bool false, .int .u64 0, .slice none 0 0] 34 (0, 0))] (by kernel_rfl) rfl (by kernel_rfl) (mem_pick (idx := [0, 1, 2, 3]) rfl) ?_
      refine a_v 0 rfl (by kernel_rfl) (by kernel_rfl) (by kernel_rfl) rfl rfl rfl (v_move rfl rfl) ?_
      refine a_v 1 rfl (by kernel_rfl) (by kernel_rfl) (by kernel_rfl) rfl rfl rfl (v_move rfl rfl) ?_
      refine a_v 2 rfl (by kernel_rfl) (by kernel_rfl) (by kernel_rfl) rfl rfl rfl (v_iaK (i := 2) rfl Try.underlying28 SZ62 rfl rfl rfl rfl (by omega) (by rw [List.length_map]; omega)) ?_
      refine a_v 3 rfl (by kernel_rfl) (by kernel_rfl) (by kernel_rfl) rfl rfl rfl (v_fax rfl Try.underlying62 rfl SZ29 rfl) ?_
      refine a_v 4 rfl (by kernel_rfl) (by kernel_rfl) (by kernel_rfl) rfl rfl rfl (v_ldKf (v := .int .u64 ((rd_T62 (l.map old) ((i : Nat) : Int)).f0)) z62 [.int .u64 ((rd_T62 (l.map old) ((i : Nat) : Int)).f0), .int .u64 ((rd_T62 (l.map old) ((i : Nat) : Int)).f1)] 2 rfl Try.underlying29 rfl rfl rfl rfl (by omega) (by rw [List.length_map]; omega) (fun w K h => k62_open h) rfl) ?_
      refine a_v 5 rfl (by kernel_rfl) (by kernel_rfl) (by kernel_rfl) rfl rfl rfl (v_fa rfl Try.underlying31 rfl SZ29 rfl) ?_
      refine a_v 6 rfl (by kernel_rfl) (by kernel_rfl) (by kernel_rfl) rfl rfl rfl (v_ld 0 rfl Try.underlying29 rfl rfl rfl rfl) ?_
      refine a_v 7 rfl (by kernel_rfl) (by kernel_rfl) (by kernel_rfl) rfl rfl rfl (v_arith rfl rfl rfl rfl) ?_
      refine a_v 8 rfl (by kernel_rfl) (by kernel_rfl) (by kernel_rfl) rfl rfl rfl (v_move rfl rfl) ?_
      refine a_splitv (d := 80) (t := decide (((rd_T62 (l.map old) ((i : Nat) : Int)).f0 : Int) ≥ o1)) rfl (fun h5_ => ?_) (fun h5_ => ?_)
      ·
        have h5_d := of_decide_eq_true h5_
        rw [rdo hil] at h5_d
        refine a_v 9 rfl (by kernel_rfl) (by kernel_rfl) (by kernel_rfl) rfl rfl rfl (v_move rfl rfl) ?_
        refine a_v 10 rfl (by kernel_rfl) (by kernel_rfl) (by kernel_rfl) rfl rfl rfl (v_move rfl rfl) ?_
        refine a_v 11 rfl (by kernel_rfl) (by kernel_rfl) (by kernel_rfl) rfl rfl rfl (v_iaK (i := 2) rfl Try.underlying28 SZ62 rfl rfl rfl rfl (by omega) (by rw [List.length_map]; omega)) ?_
        refine a_v 12 rfl (by kernel_rfl) (by kernel_rfl) (by kernel_rfl) rfl rfl rfl (v_fax rfl Try.underlying62 rfl SZ29 rfl) ?_
        refine a_v 13 rfl (by kernel_rfl) (by kernel_rfl) (by kernel_rfl) rfl rfl rfl (v_ldKf (v := .int .u64 ((rd_T62 (l.map old) ((i : Nat) : Int)).f0)) z62 [.int .u64 ((rd_T62 (l.map old) ((i : Nat) : Int)).f0), .int .u64 ((rd_T62 (l.map old) ((i : Nat) : Int)).f1)] 2 rfl Try.underlying29 rfl rfl rfl rfl (by omega) (by rw [List.length_map]; omega) (fun w K h => k62_open h) rfl) ?_
        refine a_v 14 rfl (by kernel_rfl) (by kernel_rfl) (by kernel_rfl) rfl rfl rfl (v_fa rfl Try.underlying31 rfl SZ29 rfl) ?_
        refine a_v 15 rfl (by kernel_rfl) (by kernel_rfl) (by kernel_rfl) rfl rfl rfl (v_ld 0 rfl Try.underlying29 rfl rfl rfl rfl) ?_
        refine a_v 16 rfl (by kernel_rfl) (by kernel_rfl) (by kernel_rfl) rfl rfl rfl (v_arith rfl rfl rfl rfl) ?_
        refine a_v 17 rfl (by kernel_rfl) (by kernel_rfl) (by kernel_rfl) rfl rfl rfl (v_pick rfl rfl rfl rfl) ?_
        refine a_v 18 rfl (by kernel_rfl) (by kernel_rfl) (by kernel_rfl) rfl rfl rfl (v_move rfl rfl) ?_
        refine a_splitv (d := 90) (t := decide (((rd_T62 (l.map old) ((i : Nat) : Int)).f0 : Int) ≤ o2)) rfl (fun h6_ => ?_) (fun h6_ => ?_)
        ·
          have h6_d := of_decide_eq_true h6_
          rw [rdo hil] at h6_d
          refine a_v 19 rfl (by kernel_rfl) (by kernel_rfl) (by kernel_rfl) rfl rfl rfl (v_fa rfl Try.underlying34 rfl SZ32 rfl) ?_
          refine a_v 20 rfl (by kernel_rfl) (by kernel_rfl) (by kernel_rfl) rfl rfl rfl (v_ld 3 rfl Try.underlying32 rfl rfl rfl rfl) ?_
          refine a_v 21 rfl (by kernel_rfl) (by kernel_rfl) (by kernel_rfl) rfl rfl rfl (v_len rfl rfl rfl Try.underlying32 rfl rfl) ?_
          refine a_v 22 rfl (by kernel_rfl) (by kernel_rfl) (by kernel_rfl) rfl rfl rfl (v_fa rfl Try.underlying31 rfl SZ3 rfl) ?_
          refine a_v 23 rfl (by kernel_rfl) (by kernel_rfl) (by kernel_rfl) rfl rfl rfl (v_ld 0 rfl Try.underlying3 rfl rfl rfl rfl) ?_
          refine a_v 24 rfl (by kernel_rfl) (by kernel_rfl) (by kernel_rfl) rfl rfl rfl (v_arith rfl rfl rfl rfl) ?_
          refine a_v 25 rfl (by kernel_rfl) (by kernel_rfl) (by kernel_rfl) rfl rfl rfl (v_pick rfl rfl rfl rfl) ?_
          refine a_end (by kernel_rfl) ?_
          refine q_seq ?_
          refine c_cond (t := decide (((0 : Nat) : Int) < o3)) rfl rfl (fun h7_ => ?_) (fun h7_ => ?_)
          ·
            have h7_d := of_decide_eq_true h7_
            rw [hn] at h7_d
            refine r_any [.b b1_ (.cells #[.int .i64 5, .int .u64 o1, .int .u64 o2, .int .i64 o3, .int .i64 o4] 31 (0, 0)), .b b2_ (.cells #[.bool false, .bool false, .int .u64 0, .slice none 0 0] 34 (0, 0)), .f (KC k62 A c (l.map old))] (by kernel_rfl) rfl (by kernel_rfl) (mem_pick (idx := [0, 1, 2]) rfl) ?_
            refine a_v 0 rfl (by kernel_rfl) (by kernel_rfl) (by kernel_rfl) rfl rfl rfl (v_fa rfl Try.underlying34 rfl SZ32 rfl) ?_
            refine a_v 2 rfl (by kernel_rfl) (by kernel_rfl) (by kernel_rfl) rfl rfl rfl (v_move rfl rfl) ?_
            refine a_v 3 rfl (by kernel_rfl) (by kernel_rfl) (by kernel_rfl) rfl rfl rfl (v_move rfl rfl) ?_
            refine a_v 4 rfl (by kernel_rfl) (by kernel_rfl) (by kernel_rfl) rfl rfl rfl (v_iaK (i := 2) rfl Try.underlying28 SZ62 rfl rfl rfl rfl (by omega) (by rw [List.length_map]; omega)) ?_
            refine a_v 5 rfl (by kernel_rfl) (by kernel_rfl) (by kernel_rfl) rfl rfl rfl (v_fax rfl Try.underlying62 rfl SZ29 rfl) ?_
            refine a_v 6 rfl (by kernel_rfl) (by kernel_rfl) (by kernel_rfl) rfl rfl rfl (v_ldKf (v := .int .u64 ((rd_T62 (l.map old) ((i : Nat) : Int)).f0)) z62 [.int .u64 ((rd_T62 (l.map old) ((i : Nat) : Int)).f0), .int .u64 ((rd_T62 (l.map old) ((i : Nat) : Int)).f1)] 2 rfl Try.underlying29 rfl rfl rfl rfl (by omega) (by rw [List.length_map]; omega) (fun w K h => k62_open h) rfl) ?_
            refine a_2 (i := 1) (j := 7) (by kernel_rfl) ?_ ?_
            ·
              refine i_v rfl rfl rfl rfl (v_ld 3 rfl Try.underlying32 rfl rfl rfl rfl) ?_
              refine a_1 (i := 7) (by kernel_rfl) ?_
              refine i_e rfl rfl (e_bslice #[.int .u64 ((rd_T62 (l.map old) ((i : Nat) : Int)).f0)] (.int .u64 0) rfl rfl rfl Try.underlying32 SZ29 ZR29 (by decide) rfl (by kernel_rfl)) ?_
              intro b8_
              refine ⟨(mem_pick (idx := [1, 2, 3]) rfl), ?_⟩
              refine a_1 (i := 8) (by kernel_rfl) ?_
              refine i_e rfl rfl (e_app_nil (z := (.int .u64 0)) (m := 1) (bytes := 8) (k := 1) (news := [.int .u64 ((rd_T62 (l.map old) ((i : Nat) : Int)).f0)]) (i := 0) rfl rfl rfl rfl rfl rfl Try.underlying32 (by kernel_rfl) rfl (by decide) rfl rfl rfl rfl rfl (by simp [Value.oneCell']) (by decide) (by decide) (by decide)) ?_
              intro g9_ cap10_ cur11_ h12_ h13_ h14_ h15_
              refine ⟨(mem_pick (idx := [2, 3, 4]) rfl), ?_⟩
              refine a_v 9 rfl (by kernel_rfl) (by kernel_rfl) (by kernel_rfl) rfl rfl rfl (v_fa rfl Try.underlying34 rfl SZ32 rfl) ?_
              refine a_1 (i := 10) (by kernel_rfl) ?_
              refine i_e rfl rfl (e_st 5 rfl rfl SZ32 rfl rfl rfl rfl (blt_lt rfl)) ?_
              refine ⟨(mem_pick (idx := [2, 3, 4]) rfl), ?_⟩
              refine a_end (by kernel_rfl) ?_
              refine q_block ?_
              refine q_seq ?_
              refine r_ord (l := [0, 1, 2]) rfl (by kernel_rfl) (by kernel_rfl) ?_
              refine s_v rfl rfl rfl rfl (v_move rfl rfl) ?_
              refine s_v rfl rfl rfl rfl (OpV.cast (v := .int .i64 ((i + 1 : Nat) : Int)) (v_arith rfl rfl rfl rfl) (inc64 (by omega))) ?_
              refine s_v rfl rfl rfl rfl (v_assign rfl rfl) ?_
              refine s_end ?_
              have he : rngM (l.take (i + 1)) o1 o2 o3 = (rngM (l.take i) o1 o2 o3) ++ [(l[i]).f0] := by rw [rng_take hil, if_pos ⟨h5_d, h6_d, h7_d⟩]
              exact q_again (i + 1, some (1, g9_, cap10_, cur11_)) [2, 3, 4, 5, 0] ⟨by show i + 1 ≤ l.length; omega, (by rw [he]; exact QInv.first hq_ h12_ h13_ h14_ (by rw [← rdo hil]; exact h15_))⟩ (by show l.length - (i + 1) < l.length - i; omega) (subF_spec ⟨rfl, rfl, rfl, rfl, rfl, rfl, trivial⟩) rfl (by decide)
            ·
              refine i_e rfl rfl (e_bslice #[.int .u64 ((rd_T62 (l.map old) ((i : Nat) : Int)).f0)] (.int .u64 0) rfl rfl rfl Try.underlying32 SZ29 ZR29 (by decide) rfl (by kernel_rfl)) ?_
              intro b16_
              refine ⟨(mem_pick (idx := [1, 2, 3]) rfl), ?_⟩
              refine a_1 (i := 1) (by kernel_rfl) ?_
              refine i_v rfl rfl rfl rfl (v_ld 4 rfl Try.underlying32 rfl rfl rfl rfl) ?_
              refine a_1 (i := 8) (by kernel_rfl) ?_
              refine i_e rfl rfl (e_app_nil (z := (.int .u64 0)) (m := 1) (bytes := 8) (k := 1) (news := [.int .u64 ((rd_T62 (l.map old) ((i : Nat) : Int)).f0)]) (i := 0) rfl rfl rfl rfl rfl rfl Try.underlying32 (by kernel_rfl) rfl (by decide) rfl rfl rfl rfl rfl (by simp [Value.oneCell']) (by decide) (by decide) (by decide)) ?_
              intro g17_ cap18_ cur19_ h20_ h21_ h22_ h23_
              refine ⟨(mem_pick (idx := [2, 3, 4]) rfl), ?_⟩
              refine a_v 9 rfl (by kernel_rfl) (by kernel_rfl) (by kernel_rfl) rfl rfl rfl (v_fa rfl Try.underlying34 rfl SZ32 rfl) ?_
              refine a_1 (i := 10) (by kernel_rfl) ?_
              refine i_e rfl rfl (e_st 5 rfl rfl SZ32 rfl rfl rfl rfl (blt_lt rfl)) ?_
              refine ⟨(mem_pick (idx := [2, 3, 4]) rfl), ?_⟩
              refine a_end (by kernel_rfl) ?_
              refine q_block ?_
              refine q_seq ?_
              refine r_ord (l := [0, 1, 2]) rfl (by kernel_rfl) (by kernel_rfl) ?_
              refine s_v rfl rfl rfl rfl (v_move rfl rfl) ?_
              refine s_v rfl rfl rfl rfl (OpV.cast (v := .int .i64 ((i + 1 : Nat) : Int)) (v_arith rfl rfl rfl rfl) (inc64 (by omega))) ?_
              refine s_v rfl rfl rfl rfl (v_assign rfl rfl) ?_
              refine s_end ?_
              have he : rngM (l.take (i + 1)) o1 o2 o3 = (rngM (l.take i) o1 o2 o3) ++ [(l[i]).f0] := by rw [rng_take hil, if_pos ⟨h5_d, h6_d, h7_d⟩]
              exact q_again (i + 1, some (1, g17_, cap18_, cur19_)) [2, 3, 4, 5, 0] ⟨by show i + 1 ≤ l.length; omega, (by rw [he]; exact QInv.first hq_ h20_ h21_ h22_ (by rw [← rdo hil]; exact h23_))⟩ (by show l.length - (i + 1) < l.length - i; omega) (subF_spec ⟨rfl, rfl, rfl, rfl, rfl, rfl, trivial⟩) rfl (by decide)
          ·
            have h7_d := of_decide_eq_false h7_
            rw [hn] at h7_d
            refine c_skip rfl ?_
            refine q_block ?_
            refine q_seq ?_
            refine r_ord (l := [0, 1, 2]) rfl (by kernel_rfl) (by kernel_rfl) ?_
            refine s_v rfl rfl rfl rfl (v_move rfl rfl) ?_
            refine s_v rfl rfl rfl rfl (OpV.cast (v := .int .i64 ((i + 1 : Nat) : Int)) (v_arith rfl rfl rfl rfl) (inc64 (by omega))) ?_
            refine s_v rfl rfl rfl rfl (v_assign rfl rfl) ?_
            refine s_end ?_
            have he : rngM (l.take (i + 1)) o1 o2 o3 = (rngM (l.take i) o1 o2 o3) := by rw [rng_take hil, if_neg (fun h => h7_d h.2.2)]
            exact q_again (i + 1, none) [0, 1, 2, 3] ⟨by show i + 1 ≤ l.length; omega, (by rw [he]; exact hs_.2)⟩ (by show l.length - (i + 1) < l.length - i; omega) (subF_spec ⟨rfl, rfl, rfl, rfl, rfl, rfl, trivial⟩) rfl (by decide)
        ·
          have h6_d := of_decide_eq_false h6_
          rw [rdo hil] at h6_d
          refine a_no 19 rfl (by kernel_rfl) (by kernel_rfl) (by kernel_rfl) rfl rfl rfl ?_
          refine a_no 20 rfl (by kernel_rfl) (by kernel_rfl) (by kernel_rfl) rfl rfl rfl ?_
          refine a_no 21 rfl (by kernel_rfl) (by kernel_rfl) (by kernel_rfl) rfl rfl rfl ?_
          refine a_no 22 rfl (by kernel_rfl) (by kernel_rfl) (by kernel_rfl) rfl rfl rfl ?_
          refine a_no 23 rfl (by kernel_rfl) (by kernel_rfl) (by kernel_rfl) rfl rfl rfl ?_
          refine a_no 24 rfl (by kernel_rfl) (by kernel_rfl) (by kernel_rfl) rfl rfl rfl ?_
          refine a_v 25 rfl (by kernel_rfl) (by kernel_rfl) (by kernel_rfl) rfl rfl rfl (v_pick rfl rfl rfl rfl) ?_
          refine a_end (by kernel_rfl) ?_
          refine q_seq ?_
          refine c_cond0 rfl rfl ?_
          refine c_skip rfl ?_
          refine q_block ?_
          refine q_seq ?_
          refine r_ord (l := [0, 1, 2]) rfl (by kernel_rfl) (by kernel_rfl) ?_
          refine s_v rfl rfl rfl rfl (v_move rfl rfl) ?_
          refine s_v rfl rfl rfl rfl (OpV.cast (v := .int .i64 ((i + 1 : Nat) : Int)) (v_arith rfl rfl rfl rfl) (inc64 (by omega))) ?_
          refine s_v rfl rfl rfl rfl (v_assign rfl rfl) ?_
          refine s_end ?_
          have he : rngM (l.take (i + 1)) o1 o2 o3 = (rngM (l.take i) o1 o2 o3) := by rw [rng_take hil, if_neg (fun h => h6_d h.2.1)]
          exact q_again (i + 1, none) [0, 1, 2, 3] ⟨by show i + 1 ≤ l.length; omega, (by rw [he]; exact hs_.2)⟩ (by show l.length - (i + 1) < l.length - i; omega) (subF_spec ⟨rfl, rfl, rfl, rfl, rfl, rfl, trivial⟩) rfl (by decide)
      ·
        have h5_d := of_decide_eq_false h5_
        rw [rdo hil] at h5_d
        refine a_no 9 rfl (by kernel_rfl) (by kernel_rfl) (by kernel_rfl) rfl rfl rfl ?_
        refine a_no 10 rfl (by kernel_rfl) (by kernel_rfl) (by kernel_rfl) rfl rfl rfl ?_
        refine a_no 11 rfl (by kernel_rfl) (by kernel_rfl) (by kernel_rfl) rfl rfl rfl ?_
        refine a_no 12 rfl (by kernel_rfl) (by kernel_rfl) (by kernel_rfl) rfl rfl rfl ?_
        refine a_no 13 rfl (by kernel_rfl) (by kernel_rfl) (by kernel_rfl) rfl rfl rfl ?_
        refine a_no 14 rfl (by kernel_rfl) (by kernel_rfl) (by kernel_rfl) rfl rfl rfl ?_
        refine a_no 15 rfl (by kernel_rfl) (by kernel_rfl) (by kernel_rfl) rfl rfl rfl ?_
        refine a_no 16 rfl (by kernel_rfl) (by kernel_rfl) (by kernel_rfl) rfl rfl rfl ?_
        refine a_v 17 rfl (by kernel_rfl) (by kernel_rfl) (by kernel_rfl) rfl rfl rfl (v_pick rfl rfl rfl rfl) ?_
        refine a_v 18 rfl (by kernel_rfl) (by kernel_rfl) (by kernel_rfl) rfl rfl rfl (v_move rfl rfl) ?_
        refine a_no 19 rfl (by kernel_rfl) (by kernel_rfl) (by kernel_rfl) rfl rfl rfl ?_
        refine a_no 20 rfl (by kernel_rfl) (by kernel_rfl) (by kernel_rfl) rfl rfl rfl ?_
        refine a_no 21 rfl (by kernel_rfl) (by kernel_rfl) (by kernel_rfl) rfl rfl rfl ?_
        refine a_no 22 rfl (by kernel_rfl) (by kernel_rfl) (by kernel_rfl) rfl rfl rfl ?_
        refine a_no 23 rfl (by kernel_rfl) (by kernel_rfl) (by kernel_rfl) rfl rfl rfl ?_
        refine a_no 24 rfl (by kernel_rfl) (by kernel_rfl) (by kernel_rfl) rfl rfl rfl ?_
        refine a_v 25 rfl (by kernel_rfl) (by kernel_rfl) (by kernel_rfl) rfl rfl rfl (v_pick rfl rfl rfl rfl) ?_
        refine a_end (by kernel_rfl) ?_
        refine q_seq ?_
        refine c_cond0 rfl rfl ?_
        refine c_skip rfl ?_
        refine q_block ?_
        refine q_seq ?_
        refine r_ord (l := [0, 1, 2]) rfl (by kernel_rfl) (by kernel_rfl) ?_
        refine s_v rfl rfl rfl rfl (v_move rfl rfl) ?_
        refine s_v rfl rfl rfl rfl (OpV.cast (v := .int .i64 ((i + 1 : Nat) : Int)) (v_arith rfl rfl rfl rfl) (inc64 (by omega))) ?_
        refine s_v rfl rfl rfl rfl (v_assign rfl rfl) ?_
        refine s_end ?_
        have he : rngM (l.take (i + 1)) o1 o2 o3 = (rngM (l.take i) o1 o2 o3) := by rw [rng_take hil, if_neg (fun h => h5_d h.1)]
        exact q_again (i + 1, none) [0, 1, 2, 3] ⟨by show i + 1 ≤ l.length; omega, (by rw [he]; exact hs_.2)⟩ (by show l.length - (i + 1) < l.length - i; omega) (subF_spec ⟨rfl, rfl, rfl, rfl, rfl, rfl, trivial⟩) rfl (by decide)
    ·
      have h4_d := of_decide_eq_false h4_
      obtain rfl : i = l.length := by rw [List.length_map] at h4_d; omega
      refine c_exit (i := 3) rfl rfl ?_
      refine q_then_exit ?_
      refine q_then_exit ?_
      refine q_block_here rfl ?_
      refine q_seq ?_
      refine c_seq rfl ?_
      refine r_any [.b b1_ (.cells #[.int .i64 5, .int .u64 o1, .int .u64 o2, .int .i64 o3, .int .i64 o4] 31 (0, 0)), .f (KC k62 A c (l.map old)), .b b3_ (.cells #[.bool false, .bool false, .int .u64 0, .slice none 0 0] 34 (0, 0))] (by kernel_rfl) rfl (by kernel_rfl) (mem_pick (idx := [0, 2, 3]) rfl) ?_
      refine a_v 0 rfl (by kernel_rfl) (by kernel_rfl) (by kernel_rfl) rfl rfl rfl (v_move rfl rfl) ?_
      refine a_v 1 rfl (by kernel_rfl) (by kernel_rfl) (by kernel_rfl) rfl rfl rfl (v_ldA [.bool false, .bool false, .int .u64 0, .slice none 0 0] 2 rfl Try.underlying34 rfl SZ34 rfl rfl rfl rfl) ?_
      refine a_v 2 rfl (by kernel_rfl) (by kernel_rfl) (by kernel_rfl) rfl rfl rfl (v_assign rfl rfl) ?_
      refine a_1 (i := 3) (by kernel_rfl) ?_
      refine i_e rfl rfl (e_stA 1 rfl rfl SZ34 rfl rfl rfl rfl rfl rfl) ?_
      refine ⟨(mem_pick (idx := [0, 2, 3]) rfl), ?_⟩
      refine a_end (by kernel_rfl) ?_
      refine q_seq ?_
      refine c_ret rfl ?_
      refine q_block_ret ?_
      refine q_then_ret ?_
      refine q_know (KC_nil (Kd.int .u64)) ?_
      exact q_ret (vs := [.slice A ((l.map old).length) c, .agg #[.bool false, .bool false, .int .u64 0, .slice none 0 0]]) rfl (.tmp rfl (.agg [.bool false, .bool false, .int .u64 0, .slice none 0 0] 2 rfl Try.underlying34 rfl SZ34 rfl rfl rfl .nil)) [3, 0] rfl (by decide) (by have h_ := hX A c none 0; rw [show rngM l o1 o2 o3 = [] from by rw [← hq_, List.take_length]] at h_; exact h_)
  ·
    have hi_ : i ≤ l.length := hs_.1
    obtain ⟨hn0, hr1_, hr2_, hr3_, hr4_⟩ := id hs_.2
    have hn : (n : Int) = ((rngM (l.take i) o1 o2 o3).length : Int) := by rw [hn0]
    have hnb : n ≤ 1000 := by have := rng_len (l.take i) o1 o2 o3; rw [List.length_take] at this; omega
    refine c_seq rfl ?_
    refine c_seq rfl ?_
    refine r_ord (l := [0, 1, 2, 3]) rfl (by kernel_rfl) (by kernel_rfl) ?_
    refine s_v rfl rfl rfl rfl (v_move rfl rfl) ?_
    refine s_v rfl rfl rfl rfl (v_move rfl rfl) ?_
    refine s_v rfl rfl rfl rfl (v_len rfl rfl rfl Try.underlying28 rfl rfl) ?_
    refine s_v rfl rfl rfl rfl (v_arith rfl rfl rfl rfl) ?_
    refine s_end ?_
    refine q_seq ?_
    refine c_cond (t := decide ((((i : Nat) : Int) : Int) < ((l.map old).length : Nat))) rfl rfl (fun h24_ => ?_) (fun h24_ => ?_)
    ·
      have h24_d := of_decide_eq_true h24_
      have hil : i < l.length := by rw [List.length_map] at h24_d; omega
      refine c_skip rfl ?_
      refine q_seq ?_
      refine c_seq rfl ?_
      refine c_block rfl ?_
      refine c_seq rfl ?_
      refine r_any [.b b1_ (.cells #[.int .i64 5, .int .u64 o1, .int .u64 o2, .int .i64 o3, .int .i64 o4] 31 (0, 0)), .b b2_ (.cells #[.bool false, .bool false, .int .u64 0, .slice none 0 0] 34 (0, 0)), .f (KC k62 A c (l.map old)), .b b3_ (.cells #[.bool false, .bool false, .int .u64 0, .slice (some ⟨g, 0, none⟩) n cap] 34 (0, 0)), .b g (.cells cur 29 (0, 0))] (by kernel_rfl) rfl (by kernel_rfl) (mem_pick (idx := [0, 1, 2, 3, 4]) rfl) ?_
      refine a_v 0 rfl (by kernel_rfl) (by kernel_rfl) (by kernel_rfl) rfl rfl rfl (v_move rfl rfl) ?_
      refine a_v 1 rfl (by kernel_rfl) (by kernel_rfl) (by kernel_rfl) rfl rfl rfl (v_move rfl rfl) ?_
      refine a_v 2 rfl (by kernel_rfl) (by kernel_rfl) (by kernel_rfl) rfl rfl rfl (v_iaK (i := 2) rfl Try.underlying28 SZ62 rfl rfl rfl rfl (by omega) (by rw [List.length_map]; omega)) ?_
      refine a_v 3 rfl (by kernel_rfl) (by kernel_rfl) (by kernel_rfl) rfl rfl rfl (v_fax rfl Try.underlying62 rfl SZ29 rfl) ?_
      refine a_v 4 rfl (by kernel_rfl) (by kernel_rfl) (by kernel_rfl) rfl rfl rfl (v_ldKf (v := .int .u64 ((rd_T62 (l.map old) ((i : Nat) : Int)).f0)) z62 [.int .u64 ((rd_T62 (l.map old) ((i : Nat) : Int)).f0), .int .u64 ((rd_T62 (l.map old) ((i : Nat) : Int)).f1)] 2 rfl Try.underlying29 rfl rfl rfl rfl (by omega) (by rw [List.length_map]; omega) (fun w K h => k62_open h) rfl) ?_
      refine a_v 5 rfl (by kernel_rfl) (by kernel_rfl) (by kernel_rfl) rfl rfl rfl (v_fa rfl Try.underlying31 rfl SZ29 rfl) ?_
      refine a_v 6 rfl (by kernel_rfl) (by kernel_rfl) (by kernel_rfl) rfl rfl rfl (v_ld 0 rfl Try.underlying29 rfl rfl rfl rfl) ?_
      refine a_v 7 rfl (by kernel_rfl) (by kernel_rfl) (by kernel_rfl) rfl rfl rfl (v_arith rfl rfl rfl rfl) ?_
      refine a_v 8 rfl (by kernel_rfl) (by kernel_rfl) (by kernel_rfl) rfl rfl rfl (v_move rfl rfl) ?_
      refine a_splitv (d := 80) (t := decide (((rd_T62 (l.map old) ((i : Nat) : Int)).f0 : Int) ≥ o1)) rfl (fun h25_ => ?_) (fun h25_ => ?_)
      ·
        have h25_d := of_decide_eq_true h25_
        rw [rdo hil] at h25_d
        refine a_v 9 rfl (by kernel_rfl) (by kernel_rfl) (by kernel_rfl) rfl rfl rfl (v_move rfl rfl) ?_
        refine a_v 10 rfl (by kernel_rfl) (by kernel_rfl) (by kernel_rfl) rfl rfl rfl (v_move rfl rfl) ?_
        refine a_v 11 rfl (by kernel_rfl) (by kernel_rfl) (by kernel_rfl) rfl rfl rfl (v_iaK (i := 2) rfl Try.underlying28 SZ62 rfl rfl rfl rfl (by omega) (by rw [List.length_map]; omega)) ?_
        refine a_v 12 rfl (by kernel_rfl) (by kernel_rfl) (by kernel_rfl) rfl rfl rfl (v_fax rfl Try.underlying62 rfl SZ29 rfl) ?_
        refine a_v 13 rfl (by kernel_rfl) (by kernel_rfl) (by kernel_rfl) rfl rfl rfl (v_ldKf (v := .int .u64 ((rd_T62 (l.map old) ((i : Nat) : Int)).f0)) z62 [.int .u64 ((rd_T62 (l.map old) ((i : Nat) : Int)).f0), .int .u64 ((rd_T62 (l.map old) ((i : Nat) : Int)).f1)] 2 rfl Try.underlying29 rfl rfl rfl rfl (by omega) (by rw [List.length_map]; omega) (fun w K h => k62_open h) rfl) ?_
        refine a_v 14 rfl (by kernel_rfl) (by kernel_rfl) (by kernel_rfl) rfl rfl rfl (v_fa rfl Try.underlying31 rfl SZ29 rfl) ?_
        refine a_v 15 rfl (by kernel_rfl) (by kernel_rfl) (by kernel_rfl) rfl rfl rfl (v_ld 0 rfl Try.underlying29 rfl rfl rfl rfl) ?_
        refine a_v 16 rfl (by kernel_rfl) (by kernel_rfl) (by kernel_rfl) rfl rfl rfl (v_arith rfl rfl rfl rfl) ?_
        refine a_v 17 rfl (by kernel_rfl) (by kernel_rfl) (by kernel_rfl) rfl rfl rfl (v_pick rfl rfl rfl rfl) ?_
        refine a_v 18 rfl (by kernel_rfl) (by kernel_rfl) (by kernel_rfl) rfl rfl rfl (v_move rfl rfl) ?_
        refine a_splitv (d := 90) (t := decide (((rd_T62 (l.map old) ((i : Nat) : Int)).f0 : Int) ≤ o2)) rfl (fun h26_ => ?_) (fun h26_ => ?_)
        ·
          have h26_d := of_decide_eq_true h26_
          rw [rdo hil] at h26_d
          refine a_v 19 rfl (by kernel_rfl) (by kernel_rfl) (by kernel_rfl) rfl rfl rfl (v_fa rfl Try.underlying34 rfl SZ32 rfl) ?_
          refine a_v 20 rfl (by kernel_rfl) (by kernel_rfl) (by kernel_rfl) rfl rfl rfl (v_ld 3 rfl Try.underlying32 rfl rfl rfl rfl) ?_
          refine a_v 21 rfl (by kernel_rfl) (by kernel_rfl) (by kernel_rfl) rfl rfl rfl (v_len rfl rfl rfl Try.underlying32 rfl rfl) ?_
          refine a_v 22 rfl (by kernel_rfl) (by kernel_rfl) (by kernel_rfl) rfl rfl rfl (v_fa rfl Try.underlying31 rfl SZ3 rfl) ?_
          refine a_v 23 rfl (by kernel_rfl) (by kernel_rfl) (by kernel_rfl) rfl rfl rfl (v_ld 0 rfl Try.underlying3 rfl rfl rfl rfl) ?_
          refine a_v 24 rfl (by kernel_rfl) (by kernel_rfl) (by kernel_rfl) rfl rfl rfl (v_arith rfl rfl rfl rfl) ?_
          refine a_v 25 rfl (by kernel_rfl) (by kernel_rfl) (by kernel_rfl) rfl rfl rfl (v_pick rfl rfl rfl rfl) ?_
          refine a_end (by kernel_rfl) ?_
          refine q_seq ?_
          refine c_cond (t := decide (((n : Nat) : Int) < o3)) rfl rfl (fun h27_ => ?_) (fun h27_ => ?_)
          ·
            have h27_d := of_decide_eq_true h27_
            rw [hn] at h27_d
            refine r_any [.b b1_ (.cells #[.int .i64 5, .int .u64 o1, .int .u64 o2, .int .i64 o3, .int .i64 o4] 31 (0, 0)), .b b2_ (.cells #[.bool false, .bool false, .int .u64 0, .slice none 0 0] 34 (0, 0)), .f (KC k62 A c (l.map old))] (by kernel_rfl) rfl (by kernel_rfl) (mem_pick (idx := [0, 1, 2]) rfl) ?_
            refine a_v 0 rfl (by kernel_rfl) (by kernel_rfl) (by kernel_rfl) rfl rfl rfl (v_fa rfl Try.underlying34 rfl SZ32 rfl) ?_
            refine a_v 2 rfl (by kernel_rfl) (by kernel_rfl) (by kernel_rfl) rfl rfl rfl (v_move rfl rfl) ?_
            refine a_v 3 rfl (by kernel_rfl) (by kernel_rfl) (by kernel_rfl) rfl rfl rfl (v_move rfl rfl) ?_
            refine a_v 4 rfl (by kernel_rfl) (by kernel_rfl) (by kernel_rfl) rfl rfl rfl (v_iaK (i := 2) rfl Try.underlying28 SZ62 rfl rfl rfl rfl (by omega) (by rw [List.length_map]; omega)) ?_
            refine a_v 5 rfl (by kernel_rfl) (by kernel_rfl) (by kernel_rfl) rfl rfl rfl (v_fax rfl Try.underlying62 rfl SZ29 rfl) ?_
            refine a_v 6 rfl (by kernel_rfl) (by kernel_rfl) (by kernel_rfl) rfl rfl rfl (v_ldKf (v := .int .u64 ((rd_T62 (l.map old) ((i : Nat) : Int)).f0)) z62 [.int .u64 ((rd_T62 (l.map old) ((i : Nat) : Int)).f0), .int .u64 ((rd_T62 (l.map old) ((i : Nat) : Int)).f1)] 2 rfl Try.underlying29 rfl rfl rfl rfl (by omega) (by rw [List.length_map]; omega) (fun w K h => k62_open h) rfl) ?_
            refine a_2 (i := 1) (j := 7) (by kernel_rfl) ?_ ?_
            ·
              refine i_v rfl rfl rfl rfl (v_ld 3 rfl Try.underlying32 rfl rfl rfl rfl) ?_
              refine a_1 (i := 7) (by kernel_rfl) ?_
              refine i_e rfl rfl (e_bslice #[.int .u64 ((rd_T62 (l.map old) ((i : Nat) : Int)).f0)] (.int .u64 0) rfl rfl rfl Try.underlying32 SZ29 ZR29 (by decide) rfl (by kernel_rfl)) ?_
              intro b28_
              refine ⟨(mem_pick (idx := [1, 2, 3]) rfl), ?_⟩
              refine a_1 (i := 8) (by kernel_rfl) ?_
              refine i_e rfl rfl (e_app (z := (.int .u64 0)) (m := 1) (bytes := 8) (k := 1) (news := [.int .u64 ((rd_T62 (l.map old) ((i : Nat) : Int)).f0)]) (i := 0) (j := 5) rfl rfl rfl rfl rfl rfl Try.underlying32 (by kernel_rfl) rfl (by decide) rfl rfl hr1_ hr2_ hr3_ rfl rfl rfl rfl rfl (by simp [Value.oneCell']) (by omega) (by simp only [maxLen]; omega)) ?_
              intro g29_ cap30_ cur31_ h32_ h33_ h34_ h35_
              refine ⟨(mem_pick (idx := [1, 2, 3]) rfl), ?_⟩
              refine a_v 9 rfl (by kernel_rfl) (by kernel_rfl) (by kernel_rfl) rfl rfl rfl (v_fa rfl Try.underlying34 rfl SZ32 rfl) ?_
              refine a_1 (i := 10) (by kernel_rfl) ?_
              refine i_e rfl rfl (e_st 4 rfl rfl SZ32 rfl rfl rfl rfl (blt_lt rfl)) ?_
              refine ⟨(mem_pick (idx := [1, 2, 3]) rfl), ?_⟩
              refine a_end (by kernel_rfl) ?_
              refine q_block ?_
              refine q_seq ?_
              refine r_ord (l := [0, 1, 2]) rfl (by kernel_rfl) (by kernel_rfl) ?_
              refine s_v rfl rfl rfl rfl (v_move rfl rfl) ?_
              refine s_v rfl rfl rfl rfl (OpV.cast (v := .int .i64 ((i + 1 : Nat) : Int)) (v_arith rfl rfl rfl rfl) (inc64 (by omega))) ?_
              refine s_v rfl rfl rfl rfl (v_assign rfl rfl) ?_
              refine s_end ?_
              have he : rngM (l.take (i + 1)) o1 o2 o3 = (rngM (l.take i) o1 o2 o3) ++ [(l[i]).f0] := by rw [rng_take hil, if_pos ⟨h25_d, h26_d, h27_d⟩]
              exact q_again (i + 1, some (n + 1, g29_, cap30_, cur31_)) [1, 2, 3, 4, 5] ⟨by show i + 1 ≤ l.length; omega, (by rw [he]; exact QInv.next hs_.2 h32_ h33_ h34_ (by rw [← rdo hil]; exact h35_))⟩ (by show l.length - (i + 1) < l.length - i; omega) (subF_spec ⟨rfl, rfl, rfl, rfl, rfl, rfl, trivial⟩) rfl (by decide)
            ·
              refine i_e rfl rfl (e_bslice #[.int .u64 ((rd_T62 (l.map old) ((i : Nat) : Int)).f0)] (.int .u64 0) rfl rfl rfl Try.underlying32 SZ29 ZR29 (by decide) rfl (by kernel_rfl)) ?_
              intro b36_
              refine ⟨(mem_pick (idx := [1, 2, 3]) rfl), ?_⟩
              refine a_1 (i := 1) (by kernel_rfl) ?_
              refine i_v rfl rfl rfl rfl (v_ld 4 rfl Try.underlying32 rfl rfl rfl rfl) ?_
              refine a_1 (i := 8) (by kernel_rfl) ?_
              refine i_e rfl rfl (e_app (z := (.int .u64 0)) (m := 1) (bytes := 8) (k := 1) (news := [.int .u64 ((rd_T62 (l.map old) ((i : Nat) : Int)).f0)]) (i := 0) (j := 5) rfl rfl rfl rfl rfl rfl Try.underlying32 (by kernel_rfl) rfl (by decide) rfl rfl hr1_ hr2_ hr3_ rfl rfl rfl rfl rfl (by simp [Value.oneCell']) (by omega) (by simp only [maxLen]; omega)) ?_
              intro g37_ cap38_ cur39_ h40_ h41_ h42_ h43_
              refine ⟨(mem_pick (idx := [1, 2, 3]) rfl), ?_⟩
              refine a_v 9 rfl (by kernel_rfl) (by kernel_rfl) (by kernel_rfl) rfl rfl rfl (v_fa rfl Try.underlying34 rfl SZ32 rfl) ?_
              refine a_1 (i := 10) (by kernel_rfl) ?_
              refine i_e rfl rfl (e_st 4 rfl rfl SZ32 rfl rfl rfl rfl (blt_lt rfl)) ?_
              refine ⟨(mem_pick (idx := [1, 2, 3]) rfl), ?_⟩
              refine a_end (by kernel_rfl) ?_
              refine q_block ?_
              refine q_seq ?_
              refine r_ord (l := [0, 1, 2]) rfl (by kernel_rfl) (by kernel_rfl) ?_
              refine s_v rfl rfl rfl rfl (v_move rfl rfl) ?_
              refine s_v rfl rfl rfl rfl (OpV.cast (v := .int .i64 ((i + 1 : Nat) : Int)) (v_arith rfl rfl rfl rfl) (inc64 (by omega))) ?_
              refine s_v rfl rfl rfl rfl (v_assign rfl rfl) ?_
              refine s_end ?_
              have he : rngM (l.take (i + 1)) o1 o2 o3 = (rngM (l.take i) o1 o2 o3) ++ [(l[i]).f0] := by rw [rng_take hil, if_pos ⟨h25_d, h26_d, h27_d⟩]
              exact q_again (i + 1, some (n + 1, g37_, cap38_, cur39_)) [1, 2, 3, 4, 5] ⟨by show i + 1 ≤ l.length; omega, (by rw [he]; exact QInv.next hs_.2 h40_ h41_ h42_ (by rw [← rdo hil]; exact h43_))⟩ (by show l.length - (i + 1) < l.length - i; omega) (subF_spec ⟨rfl, rfl, rfl, rfl, rfl, rfl, trivial⟩) rfl (by decide)
          ·
            have h27_d := of_decide_eq_false h27_
            rw [hn] at h27_d
            refine c_skip rfl ?_
            refine q_block ?_
            refine q_seq ?_
            refine r_ord (l := [0, 1, 2]) rfl (by kernel_rfl) (by kernel_rfl) ?_
            refine s_v rfl rfl rfl rfl (v_move rfl rfl) ?_
            refine s_v rfl rfl rfl rfl (OpV.cast (v := .int .i64 ((i + 1 : Nat) : Int)) (v_arith rfl rfl rfl rfl) (inc64 (by omega))) ?_
            refine s_v rfl rfl rfl rfl (v_assign rfl rfl) ?_
            refine s_end ?_
            have he : rngM (l.take (i + 1)) o1 o2 o3 = (rngM (l.take i) o1 o2 o3) := by rw [rng_take hil, if_neg (fun h => h27_d h.2.2)]
            exact q_again (i + 1, some (n, g, cap, cur)) [0, 1, 2, 3, 4] ⟨by show i + 1 ≤ l.length; omega, (by rw [he]; exact hs_.2)⟩ (by show l.length - (i + 1) < l.length - i; omega) (subF_spec ⟨rfl, rfl, rfl, rfl, rfl, rfl, trivial⟩) rfl (by decide)
        ·
          have h26_d := of_decide_eq_false h26_
          rw [rdo hil] at h26_d
          refine a_no 19 rfl (by kernel_rfl) (by kernel_rfl) (by kernel_rfl) rfl rfl rfl ?_
          refine a_no 20 rfl (by kernel_rfl) (by kernel_rfl) (by kernel_rfl) rfl rfl rfl ?_
          refine a_no 21 rfl (by kernel_rfl) (by kernel_rfl) (by kernel_rfl) rfl rfl rfl ?_
          refine a_no 22 rfl (by kernel_rfl) (by kernel_rfl) (by kernel_rfl) rfl rfl rfl ?_
          refine a_no 23 rfl (by kernel_rfl) (by kernel_rfl) (by kernel_rfl) rfl rfl rfl ?_
          refine a_no 24 rfl (by kernel_rfl) (by kernel_rfl) (by kernel_rfl) rfl rfl rfl ?_
          refine a_v 25 rfl (by kernel_rfl) (by kernel_rfl) (by kernel_rfl) rfl rfl rfl (v_pick rfl rfl rfl rfl) ?_
          refine a_end (by kernel_rfl) ?_
          refine q_seq ?_
          refine c_cond0 rfl rfl ?_
          refine c_skip rfl ?_
          refine q_block ?_
          refine q_seq ?_
          refine r_ord (l := [0, 1, 2]) rfl (by kernel_rfl) (by kernel_rfl) ?_
          refine s_v rfl rfl rfl rfl (v_move rfl rfl) ?_
          refine s_v rfl rfl rfl rfl (OpV.cast (v := .int .i64 ((i + 1 : Nat) : Int)) (v_arith rfl rfl rfl rfl) (inc64 (by omega))) ?_
          refine s_v rfl rfl rfl rfl (v_assign rfl rfl) ?_
          refine s_end ?_
          have he : rngM (l.take (i + 1)) o1 o2 o3 = (rngM (l.take i) o1 o2 o3) := by rw [rng_take hil, if_neg (fun h => h26_d h.2.1)]
          exact q_again (i + 1, some (n, g, cap, cur)) [0, 1, 2, 3, 4] ⟨by show i + 1 ≤ l.length; omega, (by rw [he]; exact hs_.2)⟩ (by show l.length - (i + 1) < l.length - i; omega) (subF_spec ⟨rfl, rfl, rfl, rfl, rfl, rfl, trivial⟩) rfl (by decide)
      ·
        have h25_d := of_decide_eq_false h25_
        rw [rdo hil] at h25_d
        refine a_no 9 rfl (by kernel_rfl) (by kernel_rfl) (by kernel_rfl) rfl rfl rfl ?_
        refine a_no 10 rfl (by kernel_rfl) (by kernel_rfl) (by kernel_rfl) rfl rfl rfl ?_
        refine a_no 11 rfl (by kernel_rfl) (by kernel_rfl) (by kernel_rfl) rfl rfl rfl ?_
        refine a_no 12 rfl (by kernel_rfl) (by kernel_rfl) (by kernel_rfl) rfl rfl rfl ?_
        refine a_no 13 rfl (by kernel_rfl) (by kernel_rfl) (by kernel_rfl) rfl rfl rfl ?_
        refine a_no 14 rfl (by kernel_rfl) (by kernel_rfl) (by kernel_rfl) rfl rfl rfl ?_
        refine a_no 15 rfl (by kernel_rfl) (by kernel_rfl) (by kernel_rfl) rfl rfl rfl ?_
        refine a_no 16 rfl (by kernel_rfl) (by kernel_rfl) (by kernel_rfl) rfl rfl rfl ?_
        refine a_v 17 rfl (by kernel_rfl) (by kernel_rfl) (by kernel_rfl) rfl rfl rfl (v_pick rfl rfl rfl rfl) ?_
        refine a_v 18 rfl (by kernel_rfl) (by kernel_rfl) (by kernel_rfl) rfl rfl rfl (v_move rfl rfl) ?_
        refine a_no 19 rfl (by kernel_rfl) (by kernel_rfl) (by kernel_rfl) rfl rfl rfl ?_
        refine a_no 20 rfl (by kernel_rfl) (by kernel_rfl) (by kernel_rfl) rfl rfl rfl ?_
        refine a_no 21 rfl (by kernel_rfl) (by kernel_rfl) (by kernel_rfl) rfl rfl rfl ?_
        refine a_no 22 rfl (by kernel_rfl) (by kernel_rfl) (by kernel_rfl) rfl rfl rfl ?_
        refine a_no 23 rfl (by kernel_rfl) (by kernel_rfl) (by kernel_rfl) rfl rfl rfl ?_
        refine a_no 24 rfl (by kernel_rfl) (by kernel_rfl) (by kernel_rfl) rfl rfl rfl ?_
        refine a_v 25 rfl (by kernel_rfl) (by kernel_rfl) (by kernel_rfl) rfl rfl rfl (v_pick rfl rfl rfl rfl) ?_
        refine a_end (by kernel_rfl) ?_
        refine q_seq ?_
        refine c_cond0 rfl rfl ?_
        refine c_skip rfl ?_
        refine q_block ?_
        refine q_seq ?_
        refine r_ord (l := [0, 1, 2]) rfl (by kernel_rfl) (by kernel_rfl) ?_
        refine s_v rfl rfl rfl rfl (v_move rfl rfl) ?_
        refine s_v rfl rfl rfl rfl (OpV.cast (v := .int .i64 ((i + 1 : Nat) : Int)) (v_arith rfl rfl rfl rfl) (inc64 (by omega))) ?_
        refine s_v rfl rfl rfl rfl (v_assign rfl rfl) ?_
        refine s_end ?_
        have he : rngM (l.take (i + 1)) o1 o2 o3 = (rngM (l.take i) o1 o2 o3) := by rw [rng_take hil, if_neg (fun h => h25_d h.1)]
        exact q_again (i + 1, some (n, g, cap, cur)) [0, 1, 2, 3, 4] ⟨by show i + 1 ≤ l.length; omega, (by rw [he]; exact hs_.2)⟩ (by show l.length - (i + 1) < l.length - i; omega) (subF_spec ⟨rfl, rfl, rfl, rfl, rfl, rfl, trivial⟩) rfl (by decide)
    ·
      have h24_d := of_decide_eq_false h24_
      obtain rfl : i = l.length := by rw [List.length_map] at h24_d; omega
      refine c_exit (i := 3) rfl rfl ?_
      refine q_then_exit ?_
      refine q_then_exit ?_
      refine q_block_here rfl ?_
      refine q_seq ?_
      refine c_seq rfl ?_
      refine r_any [.b b1_ (.cells #[.int .i64 5, .int .u64 o1, .int .u64 o2, .int .i64 o3, .int .i64 o4] 31 (0, 0)), .f (KC k62 A c (l.map old)), .b b3_ (.cells #[.bool false, .bool false, .int .u64 0, .slice (some ⟨g, 0, none⟩) n cap] 34 (0, 0)), .b g (.cells cur 29 (0, 0))] (by kernel_rfl) rfl (by kernel_rfl) (mem_pick (idx := [0, 2, 3, 4]) rfl) ?_
      refine a_v 0 rfl (by kernel_rfl) (by kernel_rfl) (by kernel_rfl) rfl rfl rfl (v_move rfl rfl) ?_
      refine a_v 1 rfl (by kernel_rfl) (by kernel_rfl) (by kernel_rfl) rfl rfl rfl (v_ldA [.bool false, .bool false, .int .u64 0, .slice (some ⟨g, 0, none⟩) n cap] 2 rfl Try.underlying34 rfl SZ34 rfl rfl rfl rfl) ?_
      refine a_v 2 rfl (by kernel_rfl) (by kernel_rfl) (by kernel_rfl) rfl rfl rfl (v_assign rfl rfl) ?_
      refine a_1 (i := 3) (by kernel_rfl) ?_
      refine i_e rfl rfl (e_stA 1 rfl rfl SZ34 rfl rfl rfl rfl rfl rfl) ?_
      refine ⟨(mem_pick (idx := [0, 2, 3, 4]) rfl), ?_⟩
      refine a_end (by kernel_rfl) ?_
      refine q_seq ?_
      refine c_ret rfl ?_
      refine q_block_ret ?_
      refine q_then_ret ?_
      rw [List.take_length] at hn0 hr4_
      subst hn0
      refine q_give [4, 0, 1, 2, 3] rfl (by decide) (by simp [ids, Ent.id?]) (KC_own (xs := (rngM l o1 o2 o3)) hr4_ hr1_ hr2_) ?_
      exact q_ret (vs := [.slice A ((l.map old).length) c, .agg #[.bool false, .bool false, .int .u64 0, .slice (some ⟨g, 0, none⟩) ((rngM l o1 o2 o3).length) cap]]) rfl (.tmp rfl (.agg [.bool false, .bool false, .int .u64 0, .slice (some ⟨g, 0, none⟩) ((rngM l o1 o2 o3).length) cap] 2 rfl Try.underlying34 rfl SZ34 rfl rfl rfl .nil)) [3, 0] rfl (by decide) (hX _ _ _ _)
theorem rdo_con (A : Option Addr) (c : Nat) (l : List S52) (o0 o1 o2 o3 o4 : Int) (hs : Srt l) (hl : l.length ≤ 1000) (w0 : World) (H : List Nat) : Con Try.prog 12 #[.slice A (l.map old).length c, .agg #[.int .i64 o0, .int .u64 o1, .int .u64 o2, .int .i64 o3, .int .i64 o4]] w0 H [.f (KC k62 A c (l.map old))]
    (fun X => ∀ A1 c1 A2 c2, X (.tuple #[.slice A1 ((Dm l o0 o1 o2 o3).1.map old).length c1, .agg #[.bool (Dm l o0 o1 o2 o3).2.1, .bool (Dm l o0 o1 o2 o3).2.2.1, .int .u64 (Dm l o0 o1 o2 o3).2.2.2.1, .slice A2 (Dm l o0 o1 o2 o3).2.2.2.2.length c2]]) [.f (KC k62 A1 c1 ((Dm l o0 o1 o2 o3).1.map old)), .f (KC (Kd.int .u64) A2 c2 (Dm l o0 o1 o2 o3).2.2.2.2)]) := by
  by_cases h1 : o0 = 1
  · subst h1; exact rdo_get A c l o1 o2 o3 o4 hs hl w0 H
  by_cases h2 : o0 = 2
  · subst h2; exact rdo_put A c l o1 o2 o3 o4 hs hl w0 H
  by_cases h3 : o0 = 3
  · subst h3; exact rdo_delete A c l o1 o2 o3 o4 hs hl w0 H
  by_cases h4 : o0 = 4
  · subst h4; exact rdo_ceiling A c l o1 o2 o3 o4 hs hl w0 H
  by_cases h5 : o0 = 5
  · subst h5; exact rdo_range A c l o1 o2 o3 o4 hs hl w0 H
  · have hD : Dm l o0 o1 o2 o3 = (l, false, false, 0, []) := by simp [Dm, h1, h2, h3, h4, h5]
    rw [hD]
    exact rdo_other A c l o1 o2 o3 o4 hs hl o0 (by simpa using h1) (by simpa using h2) (by simpa using h3) (by simpa using h4) (by simpa using h5) w0 H
end Go.Eng
