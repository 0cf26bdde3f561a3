/-
Own text, put together by an own program (shake.py) out of this claim's texts: what its theorem needs of them.
-/
import Derived.Test.YtiihjijmmephlaaA5
namespace Go.Eng
open Go.Proofs Go.RowKit Go.Proofs.YtiihjijmmephlaaW.PrintWords Go.Proofs.Ytiihjijmmephlaa.GHist
set_option linter.unusedVariables false
set_option linter.unusedSimpArgs false
section
variable {P : Program} {W : Code → (Exit → Act → World → Prop) → Act → World → Prop} {n : Sz} {w0 : World} {I : Ix} {F : FL} {L : HL} {Q : Exit → Act → World → Prop}
theorem c_both {c : Code} {φ ψ : World → Prop} (i j : Nat) (hL : L[i]? = some (.f φ)) (hM : L[j]? = some (.f ψ)) (k : CW P W n w0 I c Q F (.f (fun w => φ w ∧ ψ w) :: L)) : CW P W n w0 I c Q F L :=
  fun fl np a w hf ht => k fl np a w hf (ht.know (fun w' ha => ⟨ht.facts _ (List.mem_of_getElem? hL) w' ha, ht.facts _ (List.mem_of_getElem? hM) w' ha⟩))
end
set_option maxRecDepth 100000 in
set_option maxHeartbeats 4000000 in
theorem pending_law (A : Option Addr) (c : Nat) (l : List S48) (B : Option Addr) (d : Nat) (more : List S48) (w0 : World) (H : List Nat) : Con Try.prog 7 #[.slice A l.length c, .slice B more.length d] w0 H [.f (KC k48 A c l), .f (KC k48 B d more)] (fun X => X (.bool true) []) := by
 refine con_enter (c := bodyOf Try.f7) Try.func7 rfl (m := 84) rfl rfl rfl ?_
 intro X hX _
 refine c_seq rfl ?_
 refine r_ord (l := [0]) rfl (by kernel_rfl) (by kernel_rfl) ?_
 refine s_v rfl rfl rfl rfl (v_assign rfl rfl) ?_
 refine s_end ?_
 refine q_seq ?_
 refine c_seq rfl ?_
 refine c_seq rfl ?_
 refine r_ord (l := [0, 1, 2, 3, 4, 5, 6, 7]) rfl (by kernel_rfl) (by kernel_rfl) ?_
 refine s_v rfl rfl rfl rfl (v_move rfl rfl) ?_
 refine s_e rfl rfl (e_callK (fun z : Unit => .bool (fewB l)) (fun z => []) #[.slice A l.length c] rfl rfl rfl rfl rfl Try.func9 rfl (by decide) rfl rfl (fun w ht => stepstonelaw08_few.con 5000 _ _ l _ (few_f _) w (Tri.fact ht 0 rfl))) ?_
 intro z1_
 refine s_v rfl rfl rfl rfl (v_not rfl rfl) ?_
 refine s_v rfl rfl rfl rfl (v_move rfl rfl) ?_
 refine s_splitv (d := 14) (t := !(fewB l)) rfl (fun h2_ => ?_) (fun h2_ => ?_)
 have h2_f : fewB l = false := by simpa using h2_
 refine s_no rfl rfl rfl rfl ?_
 refine s_no rfl rfl rfl rfl ?_
 refine s_no rfl rfl rfl rfl ?_
 refine s_v rfl rfl rfl rfl (v_pick rfl rfl rfl rfl) ?_
 refine s_end ?_
 refine q_seq ?_
 refine c_cond1 rfl rfl ?_
 refine c_seq rfl ?_
 refine r_ord (l := [0, 1]) rfl (by kernel_rfl) (by kernel_rfl) ?_
 refine s_e rfl rfl (e_callK (fun z : Unit => .bool true) (fun z => []) #[] rfl rfl rfl rfl rfl Try.func10 rfl (by decide) rfl rfl (fun w ht => alive_calls w)) ?_
 intro z3_
 refine s_v rfl rfl rfl rfl (v_assign rfl rfl) ?_
 refine s_end ?_
 refine q_seq ?_
 refine c_ret rfl ?_
 refine q_then_ret ?_
 refine q_take [] rfl (by decide) ?_
 exact q_post rfl (.cons rfl (.nil)) hX
 have h2_f : fewB l = true := by simpa using h2_
 refine s_vg rfl rfl rfl rfl (v_move rfl rfl) ?_
 refine s_eg rfl rfl (e_callK (fun z : Unit => .bool (fewB more)) (fun z => []) #[.slice B more.length d] rfl rfl rfl rfl rfl Try.func9 rfl (by decide) rfl rfl (fun w ht => stepstonelaw08_few.con 5000 _ _ more _ (few_f _) w (Tri.fact ht 1 rfl))) ?_
 intro z4_
 refine s_vg rfl rfl rfl rfl (v_not rfl rfl) ?_
 refine s_v rfl rfl rfl rfl (v_pick rfl rfl rfl rfl) ?_
 refine s_end ?_
 refine q_seq ?_
 refine c_cond (t := !(fewB more)) rfl rfl (fun h5_ => ?_) (fun h5_ => ?_)
 refine c_seq rfl ?_
 refine r_ord (l := [0, 1]) rfl (by kernel_rfl) (by kernel_rfl) ?_
 refine s_e rfl rfl (e_callK (fun z : Unit => .bool true) (fun z => []) #[] rfl rfl rfl rfl rfl Try.func10 rfl (by decide) rfl rfl (fun w ht => alive_calls w)) ?_
 intro z6_
 refine s_v rfl rfl rfl rfl (v_assign rfl rfl) ?_
 refine s_end ?_
 refine q_seq ?_
 refine c_ret rfl ?_
 refine q_then_ret ?_
 refine q_take [] rfl (by decide) ?_
 exact q_post rfl (.cons rfl (.nil)) hX
 have hfm : fewB more = true := by simpa using h5_
 have hl := few_len h2_f
 have hK := few_keys h2_f
 have hn : (hapTo l l.length).length ≤ 40 := by have := hap_len l l.length; omega
 have hml := few_len hfm
 have hMK := few_keys hfm
 have hWl : (withP l more).length ≤ 80 := by rw [withP_len]; omega
 have hWK := withP_keys hK hMK
 have hWn : (hapTo (withP l more) (withP l more).length).length ≤ 40 := by rw [withP_hapTo]; exact hn
 refine c_skip rfl ?_
 refine q_seq ?_
 refine c_seq rfl ?_
 refine r_ord (l := [0, 1, 2, 3]) rfl (by kernel_rfl) (by kernel_rfl) ?_
 refine s_e rfl rfl (e_bslice0 rfl rfl rfl Try.underlying22 SZ48) ?_
 intro b7_
 refine s_v rfl rfl rfl rfl (v_move rfl rfl) ?_
 refine s_e rfl rfl (e_appKR (z := (.agg #[.int .i64 0, .int .i64 0, .int .u64 0, .int .u64 0, .int .i64 0, .int .i64 0, .int .i64 0, .int .i64 0, .int .i64 0, .bool false, .bool false, .bool false, .int .u64 0, .slice none 0 0])) (m := 14) (bytes := 120) (i := 0) (j := 1) rfl rfl rfl rfl rfl rfl Try.underlying22 (by kernel_rfl) rfl (by decide) rfl k48_one rfl rfl rfl rfl rfl (by omega) (by simp only [maxLen]; omega)) ?_
 intro g0 cap0 cur0 inner0 h1_ h2_ h3_ h4_
 refine s_v rfl rfl rfl rfl (v_assign rfl rfl) ?_
 refine s_end ?_
 refine q_seq ?_
 refine c_seq rfl ?_
 refine c_seq rfl ?_
 refine r_ord (l := [0, 1, 2]) rfl (by kernel_rfl) (by kernel_rfl) ?_
 refine s_v rfl rfl rfl rfl (v_move rfl rfl) ?_
 refine s_v rfl rfl rfl rfl (v_len rfl rfl rfl Try.underlying22 rfl rfl) ?_
 refine s_v rfl rfl rfl rfl (v_move rfl rfl) ?_
 refine s_end ?_
 refine q_seq ?_
 refine c_block rfl ?_
 refine c_weak 0 rfl (fun w h => (show Reps (k48.K w) 14 (withP l (more.take 0)) inner0 from by rw [withP_nil]; exact h)) ?_
 refine c_loop (σ := (Nat × Nat × Nat × Array Value × List Value)) (fun s : (Nat × Nat × Nat × Array Value × List Value) => match s with | (j, g, cap, cur, inner) => j ≤ more.length ∧ l.length + j ≤ cap ∧ cap ≤ maxLen ∧ cur.size = cap * 14 ∧ cur.toList.take ((l.length + j) * 14) = inner) (fun s : (Nat × Nat × Nat × Array Value × List Value) => match s with | (j, g, cap, cur, inner) => more.length - j) (fun s : (Nat × Nat × Nat × Array Value × List Value) => match s with | (j, g, cap, cur, inner) => [(0, .slice A l.length c), (1, .slice B more.length d), (23, .slice B more.length d), (24, .int .i64 (more.length : Nat)), (25, .int .i64 ((j : Nat) : Int)), (5, .slice (some ⟨g, 0, none⟩) (l.length + j) cap)]) (fun s : (Nat × Nat × Nat × Array Value × List Value) => match s with | (j, g, cap, cur, inner) => [.b g (.cells cur 48 (0, 0)), .f (fun w => Reps (k48.K w) 14 (withP l (more.take j)) inner), .f (KC k48 A c l), .f (KC k48 B d more)]) (0, g0, cap0, cur0, inner0) [2, 0, 3, 4] rfl ⟨Nat.zero_le _, h1_, h2_, h3_, h4_⟩ (subF_spec ⟨rfl, rfl, rfl, rfl, rfl, rfl, trivial⟩) rfl (by decide) ?_
 rintro ⟨j, g, cap, cur, inner⟩ hs
 obtain ⟨hj_, hr1_, hr2_, hr3_, hr4_⟩ : j ≤ more.length ∧ l.length + j ≤ cap ∧ cap ≤ maxLen ∧ cur.size = cap * 14 ∧ cur.toList.take ((l.length + j) * 14) = inner := hs
 refine c_seq rfl ?_
 refine r_ord (l := [0]) rfl (by kernel_rfl) (by kernel_rfl) ?_
 refine s_v rfl rfl rfl rfl (v_arith rfl rfl rfl rfl) ?_
 refine s_end ?_
 refine q_seq ?_
 refine c_seq rfl ?_
 refine c_cond (t := decide ((((j : Nat) : Int) : Int) < (more.length : Nat))) rfl rfl (fun h8_ => ?_) (fun h8_ => ?_)
 have h8_d := of_decide_eq_true h8_
 have hjm : j < more.length := by omega
 refine c_skip rfl ?_
 refine q_seq ?_
 refine c_seq rfl ?_
 refine c_block rfl ?_
 refine c_seq rfl ?_
 refine r_ord (l := [0, 1, 2, 3]) rfl (by kernel_rfl) (by kernel_rfl) ?_
 refine s_v rfl rfl rfl rfl (v_iaK (i := 3) rfl Try.underlying22 SZ48 rfl rfl rfl rfl (by omega) (by omega)) ?_
 refine s_e rfl rfl (e_ldKX z48 3 rfl rfl rfl Try.underlying48 rfl SZ48 rfl rfl rfl (by omega) (by omega)) ?_
 intro cs9_ h10_
 refine s_know 0 rfl (fun w h => k48_sh h) (fun h11_ => ?_)
 obtain ⟨A12_, c13_, rfl⟩ := h11_
 refine s_weak 0 rfl (fun w h => k48_row h) ?_
 refine s_e rfl rfl (e_alloc rfl rfl rfl ZR48) ?_
 intro b14_
 refine s_e rfl rfl (e_stA 0 rfl rfl SZ48 rfl rfl rfl rfl rfl rfl) ?_
 refine s_end ?_
 refine q_seq ?_
 refine c_seq rfl ?_
 refine r_ord (l := [0, 1, 2, 3, 4, 5, 6]) rfl (by kernel_rfl) (by kernel_rfl) ?_
 refine s_v rfl rfl rfl rfl (v_fa rfl Try.underlying48 rfl SZ3 rfl) ?_
 refine s_v rfl rfl rfl rfl (v_ld 0 rfl Try.underlying3 rfl rfl rfl rfl) ?_
 refine s_v rfl rfl rfl rfl (v_min (x := .tmp 0) (y := .tmp 0) rfl rfl rfl) ?_
 refine s_v rfl rfl rfl rfl (v_fa rfl Try.underlying48 rfl SZ4 rfl) ?_
 refine s_e rfl rfl (e_st 0 rfl rfl SZ4 rfl rfl rfl rfl (blt_lt rfl)) ?_
 refine s_v rfl rfl rfl rfl (v_fa rfl Try.underlying48 rfl SZ3 rfl) ?_
 refine s_e rfl rfl (e_st 0 rfl rfl SZ3 rfl rfl rfl rfl (blt_lt rfl)) ?_
 refine s_end ?_
 refine q_seq ?_
 refine r_ord (l := [0, 1, 2, 3, 4]) rfl (by kernel_rfl) (by kernel_rfl) ?_
 refine s_v rfl rfl rfl rfl (v_move rfl rfl) ?_
 refine s_v rfl rfl rfl rfl (v_ldA [.int .i64 ((rd_T48 more ((j : Nat) : Int)).f0), .int .i64 ((rd_T48 more ((j : Nat) : Int)).f1.f0), .int .u64 ((rd_T48 more ((j : Nat) : Int)).f1.f1), .int .u64 ((rd_T48 more ((j : Nat) : Int)).f1.f2), .int .i64 ((rd_T48 more ((j : Nat) : Int)).f1.f3), .int .i64 ((rd_T48 more ((j : Nat) : Int)).f1.f4), .int .i64 ((rd_T48 more ((j : Nat) : Int)).f2), .int .i64 (if (0 : Int) < ((rd_T48 more ((j : Nat) : Int)).f3) then 0 else (rd_T48 more ((j : Nat) : Int)).f3), .int .i64 ((rd_T48 more ((j : Nat) : Int)).f4), .bool false, .bool ((rd_T48 more ((j : Nat) : Int)).f6.f0), .bool ((rd_T48 more ((j : Nat) : Int)).f6.f1), .int .u64 ((rd_T48 more ((j : Nat) : Int)).f6.f2), .slice A12_ ((rd_T48 more ((j : Nat) : Int)).f6.f3.length) c13_] 0 rfl Try.underlying48 rfl SZ48 rfl rfl rfl rfl) ?_
 refine s_e rfl rfl (e_bslice #[.int .i64 ((rd_T48 more ((j : Nat) : Int)).f0), .int .i64 ((rd_T48 more ((j : Nat) : Int)).f1.f0), .int .u64 ((rd_T48 more ((j : Nat) : Int)).f1.f1), .int .u64 ((rd_T48 more ((j : Nat) : Int)).f1.f2), .int .i64 ((rd_T48 more ((j : Nat) : Int)).f1.f3), .int .i64 ((rd_T48 more ((j : Nat) : Int)).f1.f4), .int .i64 ((rd_T48 more ((j : Nat) : Int)).f2), .int .i64 (if (0 : Int) < ((rd_T48 more ((j : Nat) : Int)).f3) then 0 else (rd_T48 more ((j : Nat) : Int)).f3), .int .i64 ((rd_T48 more ((j : Nat) : Int)).f4), .bool false, .bool ((rd_T48 more ((j : Nat) : Int)).f6.f0), .bool ((rd_T48 more ((j : Nat) : Int)).f6.f1), .int .u64 ((rd_T48 more ((j : Nat) : Int)).f6.f2), .slice A12_ ((rd_T48 more ((j : Nat) : Int)).f6.f3.length) c13_] (.agg #[.int .i64 0, .int .i64 0, .int .u64 0, .int .u64 0, .int .i64 0, .int .i64 0, .int .i64 0, .int .i64 0, .int .i64 0, .bool false, .bool false, .bool false, .int .u64 0, .slice none 0 0]) rfl rfl rfl Try.underlying22 SZ48 ZR48 (by decide) rfl (by kernel_rfl)) ?_
 intro b15_
 refine s_e rfl rfl (e_app (z := (.agg #[.int .i64 0, .int .i64 0, .int .u64 0, .int .u64 0, .int .i64 0, .int .i64 0, .int .i64 0, .int .i64 0, .int .i64 0, .bool false, .bool false, .bool false, .int .u64 0, .slice none 0 0])) (m := 14) (bytes := 120) (k := 1) (news := [.int .i64 ((rd_T48 more ((j : Nat) : Int)).f0), .int .i64 ((rd_T48 more ((j : Nat) : Int)).f1.f0), .int .u64 ((rd_T48 more ((j : Nat) : Int)).f1.f1), .int .u64 ((rd_T48 more ((j : Nat) : Int)).f1.f2), .int .i64 ((rd_T48 more ((j : Nat) : Int)).f1.f3), .int .i64 ((rd_T48 more ((j : Nat) : Int)).f1.f4), .int .i64 ((rd_T48 more ((j : Nat) : Int)).f2), .int .i64 (if (0 : Int) < ((rd_T48 more ((j : Nat) : Int)).f3) then 0 else (rd_T48 more ((j : Nat) : Int)).f3), .int .i64 ((rd_T48 more ((j : Nat) : Int)).f4), .bool false, .bool ((rd_T48 more ((j : Nat) : Int)).f6.f0), .bool ((rd_T48 more ((j : Nat) : Int)).f6.f1), .int .u64 ((rd_T48 more ((j : Nat) : Int)).f6.f2), .slice A12_ ((rd_T48 more ((j : Nat) : Int)).f6.f3.length) c13_]) (i := 0) (j := 4) rfl rfl rfl rfl rfl rfl Try.underlying22 (by kernel_rfl) rfl (by decide) rfl rfl hr1_ hr2_ hr3_ hr4_ rfl rfl rfl rfl (by simp [Value.oneCell']) (by omega) (by simp only [maxLen]; omega)) ?_
 intro g16_ cap17_ cur18_ h19_ h20_ h21_ h22_
 refine s_v rfl rfl rfl rfl (v_assign rfl rfl) ?_
 refine s_end ?_
 refine q_block ?_
 refine q_seq ?_
 refine r_ord (l := [0, 1]) rfl (by kernel_rfl) (by kernel_rfl) ?_
 refine s_v rfl rfl rfl rfl (OpV.cast (v := .int .i64 ((j + 1 : Nat) : Int)) (v_arith rfl rfl rfl rfl) (addN (a := j) (b := 1) (by first | omega | (simp only [List.length_set, swr_len, swp_len]; omega)))) ?_
 refine s_v rfl rfl rfl rfl (v_move rfl rfl) ?_
 refine s_end ?_
 refine q_both 5 2 rfl rfl ?_
 refine q_weak 0 rfl (fun w h => reps_pend hjm h.1 h.2) ?_
 exact q_again (j + 1, g16_, cap17_, cur18_, inner ++ cellsE (pend (rd_T48 more (j : Int))) A12_ c13_) [6, 0, 8, 9] ⟨by omega, by omega, h20_, h21_, h22_⟩ (by dsimp only; omega) (subF_spec ⟨rfl, rfl, rfl, rfl, rfl, rfl, trivial⟩) rfl (by decide)
 have h8_d := of_decide_eq_false h8_
 obtain rfl : j = more.length := by omega
 have hW : withP l (more.take more.length) = withP l more := by rw [List.take_length]
 refine c_exit (i := 0) rfl rfl ?_
 refine q_then_exit ?_
 refine q_then_exit ?_
 refine q_block_here rfl ?_
 refine q_seq ?_
 refine c_seq rfl ?_
 refine c_give [0, 1, 2, 3] rfl (by decide) (by simp [ids, Ent.id?]) (fun w h => h) ?_
 refine c_both 0 1 rfl rfl ?_
 refine c_weak 0 rfl (fun w h => (show KC k48 (some ⟨g, 0, none⟩) cap (withP l more) w from KC_ofReps (cap := cap) (xs := withP l more) h.1 (by have h_ := h.2; rwa [hW] at h_) (by rw [withP_len]; exact hr4_) (by rw [withP_len]; exact hr1_) hr2_)) ?_
 have hwl := withP_len l more
 dsimp only
 rw [← hwl]
 refine r_ord (l := [0, 1, 2, 3, 4, 5, 6, 7]) rfl (by kernel_rfl) (by kernel_rfl) ?_
 refine s_v rfl rfl rfl rfl (v_move rfl rfl) ?_
 refine s_e rfl rfl (e_callF [4] #[.slice A l.length c] rfl rfl rfl rfl rfl Try.func12 rfl (by decide) rfl rfl rfl rfl (fun w ht => news_con A c l (by omega) w _)) ?_
 intro A23_ c24_
 refine s_e rfl rfl (e_callF [0] #[.slice A23_ l.length c24_] rfl rfl rfl rfl rfl Try.func11 rfl (by decide) rfl rfl rfl rfl (fun w ht => order_con' A23_ c24_ l (by omega) hn w _)) ?_
 intro A25_ c26_
 refine s_v rfl rfl rfl rfl (v_move rfl rfl) ?_
 refine s_e rfl rfl (e_callF [2] #[.slice (some ⟨g, 0, none⟩) ((withP l more).length) cap] rfl rfl rfl rfl rfl Try.func12 rfl (by decide) rfl rfl rfl rfl (fun w ht => news_con (some ⟨g, 0, none⟩) cap (withP l more) (by omega) w _)) ?_
 intro A27_ c28_
 refine s_e rfl rfl (e_callF [0] #[.slice A27_ ((withP l more).length) c28_] rfl rfl rfl rfl rfl Try.func11 rfl (by decide) rfl rfl rfl rfl (fun w ht => Con.of (C' := fun X => ∀ A1 c1, X (.slice A1 ((ordL l).length) c1) [.f (KC (Kd.int .i64) A1 c1 (ordL l))]) (order_con' A27_ c28_ (withP l more) hWl hWn w _) (fun X hX A1 c1 => by rw [show ordL (withP l more) = (ordL l) from pend_ord l more]; exact hX A1 c1))) ?_
 intro A29_ c30_
 refine s_v rfl rfl rfl rfl (v_assign rfl rfl) ?_
 refine s_v rfl rfl rfl rfl (v_assign rfl rfl) ?_
 refine s_end ?_
 refine q_seq ?_
 refine c_seq rfl ?_
 refine c_seq rfl ?_
 refine r_ord (l := [0, 1, 2, 3, 4]) rfl (by kernel_rfl) (by kernel_rfl) ?_
 refine s_v rfl rfl rfl rfl (v_move rfl rfl) ?_
 refine s_v rfl rfl rfl rfl (v_len rfl rfl rfl Try.underlying25 rfl rfl) ?_
 refine s_v rfl rfl rfl rfl (v_move rfl rfl) ?_
 refine s_v rfl rfl rfl rfl (v_len rfl rfl rfl Try.underlying25 rfl rfl) ?_
 refine s_v rfl rfl rfl rfl (v_arith rfl rfl rfl rfl) ?_
 refine s_end ?_
 refine q_seq ?_
 refine c_cond (t := (((ordL l).length : Nat) : Int) != ((ordL l).length : Nat)) rfl rfl (fun h31_ => ?_) (fun h31_ => ?_)
 exact absurd h31_ (by simp)
 refine c_skip rfl ?_
 refine q_seq ?_
 refine c_seq rfl ?_
 refine c_seq rfl ?_
 refine r_ord (l := [0, 1, 2]) rfl (by kernel_rfl) (by kernel_rfl) ?_
 refine s_v rfl rfl rfl rfl (v_move rfl rfl) ?_
 refine s_v rfl rfl rfl rfl (v_len rfl rfl rfl Try.underlying25 rfl rfl) ?_
 refine s_v rfl rfl rfl rfl (v_move rfl rfl) ?_
 refine s_end ?_
 refine q_seq ?_
 refine c_block rfl ?_
 refine c_loop (σ := Nat) (fun i => i ≤ (ordL l).length) (fun i => (ordL l).length - i) (fun i => [(0, .slice A l.length c), (1, .slice B more.length d), (5, .slice (some ⟨g, 0, none⟩) ((withP l more).length) cap), (8, .slice A25_ ((ordL l).length) c26_), (9, .slice A29_ ((ordL l).length) c30_), (23, .slice B more.length d), (39, .slice A l.length c), (40, .slice A23_ l.length c24_), (41, .slice A25_ ((ordL l).length) c26_), (42, .slice (some ⟨g, 0, none⟩) ((withP l more).length) cap), (43, .slice A27_ ((withP l more).length) c28_), (44, .slice A29_ ((ordL l).length) c30_), (45, .slice A25_ ((ordL l).length) c26_), (46, .int .i64 ((ordL l).length : Nat)), (47, .slice A29_ ((ordL l).length) c30_), (48, .int .i64 ((ordL l).length : Nat)), (50, .slice A25_ ((ordL l).length) c26_), (51, .int .i64 ((ordL l).length : Nat)), (52, .int .i64 ((i : Nat) : Int))]) (fun i => [.f (KC (Kd.int .i64) A29_ c30_ (ordL l)), .f (KC k48 A27_ c28_ (withP l more)), .f (KC (Kd.int .i64) A25_ c26_ (ordL l)), .f (KC k48 A23_ c24_ l), .f (KC k48 (some ⟨g, 0, none⟩) cap (withP l more)), .f (KC k48 A c l), .f (KC k48 B d more)]) 0 [0, 1, 2, 3, 4, 8, 9] rfl (Nat.zero_le _) (subF_spec ⟨rfl, rfl, rfl, rfl, rfl, rfl, rfl, rfl, rfl, rfl, rfl, rfl, rfl, rfl, rfl, rfl, rfl, rfl, rfl, trivial⟩) rfl (by decide) ?_
 rintro i hs
 have hi_ : i ≤ (ordL l).length := hs
 have hol_ := ordL_len l
 refine c_seq rfl ?_
 refine r_ord (l := [0]) rfl (by kernel_rfl) (by kernel_rfl) ?_
 refine s_v rfl rfl rfl rfl (v_arith rfl rfl rfl rfl) ?_
 refine s_end ?_
 refine q_seq ?_
 refine c_seq rfl ?_
 refine c_cond (t := decide ((((i : Nat) : Int) : Int) < ((ordL l).length : Nat))) rfl rfl (fun h32_ => ?_) (fun h32_ => ?_)
 have h32_d := of_decide_eq_true h32_
 have hil : i < (ordL l).length := by omega
 refine c_skip rfl ?_
 refine q_seq ?_
 refine c_seq rfl ?_
 refine c_block rfl ?_
 refine c_seq rfl ?_
 refine r_ord (l := [0, 1]) rfl (by kernel_rfl) (by kernel_rfl) ?_
 refine s_v rfl rfl rfl rfl (v_move rfl rfl) ?_
 refine s_v rfl rfl rfl rfl (v_assign rfl rfl) ?_
 refine s_end ?_
 refine q_seq ?_
 refine c_seq rfl ?_
 refine r_any [.f (KC (Kd.int .i64) A29_ c30_ (ordL l)), .f (KC k48 A27_ c28_ (withP l more)), .f (KC (Kd.int .i64) A25_ c26_ (ordL l)), .f (KC k48 A23_ c24_ l), .f (KC k48 (some ⟨g, 0, none⟩) cap (withP l more)), .f (KC k48 A c l), .f (KC k48 B d more)] (by kernel_rfl) rfl (by kernel_rfl) (mem_pick (idx := [0, 1, 2, 3, 4, 5, 6]) rfl) ?_
 refine a_v 0 rfl (by kernel_rfl) (by kernel_rfl) (by kernel_rfl) rfl rfl rfl (v_move rfl rfl) ?_
 refine a_v 1 rfl (by kernel_rfl) (by kernel_rfl) (by kernel_rfl) rfl rfl rfl (v_move rfl rfl) ?_
 refine a_v 2 rfl (by kernel_rfl) (by kernel_rfl) (by kernel_rfl) rfl rfl rfl (v_iaK (i := 2) rfl Try.underlying25 SZ3 rfl rfl rfl rfl (by omega) (by omega)) ?_
 refine a_v 3 rfl (by kernel_rfl) (by kernel_rfl) (by kernel_rfl) rfl rfl rfl (v_ldK (v := .int .i64 (rd (ordL l) ((i : Nat) : Int))) 0 2 rfl Try.underlying3 rfl rfl rfl rfl (by omega) (by omega) (fun w K h => h)) ?_
 refine a_v 4 rfl (by kernel_rfl) (by kernel_rfl) (by kernel_rfl) rfl rfl rfl (v_move rfl rfl) ?_
 refine a_v 5 rfl (by kernel_rfl) (by kernel_rfl) (by kernel_rfl) rfl rfl rfl (v_move rfl rfl) ?_
 refine a_v 6 rfl (by kernel_rfl) (by kernel_rfl) (by kernel_rfl) rfl rfl rfl (v_iaK (i := 0) rfl Try.underlying25 SZ3 rfl rfl rfl rfl (by omega) (by omega)) ?_
 refine a_v 7 rfl (by kernel_rfl) (by kernel_rfl) (by kernel_rfl) rfl rfl rfl (v_ldK (v := .int .i64 (rd (ordL l) ((i : Nat) : Int))) 0 0 rfl Try.underlying3 rfl rfl rfl rfl (by omega) (by omega) (fun w K h => h)) ?_
 refine a_v 8 rfl (by kernel_rfl) (by kernel_rfl) (by kernel_rfl) rfl rfl rfl (v_arith rfl rfl rfl rfl) ?_
 refine a_end (by kernel_rfl) ?_
 refine q_seq ?_
 refine c_cond (t := (rd (ordL l) ((i : Nat) : Int) : Int) != (rd (ordL l) ((i : Nat) : Int))) rfl rfl (fun h33_ => ?_) (fun h33_ => ?_)
 exact absurd h33_ (by simp)
 refine c_skip rfl ?_
 refine q_block ?_
 refine q_seq ?_
 refine r_ord (l := [0, 1]) rfl (by kernel_rfl) (by kernel_rfl) ?_
 refine s_v rfl rfl rfl rfl (OpV.cast (v := .int .i64 ((i + 1 : Nat) : Int)) (v_arith rfl rfl rfl rfl) (addN (a := i) (b := 1) (by first | omega | (simp only [List.length_set, swr_len, swp_len]; omega)))) ?_
 refine s_v rfl rfl rfl rfl (v_move rfl rfl) ?_
 refine s_end ?_
 exact q_again (i + 1) [0, 1, 2, 3, 4, 5, 6] (by show i + 1 ≤ _; omega) (by show (ordL l).length - (i + 1) < (ordL l).length - i; omega) (subF_spec ⟨rfl, rfl, rfl, rfl, rfl, rfl, rfl, rfl, rfl, rfl, rfl, rfl, rfl, rfl, rfl, rfl, rfl, rfl, rfl, trivial⟩) rfl (by decide)
 have h32_d := of_decide_eq_false h32_
 refine c_exit (i := 2) rfl rfl ?_
 refine q_then_exit ?_
 refine q_then_exit ?_
 refine q_block_here rfl ?_
 refine q_seq ?_
 refine c_seq rfl ?_
 refine r_ord (l := [0, 1, 2, 3, 4, 5, 6, 7, 8, 9, 10, 11, 12, 13, 14, 15, 16, 17, 18, 19]) rfl (by kernel_rfl) (by kernel_rfl) ?_
 refine s_e rfl rfl (e_callK (fun z : Unit => .bool true) (fun z => []) #[] rfl rfl rfl rfl rfl Try.func10 rfl (by decide) rfl rfl (fun w ht => alive_calls w)) ?_
 intro z34_
 refine s_v rfl rfl rfl rfl (v_move rfl rfl) ?_
 refine s_vg rfl rfl rfl rfl (v_move rfl rfl) ?_
 refine s_eg rfl rfl (e_callF [4] #[.slice (some ⟨g, 0, none⟩) ((withP l more).length) cap] rfl rfl rfl rfl rfl Try.func12 rfl (by decide) rfl rfl rfl rfl (fun w ht => news_con (some ⟨g, 0, none⟩) cap (withP l more) (by omega) w _)) ?_
 intro A35_ c36_
 refine s_eg rfl rfl (e_callF [0] #[.slice A35_ ((withP l more).length) c36_] rfl rfl rfl rfl rfl Try.func19 rfl (by decide) rfl rfl rfl rfl (fun w ht => Con.of (C' := fun X => X (.bool (legalM l)) []) (legal_con A35_ c36_ (withP l more) hWl hWn hWK w _) (fun X hX => by have h_ : legalM (withP l more) = (legalM l) := pend_legal l more; rw [h_]; exact hX))) ?_
 refine s_vg rfl rfl rfl rfl (v_move rfl rfl) ?_
 refine s_eg rfl rfl (e_callF [6] #[.slice A l.length c] rfl rfl rfl rfl rfl Try.func12 rfl (by decide) rfl rfl rfl rfl (fun w ht => news_con A c l (by omega) w _)) ?_
 intro A37_ c38_
 refine s_eg rfl rfl (e_callF [0] #[.slice A37_ l.length c38_] rfl rfl rfl rfl rfl Try.func19 rfl (by decide) rfl rfl rfl rfl (fun w ht => legal_con A37_ c38_ l (by omega) hn hK w _)) ?_
 refine s_vg rfl rfl rfl rfl (v_eqB rfl Try.underlying4 rfl rfl) ?_
 refine s_v rfl rfl rfl rfl (v_pick rfl rfl rfl rfl) ?_
 refine s_v rfl rfl rfl rfl (v_move rfl rfl) ?_
 refine s_splitv (d := 75) (t := ((legalM l) == (legalM l))) rfl (fun h39_ => ?_) (fun h39_ => ?_)
 refine s_vg rfl rfl rfl rfl (v_move rfl rfl) ?_
 refine s_eg rfl rfl (e_callF [6] #[.slice (some ⟨g, 0, none⟩) ((withP l more).length) cap] rfl rfl rfl rfl rfl Try.func12 rfl (by decide) rfl rfl rfl rfl (fun w ht => news_con (some ⟨g, 0, none⟩) cap (withP l more) (by omega) w _)) ?_
 intro A40_ c41_
 refine s_eg rfl rfl (e_callF [0] #[.slice A40_ ((withP l more).length) c41_] rfl rfl rfl rfl rfl Try.func21 rfl (by decide) rfl rfl rfl rfl (fun w ht => Con.of (C' := fun X => X (.bool (rangesM l)) []) (ranges_con A40_ c41_ (withP l more) hWl hWn hWK w _) (fun X hX => by have h_ : rangesM (withP l more) = (rangesM l) := pend_ranges l more; rw [h_]; exact hX))) ?_
 refine s_vg rfl rfl rfl rfl (v_move rfl rfl) ?_
 refine s_eg rfl rfl (e_callF [8] #[.slice A l.length c] rfl rfl rfl rfl rfl Try.func12 rfl (by decide) rfl rfl rfl rfl (fun w ht => news_con A c l (by omega) w _)) ?_
 intro A42_ c43_
 refine s_eg rfl rfl (e_callF [0] #[.slice A42_ l.length c43_] rfl rfl rfl rfl rfl Try.func21 rfl (by decide) rfl rfl rfl rfl (fun w ht => ranges_con A42_ c43_ l (by omega) hn hK w _)) ?_
 refine s_vg rfl rfl rfl rfl (v_eqB rfl Try.underlying4 rfl rfl) ?_
 refine s_v rfl rfl rfl rfl (v_pick rfl rfl rfl rfl) ?_
 refine s_v rfl rfl rfl rfl (v_assign rfl rfl) ?_
 refine s_end ?_
 refine q_seq ?_
 refine c_ret rfl ?_
 refine q_take [] rfl (by decide) ?_
 exact q_post rfl (.cons rfl (.nil)) (show X (.bool (((rangesM l) == (rangesM l)))) [] by simpa using hX)
 exact absurd h39_ (by simp)
end Go.Eng
