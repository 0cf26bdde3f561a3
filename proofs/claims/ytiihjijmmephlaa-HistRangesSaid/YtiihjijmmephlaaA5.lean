/-
Own text, put together by an own program (shake.py) out of this claim's texts: what its theorem needs of them.
-/
import Derived.Test.YtiihjijmmephlaaA4
namespace Go.Eng
open Go.Proofs Go.RowKit Go.Proofs.YtiihjijmmephlaaW.PrintWords Go.Proofs.Ytiihjijmmephlaa.GHist
set_option linter.unusedVariables false
set_option linter.unusedSimpArgs false
set_option maxRecDepth 100000 in
set_option maxHeartbeats 4000000 in
theorem ins_nil_con (bl : Nat) (w0 : World) (H : List Nat) : Con Try.prog 66 #[.slice none 0 0, .int .i64 0, .int .i64 0, (.func (.func 27) #[] #[.pointer (some ⟨bl, 0, none⟩)])] w0 H [] (fun X => X (.tuple #[]) []) := by
 refine con_enter (c := bodyOf Try.f66) Try.func66 rfl (m := 53) rfl rfl rfl ?_
 intro X hX _
 refine c_seq rfl ?_
 refine r_ord (l := [0, 1, 2]) rfl (by kernel_rfl) (by kernel_rfl) ?_
 refine s_v rfl rfl rfl rfl (v_mv rfl rfl) ?_
 refine s_v rfl rfl rfl rfl (OpV.cast (v := .int .i64 ((0 + 1 : Nat) : Int)) (v_ar rfl rfl rfl rfl) (addN (a := 0) (b := 1) (by omega))) ?_
 refine s_v rfl rfl rfl rfl (v_as rfl rfl) ?_
 refine s_end ?_
 refine q_seq ?_
 refine c_block rfl ?_
 refine c_loop (σ := Unit) (fun _ => True) (fun _ => 0) (fun _ => [(0, .slice none 0 0), (1, .int .i64 0), (2, .int .i64 0), (3, .func (.func 27) #[] #[.pointer (some ⟨bl, 0, none⟩)]), (10, .int .i64 0), (11, .int .i64 ((0 + 1 : Nat) : Int)), (8, .int .i64 ((0 + 1 : Nat) : Int))]) (fun _ => []) () [] rfl trivial (subF_spec ⟨rfl, rfl, rfl, rfl, rfl, rfl, rfl, trivial⟩) rfl (by decide) ?_
 rintro ⟨⟩ hs
 refine c_seq rfl ?_
 refine c_seq rfl ?_
 refine r_ord (l := [0, 1, 2]) rfl (by kernel_rfl) (by kernel_rfl) ?_
 refine s_v rfl rfl rfl rfl (v_mv rfl rfl) ?_
 refine s_v rfl rfl rfl rfl (v_mv rfl rfl) ?_
 refine s_v rfl rfl rfl rfl (v_ar rfl rfl rfl rfl) ?_
 refine s_end ?_
 refine q_seq ?_
 refine c_cond (t := decide ((((0 + 1 : Nat) : Int) : Int) < 0)) rfl rfl (fun h1_ => ?_) (fun h1_ => ?_)
 have h1_d := of_decide_eq_true h1_
 exfalso; omega
 have h1_d := of_decide_eq_false h1_
 refine c_exit (i := 0) rfl rfl ?_
 refine q_then_exit ?_
 refine q_then_exit ?_
 refine q_block_here rfl ?_
 refine q_take [] rfl (by decide) ?_
 exact q_post_n rfl .nil hX
set_option maxRecDepth 100000 in
set_option maxHeartbeats 4000000 in
theorem stable_nil_con (bl : Nat) (w0 : World) (H : List Nat) : Con Try.prog 51 #[.slice none 0 0, .int .i64 0, (.func (.func 27) #[] #[.pointer (some ⟨bl, 0, none⟩)])] w0 H [] (fun X => X (.tuple #[]) []) := by
 refine con_enter (c := bodyOf Try.f51) Try.func51 rfl (m := 63) rfl rfl rfl ?_
 intro X hX _
 refine c_seq rfl ?_
 refine r_ord (l := [0]) rfl (by kernel_rfl) (by kernel_rfl) ?_
 refine s_v rfl rfl rfl rfl (v_as rfl rfl) ?_
 refine s_end ?_
 refine q_seq ?_
 refine c_seq rfl ?_
 refine r_ord (l := [0, 1, 2]) rfl (by kernel_rfl) (by kernel_rfl) ?_
 refine s_v rfl rfl rfl rfl (v_mv rfl rfl) ?_
 refine s_v rfl rfl rfl rfl (v_as rfl rfl) ?_
 refine s_v rfl rfl rfl rfl (v_as rfl rfl) ?_
 refine s_end ?_
 refine q_seq ?_
 refine c_seq rfl ?_
 refine c_block rfl ?_
 refine c_loop (σ := Unit) (fun _ => True) (fun _ => 0) (fun _ => [(0, .slice none 0 0), (1, .int .i64 0), (2, .func (.func 27) #[] #[.pointer (some ⟨bl, 0, none⟩)]), (6, .int .i64 20), (10, .int .i64 20), (7, .int .i64 0), (8, .int .i64 20)]) (fun _ => []) () [] rfl trivial (subF_spec ⟨rfl, rfl, rfl, rfl, rfl, rfl, rfl, trivial⟩) rfl (by decide) ?_
 rintro ⟨⟩ hs
 refine c_seq rfl ?_
 refine c_seq rfl ?_
 refine r_ord (l := [0, 1, 2]) rfl (by kernel_rfl) (by kernel_rfl) ?_
 refine s_v rfl rfl rfl rfl (v_mv rfl rfl) ?_
 refine s_v rfl rfl rfl rfl (v_mv rfl rfl) ?_
 refine s_v rfl rfl rfl rfl (v_ar rfl rfl rfl rfl) ?_
 refine s_end ?_
 refine q_seq ?_
 refine c_cond (t := decide ((20 : Int) ≤ 0)) rfl rfl (fun h1_ => ?_) (fun h1_ => ?_)
 have h1_d := of_decide_eq_true h1_
 exfalso; omega
 have h1_d := of_decide_eq_false h1_
 refine c_exit (i := 0) rfl rfl ?_
 refine q_then_exit ?_
 refine q_then_exit ?_
 refine q_block_here rfl ?_
 refine q_seq ?_
 refine c_seq rfl ?_
 refine r_ord (l := [0, 1, 2, 3, 4]) rfl (by kernel_rfl) (by kernel_rfl) ?_
 refine s_v rfl rfl rfl rfl (v_mv rfl rfl) ?_
 refine s_v rfl rfl rfl rfl (v_mv rfl rfl) ?_
 refine s_v rfl rfl rfl rfl (v_mv rfl rfl) ?_
 refine s_v rfl rfl rfl rfl (v_mv rfl rfl) ?_
 refine s_e rfl rfl (e_call [] [] #[.slice none 0 0, .int .i64 0, .int .i64 0, .func (.func 27) #[] #[.pointer (some ⟨bl, 0, none⟩)]] rfl rfl rfl rfl rfl Try.func66 rfl (by decide) rfl rfl rfl rfl (by decide) (fun w ht => ins_nil_con bl w _)) ?_
 refine s_end ?_
 refine q_seq ?_
 refine c_block rfl ?_
 refine c_loop (σ := Unit) (fun _ => True) (fun _ => 0) (fun _ => [(0, .slice none 0 0), (1, .int .i64 0), (2, .func (.func 27) #[] #[.pointer (some ⟨bl, 0, none⟩)]), (6, .int .i64 20), (10, .int .i64 20), (7, .int .i64 0), (8, .int .i64 20), (11, .int .i64 20), (12, .int .i64 0), (13, .bool (decide ((20 : Int) ≤ 0))), (23, .slice none 0 0), (24, .int .i64 0), (25, .int .i64 0), (26, .func (.func 27) #[] #[.pointer (some ⟨bl, 0, none⟩)]), (27, .tuple #[])]) (fun _ => []) () [] rfl trivial (subF_spec ⟨rfl, rfl, rfl, rfl, rfl, rfl, rfl, rfl, rfl, rfl, rfl, rfl, rfl, rfl, rfl, trivial⟩) rfl (by decide) ?_
 rintro ⟨⟩ hs
 refine c_seq rfl ?_
 refine c_seq rfl ?_
 refine r_ord (l := [0, 1, 2]) rfl (by kernel_rfl) (by kernel_rfl) ?_
 refine s_v rfl rfl rfl rfl (v_mv rfl rfl) ?_
 refine s_v rfl rfl rfl rfl (v_mv rfl rfl) ?_
 refine s_v rfl rfl rfl rfl (v_ar rfl rfl rfl rfl) ?_
 refine s_end ?_
 refine q_seq ?_
 refine c_cond (t := decide ((20 : Int) < 0)) rfl rfl (fun h2_ => ?_) (fun h2_ => ?_)
 have h2_d := of_decide_eq_true h2_
 exfalso; omega
 have h2_d := of_decide_eq_false h2_
 refine c_exit (i := 2) rfl rfl ?_
 refine q_then_exit ?_
 refine q_then_exit ?_
 refine q_block_here rfl ?_
 refine q_take [] rfl (by decide) ?_
 exact q_post_n rfl .nil hX
set_option maxRecDepth 100000 in
set_option maxHeartbeats 4000000 in
theorem sort_nil_con (bl : Nat) (Φ : World → Prop) (w0 : World) (H : List Nat) : Con Try.prog 26 #[.slice none 0 0, (.func (.func 27) #[] #[.pointer (some ⟨bl, 0, none⟩)])] w0 H [.f Φ] (fun X => X (.tuple #[]) []) := by
  refine con_enter (c := bodyOf Try.f26) Try.func26 rfl (m := 9) rfl rfl rfl ?_
  intro X hX _
  refine r_ord (l := [0, 1, 2, 3, 4]) rfl (by kernel_rfl) (by kernel_rfl) ?_
  refine s_v rfl rfl rfl rfl (v_mv rfl rfl) ?_
  refine s_v rfl rfl rfl rfl (v_mv rfl rfl) ?_
  refine s_v rfl rfl rfl rfl (v_len rfl rfl rfl Try.underlying25 rfl rfl) ?_
  refine s_v rfl rfl rfl rfl (v_mv rfl rfl) ?_
  refine s_e rfl rfl (e_call [] [0] #[.slice none 0 0, .int .i64 (0 : Nat), .func (.func 27) #[] #[.pointer (some ⟨bl, 0, none⟩)]] rfl rfl rfl rfl rfl Try.func51 rfl (by decide) rfl rfl rfl rfl (by decide) (fun w ht => stable_nil_con bl w _)) ?_
  refine s_end ?_
  refine q_take [] rfl (by decide) ?_
  exact q_post_n rfl .nil hX
set_option maxRecDepth 100000 in
set_option maxHeartbeats 4000000 in
theorem order_con (A : Option Addr) (c : Nat) (l : List S48) (hl : l.length ≤ 80) (hn : (hapTo l l.length).length ≤ 40) (w0 : World) (H : List Nat) : Con Try.prog 11 #[.slice A l.length c] w0 H [.f (KC k48 A c l)] (fun X => ∀ A1 c1 ys, ys.Perm (hapTo l l.length) → SS (keyA l) 0 ys.length ys → X (.slice A1 ys.length c1) [.f (KC (Kd.int .i64) A1 c1 ys)]) := by
 refine con_enter (c := bodyOf Try.f11) Try.func11 rfl (m := 35) rfl rfl rfl ?_
 intro X hX _
 refine c_seq rfl ?_
 refine r_ord (l := [0, 1]) rfl (by kernel_rfl) (by kernel_rfl) ?_
 refine s_e rfl rfl (e_box rfl rfl rfl rfl) ?_
 intro b1_
 refine s_v rfl rfl rfl rfl (v_as rfl rfl) ?_
 refine s_end ?_
 refine q_seq ?_
 refine c_seq rfl ?_
 refine r_ord (l := [0]) rfl (by kernel_rfl) (by kernel_rfl) ?_
 refine s_v rfl rfl rfl rfl (v_as rfl rfl) ?_
 refine s_end ?_
 refine q_seq ?_
 refine c_seq rfl ?_
 refine c_seq rfl ?_
 refine r_ord (l := [0, 1, 2]) rfl (by kernel_rfl) (by kernel_rfl) ?_
 refine s_v rfl rfl rfl rfl (v_ld 0 rfl Try.underlying27 rfl rfl rfl rfl) ?_
 refine s_v rfl rfl rfl rfl (v_len rfl rfl rfl Try.underlying27 rfl rfl) ?_
 refine s_v rfl rfl rfl rfl (v_mv rfl rfl) ?_
 refine s_end ?_
 refine q_seq ?_
 refine c_block rfl ?_
 refine c_give [0, 1] rfl (by decide) (by simp [ids, Ent.id?]) (fun w h => h) ?_
 refine c_loop (σ := (Nat × Option (Nat × Nat × Nat × Array Value))) (fun s => s.1 ≤ l.length ∧ QN .i64 (hapTo l s.1) s.2) (fun s => l.length - s.1) (fun s : (Nat × Option (Nat × Nat × Nat × Array Value)) => match s with | (i, none) => [(1, .pointer (some ⟨b1_, 0, none⟩)), (6, .slice A l.length c), (7, .int .i64 (l.length : Nat)), (3, .slice none 0 0), (8, .int .i64 (i : Int))] | (i, some (n, g, cap, cur)) => [(1, .pointer (some ⟨b1_, 0, none⟩)), (6, .slice A l.length c), (7, .int .i64 (l.length : Nat)), (3, .slice (some ⟨g, 0, none⟩) n cap), (8, .int .i64 (i : Int))]) (fun s : (Nat × Option (Nat × Nat × Nat × Array Value)) => match s with | (i, none) => [.f (fun w => w.heap[b1_]? = some (.cells #[.slice A l.length c] 27 (0, 0))), .f (KC k48 A c l)] | (i, some (n, g, cap, cur)) => [.f (fun w => w.heap[b1_]? = some (.cells #[.slice A l.length c] 27 (0, 0))), .f (KC k48 A c l), .b g (.cells cur 3 (0, 0))]) (0, none) [0, 1] rfl ⟨Nat.zero_le _, rfl⟩ (subF_spec ⟨rfl, rfl, rfl, rfl, rfl, trivial⟩) rfl (by decide) ?_
 rintro ⟨i, _ | ⟨n, g, cap, cur⟩⟩ hs
 have hi_ : i ≤ l.length := hs.1
 have hq_ : hapTo l i = [] := hs.2
 refine c_seq rfl ?_
 refine r_ord (l := [0]) rfl (by kernel_rfl) (by kernel_rfl) ?_
 refine s_v rfl rfl rfl rfl (v_ar rfl rfl rfl rfl) ?_
 refine s_end ?_
 refine q_seq ?_
 refine c_seq rfl ?_
 refine c_cond (t := decide (((i : Int) : Int) < (l.length : Nat))) rfl rfl (fun h2_ => ?_) (fun h2_ => ?_)
 have h2_d := of_decide_eq_true h2_
 have hil : i < l.length := by omega
 refine c_skip rfl ?_
 refine q_seq ?_
 refine c_seq rfl ?_
 refine c_block rfl ?_
 refine c_seq rfl ?_
 refine r_ord (l := [0, 1, 2, 3, 4, 5]) rfl (by kernel_rfl) (by kernel_rfl) ?_
 refine s_v rfl rfl rfl rfl (v_mv rfl rfl) ?_
 refine s_v rfl rfl rfl rfl (v_iaK (i := 1) rfl Try.underlying27 SZ53 rfl rfl rfl rfl (by omega) (by omega)) ?_
 refine s_e rfl rfl (e_ldKX z48 1 rfl rfl rfl Try.underlying53 rfl SZ53 rfl rfl rfl (by omega) (by omega)) ?_
 intro cs3_ h4_
 refine s_know 0 rfl (fun w h => k48_sh h) (fun h5_ => ?_)
 obtain ⟨A6_, c7_, rfl⟩ := h5_
 refine s_weak 0 rfl (fun w h => k48_row h) ?_
 refine s_e rfl rfl (e_alloc rfl rfl rfl ZR53) ?_
 intro b8_
 refine s_v rfl rfl rfl rfl (v_as rfl rfl) ?_
 refine s_e rfl rfl (e_stA 0 rfl rfl SZ53 rfl rfl rfl rfl rfl rfl) ?_
 refine s_end ?_
 refine q_seq ?_
 refine c_seq rfl ?_
 refine r_ord (l := [0, 1, 2, 3, 4, 5, 6, 7, 8, 9, 10, 11, 12]) rfl (by kernel_rfl) (by kernel_rfl) ?_
 refine s_v rfl rfl rfl rfl (v_ldA [.int .i64 ((rd_T48 l (i : Int)).f0), .int .i64 ((rd_T48 l (i : Int)).f1.f0), .int .u64 ((rd_T48 l (i : Int)).f1.f1), .int .u64 ((rd_T48 l (i : Int)).f1.f2), .int .i64 ((rd_T48 l (i : Int)).f1.f3), .int .i64 ((rd_T48 l (i : Int)).f1.f4), .int .i64 ((rd_T48 l (i : Int)).f2), .int .i64 ((rd_T48 l (i : Int)).f3), .int .i64 ((rd_T48 l (i : Int)).f4), .bool ((rd_T48 l (i : Int)).f5), .bool ((rd_T48 l (i : Int)).f6.f0), .bool ((rd_T48 l (i : Int)).f6.f1), .int .u64 ((rd_T48 l (i : Int)).f6.f2), .slice A6_ ((rd_T48 l (i : Int)).f6.f3.length) c7_] 0 rfl Try.underlying53 rfl SZ53 rfl rfl rfl rfl) ?_
 refine s_e rfl rfl (e_callF [1] #[.agg #[.int .i64 ((rd_T48 l (i : Int)).f0), .int .i64 ((rd_T48 l (i : Int)).f1.f0), .int .u64 ((rd_T48 l (i : Int)).f1.f1), .int .u64 ((rd_T48 l (i : Int)).f1.f2), .int .i64 ((rd_T48 l (i : Int)).f1.f3), .int .i64 ((rd_T48 l (i : Int)).f1.f4), .int .i64 ((rd_T48 l (i : Int)).f2), .int .i64 ((rd_T48 l (i : Int)).f3), .int .i64 ((rd_T48 l (i : Int)).f4), .bool ((rd_T48 l (i : Int)).f5), .bool ((rd_T48 l (i : Int)).f6.f0), .bool ((rd_T48 l (i : Int)).f6.f1), .int .u64 ((rd_T48 l (i : Int)).f6.f2), .slice A6_ ((rd_T48 l (i : Int)).f6.f3.length) c7_]] rfl rfl rfl rfl rfl Try.func24 rfl (by decide) rfl rfl rfl rfl (fun w ht => evr_con (rd_T48 l (i : Int)) A6_ c7_ w _)) ?_
 refine s_v rfl rfl rfl rfl (v_not rfl rfl) ?_
 refine s_v rfl rfl rfl rfl (v_mv rfl rfl) ?_
 refine s_splitv (d := 16) (t := !((rd_T48 l (i : Int)).f1.f0 == 5)) rfl (fun h9_ => ?_) (fun h9_ => ?_)
 refine s_vg rfl rfl rfl rfl (v_ldA [.int .i64 ((rd_T48 l (i : Int)).f0), .int .i64 ((rd_T48 l (i : Int)).f1.f0), .int .u64 ((rd_T48 l (i : Int)).f1.f1), .int .u64 ((rd_T48 l (i : Int)).f1.f2), .int .i64 ((rd_T48 l (i : Int)).f1.f3), .int .i64 ((rd_T48 l (i : Int)).f1.f4), .int .i64 ((rd_T48 l (i : Int)).f2), .int .i64 ((rd_T48 l (i : Int)).f3), .int .i64 ((rd_T48 l (i : Int)).f4), .bool ((rd_T48 l (i : Int)).f5), .bool ((rd_T48 l (i : Int)).f6.f0), .bool ((rd_T48 l (i : Int)).f6.f1), .int .u64 ((rd_T48 l (i : Int)).f6.f2), .slice A6_ ((rd_T48 l (i : Int)).f6.f3.length) c7_] 0 rfl Try.underlying53 rfl SZ53 rfl rfl rfl rfl) ?_
 refine s_eg rfl rfl (e_callF [1] #[.agg #[.int .i64 ((rd_T48 l (i : Int)).f0), .int .i64 ((rd_T48 l (i : Int)).f1.f0), .int .u64 ((rd_T48 l (i : Int)).f1.f1), .int .u64 ((rd_T48 l (i : Int)).f1.f2), .int .i64 ((rd_T48 l (i : Int)).f1.f3), .int .i64 ((rd_T48 l (i : Int)).f1.f4), .int .i64 ((rd_T48 l (i : Int)).f2), .int .i64 ((rd_T48 l (i : Int)).f3), .int .i64 ((rd_T48 l (i : Int)).f4), .bool ((rd_T48 l (i : Int)).f5), .bool ((rd_T48 l (i : Int)).f6.f0), .bool ((rd_T48 l (i : Int)).f6.f1), .int .u64 ((rd_T48 l (i : Int)).f6.f2), .slice A6_ ((rd_T48 l (i : Int)).f6.f3.length) c7_]] rfl rfl rfl rfl rfl Try.func25 rfl (by decide) rfl rfl rfl rfl (fun w ht => evf_con (rd_T48 l (i : Int)) A6_ c7_ w _)) ?_
 refine s_vg rfl rfl rfl rfl (v_not rfl rfl) ?_
 refine s_v rfl rfl rfl rfl (v_pick rfl rfl rfl rfl) ?_
 refine s_v rfl rfl rfl rfl (v_mv rfl rfl) ?_
 refine s_splitv (d := 21) (t := !((rd_T48 l (i : Int)).f5 && (rd_T48 l (i : Int)).f6.f0)) rfl (fun h10_ => ?_) (fun h10_ => ?_)
 refine s_vg rfl rfl rfl rfl (v_fa rfl Try.underlying53 rfl SZ3 rfl) ?_
 refine s_vg rfl rfl rfl rfl (v_ld 0 rfl Try.underlying3 rfl rfl rfl rfl) ?_
 refine s_vg rfl rfl rfl rfl (v_ar rfl rfl rfl rfl) ?_
 refine s_v rfl rfl rfl rfl (v_pick rfl rfl rfl rfl) ?_
 refine s_end ?_
 refine q_seq ?_
 refine c_cond (t := decide (((rd_T48 l (i : Int)).f3 : Int) > 0)) rfl rfl (fun h11_ => ?_) (fun h11_ => ?_)
 have h11_d := of_decide_eq_true h11_
 refine r_ord (l := [0, 1, 2, 3, 4]) rfl (by kernel_rfl) (by kernel_rfl) ?_
 refine s_v rfl rfl rfl rfl (v_mv rfl rfl) ?_
 refine s_v rfl rfl rfl rfl (v_mv rfl rfl) ?_
 refine s_e rfl rfl (e_bslice #[.int .i64 (i : Int)] (.int .i64 0) rfl rfl rfl Try.underlying25 SZ3 ZR3 (by decide) rfl (by kernel_rfl)) ?_
 intro b12_
 refine s_e rfl rfl (e_app_nil (z := (.int .i64 0)) (m := 1) (bytes := 8) (k := 1) (news := [.int .i64 (i : Int)]) (i := 0) rfl rfl rfl rfl rfl rfl Try.underlying25 (by kernel_rfl) rfl (by decide) rfl rfl rfl rfl rfl (by simp [Value.oneCell']) (by decide) (by decide) (by decide)) ?_
 intro g13_ cap14_ cur15_ h16_ h17_ h18_ h19_
 refine s_v rfl rfl rfl rfl (v_as rfl rfl) ?_
 refine s_end ?_
 refine q_block ?_
 refine q_seq ?_
 refine r_ord (l := [0, 1]) rfl (by kernel_rfl) (by kernel_rfl) ?_
 refine s_v rfl rfl rfl rfl (OpV.cast (v := .int .i64 ((i + 1 : Nat) : Int)) (v_ar rfl rfl rfl rfl) (addN (a := i) (b := 1) (by omega))) ?_
 refine s_v rfl rfl rfl rfl (v_mv rfl rfl) ?_
 refine s_end ?_
 have he := hap_yes (l := l) (i := i) (by unfold hapB; simp_all)
 exact q_again (i + 1, some (1, g13_, cap14_, cur15_)) [5, 6, 0] ⟨by show i + 1 ≤ l.length; omega, (by rw [he]; exact QN.first hq_ h16_ h17_ h18_ h19_)⟩ (by show l.length - (i + 1) < l.length - i; omega) (subF_spec ⟨rfl, rfl, rfl, rfl, rfl, trivial⟩) rfl (by decide)
 have h11_d := of_decide_eq_false h11_
 refine c_skip rfl ?_
 refine q_block ?_
 refine q_seq ?_
 refine r_ord (l := [0, 1]) rfl (by kernel_rfl) (by kernel_rfl) ?_
 refine s_v rfl rfl rfl rfl (OpV.cast (v := .int .i64 ((i + 1 : Nat) : Int)) (v_ar rfl rfl rfl rfl) (addN (a := i) (b := 1) (by omega))) ?_
 refine s_v rfl rfl rfl rfl (v_mv rfl rfl) ?_
 refine s_end ?_
 have he := hap_no (l := l) (i := i) (by unfold hapB; simp_all)
 exact q_again (i + 1, none) [3, 4] ⟨by show i + 1 ≤ l.length; omega, (by rw [he]; exact hs.2)⟩ (by show l.length - (i + 1) < l.length - i; omega) (subF_spec ⟨rfl, rfl, rfl, rfl, rfl, trivial⟩) rfl (by decide)
 refine s_no rfl rfl rfl rfl ?_
 refine s_no rfl rfl rfl rfl ?_
 refine s_no rfl rfl rfl rfl ?_
 refine s_v rfl rfl rfl rfl (v_pick rfl rfl rfl rfl) ?_
 refine s_end ?_
 refine q_seq ?_
 refine c_cond0 rfl rfl ?_
 refine c_skip rfl ?_
 refine q_block ?_
 refine q_seq ?_
 refine r_ord (l := [0, 1]) rfl (by kernel_rfl) (by kernel_rfl) ?_
 refine s_v rfl rfl rfl rfl (OpV.cast (v := .int .i64 ((i + 1 : Nat) : Int)) (v_ar rfl rfl rfl rfl) (addN (a := i) (b := 1) (by omega))) ?_
 refine s_v rfl rfl rfl rfl (v_mv rfl rfl) ?_
 refine s_end ?_
 have he := hap_no (l := l) (i := i) (by unfold hapB; simp_all)
 exact q_again (i + 1, none) [3, 4] ⟨by show i + 1 ≤ l.length; omega, (by rw [he]; exact hs.2)⟩ (by show l.length - (i + 1) < l.length - i; omega) (subF_spec ⟨rfl, rfl, rfl, rfl, rfl, trivial⟩) rfl (by decide)
 refine s_no rfl rfl rfl rfl ?_
 refine s_no rfl rfl rfl rfl ?_
 refine s_no rfl rfl rfl rfl ?_
 refine s_v rfl rfl rfl rfl (v_pick rfl rfl rfl rfl) ?_
 refine s_v rfl rfl rfl rfl (v_mv rfl rfl) ?_
 refine s_no rfl rfl rfl rfl ?_
 refine s_no rfl rfl rfl rfl ?_
 refine s_no rfl rfl rfl rfl ?_
 refine s_v rfl rfl rfl rfl (v_pick rfl rfl rfl rfl) ?_
 refine s_end ?_
 refine q_seq ?_
 refine c_cond0 rfl rfl ?_
 refine c_skip rfl ?_
 refine q_block ?_
 refine q_seq ?_
 refine r_ord (l := [0, 1]) rfl (by kernel_rfl) (by kernel_rfl) ?_
 refine s_v rfl rfl rfl rfl (OpV.cast (v := .int .i64 ((i + 1 : Nat) : Int)) (v_ar rfl rfl rfl rfl) (addN (a := i) (b := 1) (by omega))) ?_
 refine s_v rfl rfl rfl rfl (v_mv rfl rfl) ?_
 refine s_end ?_
 have he := hap_no (l := l) (i := i) (by unfold hapB; simp_all)
 exact q_again (i + 1, none) [3, 4] ⟨by show i + 1 ≤ l.length; omega, (by rw [he]; exact hs.2)⟩ (by show l.length - (i + 1) < l.length - i; omega) (subF_spec ⟨rfl, rfl, rfl, rfl, rfl, trivial⟩) rfl (by decide)
 have h2_d := of_decide_eq_false h2_
 obtain rfl : i = l.length := by omega
 refine c_exit (i := 0) rfl rfl ?_
 refine q_then_exit ?_
 refine q_then_exit ?_
 refine q_block_here rfl ?_
 refine q_seq ?_
 refine c_seq rfl ?_
 refine r_ord (l := [0, 1, 2]) rfl (by kernel_rfl) (by kernel_rfl) ?_
 refine s_v rfl rfl rfl rfl (v_mv rfl rfl) ?_
 refine s_v rfl rfl rfl rfl (v_mf rfl rfl rfl) ?_
 refine s_both 0 1 rfl rfl ?_
 refine s_e rfl rfl (e_call [0] [1, 2] #[.slice none 0 0, .func (.func 27) #[] #[.pointer (some ⟨b1_, 0, none⟩)]] rfl rfl rfl rfl rfl Try.func26 rfl (by decide) rfl rfl rfl rfl (by decide) (fun w ht => sort_nil_con b1_ (EvF b1_ A c l) w _)) ?_
 refine s_end ?_
 refine q_seq ?_
 refine c_seq rfl ?_
 refine r_ord (l := [0, 1]) rfl (by kernel_rfl) (by kernel_rfl) ?_
 refine s_v rfl rfl rfl rfl (v_mv rfl rfl) ?_
 refine s_v rfl rfl rfl rfl (v_as rfl rfl) ?_
 refine s_end ?_
 refine q_seq ?_
 refine c_ret rfl ?_
 refine q_know (KC_nil (Kd.int .i64)) ?_
 refine q_take [0] rfl (by decide) ?_
 exact q_post rfl (.cons rfl (.nil)) (hX none 0 [] (by rw [hq_]) (by intro i j h1 h2 h3; simp at h3))
 have hi_ : i ≤ l.length := hs.1
 obtain ⟨hn0, hn1, hr1_, hr2_, hr3_, hr4_⟩ : n = (hapTo l i).length ∧ 0 < n ∧ n ≤ cap ∧ cap ≤ maxLen ∧ cur.size = cap * 1 ∧ cur.toList.take (n * 1) = (hapTo l i).map (Value.int .i64) := hs.2
 have hnb : n ≤ 80 := by have := hap_len l i; omega
 refine c_seq rfl ?_
 refine r_ord (l := [0]) rfl (by kernel_rfl) (by kernel_rfl) ?_
 refine s_v rfl rfl rfl rfl (v_ar rfl rfl rfl rfl) ?_
 refine s_end ?_
 refine q_seq ?_
 refine c_seq rfl ?_
 refine c_cond (t := decide (((i : Int) : Int) < (l.length : Nat))) rfl rfl (fun h20_ => ?_) (fun h20_ => ?_)
 have h20_d := of_decide_eq_true h20_
 have hil : i < l.length := by omega
 refine c_skip rfl ?_
 refine q_seq ?_
 refine c_seq rfl ?_
 refine c_block rfl ?_
 refine c_seq rfl ?_
 refine r_ord (l := [0, 1, 2, 3, 4, 5]) rfl (by kernel_rfl) (by kernel_rfl) ?_
 refine s_v rfl rfl rfl rfl (v_mv rfl rfl) ?_
 refine s_v rfl rfl rfl rfl (v_iaK (i := 1) rfl Try.underlying27 SZ53 rfl rfl rfl rfl (by omega) (by omega)) ?_
 refine s_e rfl rfl (e_ldKX z48 1 rfl rfl rfl Try.underlying53 rfl SZ53 rfl rfl rfl (by omega) (by omega)) ?_
 intro cs21_ h22_
 refine s_know 0 rfl (fun w h => k48_sh h) (fun h23_ => ?_)
 obtain ⟨A24_, c25_, rfl⟩ := h23_
 refine s_weak 0 rfl (fun w h => k48_row h) ?_
 refine s_e rfl rfl (e_alloc rfl rfl rfl ZR53) ?_
 intro b26_
 refine s_v rfl rfl rfl rfl (v_as rfl rfl) ?_
 refine s_e rfl rfl (e_stA 0 rfl rfl SZ53 rfl rfl rfl rfl rfl rfl) ?_
 refine s_end ?_
 refine q_seq ?_
 refine c_seq rfl ?_
 refine r_ord (l := [0, 1, 2, 3, 4, 5, 6, 7, 8, 9, 10, 11, 12]) rfl (by kernel_rfl) (by kernel_rfl) ?_
 refine s_v rfl rfl rfl rfl (v_ldA [.int .i64 ((rd_T48 l (i : Int)).f0), .int .i64 ((rd_T48 l (i : Int)).f1.f0), .int .u64 ((rd_T48 l (i : Int)).f1.f1), .int .u64 ((rd_T48 l (i : Int)).f1.f2), .int .i64 ((rd_T48 l (i : Int)).f1.f3), .int .i64 ((rd_T48 l (i : Int)).f1.f4), .int .i64 ((rd_T48 l (i : Int)).f2), .int .i64 ((rd_T48 l (i : Int)).f3), .int .i64 ((rd_T48 l (i : Int)).f4), .bool ((rd_T48 l (i : Int)).f5), .bool ((rd_T48 l (i : Int)).f6.f0), .bool ((rd_T48 l (i : Int)).f6.f1), .int .u64 ((rd_T48 l (i : Int)).f6.f2), .slice A24_ ((rd_T48 l (i : Int)).f6.f3.length) c25_] 0 rfl Try.underlying53 rfl SZ53 rfl rfl rfl rfl) ?_
 refine s_e rfl rfl (e_callF [1] #[.agg #[.int .i64 ((rd_T48 l (i : Int)).f0), .int .i64 ((rd_T48 l (i : Int)).f1.f0), .int .u64 ((rd_T48 l (i : Int)).f1.f1), .int .u64 ((rd_T48 l (i : Int)).f1.f2), .int .i64 ((rd_T48 l (i : Int)).f1.f3), .int .i64 ((rd_T48 l (i : Int)).f1.f4), .int .i64 ((rd_T48 l (i : Int)).f2), .int .i64 ((rd_T48 l (i : Int)).f3), .int .i64 ((rd_T48 l (i : Int)).f4), .bool ((rd_T48 l (i : Int)).f5), .bool ((rd_T48 l (i : Int)).f6.f0), .bool ((rd_T48 l (i : Int)).f6.f1), .int .u64 ((rd_T48 l (i : Int)).f6.f2), .slice A24_ ((rd_T48 l (i : Int)).f6.f3.length) c25_]] rfl rfl rfl rfl rfl Try.func24 rfl (by decide) rfl rfl rfl rfl (fun w ht => evr_con (rd_T48 l (i : Int)) A24_ c25_ w _)) ?_
 refine s_v rfl rfl rfl rfl (v_not rfl rfl) ?_
 refine s_v rfl rfl rfl rfl (v_mv rfl rfl) ?_
 refine s_splitv (d := 16) (t := !((rd_T48 l (i : Int)).f1.f0 == 5)) rfl (fun h27_ => ?_) (fun h27_ => ?_)
 refine s_vg rfl rfl rfl rfl (v_ldA [.int .i64 ((rd_T48 l (i : Int)).f0), .int .i64 ((rd_T48 l (i : Int)).f1.f0), .int .u64 ((rd_T48 l (i : Int)).f1.f1), .int .u64 ((rd_T48 l (i : Int)).f1.f2), .int .i64 ((rd_T48 l (i : Int)).f1.f3), .int .i64 ((rd_T48 l (i : Int)).f1.f4), .int .i64 ((rd_T48 l (i : Int)).f2), .int .i64 ((rd_T48 l (i : Int)).f3), .int .i64 ((rd_T48 l (i : Int)).f4), .bool ((rd_T48 l (i : Int)).f5), .bool ((rd_T48 l (i : Int)).f6.f0), .bool ((rd_T48 l (i : Int)).f6.f1), .int .u64 ((rd_T48 l (i : Int)).f6.f2), .slice A24_ ((rd_T48 l (i : Int)).f6.f3.length) c25_] 0 rfl Try.underlying53 rfl SZ53 rfl rfl rfl rfl) ?_
 refine s_eg rfl rfl (e_callF [1] #[.agg #[.int .i64 ((rd_T48 l (i : Int)).f0), .int .i64 ((rd_T48 l (i : Int)).f1.f0), .int .u64 ((rd_T48 l (i : Int)).f1.f1), .int .u64 ((rd_T48 l (i : Int)).f1.f2), .int .i64 ((rd_T48 l (i : Int)).f1.f3), .int .i64 ((rd_T48 l (i : Int)).f1.f4), .int .i64 ((rd_T48 l (i : Int)).f2), .int .i64 ((rd_T48 l (i : Int)).f3), .int .i64 ((rd_T48 l (i : Int)).f4), .bool ((rd_T48 l (i : Int)).f5), .bool ((rd_T48 l (i : Int)).f6.f0), .bool ((rd_T48 l (i : Int)).f6.f1), .int .u64 ((rd_T48 l (i : Int)).f6.f2), .slice A24_ ((rd_T48 l (i : Int)).f6.f3.length) c25_]] rfl rfl rfl rfl rfl Try.func25 rfl (by decide) rfl rfl rfl rfl (fun w ht => evf_con (rd_T48 l (i : Int)) A24_ c25_ w _)) ?_
 refine s_vg rfl rfl rfl rfl (v_not rfl rfl) ?_
 refine s_v rfl rfl rfl rfl (v_pick rfl rfl rfl rfl) ?_
 refine s_v rfl rfl rfl rfl (v_mv rfl rfl) ?_
 refine s_splitv (d := 21) (t := !((rd_T48 l (i : Int)).f5 && (rd_T48 l (i : Int)).f6.f0)) rfl (fun h28_ => ?_) (fun h28_ => ?_)
 refine s_vg rfl rfl rfl rfl (v_fa rfl Try.underlying53 rfl SZ3 rfl) ?_
 refine s_vg rfl rfl rfl rfl (v_ld 0 rfl Try.underlying3 rfl rfl rfl rfl) ?_
 refine s_vg rfl rfl rfl rfl (v_ar rfl rfl rfl rfl) ?_
 refine s_v rfl rfl rfl rfl (v_pick rfl rfl rfl rfl) ?_
 refine s_end ?_
 refine q_seq ?_
 refine c_cond (t := decide (((rd_T48 l (i : Int)).f3 : Int) > 0)) rfl rfl (fun h29_ => ?_) (fun h29_ => ?_)
 have h29_d := of_decide_eq_true h29_
 refine r_ord (l := [0, 1, 2, 3, 4]) rfl (by kernel_rfl) (by kernel_rfl) ?_
 refine s_v rfl rfl rfl rfl (v_mv rfl rfl) ?_
 refine s_v rfl rfl rfl rfl (v_mv rfl rfl) ?_
 refine s_e rfl rfl (e_bslice #[.int .i64 (i : Int)] (.int .i64 0) rfl rfl rfl Try.underlying25 SZ3 ZR3 (by decide) rfl (by kernel_rfl)) ?_
 intro b30_
 refine s_e rfl rfl (e_app (z := (.int .i64 0)) (m := 1) (bytes := 8) (k := 1) (news := [.int .i64 (i : Int)]) (i := 0) (j := 6) rfl rfl rfl rfl rfl rfl Try.underlying25 (by kernel_rfl) rfl (by decide) rfl rfl hr1_ hr2_ hr3_ rfl rfl rfl rfl rfl (by simp [Value.oneCell']) (by omega) (by simp only [maxLen]; omega)) ?_
 intro g31_ cap32_ cur33_ h34_ h35_ h36_ h37_
 refine s_v rfl rfl rfl rfl (v_as rfl rfl) ?_
 refine s_end ?_
 refine q_block ?_
 refine q_seq ?_
 refine r_ord (l := [0, 1]) rfl (by kernel_rfl) (by kernel_rfl) ?_
 refine s_v rfl rfl rfl rfl (OpV.cast (v := .int .i64 ((i + 1 : Nat) : Int)) (v_ar rfl rfl rfl rfl) (addN (a := i) (b := 1) (by omega))) ?_
 refine s_v rfl rfl rfl rfl (v_mv rfl rfl) ?_
 refine s_end ?_
 have he := hap_yes (l := l) (i := i) (by unfold hapB; simp_all)
 exact q_again (i + 1, some (n + 1, g31_, cap32_, cur33_)) [4, 5, 6] ⟨by show i + 1 ≤ l.length; omega, (by rw [he]; exact QN.next hs.2 h34_ h35_ h36_ h37_)⟩ (by show l.length - (i + 1) < l.length - i; omega) (subF_spec ⟨rfl, rfl, rfl, rfl, rfl, trivial⟩) rfl (by decide)
 have h29_d := of_decide_eq_false h29_
 refine c_skip rfl ?_
 refine q_block ?_
 refine q_seq ?_
 refine r_ord (l := [0, 1]) rfl (by kernel_rfl) (by kernel_rfl) ?_
 refine s_v rfl rfl rfl rfl (OpV.cast (v := .int .i64 ((i + 1 : Nat) : Int)) (v_ar rfl rfl rfl rfl) (addN (a := i) (b := 1) (by omega))) ?_
 refine s_v rfl rfl rfl rfl (v_mv rfl rfl) ?_
 refine s_end ?_
 have he := hap_no (l := l) (i := i) (by unfold hapB; simp_all)
 exact q_again (i + 1, some (n, g, cap, cur)) [3, 4, 5] ⟨by show i + 1 ≤ l.length; omega, (by rw [he]; exact hs.2)⟩ (by show l.length - (i + 1) < l.length - i; omega) (subF_spec ⟨rfl, rfl, rfl, rfl, rfl, trivial⟩) rfl (by decide)
 refine s_no rfl rfl rfl rfl ?_
 refine s_no rfl rfl rfl rfl ?_
 refine s_no rfl rfl rfl rfl ?_
 refine s_v rfl rfl rfl rfl (v_pick rfl rfl rfl rfl) ?_
 refine s_end ?_
 refine q_seq ?_
 refine c_cond0 rfl rfl ?_
 refine c_skip rfl ?_
 refine q_block ?_
 refine q_seq ?_
 refine r_ord (l := [0, 1]) rfl (by kernel_rfl) (by kernel_rfl) ?_
 refine s_v rfl rfl rfl rfl (OpV.cast (v := .int .i64 ((i + 1 : Nat) : Int)) (v_ar rfl rfl rfl rfl) (addN (a := i) (b := 1) (by omega))) ?_
 refine s_v rfl rfl rfl rfl (v_mv rfl rfl) ?_
 refine s_end ?_
 have he := hap_no (l := l) (i := i) (by unfold hapB; simp_all)
 exact q_again (i + 1, some (n, g, cap, cur)) [3, 4, 5] ⟨by show i + 1 ≤ l.length; omega, (by rw [he]; exact hs.2)⟩ (by show l.length - (i + 1) < l.length - i; omega) (subF_spec ⟨rfl, rfl, rfl, rfl, rfl, trivial⟩) rfl (by decide)
 refine s_no rfl rfl rfl rfl ?_
 refine s_no rfl rfl rfl rfl ?_
 refine s_no rfl rfl rfl rfl ?_
 refine s_v rfl rfl rfl rfl (v_pick rfl rfl rfl rfl) ?_
 refine s_v rfl rfl rfl rfl (v_mv rfl rfl) ?_
 refine s_no rfl rfl rfl rfl ?_
 refine s_no rfl rfl rfl rfl ?_
 refine s_no rfl rfl rfl rfl ?_
 refine s_v rfl rfl rfl rfl (v_pick rfl rfl rfl rfl) ?_
 refine s_end ?_
 refine q_seq ?_
 refine c_cond0 rfl rfl ?_
 refine c_skip rfl ?_
 refine q_block ?_
 refine q_seq ?_
 refine r_ord (l := [0, 1]) rfl (by kernel_rfl) (by kernel_rfl) ?_
 refine s_v rfl rfl rfl rfl (OpV.cast (v := .int .i64 ((i + 1 : Nat) : Int)) (v_ar rfl rfl rfl rfl) (addN (a := i) (b := 1) (by omega))) ?_
 refine s_v rfl rfl rfl rfl (v_mv rfl rfl) ?_
 refine s_end ?_
 have he := hap_no (l := l) (i := i) (by unfold hapB; simp_all)
 exact q_again (i + 1, some (n, g, cap, cur)) [3, 4, 5] ⟨by show i + 1 ≤ l.length; omega, (by rw [he]; exact hs.2)⟩ (by show l.length - (i + 1) < l.length - i; omega) (subF_spec ⟨rfl, rfl, rfl, rfl, rfl, trivial⟩) rfl (by decide)
 have h20_d := of_decide_eq_false h20_
 obtain rfl : i = l.length := by omega
 refine c_exit (i := 0) rfl rfl ?_
 refine q_then_exit ?_
 refine q_then_exit ?_
 refine q_block_here rfl ?_
 refine q_seq ?_
 refine c_seq rfl ?_
 subst hn0
 obtain ⟨rest, rfl⟩ : ∃ rest, cur = RowI .i64 (hapTo l l.length) rest := ⟨_, RowI_of hr4_⟩
 refine r_ord (l := [0, 1, 2]) rfl (by kernel_rfl) (by kernel_rfl) ?_
 refine s_v rfl rfl rfl rfl (v_mv rfl rfl) ?_
 refine s_v rfl rfl rfl rfl (v_mf rfl rfl rfl) ?_
 refine s_both 0 1 rfl rfl ?_
 refine s_e rfl rfl (e_call [3, 0] [1, 2] #[.slice (some ⟨g, 0, none⟩) ((hapTo l l.length).length) cap, .func (.func 27) #[] #[.pointer (some ⟨b1_, 0, none⟩)]] rfl rfl rfl rfl rfl Try.func26 rfl (by decide) rfl rfl rfl rfl (by decide) (fun w ht => sort_con g ((hapTo l l.length).length) cap (hapTo l l.length) rest b1_ l.length (keyA l) (EvF b1_ A c l) (fun x y w H h1 h2 h3 h4 => cmp27_con b1_ A c l x y h1 h2 h3 h4 w H) (fun x hx => hap_mem hx) rfl (by omega) (fun p q h1 h2 => hap_gt h1 h2) w _)) ?_
 intro ys hperm hss
 refine s_end ?_
 refine q_seq ?_
 refine c_seq rfl ?_
 refine r_ord (l := [0, 1]) rfl (by kernel_rfl) (by kernel_rfl) ?_
 refine s_v rfl rfl rfl rfl (v_mv rfl rfl) ?_
 refine s_v rfl rfl rfl rfl (v_as rfl rfl) ?_
 refine s_end ?_
 refine q_seq ?_
 refine c_ret rfl ?_
 have hyl : ys.length = (hapTo l l.length).length := hperm.length_eq
 refine q_give [0] rfl (by decide) (by simp [ids, Ent.id?]) (KC_own (k := .i64) (cap := cap) (xs := ys) RowI_take (by omega) hr2_) ?_
 have hres := hX (some ⟨g, 0, none⟩) cap ys hperm (by rw [hyl]; exact hss)
 rw [hyl] at hres
 exact q_post rfl (.cons rfl (.nil)) hres
end Go.Eng
namespace Go.Eng
open Go.Proofs Go.RowKit Go.Proofs.YtiihjijmmephlaaW.PrintWords Go.Proofs.Ytiihjijmmephlaa.GHist
set_option linter.unusedVariables false
set_option linter.unusedSimpArgs false
theorem Ah.irr {key : Int → Int} {x : Int} : ¬ Ah key x x := by rintro (h | h) <;> omega
theorem Ah.trans {key : Int → Int} {x y z : Int} (h : Ah key x y) (k : Ah key y z) : Ah key x z := by
  rcases h with h | h <;> rcases k with k | k
  · exact .inl (by omega)
  · exact .inl (by omega)
  · exact .inl (by omega)
  · exact .inr ⟨by omega, by omega⟩
theorem Ah.tot {key : Int → Int} {x y : Int} (h : x ≠ y) : Ah key x y ∨ Ah key y x := by
  by_cases e : key x = key y
  · rcases Int.lt_or_gt_of_ne h with h | h
    · exact .inl (.inr ⟨e, h⟩)
    · exact .inr (.inr ⟨e.symm, h⟩)
  · rcases Int.lt_or_gt_of_ne e with e | e
    · exact .inl (.inl e)
    · exact .inr (.inl e)
def free (l : List S48) (us : List Bool) (k : Nat) : Bool := hapB (rd_T48 l (k : Int)) && !us.getD k false
structure OI (l : List S48) (r : Nat) (us : List Bool) (ys : List Int) : Prop where
  ul : us.length = l.length
  yl : ys.length = r
  rl : r ≤ l.length
  used : ∀ k : Nat, k < l.length → (us.getD k false = true ↔ (k : Int) ∈ ys)
  hap : ∀ y ∈ ys, ∃ k : Nat, y = (k : Int) ∧ k < l.length ∧ hapB (rd_T48 l (k : Int)) = true
  srt : ys.Pairwise (Ah (keyA l))
  ahead : ∀ y ∈ ys, ∀ k : Nat, k < l.length → free l us k = true → Ah (keyA l) y (k : Int)
theorem OI.start (l : List S48) : OI l 0 (List.replicate l.length false) [] := ⟨by simp, rfl, Nat.zero_le _, fun k h => by simp [List.getD_eq_getElem?_getD, List.getElem?_replicate, h], fun y h => by simp at h, List.Pairwise.nil, fun y h => by simp at h⟩
structure BI (l : List S48) (us : List Bool) (k : Nat) (b : Int) : Prop where
  none_ : b < 0 → b = -1 ∧ ∀ j : Nat, j < k → free l us j = false
  some_ : 0 ≤ b → ∃ i : Nat, b = (i : Int) ∧ i < k ∧ free l us i = true ∧ ∀ j : Nat, j < k → free l us j = true → j = i ∨ Ah (keyA l) (i : Int) (j : Int)
theorem BI.start (l : List S48) (us : List Bool) : BI l us 0 (-1) := ⟨fun _ => ⟨rfl, fun j h => by omega⟩, fun h => by omega⟩
theorem BI.skip {l : List S48} {us : List Bool} {k : Nat} {b : Int} (h : BI l us k b) (hf : free l us k = false) : BI l us (k + 1) b := by
  refine ⟨fun hb => ⟨(h.none_ hb).1, fun j hj => ?_⟩, fun hb => ?_⟩
  · by_cases e : j = k
    · subst e; exact hf
    · exact (h.none_ hb).2 j (by omega)
  · obtain ⟨i, e, h1, h2, h3⟩ := h.some_ hb
    refine ⟨i, e, by omega, h2, fun j hj hfj => ?_⟩
    by_cases e : j = k
    · subst e; rw [hf] at hfj; cases hfj
    · exact h3 j (by omega) hfj
theorem BI.first {l : List S48} {us : List Bool} {k : Nat} {b : Int} (h : BI l us k b) (hb : b < 0) (hf : free l us k = true) : BI l us (k + 1) (k : Int) := by
  refine ⟨fun hk => by omega, fun _ => ⟨k, rfl, by omega, hf, fun j hj hfj => ?_⟩⟩
  by_cases e : j = k
  · exact .inl e
  · have := (h.none_ hb).2 j (by omega)
    rw [this] at hfj; cases hfj
theorem BI.less {l : List S48} {us : List Bool} {k : Nat} {b : Int} (h : BI l us k b) (hb : ¬ b < 0) (hf : free l us k = true) (hc : keyA l (k : Int) < keyA l b) : BI l us (k + 1) (k : Int) := by
  obtain ⟨i, rfl, h1, h2, h3⟩ := h.some_ (by omega)
  refine ⟨fun hk => by omega, fun _ => ⟨k, rfl, by omega, hf, fun j hj hfj => ?_⟩⟩
  by_cases e : j = k
  · exact .inl e
  · rcases h3 j (by omega) hfj with rfl | h4
    · exact .inr (.inl hc)
    · exact .inr ((Ah.trans (.inl hc) h4))
theorem BI.more {l : List S48} {us : List Bool} {k : Nat} {b : Int} (h : BI l us k b) (hb : ¬ b < 0) (hf : free l us k = true) (hc : ¬ keyA l (k : Int) < keyA l b) : BI l us (k + 1) b := by
  refine ⟨fun hk => by omega, fun _ => ?_⟩
  obtain ⟨i, rfl, h1, h2, h3⟩ := h.some_ (by omega)
  refine ⟨i, rfl, by omega, h2, fun j hj hfj => ?_⟩
  by_cases e : j = k
  · subst e
    refine .inr ?_
    by_cases e2 : keyA l (i : Int) = keyA l (j : Int)
    · exact .inr ⟨e2, by omega⟩
    · exact .inl (by omega)
  · exact h3 j (by omega) hfj
theorem OI.step {l : List S48} {r : Nat} {us : List Bool} {ys : List Int} {b : Nat} (h : OI l r us ys) (hr : r < l.length) (hb : BI l us l.length (b : Int)) : OI l (r + 1) (us.set b true) (ys ++ [(b : Int)]) := by
  obtain ⟨i, e, h1, h2, h3⟩ := hb.some_ (by omega)
  obtain rfl : b = i := by omega
  have hul := h.ul
  have hfree : hapB (rd_T48 l (b : Int)) = true ∧ us.getD b false = false := by simpa [free] using h2
  have hg : ∀ k, (us.set b true).getD k false = if k = b then true else us.getD k false := fun k => by
    simp only [List.getD_eq_getElem?_getD, List.getElem?_set]
    by_cases e : b = k
    · subst e; simp [show b < us.length by omega]
    · have : ¬ k = b := fun h => e h.symm
      simp [e, this]
  have hfr : ∀ k, free l (us.set b true) k = true → free l us k = true ∧ k ≠ b := fun k hk => by
    unfold free at hk ⊢
    rw [hg] at hk
    by_cases e : k = b
    · rw [if_pos e] at hk; simp at hk
    · rw [if_neg e] at hk; exact ⟨hk, e⟩
  refine ⟨by simpa using hul, by simp [h.yl], by omega, fun k hk => ?_, fun y hy => ?_, ?_, fun y hy k hk hf => ?_⟩
  · rw [hg]
    by_cases e : k = b
    · rw [if_pos e]; simp [e]
    · rw [if_neg e, h.used k hk, List.mem_append]
      constructor
      · exact .inl
      · rintro (h | h)
        · exact h
        · have : (k : Int) = (b : Int) := by simpa using h
          omega
  · rcases List.mem_append.1 hy with hy | hy
    · exact h.hap y hy
    · exact ⟨b, by simpa using hy, h1, hfree.1⟩
  · rw [List.pairwise_append]
    refine ⟨h.srt, List.pairwise_singleton _ _, fun y hy z hz => ?_⟩
    obtain rfl : z = (b : Int) := by simpa using hz
    exact h.ahead y hy b h1 h2
  · obtain ⟨hf1, hf2⟩ := hfr k hf
    rcases List.mem_append.1 hy with hy | hy
    · exact h.ahead y hy k hk hf1
    · obtain rfl : y = (b : Int) := by simpa using hy
      rcases h3 k hk hf1 with h4 | h4
      · exact absurd h4 hf2
      · exact h4
theorem pair_nodup {key : Int → Int} {ys : List Int} (h : ys.Pairwise (Ah key)) : ys.Nodup := h.imp (fun h e => by subst e; exact Ah.irr h)
theorem OI.perm {l : List S48} {r : Nat} {us : List Bool} {ys : List Int} (h : OI l r us ys) (hf : ∀ k : Nat, k < l.length → free l us k = false) : ys.Perm (hapTo l l.length) := by
  refine (List.perm_ext_iff_of_nodup (pair_nodup h.srt) ((hap_inc l l.length).imp (fun h e => by omega))).2 (fun y => ⟨fun hy => ?_, fun hy => ?_⟩)
  · obtain ⟨k, rfl, hk, hh⟩ := h.hap y hy
    unfold hapTo
    exact List.mem_map.2 ⟨k, List.mem_filter.2 ⟨List.mem_range.2 hk, hh⟩, rfl⟩
  · unfold hapTo at hy
    obtain ⟨k, hk, rfl⟩ := List.mem_map.1 hy
    obtain ⟨h1, h2⟩ := List.mem_filter.1 hk
    have h1 := List.mem_range.1 h1
    have h3 := hf k h1
    unfold free at h3
    have h2' : hapB (rd_T48 l (k : Int)) = true := h2
    rw [h2'] at h3
    exact (h.used k h1).1 (by simpa using h3)
theorem nodup_len : ∀ (n : Nat) (a : List Int), a.Nodup → (∀ y ∈ a, ∃ k : Nat, y = (k : Int) ∧ k < n) → a.length ≤ n
  | 0, a, _, h => by
    cases a with
    | nil => exact Nat.le_refl _
    | cons y r => obtain ⟨k, _, hk⟩ := h y List.mem_cons_self; omega
  | n + 1, a, hn, h => by
    have ih := nodup_len n (a.erase (n : Int)) (hn.erase _) (fun y hy => by
      obtain ⟨h1, h2⟩ := (List.Nodup.mem_erase_iff hn).1 hy
      obtain ⟨k, rfl, hk⟩ := h y h2
      exact ⟨k, rfl, by omega⟩)
    by_cases hm : (n : Int) ∈ a
    · rw [List.length_erase_of_mem hm] at ih; omega
    · rw [List.erase_of_not_mem hm] at ih; omega
theorem OI.full {l : List S48} {us : List Bool} {ys : List Int} (h : OI l l.length us ys) : ∀ k : Nat, k < l.length → free l us k = false := by
  intro k hk
  have hnd := pair_nodup h.srt
  have hmem : (k : Int) ∈ ys := by
    by_cases hm : (k : Int) ∈ ys
    · exact hm
    · exfalso
      have := nodup_len l.length ((k : Int) :: ys) (List.nodup_cons.2 ⟨hm, hnd⟩) (fun y hy => by
        rcases List.mem_cons.1 hy with rfl | hy
        · exact ⟨k, rfl, hk⟩
        · obtain ⟨j, rfl, hj, _⟩ := h.hap y hy
          exact ⟨j, rfl, hj⟩)
      rw [List.length_cons, h.yl] at this
      omega
  have := (h.used k hk).2 hmem
  unfold free
  rw [this]; simp
theorem pair_ss {key : Int → Int} {ys : List Int} (h : ys.Pairwise (Ah key)) : SS key 0 ys.length ys := fun i j _ hij hj => by
  rw [gt_eq (show i < ys.length by omega), gt_eq hj]
  exact List.pairwise_iff_getElem.1 h i j (by omega) hj hij
theorem ss_pair {key : Int → Int} {ys : List Int} (h : SS key 0 ys.length ys) : ys.Pairwise (Ah key) := by
  rw [List.pairwise_iff_getElem]
  intro i j hi hj hij
  have := h i j (Nat.zero_le _) hij hj
  rwa [gt_eq hi, gt_eq hj] at this
theorem order_one {key : Int → Int} {xs ys : List Int} (hp : xs.Perm ys) (hx : xs.Pairwise (Ah key)) (hy : ys.Pairwise (Ah key)) : xs = ys :=
  List.Perm.eq_of_pairwise (le := Ah key) (fun a b _ _ h1 h2 => absurd (h1.trans h2) Ah.irr) hx hy hp
end Go.Eng
namespace Go.Eng
open Go.Proofs Go.RowKit Go.Proofs.YtiihjijmmephlaaW.PrintWords Go.Proofs.Ytiihjijmmephlaa.GHist
set_option linter.unusedVariables false
set_option linter.unusedSimpArgs false
set_option maxRecDepth 100000 in
set_option maxHeartbeats 4000000 in
theorem rorder_con (A : Option Addr) (c : Nat) (l : List S48) (hl : l.length ≤ 1000) (w0 : World) (H : List Nat) : Con Try.prog 13 #[.slice A l.length c] w0 H [.f (KC k48 A c l)] (fun X => ∀ A1 c1 ys, ys.Perm (hapTo l l.length) → SS (keyA l) 0 ys.length ys → X (.slice A1 ys.length c1) [.f (KC (Kd.int .i64) A1 c1 ys)]) := by
 refine con_enter (c := bodyOf Try.f13) Try.func13 rfl (m := 64) rfl rfl rfl ?_
 intro X hX _
 refine c_seq rfl ?_
 refine r_ord (l := [0]) rfl (by kernel_rfl) (by kernel_rfl) ?_
 refine s_v rfl rfl rfl rfl (v_as rfl rfl) ?_
 refine s_end ?_
 refine q_seq ?_
 refine c_seq rfl ?_
 refine r_ord (l := [0]) rfl (by kernel_rfl) (by kernel_rfl) ?_
 refine s_v rfl rfl rfl rfl (v_as rfl rfl) ?_
 refine s_end ?_
 refine q_seq ?_
 refine c_seq rfl ?_
 refine r_ord (l := [0, 1, 2, 3]) rfl (by kernel_rfl) (by kernel_rfl) ?_
 refine s_v rfl rfl rfl rfl (v_mv rfl rfl) ?_
 refine s_v rfl rfl rfl rfl (v_len rfl rfl rfl Try.underlying22 rfl rfl) ?_
 refine s_e rfl rfl (e_makeB (m := l.length) rfl rfl rfl Try.underlying59 (by kernel_rfl) rfl rfl (by omega)) ?_
 intro g1_
 refine s_v rfl rfl rfl rfl (v_as rfl rfl) ?_
 refine s_end ?_
 refine q_seq ?_
 refine c_seq rfl ?_
 refine c_seq rfl ?_
 refine r_ord (l := [0]) rfl (by kernel_rfl) (by kernel_rfl) ?_
 refine s_v rfl rfl rfl rfl (v_as rfl rfl) ?_
 refine s_end ?_
 refine q_seq ?_
 refine c_block rfl ?_
 refine c_loop (σ := (Nat × List Bool × List Int × Option (Nat × Nat × Nat × Array Value))) (fun s => OI l s.1 s.2.1 s.2.2.1 ∧ QN .i64 s.2.2.1 s.2.2.2) (fun s => l.length - s.1) (fun s : (Nat × List Bool × List Int × Option (Nat × Nat × Nat × Array Value)) => match s with | (r, us, ys, none) => [(0, .slice A l.length c), (4, .slice (some ⟨g1_, 0, none⟩) l.length l.length), (3, .slice none 0 0), (5, .int .i64 (r : Int))] | (r, us, ys, some (n, g, cap, cur)) => [(0, .slice A l.length c), (4, .slice (some ⟨g1_, 0, none⟩) l.length l.length), (3, .slice (some ⟨g, 0, none⟩) n cap), (5, .int .i64 (r : Int))]) (fun s : (Nat × List Bool × List Int × Option (Nat × Nat × Nat × Array Value)) => match s with | (r, us, ys, none) => [.b g1_ (.cells (RowB us) 4 (0, 0)), .f (KC k48 A c l)] | (r, us, ys, some (n, g, cap, cur)) => [.b g1_ (.cells (RowB us) 4 (0, 0)), .f (KC k48 A c l), .b g (.cells cur 3 (0, 0))]) (0, List.replicate l.length false, [], none) [0, 1] rfl ⟨OI.start l, rfl⟩ (subF_spec ⟨rfl, rfl, rfl, rfl, trivial⟩) rfl (by decide) ?_
 rintro ⟨r, us, ys, _ | ⟨n, g, cap, cur⟩⟩ hs
 have ho : OI l r us ys := hs.1
 have ho2 := hs.2
 have hul := ho.ul
 have hrl := ho.rl
 have hyl := ho.yl
 have hq_ : ys = [] := hs.2
 refine c_seq rfl ?_
 refine c_seq rfl ?_
 refine r_ord (l := [0, 1, 2, 3]) rfl (by kernel_rfl) (by kernel_rfl) ?_
 refine s_v rfl rfl rfl rfl (v_mv rfl rfl) ?_
 refine s_v rfl rfl rfl rfl (v_mv rfl rfl) ?_
 refine s_v rfl rfl rfl rfl (v_len rfl rfl rfl Try.underlying22 rfl rfl) ?_
 refine s_v rfl rfl rfl rfl (v_ar rfl rfl rfl rfl) ?_
 refine s_end ?_
 refine q_seq ?_
 refine c_cond (t := decide (((r : Int) : Int) < (l.length : Nat))) rfl rfl (fun h2_ => ?_) (fun h2_ => ?_)
 have h2_d := of_decide_eq_true h2_
 have hrl2 : r < l.length := by omega
 refine c_skip rfl ?_
 refine q_seq ?_
 refine c_seq rfl ?_
 refine c_block rfl ?_
 refine c_seq rfl ?_
 refine r_ord (l := [0]) rfl (by kernel_rfl) (by kernel_rfl) ?_
 refine s_v rfl rfl rfl rfl (v_as rfl rfl) ?_
 refine s_end ?_
 refine q_seq ?_
 refine c_seq rfl ?_
 refine c_seq rfl ?_
 refine r_ord (l := [0]) rfl (by kernel_rfl) (by kernel_rfl) ?_
 refine s_v rfl rfl rfl rfl (v_as rfl rfl) ?_
 refine s_end ?_
 refine q_seq ?_
 refine c_block rfl ?_
 refine c_loop (σ := (Nat × Int)) (fun s : (Nat × Int) => match s with | (k, bst) => k ≤ l.length ∧ BI l us k bst) (fun s : (Nat × Int) => match s with | (k, bst) => l.length - k) (fun s : (Nat × Int) => match s with | (k, bst) => [(0, .slice A l.length c), (3, .slice none 0 0), (4, .slice (some ⟨g1_, 0, none⟩) l.length l.length), (5, .int .i64 (r : Int)), (6, .int .i64 bst), (7, .int .i64 (k : Int))]) (fun s : (Nat × Int) => match s with | (k, bst) => [.b g1_ (.cells (RowB us) 4 (0, 0)), .f (KC k48 A c l)]) (0, -1) [0, 1] rfl ⟨Nat.zero_le _, BI.start l us⟩ (subF_spec ⟨rfl, rfl, rfl, rfl, rfl, rfl, trivial⟩) rfl (by decide) ?_
 rintro ⟨k, bst⟩ hs
 have hkle : k ≤ l.length := hs.1
 have hs : BI l us k bst := hs.2
 refine c_seq rfl ?_
 refine c_seq rfl ?_
 refine r_ord (l := [0, 1, 2, 3]) rfl (by kernel_rfl) (by kernel_rfl) ?_
 refine s_v rfl rfl rfl rfl (v_mv rfl rfl) ?_
 refine s_v rfl rfl rfl rfl (v_mv rfl rfl) ?_
 refine s_v rfl rfl rfl rfl (v_len rfl rfl rfl Try.underlying22 rfl rfl) ?_
 refine s_v rfl rfl rfl rfl (v_ar rfl rfl rfl rfl) ?_
 refine s_end ?_
 refine q_seq ?_
 refine c_cond (t := decide (((k : Int) : Int) < (l.length : Nat))) rfl rfl (fun h3_ => ?_) (fun h3_ => ?_)
 have h3_d := of_decide_eq_true h3_
 have hkl : k < l.length := by omega
 refine c_skip rfl ?_
 refine q_seq ?_
 refine c_seq rfl ?_
 refine c_block rfl ?_
 refine c_seq rfl ?_
 refine r_any [.b g1_ (.cells (RowB us) 4 (0, 0)), .f (KC k48 A c l)] (by kernel_rfl) rfl (by kernel_rfl) (mem_pick (idx := [0, 1]) rfl) ?_
 refine a_v 0 rfl (by kernel_rfl) (by kernel_rfl) (by kernel_rfl) rfl rfl rfl (v_mv rfl rfl) ?_
 refine a_v 1 rfl (by kernel_rfl) (by kernel_rfl) (by kernel_rfl) rfl rfl rfl (v_mv rfl rfl) ?_
 refine a_v 2 rfl (by kernel_rfl) (by kernel_rfl) (by kernel_rfl) rfl rfl rfl (v_iaK (i := 1) rfl Try.underlying22 SZ48 rfl rfl rfl rfl (by omega) (by first | omega | (obtain ⟨_, _, _, _⟩ := hs.some_ (by omega); omega))) ?_
 refine a_1 (i := 3) (by kernel_rfl) ?_
 refine i_e rfl rfl (e_ldKX z48 1 rfl rfl rfl Try.underlying48 rfl SZ48 rfl rfl rfl (by omega) (by first | omega | (obtain ⟨_, _, _, _⟩ := hs.some_ (by omega); omega))) ?_
 intro cs9_ h10_
 refine ⟨(mem_pick (idx := [1, 2]) rfl), ?_⟩
 refine a_know 0 rfl (fun w h => k48_sh h) (fun h11_ => ?_)
 obtain ⟨A12_, c13_, rfl⟩ := h11_
 refine a_weak 0 rfl (fun w h => k48_row h) ?_
 refine a_1 (i := 4) (by kernel_rfl) ?_
 refine i_e rfl rfl (e_callF [0] #[.agg #[.int .i64 ((rd_T48 l (k : Int)).f0), .int .i64 ((rd_T48 l (k : Int)).f1.f0), .int .u64 ((rd_T48 l (k : Int)).f1.f1), .int .u64 ((rd_T48 l (k : Int)).f1.f2), .int .i64 ((rd_T48 l (k : Int)).f1.f3), .int .i64 ((rd_T48 l (k : Int)).f1.f4), .int .i64 ((rd_T48 l (k : Int)).f2), .int .i64 ((rd_T48 l (k : Int)).f3), .int .i64 ((rd_T48 l (k : Int)).f4), .bool ((rd_T48 l (k : Int)).f5), .bool ((rd_T48 l (k : Int)).f6.f0), .bool ((rd_T48 l (k : Int)).f6.f1), .int .u64 ((rd_T48 l (k : Int)).f6.f2), .slice A12_ ((rd_T48 l (k : Int)).f6.f3.length) c13_]] rfl rfl rfl rfl rfl Try.func29 rfl (by decide) rfl rfl rfl rfl (fun w ht => happ_con (rd_T48 l (k : Int)) A12_ c13_ w _)) ?_
 refine ⟨(mem_pick (idx := [2, 3]) rfl), ?_⟩
 refine a_v 5 rfl (by kernel_rfl) (by kernel_rfl) (by kernel_rfl) rfl rfl rfl (v_mv rfl rfl) ?_
 refine a_splitv (d := 28) (t := hapB (rd_T48 l (k : Int))) rfl (fun h14_ => ?_) (fun h14_ => ?_)
 refine a_v 6 rfl (by kernel_rfl) (by kernel_rfl) (by kernel_rfl) rfl rfl rfl (v_mv rfl rfl) ?_
 refine a_v 7 rfl (by kernel_rfl) (by kernel_rfl) (by kernel_rfl) rfl rfl rfl (v_mv rfl rfl) ?_
 refine a_v 8 rfl (by kernel_rfl) (by kernel_rfl) (by kernel_rfl) rfl rfl rfl (v_iaO (j := k) rfl Try.underlying59 SZ4 rfl rfl (by omega)) ?_
 refine a_v 9 rfl (by kernel_rfl) (by kernel_rfl) (by kernel_rfl) rfl rfl rfl (v_ldB 0 rfl Try.underlying4 rfl rfl rfl (by omega)) ?_
 refine a_v 10 rfl (by kernel_rfl) (by kernel_rfl) (by kernel_rfl) rfl rfl rfl (v_not rfl rfl) ?_
 refine a_v 11 rfl (by kernel_rfl) (by kernel_rfl) (by kernel_rfl) rfl rfl rfl (v_pick rfl rfl rfl rfl) ?_
 refine a_v 12 rfl (by kernel_rfl) (by kernel_rfl) (by kernel_rfl) rfl rfl rfl (v_mv rfl rfl) ?_
 refine a_splitv (d := 35) (t := !(us.getD k false)) rfl (fun h15_ => ?_) (fun h15_ => ?_)
 refine a_v 13 rfl (by kernel_rfl) (by kernel_rfl) (by kernel_rfl) rfl rfl rfl (v_mv rfl rfl) ?_
 refine a_v 14 rfl (by kernel_rfl) (by kernel_rfl) (by kernel_rfl) rfl rfl rfl (v_ar rfl rfl rfl rfl) ?_
 refine a_v 15 rfl (by kernel_rfl) (by kernel_rfl) (by kernel_rfl) rfl rfl rfl (v_mv rfl rfl) ?_
 refine a_splitv (d := 38) (t := decide ((bst : Int) < 0)) rfl (fun h16_ => ?_) (fun h16_ => ?_)
 have h16_d := of_decide_eq_true h16_
 refine a_no 16 rfl (by kernel_rfl) (by kernel_rfl) (by kernel_rfl) rfl rfl rfl ?_
 refine a_no 17 rfl (by kernel_rfl) (by kernel_rfl) (by kernel_rfl) rfl rfl rfl ?_
 refine a_no 18 rfl (by kernel_rfl) (by kernel_rfl) (by kernel_rfl) rfl rfl rfl ?_
 refine a_no 19 rfl (by kernel_rfl) (by kernel_rfl) (by kernel_rfl) rfl rfl rfl ?_
 refine a_no 20 rfl (by kernel_rfl) (by kernel_rfl) (by kernel_rfl) rfl rfl rfl ?_
 refine a_no 21 rfl (by kernel_rfl) (by kernel_rfl) (by kernel_rfl) rfl rfl rfl ?_
 refine a_no 22 rfl (by kernel_rfl) (by kernel_rfl) (by kernel_rfl) rfl rfl rfl ?_
 refine a_no 23 rfl (by kernel_rfl) (by kernel_rfl) (by kernel_rfl) rfl rfl rfl ?_
 refine a_no 24 rfl (by kernel_rfl) (by kernel_rfl) (by kernel_rfl) rfl rfl rfl ?_
 refine a_no 25 rfl (by kernel_rfl) (by kernel_rfl) (by kernel_rfl) rfl rfl rfl ?_
 refine a_no 26 rfl (by kernel_rfl) (by kernel_rfl) (by kernel_rfl) rfl rfl rfl ?_
 refine a_v 27 rfl (by kernel_rfl) (by kernel_rfl) (by kernel_rfl) rfl rfl rfl (v_pick rfl rfl rfl rfl) ?_
 refine a_v 28 rfl (by kernel_rfl) (by kernel_rfl) (by kernel_rfl) rfl rfl rfl (v_pick rfl rfl rfl rfl) ?_
 refine a_end (by kernel_rfl) ?_
 refine q_seq ?_
 refine c_cond1 rfl rfl ?_
 refine r_ord (l := [0, 1]) rfl (by kernel_rfl) (by kernel_rfl) ?_
 refine s_v rfl rfl rfl rfl (v_mv rfl rfl) ?_
 refine s_v rfl rfl rfl rfl (v_as rfl rfl) ?_
 refine s_end ?_
 refine q_block ?_
 refine q_seq ?_
 refine r_ord (l := [0, 1, 2]) rfl (by kernel_rfl) (by kernel_rfl) ?_
 refine s_v rfl rfl rfl rfl (v_mv rfl rfl) ?_
 refine s_v rfl rfl rfl rfl (OpV.cast (v := .int .i64 ((k + 1 : Nat) : Int)) (v_ar rfl rfl rfl rfl) (addN (a := k) (b := 1) (by omega))) ?_
 refine s_v rfl rfl rfl rfl (v_as rfl rfl) ?_
 refine s_end ?_
 have hfr : free l us k = true := by unfold free; simp_all
 exact q_again (k + 1, (k : Int)) [2, 3] ⟨by omega, (hs.first (by omega) hfr)⟩ (by dsimp only; omega) (subF_spec ⟨rfl, rfl, rfl, rfl, rfl, rfl, trivial⟩) rfl (by decide)
 have h16_d := of_decide_eq_false h16_
 refine a_v 16 rfl (by kernel_rfl) (by kernel_rfl) (by kernel_rfl) rfl rfl rfl (v_mv rfl rfl) ?_
 refine a_v 17 rfl (by kernel_rfl) (by kernel_rfl) (by kernel_rfl) rfl rfl rfl (v_mv rfl rfl) ?_
 refine a_v 18 rfl (by kernel_rfl) (by kernel_rfl) (by kernel_rfl) rfl rfl rfl (v_iaK (i := 1) rfl Try.underlying22 SZ48 rfl rfl rfl rfl (by omega) (by first | omega | (obtain ⟨_, _, _, _⟩ := hs.some_ (by omega); omega))) ?_
 refine a_v 19 rfl (by kernel_rfl) (by kernel_rfl) (by kernel_rfl) rfl rfl rfl (v_fax rfl Try.underlying48 rfl SZ3 rfl) ?_
 refine a_v 20 rfl (by kernel_rfl) (by kernel_rfl) (by kernel_rfl) rfl rfl rfl (v_ldKq (v := .int .i64 (rd_T48 l (k : Int)).f3) z48 1 rfl Try.underlying3 rfl rfl rfl rfl (by omega) (by first | omega | (obtain ⟨_, _, _, _⟩ := hs.some_ (by omega); omega)) (fun w K h => k48_at7 h)) ?_
 refine a_v 21 rfl (by kernel_rfl) (by kernel_rfl) (by kernel_rfl) rfl rfl rfl (v_mv rfl rfl) ?_
 refine a_v 22 rfl (by kernel_rfl) (by kernel_rfl) (by kernel_rfl) rfl rfl rfl (v_mv rfl rfl) ?_
 refine a_v 23 rfl (by kernel_rfl) (by kernel_rfl) (by kernel_rfl) rfl rfl rfl (v_iaK (i := 1) rfl Try.underlying22 SZ48 rfl rfl rfl rfl (by omega) (by first | omega | (obtain ⟨_, _, _, _⟩ := hs.some_ (by omega); omega))) ?_
 refine a_v 24 rfl (by kernel_rfl) (by kernel_rfl) (by kernel_rfl) rfl rfl rfl (v_fax rfl Try.underlying48 rfl SZ3 rfl) ?_
 refine a_v 25 rfl (by kernel_rfl) (by kernel_rfl) (by kernel_rfl) rfl rfl rfl (v_ldKq (v := .int .i64 (rd_T48 l bst).f3) z48 1 rfl Try.underlying3 rfl rfl rfl rfl (by omega) (by first | omega | (obtain ⟨_, _, _, _⟩ := hs.some_ (by omega); omega)) (fun w K h => k48_at7 h)) ?_
 refine a_v 26 rfl (by kernel_rfl) (by kernel_rfl) (by kernel_rfl) rfl rfl rfl (v_ar rfl rfl rfl rfl) ?_
 refine a_v 27 rfl (by kernel_rfl) (by kernel_rfl) (by kernel_rfl) rfl rfl rfl (v_pick rfl rfl rfl rfl) ?_
 refine a_v 28 rfl (by kernel_rfl) (by kernel_rfl) (by kernel_rfl) rfl rfl rfl (v_pick rfl rfl rfl rfl) ?_
 refine a_end (by kernel_rfl) ?_
 refine q_seq ?_
 refine c_cond (t := decide (((rd_T48 l (k : Int)).f3 : Int) < ((rd_T48 l bst).f3))) rfl rfl (fun h17_ => ?_) (fun h17_ => ?_)
 have h17_d := of_decide_eq_true h17_
 refine r_ord (l := [0, 1]) rfl (by kernel_rfl) (by kernel_rfl) ?_
 refine s_v rfl rfl rfl rfl (v_mv rfl rfl) ?_
 refine s_v rfl rfl rfl rfl (v_as rfl rfl) ?_
 refine s_end ?_
 refine q_block ?_
 refine q_seq ?_
 refine r_ord (l := [0, 1, 2]) rfl (by kernel_rfl) (by kernel_rfl) ?_
 refine s_v rfl rfl rfl rfl (v_mv rfl rfl) ?_
 refine s_v rfl rfl rfl rfl (OpV.cast (v := .int .i64 ((k + 1 : Nat) : Int)) (v_ar rfl rfl rfl rfl) (addN (a := k) (b := 1) (by omega))) ?_
 refine s_v rfl rfl rfl rfl (v_as rfl rfl) ?_
 refine s_end ?_
 have hfr : free l us k = true := by unfold free; simp_all
 exact q_again (k + 1, (k : Int)) [2, 3] ⟨by omega, (hs.less (by omega) hfr h17_d)⟩ (by dsimp only; omega) (subF_spec ⟨rfl, rfl, rfl, rfl, rfl, rfl, trivial⟩) rfl (by decide)
 have h17_d := of_decide_eq_false h17_
 refine c_skip rfl ?_
 refine q_block ?_
 refine q_seq ?_
 refine r_ord (l := [0, 1, 2]) rfl (by kernel_rfl) (by kernel_rfl) ?_
 refine s_v rfl rfl rfl rfl (v_mv rfl rfl) ?_
 refine s_v rfl rfl rfl rfl (OpV.cast (v := .int .i64 ((k + 1 : Nat) : Int)) (v_ar rfl rfl rfl rfl) (addN (a := k) (b := 1) (by omega))) ?_
 refine s_v rfl rfl rfl rfl (v_as rfl rfl) ?_
 refine s_end ?_
 have hfr : free l us k = true := by unfold free; simp_all
 exact q_again (k + 1, bst) [2, 3] ⟨by omega, (hs.more (by omega) hfr h17_d)⟩ (by dsimp only; omega) (subF_spec ⟨rfl, rfl, rfl, rfl, rfl, rfl, trivial⟩) rfl (by decide)
 refine a_no 13 rfl (by kernel_rfl) (by kernel_rfl) (by kernel_rfl) rfl rfl rfl ?_
 refine a_no 14 rfl (by kernel_rfl) (by kernel_rfl) (by kernel_rfl) rfl rfl rfl ?_
 refine a_no 15 rfl (by kernel_rfl) (by kernel_rfl) (by kernel_rfl) rfl rfl rfl ?_
 refine a_no 16 rfl (by kernel_rfl) (by kernel_rfl) (by kernel_rfl) rfl rfl rfl ?_
 refine a_no 17 rfl (by kernel_rfl) (by kernel_rfl) (by kernel_rfl) rfl rfl rfl ?_
 refine a_no 18 rfl (by kernel_rfl) (by kernel_rfl) (by kernel_rfl) rfl rfl rfl ?_
 refine a_no 19 rfl (by kernel_rfl) (by kernel_rfl) (by kernel_rfl) rfl rfl rfl ?_
 refine a_no 20 rfl (by kernel_rfl) (by kernel_rfl) (by kernel_rfl) rfl rfl rfl ?_
 refine a_no 21 rfl (by kernel_rfl) (by kernel_rfl) (by kernel_rfl) rfl rfl rfl ?_
 refine a_no 22 rfl (by kernel_rfl) (by kernel_rfl) (by kernel_rfl) rfl rfl rfl ?_
 refine a_no 23 rfl (by kernel_rfl) (by kernel_rfl) (by kernel_rfl) rfl rfl rfl ?_
 refine a_no 24 rfl (by kernel_rfl) (by kernel_rfl) (by kernel_rfl) rfl rfl rfl ?_
 refine a_no 25 rfl (by kernel_rfl) (by kernel_rfl) (by kernel_rfl) rfl rfl rfl ?_
 refine a_no 26 rfl (by kernel_rfl) (by kernel_rfl) (by kernel_rfl) rfl rfl rfl ?_
 refine a_no 27 rfl (by kernel_rfl) (by kernel_rfl) (by kernel_rfl) rfl rfl rfl ?_
 refine a_v 28 rfl (by kernel_rfl) (by kernel_rfl) (by kernel_rfl) rfl rfl rfl (v_pick rfl rfl rfl rfl) ?_
 refine a_end (by kernel_rfl) ?_
 refine q_seq ?_
 refine c_cond0 rfl rfl ?_
 refine c_skip rfl ?_
 refine q_block ?_
 refine q_seq ?_
 refine r_ord (l := [0, 1, 2]) rfl (by kernel_rfl) (by kernel_rfl) ?_
 refine s_v rfl rfl rfl rfl (v_mv rfl rfl) ?_
 refine s_v rfl rfl rfl rfl (OpV.cast (v := .int .i64 ((k + 1 : Nat) : Int)) (v_ar rfl rfl rfl rfl) (addN (a := k) (b := 1) (by omega))) ?_
 refine s_v rfl rfl rfl rfl (v_as rfl rfl) ?_
 refine s_end ?_
 have hfr : free l us k = false := by unfold free; simp_all
 exact q_again (k + 1, bst) [2, 3] ⟨by omega, (hs.skip hfr)⟩ (by dsimp only; omega) (subF_spec ⟨rfl, rfl, rfl, rfl, rfl, rfl, trivial⟩) rfl (by decide)
 refine a_no 6 rfl (by kernel_rfl) (by kernel_rfl) (by kernel_rfl) rfl rfl rfl ?_
 refine a_no 7 rfl (by kernel_rfl) (by kernel_rfl) (by kernel_rfl) rfl rfl rfl ?_
 refine a_no 8 rfl (by kernel_rfl) (by kernel_rfl) (by kernel_rfl) rfl rfl rfl ?_
 refine a_no 9 rfl (by kernel_rfl) (by kernel_rfl) (by kernel_rfl) rfl rfl rfl ?_
 refine a_no 10 rfl (by kernel_rfl) (by kernel_rfl) (by kernel_rfl) rfl rfl rfl ?_
 refine a_v 11 rfl (by kernel_rfl) (by kernel_rfl) (by kernel_rfl) rfl rfl rfl (v_pick rfl rfl rfl rfl) ?_
 refine a_v 12 rfl (by kernel_rfl) (by kernel_rfl) (by kernel_rfl) rfl rfl rfl (v_mv rfl rfl) ?_
 refine a_no 13 rfl (by kernel_rfl) (by kernel_rfl) (by kernel_rfl) rfl rfl rfl ?_
 refine a_no 14 rfl (by kernel_rfl) (by kernel_rfl) (by kernel_rfl) rfl rfl rfl ?_
 refine a_no 15 rfl (by kernel_rfl) (by kernel_rfl) (by kernel_rfl) rfl rfl rfl ?_
 refine a_no 16 rfl (by kernel_rfl) (by kernel_rfl) (by kernel_rfl) rfl rfl rfl ?_
 refine a_no 17 rfl (by kernel_rfl) (by kernel_rfl) (by kernel_rfl) rfl rfl rfl ?_
 refine a_no 18 rfl (by kernel_rfl) (by kernel_rfl) (by kernel_rfl) rfl rfl rfl ?_
 refine a_no 19 rfl (by kernel_rfl) (by kernel_rfl) (by kernel_rfl) rfl rfl rfl ?_
 refine a_no 20 rfl (by kernel_rfl) (by kernel_rfl) (by kernel_rfl) rfl rfl rfl ?_
 refine a_no 21 rfl (by kernel_rfl) (by kernel_rfl) (by kernel_rfl) rfl rfl rfl ?_
 refine a_no 22 rfl (by kernel_rfl) (by kernel_rfl) (by kernel_rfl) rfl rfl rfl ?_
 refine a_no 23 rfl (by kernel_rfl) (by kernel_rfl) (by kernel_rfl) rfl rfl rfl ?_
 refine a_no 24 rfl (by kernel_rfl) (by kernel_rfl) (by kernel_rfl) rfl rfl rfl ?_
 refine a_no 25 rfl (by kernel_rfl) (by kernel_rfl) (by kernel_rfl) rfl rfl rfl ?_
 refine a_no 26 rfl (by kernel_rfl) (by kernel_rfl) (by kernel_rfl) rfl rfl rfl ?_
 refine a_no 27 rfl (by kernel_rfl) (by kernel_rfl) (by kernel_rfl) rfl rfl rfl ?_
 refine a_v 28 rfl (by kernel_rfl) (by kernel_rfl) (by kernel_rfl) rfl rfl rfl (v_pick rfl rfl rfl rfl) ?_
 refine a_end (by kernel_rfl) ?_
 refine q_seq ?_
 refine c_cond0 rfl rfl ?_
 refine c_skip rfl ?_
 refine q_block ?_
 refine q_seq ?_
 refine r_ord (l := [0, 1, 2]) rfl (by kernel_rfl) (by kernel_rfl) ?_
 refine s_v rfl rfl rfl rfl (v_mv rfl rfl) ?_
 refine s_v rfl rfl rfl rfl (OpV.cast (v := .int .i64 ((k + 1 : Nat) : Int)) (v_ar rfl rfl rfl rfl) (addN (a := k) (b := 1) (by omega))) ?_
 refine s_v rfl rfl rfl rfl (v_as rfl rfl) ?_
 refine s_end ?_
 have hfr : free l us k = false := by unfold free; simp_all
 exact q_again (k + 1, bst) [2, 3] ⟨by omega, (hs.skip hfr)⟩ (by dsimp only; omega) (subF_spec ⟨rfl, rfl, rfl, rfl, rfl, rfl, trivial⟩) rfl (by decide)
 have h3_d := of_decide_eq_false h3_
 obtain rfl : k = l.length := by omega
 refine c_exit (i := 2) rfl rfl ?_
 refine q_then_exit ?_
 refine q_then_exit ?_
 refine q_block_here rfl ?_
 refine q_seq ?_
 refine c_seq rfl ?_
 refine c_seq rfl ?_
 refine r_ord (l := [0, 1]) rfl (by kernel_rfl) (by kernel_rfl) ?_
 refine s_v rfl rfl rfl rfl (v_mv rfl rfl) ?_
 refine s_v rfl rfl rfl rfl (v_ar rfl rfl rfl rfl) ?_
 refine s_end ?_
 refine q_seq ?_
 refine c_cond (t := decide ((bst : Int) < 0)) rfl rfl (fun h18_ => ?_) (fun h18_ => ?_)
 have h18_d := of_decide_eq_true h18_
 refine c_seq rfl ?_
 refine r_ord (l := [0, 1]) rfl (by kernel_rfl) (by kernel_rfl) ?_
 refine s_v rfl rfl rfl rfl (v_mv rfl rfl) ?_
 refine s_v rfl rfl rfl rfl (v_as rfl rfl) ?_
 refine s_end ?_
 refine q_seq ?_
 refine c_ret rfl ?_
 refine q_then_ret ?_
 refine q_block_ret ?_
 refine q_then_ret ?_
 refine q_then_ret ?_
 refine q_block_ret ?_
 refine q_then_ret ?_
 have hpm := ho.perm (fun k hk => (hs.none_ (by omega)).2 k hk)
 subst hq_
 refine q_know (KC_nil (Kd.int .i64)) ?_
 refine q_take [0] rfl (by decide) ?_
 exact q_post rfl (.cons rfl (.nil)) (hX none 0 [] hpm (pair_ss ho.srt))
 have h18_d := of_decide_eq_false h18_
 refine c_skip rfl ?_
 refine q_seq ?_
 refine c_seq rfl ?_
 obtain ⟨b, rfl, hb1, hb2, hb3⟩ := hs.some_ (by omega)
 have hbi := hs
 refine r_ord (l := [0, 1, 2, 3]) rfl (by kernel_rfl) (by kernel_rfl) ?_
 refine s_v rfl rfl rfl rfl (v_mv rfl rfl) ?_
 refine s_v rfl rfl rfl rfl (v_mv rfl rfl) ?_
 refine s_v rfl rfl rfl rfl (v_iaO (j := b) rfl Try.underlying59 SZ4 rfl rfl (by omega)) ?_
 refine s_e rfl rfl (e_stB 0 rfl rfl SZ4 rfl rfl rfl (by omega)) ?_
 refine s_end ?_
 refine q_seq ?_
 refine r_ord (l := [0, 1, 2, 3, 4]) rfl (by kernel_rfl) (by kernel_rfl) ?_
 refine s_v rfl rfl rfl rfl (v_mv rfl rfl) ?_
 refine s_v rfl rfl rfl rfl (v_mv rfl rfl) ?_
 refine s_e rfl rfl (e_bslice #[.int .i64 (b : Int)] (.int .i64 0) rfl rfl rfl Try.underlying25 SZ3 ZR3 (by decide) rfl (by kernel_rfl)) ?_
 intro b19_
 refine s_e rfl rfl (e_app_nil (z := (.int .i64 0)) (m := 1) (bytes := 8) (k := 1) (news := [.int .i64 (b : Int)]) (i := 0) rfl rfl rfl rfl rfl rfl Try.underlying25 (by kernel_rfl) rfl (by decide) rfl rfl rfl rfl rfl (by simp [Value.oneCell']) (by decide) (by decide) (by decide)) ?_
 intro g20_ cap21_ cur22_ h23_ h24_ h25_ h26_
 refine s_v rfl rfl rfl rfl (v_as rfl rfl) ?_
 refine s_end ?_
 refine q_block ?_
 refine q_seq ?_
 refine r_ord (l := [0, 1, 2]) rfl (by kernel_rfl) (by kernel_rfl) ?_
 refine s_v rfl rfl rfl rfl (v_mv rfl rfl) ?_
 refine s_v rfl rfl rfl rfl (OpV.cast (v := .int .i64 ((r + 1 : Nat) : Int)) (v_ar rfl rfl rfl rfl) (addN (a := r) (b := 1) (by omega))) ?_
 refine s_v rfl rfl rfl rfl (v_as rfl rfl) ?_
 refine s_end ?_
 exact q_again (r + 1, us.set b true, ys ++ [(b : Int)], some (1, g20_, cap21_, cur22_)) [2, 3, 0] ⟨ho.step hrl2 hbi, (QN.first hq_ h23_ h24_ h25_ h26_)⟩ (by show l.length - (r + 1) < l.length - r; omega) (subF_spec ⟨rfl, rfl, rfl, rfl, trivial⟩) rfl (by decide)
 have h2_d := of_decide_eq_false h2_
 obtain rfl : r = l.length := by omega
 have hfin := ho.full
 refine c_exit (i := 0) rfl rfl ?_
 refine q_then_exit ?_
 refine q_then_exit ?_
 refine q_block_here rfl ?_
 refine q_seq ?_
 refine c_seq rfl ?_
 refine r_ord (l := [0, 1]) rfl (by kernel_rfl) (by kernel_rfl) ?_
 refine s_v rfl rfl rfl rfl (v_mv rfl rfl) ?_
 refine s_v rfl rfl rfl rfl (v_as rfl rfl) ?_
 refine s_end ?_
 refine q_seq ?_
 refine c_ret rfl ?_
 have hpm := ho.perm hfin
 subst hq_
 refine q_know (KC_nil (Kd.int .i64)) ?_
 refine q_take [0] rfl (by decide) ?_
 exact q_post rfl (.cons rfl (.nil)) (hX none 0 [] hpm (pair_ss ho.srt))
 have ho : OI l r us ys := hs.1
 have ho2 := hs.2
 have hul := ho.ul
 have hrl := ho.rl
 have hyl := ho.yl
 obtain ⟨hn0, hn1, hr1_, hr2_, hr3_, hr4_⟩ : n = ys.length ∧ 0 < n ∧ n ≤ cap ∧ cap ≤ maxLen ∧ cur.size = cap * 1 ∧ cur.toList.take (n * 1) = ys.map (Value.int .i64) := hs.2
 refine c_seq rfl ?_
 refine c_seq rfl ?_
 refine r_ord (l := [0, 1, 2, 3]) rfl (by kernel_rfl) (by kernel_rfl) ?_
 refine s_v rfl rfl rfl rfl (v_mv rfl rfl) ?_
 refine s_v rfl rfl rfl rfl (v_mv rfl rfl) ?_
 refine s_v rfl rfl rfl rfl (v_len rfl rfl rfl Try.underlying22 rfl rfl) ?_
 refine s_v rfl rfl rfl rfl (v_ar rfl rfl rfl rfl) ?_
 refine s_end ?_
 refine q_seq ?_
 refine c_cond (t := decide (((r : Int) : Int) < (l.length : Nat))) rfl rfl (fun h27_ => ?_) (fun h27_ => ?_)
 have h27_d := of_decide_eq_true h27_
 have hrl2 : r < l.length := by omega
 refine c_skip rfl ?_
 refine q_seq ?_
 refine c_seq rfl ?_
 refine c_block rfl ?_
 refine c_seq rfl ?_
 refine r_ord (l := [0]) rfl (by kernel_rfl) (by kernel_rfl) ?_
 refine s_v rfl rfl rfl rfl (v_as rfl rfl) ?_
 refine s_end ?_
 refine q_seq ?_
 refine c_seq rfl ?_
 refine c_seq rfl ?_
 refine r_ord (l := [0]) rfl (by kernel_rfl) (by kernel_rfl) ?_
 refine s_v rfl rfl rfl rfl (v_as rfl rfl) ?_
 refine s_end ?_
 refine q_seq ?_
 refine c_block rfl ?_
 refine c_loop (σ := (Nat × Int)) (fun s : (Nat × Int) => match s with | (k, bst) => k ≤ l.length ∧ BI l us k bst) (fun s : (Nat × Int) => match s with | (k, bst) => l.length - k) (fun s : (Nat × Int) => match s with | (k, bst) => [(0, .slice A l.length c), (3, .slice (some ⟨g, 0, none⟩) n cap), (4, .slice (some ⟨g1_, 0, none⟩) l.length l.length), (5, .int .i64 (r : Int)), (6, .int .i64 bst), (7, .int .i64 (k : Int))]) (fun s : (Nat × Int) => match s with | (k, bst) => [.b g1_ (.cells (RowB us) 4 (0, 0)), .f (KC k48 A c l), .b g (.cells cur 3 (0, 0))]) (0, -1) [0, 1, 2] rfl ⟨Nat.zero_le _, BI.start l us⟩ (subF_spec ⟨rfl, rfl, rfl, rfl, rfl, rfl, trivial⟩) rfl (by decide) ?_
 rintro ⟨k, bst⟩ hs
 have hkle : k ≤ l.length := hs.1
 have hs : BI l us k bst := hs.2
 refine c_seq rfl ?_
 refine c_seq rfl ?_
 refine r_ord (l := [0, 1, 2, 3]) rfl (by kernel_rfl) (by kernel_rfl) ?_
 refine s_v rfl rfl rfl rfl (v_mv rfl rfl) ?_
 refine s_v rfl rfl rfl rfl (v_mv rfl rfl) ?_
 refine s_v rfl rfl rfl rfl (v_len rfl rfl rfl Try.underlying22 rfl rfl) ?_
 refine s_v rfl rfl rfl rfl (v_ar rfl rfl rfl rfl) ?_
 refine s_end ?_
 refine q_seq ?_
 refine c_cond (t := decide (((k : Int) : Int) < (l.length : Nat))) rfl rfl (fun h28_ => ?_) (fun h28_ => ?_)
 have h28_d := of_decide_eq_true h28_
 have hkl : k < l.length := by omega
 refine c_skip rfl ?_
 refine q_seq ?_
 refine c_seq rfl ?_
 refine c_block rfl ?_
 refine c_seq rfl ?_
 refine r_any [.b g1_ (.cells (RowB us) 4 (0, 0)), .f (KC k48 A c l), .b g (.cells cur 3 (0, 0))] (by kernel_rfl) rfl (by kernel_rfl) (mem_pick (idx := [0, 1, 2]) rfl) ?_
 refine a_v 0 rfl (by kernel_rfl) (by kernel_rfl) (by kernel_rfl) rfl rfl rfl (v_mv rfl rfl) ?_
 refine a_v 1 rfl (by kernel_rfl) (by kernel_rfl) (by kernel_rfl) rfl rfl rfl (v_mv rfl rfl) ?_
 refine a_v 2 rfl (by kernel_rfl) (by kernel_rfl) (by kernel_rfl) rfl rfl rfl (v_iaK (i := 1) rfl Try.underlying22 SZ48 rfl rfl rfl rfl (by omega) (by first | omega | (obtain ⟨_, _, _, _⟩ := hs.some_ (by omega); omega))) ?_
 refine a_1 (i := 3) (by kernel_rfl) ?_
 refine i_e rfl rfl (e_ldKX z48 1 rfl rfl rfl Try.underlying48 rfl SZ48 rfl rfl rfl (by omega) (by first | omega | (obtain ⟨_, _, _, _⟩ := hs.some_ (by omega); omega))) ?_
 intro cs34_ h35_
 refine ⟨(mem_pick (idx := [1, 2, 3]) rfl), ?_⟩
 refine a_know 0 rfl (fun w h => k48_sh h) (fun h36_ => ?_)
 obtain ⟨A37_, c38_, rfl⟩ := h36_
 refine a_weak 0 rfl (fun w h => k48_row h) ?_
 refine a_1 (i := 4) (by kernel_rfl) ?_
 refine i_e rfl rfl (e_callF [0] #[.agg #[.int .i64 ((rd_T48 l (k : Int)).f0), .int .i64 ((rd_T48 l (k : Int)).f1.f0), .int .u64 ((rd_T48 l (k : Int)).f1.f1), .int .u64 ((rd_T48 l (k : Int)).f1.f2), .int .i64 ((rd_T48 l (k : Int)).f1.f3), .int .i64 ((rd_T48 l (k : Int)).f1.f4), .int .i64 ((rd_T48 l (k : Int)).f2), .int .i64 ((rd_T48 l (k : Int)).f3), .int .i64 ((rd_T48 l (k : Int)).f4), .bool ((rd_T48 l (k : Int)).f5), .bool ((rd_T48 l (k : Int)).f6.f0), .bool ((rd_T48 l (k : Int)).f6.f1), .int .u64 ((rd_T48 l (k : Int)).f6.f2), .slice A37_ ((rd_T48 l (k : Int)).f6.f3.length) c38_]] rfl rfl rfl rfl rfl Try.func29 rfl (by decide) rfl rfl rfl rfl (fun w ht => happ_con (rd_T48 l (k : Int)) A37_ c38_ w _)) ?_
 refine ⟨(mem_pick (idx := [2, 3, 4]) rfl), ?_⟩
 refine a_v 5 rfl (by kernel_rfl) (by kernel_rfl) (by kernel_rfl) rfl rfl rfl (v_mv rfl rfl) ?_
 refine a_splitv (d := 28) (t := hapB (rd_T48 l (k : Int))) rfl (fun h39_ => ?_) (fun h39_ => ?_)
 refine a_v 6 rfl (by kernel_rfl) (by kernel_rfl) (by kernel_rfl) rfl rfl rfl (v_mv rfl rfl) ?_
 refine a_v 7 rfl (by kernel_rfl) (by kernel_rfl) (by kernel_rfl) rfl rfl rfl (v_mv rfl rfl) ?_
 refine a_v 8 rfl (by kernel_rfl) (by kernel_rfl) (by kernel_rfl) rfl rfl rfl (v_iaO (j := k) rfl Try.underlying59 SZ4 rfl rfl (by omega)) ?_
 refine a_v 9 rfl (by kernel_rfl) (by kernel_rfl) (by kernel_rfl) rfl rfl rfl (v_ldB 0 rfl Try.underlying4 rfl rfl rfl (by omega)) ?_
 refine a_v 10 rfl (by kernel_rfl) (by kernel_rfl) (by kernel_rfl) rfl rfl rfl (v_not rfl rfl) ?_
 refine a_v 11 rfl (by kernel_rfl) (by kernel_rfl) (by kernel_rfl) rfl rfl rfl (v_pick rfl rfl rfl rfl) ?_
 refine a_v 12 rfl (by kernel_rfl) (by kernel_rfl) (by kernel_rfl) rfl rfl rfl (v_mv rfl rfl) ?_
 refine a_splitv (d := 35) (t := !(us.getD k false)) rfl (fun h40_ => ?_) (fun h40_ => ?_)
 refine a_v 13 rfl (by kernel_rfl) (by kernel_rfl) (by kernel_rfl) rfl rfl rfl (v_mv rfl rfl) ?_
 refine a_v 14 rfl (by kernel_rfl) (by kernel_rfl) (by kernel_rfl) rfl rfl rfl (v_ar rfl rfl rfl rfl) ?_
 refine a_v 15 rfl (by kernel_rfl) (by kernel_rfl) (by kernel_rfl) rfl rfl rfl (v_mv rfl rfl) ?_
 refine a_splitv (d := 38) (t := decide ((bst : Int) < 0)) rfl (fun h41_ => ?_) (fun h41_ => ?_)
 have h41_d := of_decide_eq_true h41_
 refine a_no 16 rfl (by kernel_rfl) (by kernel_rfl) (by kernel_rfl) rfl rfl rfl ?_
 refine a_no 17 rfl (by kernel_rfl) (by kernel_rfl) (by kernel_rfl) rfl rfl rfl ?_
 refine a_no 18 rfl (by kernel_rfl) (by kernel_rfl) (by kernel_rfl) rfl rfl rfl ?_
 refine a_no 19 rfl (by kernel_rfl) (by kernel_rfl) (by kernel_rfl) rfl rfl rfl ?_
 refine a_no 20 rfl (by kernel_rfl) (by kernel_rfl) (by kernel_rfl) rfl rfl rfl ?_
 refine a_no 21 rfl (by kernel_rfl) (by kernel_rfl) (by kernel_rfl) rfl rfl rfl ?_
 refine a_no 22 rfl (by kernel_rfl) (by kernel_rfl) (by kernel_rfl) rfl rfl rfl ?_
 refine a_no 23 rfl (by kernel_rfl) (by kernel_rfl) (by kernel_rfl) rfl rfl rfl ?_
 refine a_no 24 rfl (by kernel_rfl) (by kernel_rfl) (by kernel_rfl) rfl rfl rfl ?_
 refine a_no 25 rfl (by kernel_rfl) (by kernel_rfl) (by kernel_rfl) rfl rfl rfl ?_
 refine a_no 26 rfl (by kernel_rfl) (by kernel_rfl) (by kernel_rfl) rfl rfl rfl ?_
 refine a_v 27 rfl (by kernel_rfl) (by kernel_rfl) (by kernel_rfl) rfl rfl rfl (v_pick rfl rfl rfl rfl) ?_
 refine a_v 28 rfl (by kernel_rfl) (by kernel_rfl) (by kernel_rfl) rfl rfl rfl (v_pick rfl rfl rfl rfl) ?_
 refine a_end (by kernel_rfl) ?_
 refine q_seq ?_
 refine c_cond1 rfl rfl ?_
 refine r_ord (l := [0, 1]) rfl (by kernel_rfl) (by kernel_rfl) ?_
 refine s_v rfl rfl rfl rfl (v_mv rfl rfl) ?_
 refine s_v rfl rfl rfl rfl (v_as rfl rfl) ?_
 refine s_end ?_
 refine q_block ?_
 refine q_seq ?_
 refine r_ord (l := [0, 1, 2]) rfl (by kernel_rfl) (by kernel_rfl) ?_
 refine s_v rfl rfl rfl rfl (v_mv rfl rfl) ?_
 refine s_v rfl rfl rfl rfl (OpV.cast (v := .int .i64 ((k + 1 : Nat) : Int)) (v_ar rfl rfl rfl rfl) (addN (a := k) (b := 1) (by omega))) ?_
 refine s_v rfl rfl rfl rfl (v_as rfl rfl) ?_
 refine s_end ?_
 have hfr : free l us k = true := by unfold free; simp_all
 exact q_again (k + 1, (k : Int)) [2, 3, 4] ⟨by omega, (hs.first (by omega) hfr)⟩ (by dsimp only; omega) (subF_spec ⟨rfl, rfl, rfl, rfl, rfl, rfl, trivial⟩) rfl (by decide)
 have h41_d := of_decide_eq_false h41_
 refine a_v 16 rfl (by kernel_rfl) (by kernel_rfl) (by kernel_rfl) rfl rfl rfl (v_mv rfl rfl) ?_
 refine a_v 17 rfl (by kernel_rfl) (by kernel_rfl) (by kernel_rfl) rfl rfl rfl (v_mv rfl rfl) ?_
 refine a_v 18 rfl (by kernel_rfl) (by kernel_rfl) (by kernel_rfl) rfl rfl rfl (v_iaK (i := 1) rfl Try.underlying22 SZ48 rfl rfl rfl rfl (by omega) (by first | omega | (obtain ⟨_, _, _, _⟩ := hs.some_ (by omega); omega))) ?_
 refine a_v 19 rfl (by kernel_rfl) (by kernel_rfl) (by kernel_rfl) rfl rfl rfl (v_fax rfl Try.underlying48 rfl SZ3 rfl) ?_
 refine a_v 20 rfl (by kernel_rfl) (by kernel_rfl) (by kernel_rfl) rfl rfl rfl (v_ldKq (v := .int .i64 (rd_T48 l (k : Int)).f3) z48 1 rfl Try.underlying3 rfl rfl rfl rfl (by omega) (by first | omega | (obtain ⟨_, _, _, _⟩ := hs.some_ (by omega); omega)) (fun w K h => k48_at7 h)) ?_
 refine a_v 21 rfl (by kernel_rfl) (by kernel_rfl) (by kernel_rfl) rfl rfl rfl (v_mv rfl rfl) ?_
 refine a_v 22 rfl (by kernel_rfl) (by kernel_rfl) (by kernel_rfl) rfl rfl rfl (v_mv rfl rfl) ?_
 refine a_v 23 rfl (by kernel_rfl) (by kernel_rfl) (by kernel_rfl) rfl rfl rfl (v_iaK (i := 1) rfl Try.underlying22 SZ48 rfl rfl rfl rfl (by omega) (by first | omega | (obtain ⟨_, _, _, _⟩ := hs.some_ (by omega); omega))) ?_
 refine a_v 24 rfl (by kernel_rfl) (by kernel_rfl) (by kernel_rfl) rfl rfl rfl (v_fax rfl Try.underlying48 rfl SZ3 rfl) ?_
 refine a_v 25 rfl (by kernel_rfl) (by kernel_rfl) (by kernel_rfl) rfl rfl rfl (v_ldKq (v := .int .i64 (rd_T48 l bst).f3) z48 1 rfl Try.underlying3 rfl rfl rfl rfl (by omega) (by first | omega | (obtain ⟨_, _, _, _⟩ := hs.some_ (by omega); omega)) (fun w K h => k48_at7 h)) ?_
 refine a_v 26 rfl (by kernel_rfl) (by kernel_rfl) (by kernel_rfl) rfl rfl rfl (v_ar rfl rfl rfl rfl) ?_
 refine a_v 27 rfl (by kernel_rfl) (by kernel_rfl) (by kernel_rfl) rfl rfl rfl (v_pick rfl rfl rfl rfl) ?_
 refine a_v 28 rfl (by kernel_rfl) (by kernel_rfl) (by kernel_rfl) rfl rfl rfl (v_pick rfl rfl rfl rfl) ?_
 refine a_end (by kernel_rfl) ?_
 refine q_seq ?_
 refine c_cond (t := decide (((rd_T48 l (k : Int)).f3 : Int) < ((rd_T48 l bst).f3))) rfl rfl (fun h42_ => ?_) (fun h42_ => ?_)
 have h42_d := of_decide_eq_true h42_
 refine r_ord (l := [0, 1]) rfl (by kernel_rfl) (by kernel_rfl) ?_
 refine s_v rfl rfl rfl rfl (v_mv rfl rfl) ?_
 refine s_v rfl rfl rfl rfl (v_as rfl rfl) ?_
 refine s_end ?_
 refine q_block ?_
 refine q_seq ?_
 refine r_ord (l := [0, 1, 2]) rfl (by kernel_rfl) (by kernel_rfl) ?_
 refine s_v rfl rfl rfl rfl (v_mv rfl rfl) ?_
 refine s_v rfl rfl rfl rfl (OpV.cast (v := .int .i64 ((k + 1 : Nat) : Int)) (v_ar rfl rfl rfl rfl) (addN (a := k) (b := 1) (by omega))) ?_
 refine s_v rfl rfl rfl rfl (v_as rfl rfl) ?_
 refine s_end ?_
 have hfr : free l us k = true := by unfold free; simp_all
 exact q_again (k + 1, (k : Int)) [2, 3, 4] ⟨by omega, (hs.less (by omega) hfr h42_d)⟩ (by dsimp only; omega) (subF_spec ⟨rfl, rfl, rfl, rfl, rfl, rfl, trivial⟩) rfl (by decide)
 have h42_d := of_decide_eq_false h42_
 refine c_skip rfl ?_
 refine q_block ?_
 refine q_seq ?_
 refine r_ord (l := [0, 1, 2]) rfl (by kernel_rfl) (by kernel_rfl) ?_
 refine s_v rfl rfl rfl rfl (v_mv rfl rfl) ?_
 refine s_v rfl rfl rfl rfl (OpV.cast (v := .int .i64 ((k + 1 : Nat) : Int)) (v_ar rfl rfl rfl rfl) (addN (a := k) (b := 1) (by omega))) ?_
 refine s_v rfl rfl rfl rfl (v_as rfl rfl) ?_
 refine s_end ?_
 have hfr : free l us k = true := by unfold free; simp_all
 exact q_again (k + 1, bst) [2, 3, 4] ⟨by omega, (hs.more (by omega) hfr h42_d)⟩ (by dsimp only; omega) (subF_spec ⟨rfl, rfl, rfl, rfl, rfl, rfl, trivial⟩) rfl (by decide)
 refine a_no 13 rfl (by kernel_rfl) (by kernel_rfl) (by kernel_rfl) rfl rfl rfl ?_
 refine a_no 14 rfl (by kernel_rfl) (by kernel_rfl) (by kernel_rfl) rfl rfl rfl ?_
 refine a_no 15 rfl (by kernel_rfl) (by kernel_rfl) (by kernel_rfl) rfl rfl rfl ?_
 refine a_no 16 rfl (by kernel_rfl) (by kernel_rfl) (by kernel_rfl) rfl rfl rfl ?_
 refine a_no 17 rfl (by kernel_rfl) (by kernel_rfl) (by kernel_rfl) rfl rfl rfl ?_
 refine a_no 18 rfl (by kernel_rfl) (by kernel_rfl) (by kernel_rfl) rfl rfl rfl ?_
 refine a_no 19 rfl (by kernel_rfl) (by kernel_rfl) (by kernel_rfl) rfl rfl rfl ?_
 refine a_no 20 rfl (by kernel_rfl) (by kernel_rfl) (by kernel_rfl) rfl rfl rfl ?_
 refine a_no 21 rfl (by kernel_rfl) (by kernel_rfl) (by kernel_rfl) rfl rfl rfl ?_
 refine a_no 22 rfl (by kernel_rfl) (by kernel_rfl) (by kernel_rfl) rfl rfl rfl ?_
 refine a_no 23 rfl (by kernel_rfl) (by kernel_rfl) (by kernel_rfl) rfl rfl rfl ?_
 refine a_no 24 rfl (by kernel_rfl) (by kernel_rfl) (by kernel_rfl) rfl rfl rfl ?_
 refine a_no 25 rfl (by kernel_rfl) (by kernel_rfl) (by kernel_rfl) rfl rfl rfl ?_
 refine a_no 26 rfl (by kernel_rfl) (by kernel_rfl) (by kernel_rfl) rfl rfl rfl ?_
 refine a_no 27 rfl (by kernel_rfl) (by kernel_rfl) (by kernel_rfl) rfl rfl rfl ?_
 refine a_v 28 rfl (by kernel_rfl) (by kernel_rfl) (by kernel_rfl) rfl rfl rfl (v_pick rfl rfl rfl rfl) ?_
 refine a_end (by kernel_rfl) ?_
 refine q_seq ?_
 refine c_cond0 rfl rfl ?_
 refine c_skip rfl ?_
 refine q_block ?_
 refine q_seq ?_
 refine r_ord (l := [0, 1, 2]) rfl (by kernel_rfl) (by kernel_rfl) ?_
 refine s_v rfl rfl rfl rfl (v_mv rfl rfl) ?_
 refine s_v rfl rfl rfl rfl (OpV.cast (v := .int .i64 ((k + 1 : Nat) : Int)) (v_ar rfl rfl rfl rfl) (addN (a := k) (b := 1) (by omega))) ?_
 refine s_v rfl rfl rfl rfl (v_as rfl rfl) ?_
 refine s_end ?_
 have hfr : free l us k = false := by unfold free; simp_all
 exact q_again (k + 1, bst) [2, 3, 4] ⟨by omega, (hs.skip hfr)⟩ (by dsimp only; omega) (subF_spec ⟨rfl, rfl, rfl, rfl, rfl, rfl, trivial⟩) rfl (by decide)
 refine a_no 6 rfl (by kernel_rfl) (by kernel_rfl) (by kernel_rfl) rfl rfl rfl ?_
 refine a_no 7 rfl (by kernel_rfl) (by kernel_rfl) (by kernel_rfl) rfl rfl rfl ?_
 refine a_no 8 rfl (by kernel_rfl) (by kernel_rfl) (by kernel_rfl) rfl rfl rfl ?_
 refine a_no 9 rfl (by kernel_rfl) (by kernel_rfl) (by kernel_rfl) rfl rfl rfl ?_
 refine a_no 10 rfl (by kernel_rfl) (by kernel_rfl) (by kernel_rfl) rfl rfl rfl ?_
 refine a_v 11 rfl (by kernel_rfl) (by kernel_rfl) (by kernel_rfl) rfl rfl rfl (v_pick rfl rfl rfl rfl) ?_
 refine a_v 12 rfl (by kernel_rfl) (by kernel_rfl) (by kernel_rfl) rfl rfl rfl (v_mv rfl rfl) ?_
 refine a_no 13 rfl (by kernel_rfl) (by kernel_rfl) (by kernel_rfl) rfl rfl rfl ?_
 refine a_no 14 rfl (by kernel_rfl) (by kernel_rfl) (by kernel_rfl) rfl rfl rfl ?_
 refine a_no 15 rfl (by kernel_rfl) (by kernel_rfl) (by kernel_rfl) rfl rfl rfl ?_
 refine a_no 16 rfl (by kernel_rfl) (by kernel_rfl) (by kernel_rfl) rfl rfl rfl ?_
 refine a_no 17 rfl (by kernel_rfl) (by kernel_rfl) (by kernel_rfl) rfl rfl rfl ?_
 refine a_no 18 rfl (by kernel_rfl) (by kernel_rfl) (by kernel_rfl) rfl rfl rfl ?_
 refine a_no 19 rfl (by kernel_rfl) (by kernel_rfl) (by kernel_rfl) rfl rfl rfl ?_
 refine a_no 20 rfl (by kernel_rfl) (by kernel_rfl) (by kernel_rfl) rfl rfl rfl ?_
 refine a_no 21 rfl (by kernel_rfl) (by kernel_rfl) (by kernel_rfl) rfl rfl rfl ?_
 refine a_no 22 rfl (by kernel_rfl) (by kernel_rfl) (by kernel_rfl) rfl rfl rfl ?_
 refine a_no 23 rfl (by kernel_rfl) (by kernel_rfl) (by kernel_rfl) rfl rfl rfl ?_
 refine a_no 24 rfl (by kernel_rfl) (by kernel_rfl) (by kernel_rfl) rfl rfl rfl ?_
 refine a_no 25 rfl (by kernel_rfl) (by kernel_rfl) (by kernel_rfl) rfl rfl rfl ?_
 refine a_no 26 rfl (by kernel_rfl) (by kernel_rfl) (by kernel_rfl) rfl rfl rfl ?_
 refine a_no 27 rfl (by kernel_rfl) (by kernel_rfl) (by kernel_rfl) rfl rfl rfl ?_
 refine a_v 28 rfl (by kernel_rfl) (by kernel_rfl) (by kernel_rfl) rfl rfl rfl (v_pick rfl rfl rfl rfl) ?_
 refine a_end (by kernel_rfl) ?_
 refine q_seq ?_
 refine c_cond0 rfl rfl ?_
 refine c_skip rfl ?_
 refine q_block ?_
 refine q_seq ?_
 refine r_ord (l := [0, 1, 2]) rfl (by kernel_rfl) (by kernel_rfl) ?_
 refine s_v rfl rfl rfl rfl (v_mv rfl rfl) ?_
 refine s_v rfl rfl rfl rfl (OpV.cast (v := .int .i64 ((k + 1 : Nat) : Int)) (v_ar rfl rfl rfl rfl) (addN (a := k) (b := 1) (by omega))) ?_
 refine s_v rfl rfl rfl rfl (v_as rfl rfl) ?_
 refine s_end ?_
 have hfr : free l us k = false := by unfold free; simp_all
 exact q_again (k + 1, bst) [2, 3, 4] ⟨by omega, (hs.skip hfr)⟩ (by dsimp only; omega) (subF_spec ⟨rfl, rfl, rfl, rfl, rfl, rfl, trivial⟩) rfl (by decide)
 have h28_d := of_decide_eq_false h28_
 obtain rfl : k = l.length := by omega
 refine c_exit (i := 2) rfl rfl ?_
 refine q_then_exit ?_
 refine q_then_exit ?_
 refine q_block_here rfl ?_
 refine q_seq ?_
 refine c_seq rfl ?_
 refine c_seq rfl ?_
 refine r_ord (l := [0, 1]) rfl (by kernel_rfl) (by kernel_rfl) ?_
 refine s_v rfl rfl rfl rfl (v_mv rfl rfl) ?_
 refine s_v rfl rfl rfl rfl (v_ar rfl rfl rfl rfl) ?_
 refine s_end ?_
 refine q_seq ?_
 refine c_cond (t := decide ((bst : Int) < 0)) rfl rfl (fun h43_ => ?_) (fun h43_ => ?_)
 have h43_d := of_decide_eq_true h43_
 refine c_seq rfl ?_
 refine r_ord (l := [0, 1]) rfl (by kernel_rfl) (by kernel_rfl) ?_
 refine s_v rfl rfl rfl rfl (v_mv rfl rfl) ?_
 refine s_v rfl rfl rfl rfl (v_as rfl rfl) ?_
 refine s_end ?_
 refine q_seq ?_
 refine c_ret rfl ?_
 refine q_then_ret ?_
 refine q_block_ret ?_
 refine q_then_ret ?_
 refine q_then_ret ?_
 refine q_block_ret ?_
 refine q_then_ret ?_
 have hpm := ho.perm (fun k hk => (hs.none_ (by omega)).2 k hk)
 subst hn0
 refine q_give [2] rfl (by decide) (by simp [ids, Ent.id?]) (KC_own (k := .i64) (cap := cap) (xs := ys) hr4_ (by omega) hr2_) ?_
 exact q_post rfl (.cons rfl (.nil)) (hX (some ⟨g, 0, none⟩) cap ys hpm (pair_ss ho.srt))
 have h43_d := of_decide_eq_false h43_
 refine c_skip rfl ?_
 refine q_seq ?_
 refine c_seq rfl ?_
 obtain ⟨b, rfl, hb1, hb2, hb3⟩ := hs.some_ (by omega)
 have hbi := hs
 refine r_ord (l := [0, 1, 2, 3]) rfl (by kernel_rfl) (by kernel_rfl) ?_
 refine s_v rfl rfl rfl rfl (v_mv rfl rfl) ?_
 refine s_v rfl rfl rfl rfl (v_mv rfl rfl) ?_
 refine s_v rfl rfl rfl rfl (v_iaO (j := b) rfl Try.underlying59 SZ4 rfl rfl (by omega)) ?_
 refine s_e rfl rfl (e_stB 0 rfl rfl SZ4 rfl rfl rfl (by omega)) ?_
 refine s_end ?_
 refine q_seq ?_
 refine r_ord (l := [0, 1, 2, 3, 4]) rfl (by kernel_rfl) (by kernel_rfl) ?_
 refine s_v rfl rfl rfl rfl (v_mv rfl rfl) ?_
 refine s_v rfl rfl rfl rfl (v_mv rfl rfl) ?_
 refine s_e rfl rfl (e_bslice #[.int .i64 (b : Int)] (.int .i64 0) rfl rfl rfl Try.underlying25 SZ3 ZR3 (by decide) rfl (by kernel_rfl)) ?_
 intro b44_
 refine s_e rfl rfl (e_app (z := (.int .i64 0)) (m := 1) (bytes := 8) (k := 1) (news := [.int .i64 (b : Int)]) (i := 0) (j := 3) rfl rfl rfl rfl rfl rfl Try.underlying25 (by kernel_rfl) rfl (by decide) rfl rfl hr1_ hr2_ hr3_ rfl rfl rfl rfl rfl (by simp [Value.oneCell']) (by omega) (by simp only [maxLen]; omega)) ?_
 intro g45_ cap46_ cur47_ h48_ h49_ h50_ h51_
 refine s_v rfl rfl rfl rfl (v_as rfl rfl) ?_
 refine s_end ?_
 refine q_block ?_
 refine q_seq ?_
 refine r_ord (l := [0, 1, 2]) rfl (by kernel_rfl) (by kernel_rfl) ?_
 refine s_v rfl rfl rfl rfl (v_mv rfl rfl) ?_
 refine s_v rfl rfl rfl rfl (OpV.cast (v := .int .i64 ((r + 1 : Nat) : Int)) (v_ar rfl rfl rfl rfl) (addN (a := r) (b := 1) (by omega))) ?_
 refine s_v rfl rfl rfl rfl (v_as rfl rfl) ?_
 refine s_end ?_
 exact q_again (r + 1, us.set b true, ys ++ [(b : Int)], some (n + 1, g45_, cap46_, cur47_)) [1, 2, 3] ⟨ho.step hrl2 hbi, (QN.next ho2 h48_ h49_ h50_ h51_)⟩ (by show l.length - (r + 1) < l.length - r; omega) (subF_spec ⟨rfl, rfl, rfl, rfl, trivial⟩) rfl (by decide)
 have h27_d := of_decide_eq_false h27_
 obtain rfl : r = l.length := by omega
 have hfin := ho.full
 refine c_exit (i := 0) rfl rfl ?_
 refine q_then_exit ?_
 refine q_then_exit ?_
 refine q_block_here rfl ?_
 refine q_seq ?_
 refine c_seq rfl ?_
 refine r_ord (l := [0, 1]) rfl (by kernel_rfl) (by kernel_rfl) ?_
 refine s_v rfl rfl rfl rfl (v_mv rfl rfl) ?_
 refine s_v rfl rfl rfl rfl (v_as rfl rfl) ?_
 refine s_end ?_
 refine q_seq ?_
 refine c_ret rfl ?_
 have hpm := ho.perm hfin
 subst hn0
 refine q_give [2] rfl (by decide) (by simp [ids, Ent.id?]) (KC_own (k := .i64) (cap := cap) (xs := ys) hr4_ (by omega) hr2_) ?_
 exact q_post rfl (.cons rfl (.nil)) (hX (some ⟨g, 0, none⟩) cap ys hpm (pair_ss ho.srt))
end Go.Eng
namespace Go.Eng
open Go.Proofs Go.RowKit Go.Proofs.YtiihjijmmephlaaW.PrintWords Go.Proofs.Ytiihjijmmephlaa.GHist
set_option linter.unusedVariables false
set_option linter.unusedSimpArgs false
theorem KC_ofReps {α : Type} {d : Kd α} {g cap e : Nat} {cur : Array Value} {xs : List α} {inner : List Value} {w : World} (hg : w.heap[g]? = some (.cells cur e (0, 0))) (hr : Reps (d.K w) d.sz xs inner) (htk : cur.toList.take (xs.length * d.sz) = inner) (hc : xs.length ≤ cap) (hm : cap ≤ maxLen) : KC d (some ⟨g, 0, none⟩) cap xs w := by
  refine ⟨⟨rfl, by simp only [maxLen] at hm; omega, fun _ => ⟨_, rfl, fun j p hj => ?_⟩⟩, hc⟩
  obtain ⟨hlt, _⟩ := List.getElem?_eq_some_iff.1 hj
  have hl : (inner.drop (j * d.sz)).length ≥ d.sz := by
    rw [List.length_drop, hr.1]
    have : (j + 1) * d.sz ≤ xs.length * d.sz := Nat.mul_le_mul_right _ (by omega)
    rw [Nat.succ_mul] at this
    omega
  refine ⟨(inner.drop (j * d.sz)).take d.sz, by rw [List.length_take]; omega, hr.2 j p hj, fun q u hq => ?_⟩
  rw [List.getElem?_take] at hq
  split at hq
  · rw [List.getElem?_drop, ← htk, List.getElem?_take] at hq
    split at hq
    · have e1 : (⟨g, 0, none⟩ : Addr).add (j * d.sz + q) = ⟨g, j * d.sz + q, none⟩ := by
        unfold Addr.add; split
        · rename_i h0; rw [h0]
        · simp
      rw [e1]
      have hq' : cur[j * d.sz + q]? = some u := by simpa using hq
      simp [World.cell?, hg, hq']
    · cases hq
  · cases hq
theorem take_snoc {l : List S48} {i : Nat} (h : i < l.length) : l.take (i + 1) = l.take i ++ [l.getD ((i : Nat) : Int).toNat z48] := by
  rw [List.take_succ_eq_append_getElem h, Int.toNat_natCast, List.getD_eq_getElem?_getD, List.getElem?_eq_getElem h]; rfl
theorem reps_first {w : World} {l : List S48} {i : Nat} {cs : List Value} (h : i < l.length) (h0 : i = 0) (hk : k48.K w (l.getD ((i : Nat) : Int).toNat z48) cs) : Reps (k48.K w) 14 (l.take (i + 1)) cs := by
  rw [take_snoc h]
  subst h0
  have := (Reps.none (k48.K w) 14).snoc hk (k48.K_len hk)
  simpa using this
theorem reps_next {w : World} {l : List S48} {i : Nat} {inner cs : List Value} (h : i < l.length) (hr : Reps (k48.K w) 14 (l.take i) inner) (hk : k48.K w (l.getD ((i : Nat) : Int).toNat z48) cs) : Reps (k48.K w) 14 (l.take (i + 1)) (inner ++ cs) := by
  rw [take_snoc h]
  exact hr.snoc hk (k48.K_len hk)
end Go.Eng
namespace Go.Eng
open Go.Proofs Go.RowKit Go.Proofs.YtiihjijmmephlaaW.PrintWords Go.Proofs.Ytiihjijmmephlaa.GHist
set_option linter.unusedVariables false
set_option linter.unusedSimpArgs false
set_option maxRecDepth 100000 in
set_option maxHeartbeats 4000000 in
theorem news_con (A : Option Addr) (c : Nat) (l : List S48) (hl : l.length ≤ 1000) (w0 : World) (H : List Nat) : Con Try.prog 12 #[.slice A l.length c] w0 H [.f (KC k48 A c l)] (fun X => ∀ A1 c1, X (.slice A1 l.length c1) [.f (KC k48 A1 c1 l)]) := by
 refine con_enter (c := bodyOf Try.f12) Try.func12 rfl (m := 18) rfl rfl rfl ?_
 intro X hX _
 refine c_seq rfl ?_
 refine r_ord (l := [0]) rfl (by kernel_rfl) (by kernel_rfl) ?_
 refine s_v rfl rfl rfl rfl (v_as rfl rfl) ?_
 refine s_end ?_
 refine q_seq ?_
 refine c_seq rfl ?_
 refine r_ord (l := [0]) rfl (by kernel_rfl) (by kernel_rfl) ?_
 refine s_v rfl rfl rfl rfl (v_as rfl rfl) ?_
 refine s_end ?_
 refine q_seq ?_
 refine c_seq rfl ?_
 refine c_seq rfl ?_
 refine r_ord (l := [0, 1, 2]) rfl (by kernel_rfl) (by kernel_rfl) ?_
 refine s_v rfl rfl rfl rfl (v_mv rfl rfl) ?_
 refine s_v rfl rfl rfl rfl (v_len rfl rfl rfl Try.underlying22 rfl rfl) ?_
 refine s_v rfl rfl rfl rfl (v_mv rfl rfl) ?_
 refine s_end ?_
 refine q_seq ?_
 refine c_block rfl ?_
 refine c_loop (σ := (Nat × Option (Nat × Nat × Nat × Array Value × List Value))) (fun s : (Nat × Option (Nat × Nat × Nat × Array Value × List Value)) => match s with | (i, none) => i ≤ l.length ∧ i = 0 | (i, some (n, g, cap, cur, inner)) => i ≤ l.length ∧ n = i ∧ 0 < n ∧ n ≤ cap ∧ cap ≤ maxLen ∧ cur.size = cap * 14 ∧ cur.toList.take (n * 14) = inner) (fun s => l.length - s.1) (fun s : (Nat × Option (Nat × Nat × Nat × Array Value × List Value)) => match s with | (i, none) => [(6, .slice A l.length c), (7, .int .i64 (l.length : Nat)), (3, .slice none 0 0), (8, .int .i64 (i : Int))] | (i, some (n, g, cap, cur, inner)) => [(6, .slice A l.length c), (7, .int .i64 (l.length : Nat)), (3, .slice (some ⟨g, 0, none⟩) n cap), (8, .int .i64 (i : Int))]) (fun s : (Nat × Option (Nat × Nat × Nat × Array Value × List Value)) => match s with | (i, none) => [.f (KC k48 A c l)] | (i, some (n, g, cap, cur, inner)) => [.f (KC k48 A c l), .b g (.cells cur 53 (0, 0)), .f (fun w => Reps (k48.K w) 14 (l.take i) inner)]) (0, none) [0] rfl ⟨Nat.zero_le _, rfl⟩ (subF_spec ⟨rfl, rfl, rfl, rfl, trivial⟩) rfl (by decide) ?_
 rintro ⟨i, _ | ⟨n, g, cap, cur, inner⟩⟩ hs
 have hs : i ≤ l.length ∧ i = 0 := hs
 refine c_seq rfl ?_
 refine r_ord (l := [0]) rfl (by kernel_rfl) (by kernel_rfl) ?_
 refine s_v rfl rfl rfl rfl (v_ar rfl rfl rfl rfl) ?_
 refine s_end ?_
 refine q_seq ?_
 refine c_seq rfl ?_
 refine c_cond (t := decide (((i : Int) : Int) < (l.length : Nat))) rfl rfl (fun h1_ => ?_) (fun h1_ => ?_)
 have h1_d := of_decide_eq_true h1_
 have hil : i < l.length := by omega
 refine c_skip rfl ?_
 refine q_seq ?_
 refine c_seq rfl ?_
 refine c_block rfl ?_
 refine c_seq rfl ?_
 refine r_ord (l := [0, 1, 2, 3]) rfl (by kernel_rfl) (by kernel_rfl) ?_
 refine s_v rfl rfl rfl rfl (v_iaK (i := 0) rfl Try.underlying22 SZ48 rfl rfl rfl rfl (by omega) (by omega)) ?_
 refine s_e rfl rfl (e_ldKX z48 0 rfl rfl rfl Try.underlying48 rfl SZ48 rfl rfl rfl (by omega) (by omega)) ?_
 intro cs2_ h3_
 refine s_know 0 rfl (fun w h => k48_sh h) (fun h4_ => ?_)
 obtain ⟨A5_, c6_, rfl⟩ := h4_
 refine s_weak 0 rfl (fun w h => k48_row h) ?_
 refine s_e rfl rfl (e_alloc rfl rfl rfl ZR48) ?_
 intro b7_
 refine s_e rfl rfl (e_stA 0 rfl rfl SZ48 rfl rfl rfl rfl rfl rfl) ?_
 refine s_end ?_
 refine q_seq ?_
 refine r_ord (l := [0, 1, 2, 3, 4]) rfl (by kernel_rfl) (by kernel_rfl) ?_
 refine s_v rfl rfl rfl rfl (v_mv rfl rfl) ?_
 refine s_v rfl rfl rfl rfl (v_ldA [.int .i64 ((rd_T48 l (i : Int)).f0), .int .i64 ((rd_T48 l (i : Int)).f1.f0), .int .u64 ((rd_T48 l (i : Int)).f1.f1), .int .u64 ((rd_T48 l (i : Int)).f1.f2), .int .i64 ((rd_T48 l (i : Int)).f1.f3), .int .i64 ((rd_T48 l (i : Int)).f1.f4), .int .i64 ((rd_T48 l (i : Int)).f2), .int .i64 ((rd_T48 l (i : Int)).f3), .int .i64 ((rd_T48 l (i : Int)).f4), .bool ((rd_T48 l (i : Int)).f5), .bool ((rd_T48 l (i : Int)).f6.f0), .bool ((rd_T48 l (i : Int)).f6.f1), .int .u64 ((rd_T48 l (i : Int)).f6.f2), .slice A5_ ((rd_T48 l (i : Int)).f6.f3.length) c6_] 0 rfl Try.underlying48 rfl SZ48 rfl rfl rfl rfl) ?_
 refine s_e rfl rfl (e_bslice #[.int .i64 ((rd_T48 l (i : Int)).f0), .int .i64 ((rd_T48 l (i : Int)).f1.f0), .int .u64 ((rd_T48 l (i : Int)).f1.f1), .int .u64 ((rd_T48 l (i : Int)).f1.f2), .int .i64 ((rd_T48 l (i : Int)).f1.f3), .int .i64 ((rd_T48 l (i : Int)).f1.f4), .int .i64 ((rd_T48 l (i : Int)).f2), .int .i64 ((rd_T48 l (i : Int)).f3), .int .i64 ((rd_T48 l (i : Int)).f4), .bool ((rd_T48 l (i : Int)).f5), .bool ((rd_T48 l (i : Int)).f6.f0), .bool ((rd_T48 l (i : Int)).f6.f1), .int .u64 ((rd_T48 l (i : Int)).f6.f2), .slice A5_ ((rd_T48 l (i : Int)).f6.f3.length) c6_] (.agg #[.int .i64 0, .int .i64 0, .int .u64 0, .int .u64 0, .int .i64 0, .int .i64 0, .int .i64 0, .int .i64 0, .int .i64 0, .bool false, .bool false, .bool false, .int .u64 0, .slice none 0 0]) rfl rfl rfl Try.underlying27 SZ53 ZR53 (by decide) rfl (by kernel_rfl)) ?_
 intro b8_
 refine s_e rfl rfl (e_app_nil (z := (.agg #[.int .i64 0, .int .i64 0, .int .u64 0, .int .u64 0, .int .i64 0, .int .i64 0, .int .i64 0, .int .i64 0, .int .i64 0, .bool false, .bool false, .bool false, .int .u64 0, .slice none 0 0])) (m := 14) (bytes := 120) (k := 1) (news := [.int .i64 ((rd_T48 l (i : Int)).f0), .int .i64 ((rd_T48 l (i : Int)).f1.f0), .int .u64 ((rd_T48 l (i : Int)).f1.f1), .int .u64 ((rd_T48 l (i : Int)).f1.f2), .int .i64 ((rd_T48 l (i : Int)).f1.f3), .int .i64 ((rd_T48 l (i : Int)).f1.f4), .int .i64 ((rd_T48 l (i : Int)).f2), .int .i64 ((rd_T48 l (i : Int)).f3), .int .i64 ((rd_T48 l (i : Int)).f4), .bool ((rd_T48 l (i : Int)).f5), .bool ((rd_T48 l (i : Int)).f6.f0), .bool ((rd_T48 l (i : Int)).f6.f1), .int .u64 ((rd_T48 l (i : Int)).f6.f2), .slice A5_ ((rd_T48 l (i : Int)).f6.f3.length) c6_]) (i := 0) rfl rfl rfl rfl rfl rfl Try.underlying27 (by kernel_rfl) rfl (by decide) rfl rfl rfl rfl rfl (by simp [Value.oneCell']) (by decide) (by decide) (by decide)) ?_
 intro g9_ cap10_ cur11_ h12_ h13_ h14_ h15_
 refine s_v rfl rfl rfl rfl (v_as rfl rfl) ?_
 refine s_end ?_
 refine q_block ?_
 refine q_seq ?_
 refine r_ord (l := [0, 1]) rfl (by kernel_rfl) (by kernel_rfl) ?_
 refine s_v rfl rfl rfl rfl (OpV.cast (v := .int .i64 ((i + 1 : Nat) : Int)) (v_ar rfl rfl rfl rfl) (addN (a := i) (b := 1) (by omega))) ?_
 refine s_v rfl rfl rfl rfl (v_mv rfl rfl) ?_
 refine s_end ?_
 refine q_weak 4 rfl (fun w h => reps_first hil hs.2 h) ?_
 exact q_again (i + 1, some (1, g9_, cap10_, cur11_, (cellsE (rd_T48 l ((i : Nat) : Int)) A5_ c6_))) [6, 1, 0] ⟨by omega, by omega, by omega, h12_, h13_, h14_, h15_⟩ (by show l.length - (i + 1) < l.length - i; omega) (subF_spec ⟨rfl, rfl, rfl, rfl, trivial⟩) rfl (by decide)
 have h1_d := of_decide_eq_false h1_
 obtain rfl : i = l.length := by omega
 refine c_exit (i := 0) rfl rfl ?_
 refine q_then_exit ?_
 refine q_then_exit ?_
 refine q_block_here rfl ?_
 refine q_seq ?_
 refine c_seq rfl ?_
 refine r_ord (l := [0, 1]) rfl (by kernel_rfl) (by kernel_rfl) ?_
 refine s_v rfl rfl rfl rfl (v_mv rfl rfl) ?_
 refine s_v rfl rfl rfl rfl (v_as rfl rfl) ?_
 refine s_end ?_
 refine q_seq ?_
 refine c_ret rfl ?_
 obtain rfl : l = [] := List.eq_nil_of_length_eq_zero hs.2
 refine q_know (KC_nil k48) ?_
 refine q_take [0] rfl (by decide) ?_
 exact q_post rfl (.cons rfl (.nil)) (hX none 0)
 obtain ⟨hi_, hn0, hn1, hr1_, hr2_, hr3_, hr4_⟩ : i ≤ l.length ∧ n = i ∧ 0 < n ∧ n ≤ cap ∧ cap ≤ maxLen ∧ cur.size = cap * 14 ∧ cur.toList.take (n * 14) = inner := hs
 refine c_seq rfl ?_
 refine r_ord (l := [0]) rfl (by kernel_rfl) (by kernel_rfl) ?_
 refine s_v rfl rfl rfl rfl (v_ar rfl rfl rfl rfl) ?_
 refine s_end ?_
 refine q_seq ?_
 refine c_seq rfl ?_
 refine c_cond (t := decide (((i : Int) : Int) < (l.length : Nat))) rfl rfl (fun h16_ => ?_) (fun h16_ => ?_)
 have h16_d := of_decide_eq_true h16_
 have hil : i < l.length := by omega
 refine c_skip rfl ?_
 refine q_seq ?_
 refine c_seq rfl ?_
 refine c_block rfl ?_
 refine c_seq rfl ?_
 refine r_ord (l := [0, 1, 2, 3]) rfl (by kernel_rfl) (by kernel_rfl) ?_
 refine s_v rfl rfl rfl rfl (v_iaK (i := 0) rfl Try.underlying22 SZ48 rfl rfl rfl rfl (by omega) (by omega)) ?_
 refine s_e rfl rfl (e_ldKX z48 0 rfl rfl rfl Try.underlying48 rfl SZ48 rfl rfl rfl (by omega) (by omega)) ?_
 intro cs17_ h18_
 refine s_know 0 rfl (fun w h => k48_sh h) (fun h19_ => ?_)
 obtain ⟨A20_, c21_, rfl⟩ := h19_
 refine s_weak 0 rfl (fun w h => k48_row h) ?_
 refine s_e rfl rfl (e_alloc rfl rfl rfl ZR48) ?_
 intro b22_
 refine s_e rfl rfl (e_stA 0 rfl rfl SZ48 rfl rfl rfl rfl rfl rfl) ?_
 refine s_end ?_
 refine q_seq ?_
 refine r_ord (l := [0, 1, 2, 3, 4]) rfl (by kernel_rfl) (by kernel_rfl) ?_
 refine s_v rfl rfl rfl rfl (v_mv rfl rfl) ?_
 refine s_v rfl rfl rfl rfl (v_ldA [.int .i64 ((rd_T48 l (i : Int)).f0), .int .i64 ((rd_T48 l (i : Int)).f1.f0), .int .u64 ((rd_T48 l (i : Int)).f1.f1), .int .u64 ((rd_T48 l (i : Int)).f1.f2), .int .i64 ((rd_T48 l (i : Int)).f1.f3), .int .i64 ((rd_T48 l (i : Int)).f1.f4), .int .i64 ((rd_T48 l (i : Int)).f2), .int .i64 ((rd_T48 l (i : Int)).f3), .int .i64 ((rd_T48 l (i : Int)).f4), .bool ((rd_T48 l (i : Int)).f5), .bool ((rd_T48 l (i : Int)).f6.f0), .bool ((rd_T48 l (i : Int)).f6.f1), .int .u64 ((rd_T48 l (i : Int)).f6.f2), .slice A20_ ((rd_T48 l (i : Int)).f6.f3.length) c21_] 0 rfl Try.underlying48 rfl SZ48 rfl rfl rfl rfl) ?_
 refine s_e rfl rfl (e_bslice #[.int .i64 ((rd_T48 l (i : Int)).f0), .int .i64 ((rd_T48 l (i : Int)).f1.f0), .int .u64 ((rd_T48 l (i : Int)).f1.f1), .int .u64 ((rd_T48 l (i : Int)).f1.f2), .int .i64 ((rd_T48 l (i : Int)).f1.f3), .int .i64 ((rd_T48 l (i : Int)).f1.f4), .int .i64 ((rd_T48 l (i : Int)).f2), .int .i64 ((rd_T48 l (i : Int)).f3), .int .i64 ((rd_T48 l (i : Int)).f4), .bool ((rd_T48 l (i : Int)).f5), .bool ((rd_T48 l (i : Int)).f6.f0), .bool ((rd_T48 l (i : Int)).f6.f1), .int .u64 ((rd_T48 l (i : Int)).f6.f2), .slice A20_ ((rd_T48 l (i : Int)).f6.f3.length) c21_] (.agg #[.int .i64 0, .int .i64 0, .int .u64 0, .int .u64 0, .int .i64 0, .int .i64 0, .int .i64 0, .int .i64 0, .int .i64 0, .bool false, .bool false, .bool false, .int .u64 0, .slice none 0 0]) rfl rfl rfl Try.underlying27 SZ53 ZR53 (by decide) rfl (by kernel_rfl)) ?_
 intro b23_
 refine s_e rfl rfl (e_app (z := (.agg #[.int .i64 0, .int .i64 0, .int .u64 0, .int .u64 0, .int .i64 0, .int .i64 0, .int .i64 0, .int .i64 0, .int .i64 0, .bool false, .bool false, .bool false, .int .u64 0, .slice none 0 0])) (m := 14) (bytes := 120) (k := 1) (news := [.int .i64 ((rd_T48 l (i : Int)).f0), .int .i64 ((rd_T48 l (i : Int)).f1.f0), .int .u64 ((rd_T48 l (i : Int)).f1.f1), .int .u64 ((rd_T48 l (i : Int)).f1.f2), .int .i64 ((rd_T48 l (i : Int)).f1.f3), .int .i64 ((rd_T48 l (i : Int)).f1.f4), .int .i64 ((rd_T48 l (i : Int)).f2), .int .i64 ((rd_T48 l (i : Int)).f3), .int .i64 ((rd_T48 l (i : Int)).f4), .bool ((rd_T48 l (i : Int)).f5), .bool ((rd_T48 l (i : Int)).f6.f0), .bool ((rd_T48 l (i : Int)).f6.f1), .int .u64 ((rd_T48 l (i : Int)).f6.f2), .slice A20_ ((rd_T48 l (i : Int)).f6.f3.length) c21_]) (i := 0) (j := 5) rfl rfl rfl rfl rfl rfl Try.underlying27 (by kernel_rfl) rfl (by decide) rfl rfl hr1_ hr2_ hr3_ hr4_ rfl rfl rfl rfl (by simp [Value.oneCell']) (by omega) (by simp only [maxLen]; omega)) ?_
 intro g24_ cap25_ cur26_ h27_ h28_ h29_ h30_
 refine s_v rfl rfl rfl rfl (v_as rfl rfl) ?_
 refine s_end ?_
 refine q_block ?_
 refine q_seq ?_
 refine r_ord (l := [0, 1]) rfl (by kernel_rfl) (by kernel_rfl) ?_
 refine s_v rfl rfl rfl rfl (OpV.cast (v := .int .i64 ((i + 1 : Nat) : Int)) (v_ar rfl rfl rfl rfl) (addN (a := i) (b := 1) (by omega))) ?_
 refine s_v rfl rfl rfl rfl (v_mv rfl rfl) ?_
 refine s_end ?_
 refine q_both 6 3 rfl rfl ?_
 refine q_weak 0 rfl (fun w h => reps_next hil h.1 h.2) ?_
 exact q_again (i + 1, some (n + 1, g24_, cap25_, cur26_, (inner ++ (cellsE (rd_T48 l ((i : Nat) : Int)) A20_ c21_)))) [6, 7, 0] ⟨by omega, by omega, by omega, h27_, h28_, h29_, h30_⟩ (by show l.length - (i + 1) < l.length - i; omega) (subF_spec ⟨rfl, rfl, rfl, rfl, trivial⟩) rfl (by decide)
 have h16_d := of_decide_eq_false h16_
 obtain rfl : i = l.length := by omega
 refine c_exit (i := 0) rfl rfl ?_
 refine q_then_exit ?_
 refine q_then_exit ?_
 refine q_block_here rfl ?_
 refine q_seq ?_
 refine c_seq rfl ?_
 refine r_ord (l := [0, 1]) rfl (by kernel_rfl) (by kernel_rfl) ?_
 refine s_v rfl rfl rfl rfl (v_mv rfl rfl) ?_
 refine s_v rfl rfl rfl rfl (v_as rfl rfl) ?_
 refine s_end ?_
 refine q_seq ?_
 refine c_ret rfl ?_
 subst hn0
 refine q_give [1, 0, 2] rfl (by decide) (by simp [ids, Ent.id?]) (fun w h => h) ?_
 refine q_both 0 2 rfl rfl ?_
 refine q_weak 0 rfl (fun w h => KC_ofReps (d := k48) (cap := cap) (xs := l) h.1 (by have h_ := h.2; rwa [List.take_length] at h_) hr4_ hr1_ hr2_) ?_
 refine q_take [0] rfl (by decide) ?_
 exact q_post rfl (.cons rfl (.nil)) (hX (some ⟨g, 0, none⟩) cap)
end Go.Eng
namespace Go.Eng
open Go.Proofs Go.RowKit Go.Proofs.YtiihjijmmephlaaW.PrintWords Go.Proofs.Ytiihjijmmephlaa.GHist
set_option linter.unusedVariables false
set_option linter.unusedSimpArgs false
theorem Con.of {P : Program} {f : FuncId} {args : Array Value} {w : World} {H : List Nat} {L : HL} {C C' : (Value → HL → Prop) → Prop} (h : Con P f args w H L C) (hc : ∀ X, C' X → C X) : Con P f args w H L C' := fun ht X hX => h ht X (hc X hX)
def kf (l : List S56) (k : Int) : List Int := (l.filter (fun p => decide (k ≤ p.f0))).map (·.f0)
theorem drop_lb {l : List S56} (hs : Srt l) (k : Int) : l.drop (lb l k) = l.filter (fun p => decide (k ≤ p.f0)) := by
  induction l with
  | nil => rfl
  | cons p l ih =>
    obtain ⟨h1, h2⟩ := srt_cons.1 hs
    by_cases hp : p.f0 < k
    · have hn : ¬ k ≤ p.f0 := by omega
      rw [lb_lt hp, List.drop_succ_cons, ih h2, List.filter_cons]
      simp [hn]
    · rw [lb_ge hp, List.drop_zero]
      symm
      rw [List.filter_eq_self]
      intro q hq
      rcases List.mem_cons.1 hq with rfl | hq
      · simp; omega
      · have := h1 q hq; simp; omega
theorem keysFrom_lb {l : List S56} (hs : Srt l) (k : Int) : KeysFrom l (lb l k) = kf l k := by unfold KeysFrom kf; rw [drop_lb hs]
theorem kf_srt {l : List S56} (hs : Srt l) (k : Int) : (kf l k).Pairwise (· < ·) := by
  unfold kf
  rw [List.pairwise_map]
  exact srt_filter hs _
def ceilM (l : List S56) (k : Int) : Bool × Bool × Int × List Int := match kf l k with
  | [] => (false, false, 0, [])
  | x :: _ => (false, true, x, [])
def rngM (l : List S56) (k v n : Int) : List Int := ((kf l k).filter (fun x => decide (x ≤ v))).take n.toNat
def Dm (l : List S56) (o0 o1 o2 o3 : Int) : List S56 × Bool × Bool × Int × List Int :=
  if o0 = 1 then (l, getM l o1) else if o0 = 2 then (ins l o1 o2, getM l o1) else if o0 = 3 then (del l o1, getM l o1) else if o0 = 4 then (l, ceilM l o1) else if o0 = 5 then (l, false, false, 0, rngM l o1 o2 o3) else (l, false, false, 0, [])
theorem rng_all {l : List S56} {k v n : Int} (h1 : ∀ y ∈ kf l k, y ≤ v) (h2 : ∀ i : Nat, i < (kf l k).length → (i : Int) < n) : rngM l k v n = kf l k := by
  unfold rngM
  rw [List.filter_eq_self.2 (fun y hy => by simpa using h1 y hy), List.take_of_length_le]
  cases h : (kf l k).length with
  | zero => omega
  | succ m => have := h2 m (by omega); omega
theorem rng_some {l : List S56} (hs : Srt l) {k v n x : Int} {p : List Int} (hp : p ++ [x] <+: kf l k) (h1 : ∀ y ∈ p, y ≤ v) (h2 : ∀ i : Nat, i < p.length → (i : Int) < n) (h3 : v < x ∨ n ≤ (p.length : Int)) : rngM l k v n = p := by
  obtain ⟨t, ht⟩ := hp
  have hsr := kf_srt hs k
  unfold rngM
  rw [← ht] at hsr ⊢
  have hfp : p.filter (fun x => decide (x ≤ v)) = p := List.filter_eq_self.2 (fun y hy => by simpa using h1 y hy)
  have hle : p.length ≤ n.toNat := by
    cases h : p.length with
    | zero => omega
    | succ m => have := h2 m (by omega); omega
  rw [List.append_assoc, List.filter_append, hfp]
  rcases h3 with h3 | h3
  · have : ([x] ++ t).filter (fun x => decide (x ≤ v)) = [] := by
      rw [List.filter_eq_nil_iff]
      intro y hy
      rcases List.mem_append.1 hy with hy | hy
      · have : y = x := by simpa using hy
        simp; omega
      · have := (List.pairwise_append.1 hsr).2.2 x (by simp) y hy
        simp; omega
    rw [this, List.append_nil, List.take_of_length_le hle]
  · have : n.toNat = p.length := by omega
    rw [this, List.take_left]
set_option maxRecDepth 100000 in
theorem do_con (A : Option Addr) (c : Nat) (l : List S56) (o0 o1 o2 o3 o4 : Int) (hs : Srt l) (hl : l.length ≤ 1000) (w0 : World) (H : List Nat) : Con Try.prog 23 #[.agg #[.slice A l.length c], .agg #[.int .i64 o0, .int .u64 o1, .int .u64 o2, .int .i64 o3, .int .i64 o4]] w0 H [.f (KC k56 A c l)]
    (fun X => ∀ A1 c1 A2 c2, X (.tuple #[.agg #[.slice A1 (Dm l o0 o1 o2 o3).1.length c1], .agg #[.bool (Dm l o0 o1 o2 o3).2.1, .bool (Dm l o0 o1 o2 o3).2.2.1, .int .u64 (Dm l o0 o1 o2 o3).2.2.2.1, .slice A2 (Dm l o0 o1 o2 o3).2.2.2.2.length c2]]) [.f (KC k56 A1 c1 (Dm l o0 o1 o2 o3).1), .f (KC (Kd.int .u64) A2 c2 (Dm l o0 o1 o2 o3).2.2.2.2)]) := by
  have hg := get_f l o1 hs hl 5000 (by omega)
  have hp := place l o1 hs hl 5000 (by omega)
  by_cases h1 : o0 = 1
  · subst h1
    exact (do_get 5000 A c l o1 o2 o3 o4 _ _ _ _ hg w0 H).of (fun X hX A1 c1 A2 c2 => hX A1 c1 A2 c2)
  by_cases h2 : o0 = 2
  · subst h2
    exact (do_put 5000 A c l o1 o2 o3 o4 _ _ _ _ _ (with_f l o1 o2 hs hl 5000 (by omega)) hg w0 H).of (fun X hX A1 c1 A2 c2 => hX A1 c1 A2 c2)
  by_cases h3 : o0 = 3
  · subst h3
    exact (do_delete 5000 A c l o1 o2 o3 o4 _ _ _ _ _ _ (without_f l o1 hs hl 5000 (by omega)) hg w0 H).of (fun X hX A1 c1 A2 c2 => hX A1 c1 A2 c2)
  by_cases h4 : o0 = 4
  · subst h4
    refine (do_ceiling 5000 A c l o1 o2 o3 o4 _ _ hp (lb_le l o1) (by omega) (ceilM l o1).2.1 (ceilM l o1).2.2.1 ?_ ?_ w0 H).of (fun X hX A2 c2 => ?_)
    · rw [keysFrom_lb hs]; intro h; simp [ceilM, h]
    · rw [keysFrom_lb hs]; rintro x ⟨t, h⟩; simp [ceilM, ← h]
    · have e1 : (ceilM l o1).1 = false := by unfold ceilM; split <;> rfl
      have e2 : (ceilM l o1).2.2.2 = [] := by unfold ceilM; split <;> rfl
      have h := hX A c A2 c2
      have hD : Dm l 4 o1 o2 o3 = (l, ceilM l o1) := by simp [Dm]
      rw [hD] at h
      rw [show ceilM l o1 = (false, (ceilM l o1).2.1, (ceilM l o1).2.2.1, []) from by conv => lhs; rw [show ceilM l o1 = ((ceilM l o1).1, (ceilM l o1).2.1, (ceilM l o1).2.2.1, (ceilM l o1).2.2.2) from rfl, e1, e2]] at h
      exact h
  by_cases h5 : o0 = 5
  · subst h5
    refine (do_range 5000 A c l o1 o2 o3 o4 _ _ hp (lb_le l o1) (by omega) (rngM l o1 o2 o3) ?_ ?_ w0 H).of (fun X hX A2 c2 => ?_)
    · rw [keysFrom_lb hs]; exact rng_all
    · rw [keysFrom_lb hs]; exact fun p x hp h1 h2 h3 => rng_some hs hp h1 h2 h3
    · have h := hX A c A2 c2
      have hD : Dm l 5 o1 o2 o3 = (l, false, false, 0, rngM l o1 o2 o3) := by simp [Dm]
      rw [hD] at h
      exact h
  · refine (do_other 5000 A c l o1 o2 o3 o4 o0 (by simpa using h1) (by simpa using h2) (by simpa using h3) (by simpa using h4) (by simpa using h5) w0 H).of (fun X hX A2 c2 => ?_)
    have h := hX A c A2 c2
    have hD : Dm l o0 o1 o2 o3 = (l, false, false, 0, []) := by simp [Dm, h1, h2, h3, h4, h5]
    rw [hD] at h
    exact h
theorem do_conr (A : Option Addr) (c : Nat) (l : List S56) (o0 o1 o2 o3 o4 : Int) (hs : Srt l) (hl : l.length ≤ 1000) (m : List S56) (q0 q1 : Bool) (q2 : Int) (q3 : List Int) (hr : Dm l o0 o1 o2 o3 = (m, q0, q1, q2, q3)) (w0 : World) (H : List Nat) : Con Try.prog 23 #[.agg #[.slice A l.length c], .agg #[.int .i64 o0, .int .u64 o1, .int .u64 o2, .int .i64 o3, .int .i64 o4]] w0 H [.f (KC k56 A c l)]
    (fun X => ∀ A1 c1 A2 c2, X (.tuple #[.agg #[.slice A1 m.length c1], .agg #[.bool q0, .bool q1, .int .u64 q2, .slice A2 q3.length c2]]) [.f (KC k56 A1 c1 m), .f (KC (Kd.int .u64) A2 c2 q3)]) := by
  have h := do_con A c l o0 o1 o2 o3 o4 hs hl w0 H
  rw [hr] at h
  exact h
end Go.Eng
namespace Go.Eng
open Go.Proofs Go.RowKit Go.Proofs.YtiihjijmmephlaaW.PrintWords Go.Proofs.Ytiihjijmmephlaa.GHist
set_option linter.unusedVariables false
set_option linter.unusedSimpArgs false
theorem inc64 {i : Nat} (h : i < 1000000) : Value.int .i64 (IntKind.wrap .i64 (((i : Nat) : Int) + 1)) = .int .i64 ((i + 1 : Nat) : Int) := by
  congr 1
  simp only [IntKind.wrap, IntKind.bits, IntKind.signed]
  simp
  omega
theorem rdo {l : List S56} {i : Nat} (h : i < l.length) : (rd_T61 (l.map old) (i : Int)).f0 = (l[i]).f0 := by
  rw [rd62, Int.toNat_natCast, List.getD_eq_getElem?_getD, List.getElem?_eq_getElem h]; rfl
theorem kf_take {l : List S56} {i : Nat} (h : i < l.length) (k : Int) : kf (l.take (i + 1)) k = kf (l.take i) k ++ (if k ≤ (l[i]).f0 then [(l[i]).f0] else []) := by
  rw [List.take_succ_eq_append_getElem h, kf, List.filter_append, List.map_append]
  congr 1
  by_cases hk : k ≤ (l[i]).f0 <;> simp [List.filter_cons, hk]
theorem kf_split (l : List S56) (i : Nat) (k : Int) : kf l k = kf (l.take i) k ++ kf (l.drop i) k := by
  unfold kf
  rw [← List.map_append, ← List.filter_append, List.take_append_drop]
theorem kf_hit {l : List S56} {i : Nat} (h : i < l.length) {k : Int} (h0 : kf (l.take i) k = []) (hk : k ≤ (l[i]).f0) : ceilM l k = (false, true, (l[i]).f0, []) := by
  have : kf l k = (l[i]).f0 :: kf (l.drop (i + 1)) k := by
    rw [kf_split l (i + 1) k, kf_take h, h0, if_pos hk]; rfl
  simp [ceilM, this]
theorem kf_miss {l : List S56} {k : Int} (h0 : kf (l.take l.length) k = []) : ceilM l k = (false, false, 0, []) := by
  rw [List.take_length] at h0
  simp [ceilM, h0]
theorem rng_take {l : List S56} {i : Nat} (h : i < l.length) (k v n : Int) : rngM (l.take (i + 1)) k v n = if k ≤ (l[i]).f0 ∧ (l[i]).f0 ≤ v ∧ ((rngM (l.take i) k v n).length : Int) < n then rngM (l.take i) k v n ++ [(l[i]).f0] else rngM (l.take i) k v n := by
  unfold rngM
  rw [kf_take h, List.filter_append]
  by_cases h1 : k ≤ (l[i]).f0
  · by_cases h2 : (l[i]).f0 ≤ v
    · simp only [h1, h2, if_true, List.filter_cons, decide_true, List.filter_nil, true_and]
      generalize (kf (l.take i) k).filter (fun x => decide (x ≤ v)) = m
      rw [List.length_take]
      by_cases h3 : m.length < n.toNat
      · rw [if_pos (by omega), List.take_of_length_le (by simp; omega), List.take_of_length_le (by omega)]
      · rw [if_neg (by omega), List.take_append_of_le_length (by omega)]
    · simp [h1, h2, List.filter_cons]
  · simp [h1]
theorem rng_len (l : List S56) (k v n : Int) : (rngM l k v n).length ≤ l.length := by
  unfold rngM kf
  refine Nat.le_trans (List.length_take_le' _ _) (Nat.le_trans (List.length_filter_le _ _) ?_)
  rw [List.length_map]
  exact List.length_filter_le _ _
end Go.Eng
namespace Go.Eng
open Go.Proofs Go.RowKit Go.Proofs.YtiihjijmmephlaaW.PrintWords Go.Proofs.Ytiihjijmmephlaa.GHist
set_option linter.unusedVariables false
set_option linter.unusedSimpArgs false
set_option maxRecDepth 100000 in
set_option maxHeartbeats 4000000 in
theorem rdo_get (A : Option Addr) (c : Nat) (l : List S56) (o1 o2 o3 o4 : Int) (hs : Srt l) (hl : l.length ≤ 1000)  (w0 : World) (H : List Nat) : Con Try.prog 31 #[.slice A (l.map old).length c, .agg #[.int .i64 1, .int .u64 o1, .int .u64 o2, .int .i64 o3, .int .i64 o4]] w0 H [.f (KC k61 A c (l.map old))] (fun X => ∀ A1 c1 A2 c2, X (.tuple #[.slice A1 (l.map old).length c1, .agg #[.bool (getM l o1).1, .bool (getM l o1).2.1, .int .u64 (getM l o1).2.2.1, .slice A2 (getM l o1).2.2.2.length c2]]) [.f (KC k61 A1 c1 (l.map old)), .f (KC (Kd.int .u64) A2 c2 (getM l o1).2.2.2)]) := by
  refine con_enter (c := bodyOf Try.f31) Try.func31 rfl (m := 112) rfl rfl rfl ?_
  intro X hX _
  refine c_seq rfl ?_
  refine r_ord (l := [0, 1, 2]) rfl (by kernel_rfl) (by kernel_rfl) ?_
  refine s_e rfl rfl (e_box rfl rfl rfl rfl) ?_
  intro b1_
  refine s_v rfl rfl rfl rfl (v_as rfl rfl) ?_
  refine s_e rfl rfl (e_alloc rfl rfl rfl ZR46) ?_
  intro b2_
  refine s_end ?_
  refine q_seq ?_
  refine c_seq rfl ?_
  refine c_seq rfl ?_
  refine r_ord (l := [0, 1]) rfl (by kernel_rfl) (by kernel_rfl) ?_
  refine s_v rfl rfl rfl rfl (v_fa rfl Try.underlying43 rfl SZ3 rfl) ?_
  refine s_v rfl rfl rfl rfl (v_ld 1 rfl Try.underlying3 rfl rfl rfl rfl) ?_
  refine s_end ?_
  refine q_seq ?_
  refine c_block rfl ?_
  refine c_seq rfl ?_
  refine r_ord (l := [0, 1]) rfl (by kernel_rfl) (by kernel_rfl) ?_
  refine s_v rfl rfl rfl rfl (v_ar rfl rfl rfl rfl) ?_
  refine s_v rfl rfl rfl rfl (v_as rfl rfl) ?_
  refine s_end ?_
  refine q_seq ?_
  refine c_cond1 rfl rfl ?_
  refine c_seq rfl ?_
  refine r_ord (l := [0, 1, 2, 3, 4, 5, 6]) rfl (by kernel_rfl) (by kernel_rfl) ?_
  refine s_v rfl rfl rfl rfl (v_mv rfl rfl) ?_
  refine s_v rfl rfl rfl rfl (v_mv rfl rfl) ?_
  refine s_v rfl rfl rfl rfl (v_fa rfl Try.underlying43 rfl SZ41 rfl) ?_
  refine s_v rfl rfl rfl rfl (v_ld 1 rfl Try.underlying41 rfl rfl rfl rfl) ?_
  refine s_e rfl rfl (e_callK (fun z : Option Addr × Nat => .agg #[.bool ((getM l o1).1), .bool ((getM l o1).2.1), .int .u64 ((getM l o1).2.2.1), .slice z.1 (((getM l o1).2.2.2).length) z.2]) (fun z => [KC (Kd.int .u64) z.1 z.2 ((getM l o1).2.2.2)]) #[.slice A ((l.map old).length) c, .int .u64 o1] rfl rfl rfl rfl rfl Try.func53 rfl (by decide) rfl rfl (fun w ht => stepstoneref07_get.con 5000 _ _ (l.map old) o1 _ _ _ _ (refGet_f l o1 hl 5000 (by omega)) w (Tri.fact ht 2 rfl))) ?_
  intro z3_
  refine s_v rfl rfl rfl rfl (v_as rfl rfl) ?_
  refine s_e rfl rfl (e_stA 1 rfl rfl SZ46 rfl rfl rfl rfl rfl rfl) ?_
  refine s_end ?_
  refine q_seq ?_
  refine c_ret rfl ?_
  refine q_block_ret ?_
  refine q_then_ret ?_
  exact q_ret (vs := [.slice A ((l.map old).length) c, .agg #[.bool ((getM l o1).1), .bool ((getM l o1).2.1), .int .u64 ((getM l o1).2.2.1), .slice z3_.1 (((getM l o1).2.2.2).length) z3_.2]]) rfl (.tmp rfl (.agg [.bool ((getM l o1).1), .bool ((getM l o1).2.1), .int .u64 ((getM l o1).2.2.1), .slice z3_.1 (((getM l o1).2.2.2).length) z3_.2] 1 rfl Try.underlying46 rfl SZ46 rfl rfl rfl .nil)) [3, 0] rfl (by decide) (hX _ _ _ _)
set_option maxRecDepth 100000 in
set_option maxHeartbeats 4000000 in
theorem rdo_put (A : Option Addr) (c : Nat) (l : List S56) (o1 o2 o3 o4 : Int) (hs : Srt l) (hl : l.length ≤ 1000)  (w0 : World) (H : List Nat) : Con Try.prog 31 #[.slice A (l.map old).length c, .agg #[.int .i64 2, .int .u64 o1, .int .u64 o2, .int .i64 o3, .int .i64 o4]] w0 H [.f (KC k61 A c (l.map old))] (fun X => ∀ A1 c1 A2 c2, X (.tuple #[.slice A1 ((ins l o1 o2).map old).length c1, .agg #[.bool (getM l o1).1, .bool (getM l o1).2.1, .int .u64 (getM l o1).2.2.1, .slice A2 (getM l o1).2.2.2.length c2]]) [.f (KC k61 A1 c1 ((ins l o1 o2).map old)), .f (KC (Kd.int .u64) A2 c2 (getM l o1).2.2.2)]) := by
  refine con_enter (c := bodyOf Try.f31) Try.func31 rfl (m := 112) rfl rfl rfl ?_
  intro X hX _
  refine c_seq rfl ?_
  refine r_ord (l := [0, 1, 2]) rfl (by kernel_rfl) (by kernel_rfl) ?_
  refine s_e rfl rfl (e_box rfl rfl rfl rfl) ?_
  intro b1_
  refine s_v rfl rfl rfl rfl (v_as rfl rfl) ?_
  refine s_e rfl rfl (e_alloc rfl rfl rfl ZR46) ?_
  intro b2_
  refine s_end ?_
  refine q_seq ?_
  refine c_seq rfl ?_
  refine c_seq rfl ?_
  refine r_ord (l := [0, 1]) rfl (by kernel_rfl) (by kernel_rfl) ?_
  refine s_v rfl rfl rfl rfl (v_fa rfl Try.underlying43 rfl SZ3 rfl) ?_
  refine s_v rfl rfl rfl rfl (v_ld 1 rfl Try.underlying3 rfl rfl rfl rfl) ?_
  refine s_end ?_
  refine q_seq ?_
  refine c_block rfl ?_
  refine c_seq rfl ?_
  refine r_ord (l := [0, 1]) rfl (by kernel_rfl) (by kernel_rfl) ?_
  refine s_v rfl rfl rfl rfl (v_ar rfl rfl rfl rfl) ?_
  refine s_v rfl rfl rfl rfl (v_as rfl rfl) ?_
  refine s_end ?_
  refine q_seq ?_
  refine c_cond0 rfl rfl ?_
  refine c_seq rfl ?_
  refine r_ord (l := [0, 1]) rfl (by kernel_rfl) (by kernel_rfl) ?_
  refine s_v rfl rfl rfl rfl (v_ar rfl rfl rfl rfl) ?_
  refine s_v rfl rfl rfl rfl (v_as rfl rfl) ?_
  refine s_end ?_
  refine q_seq ?_
  refine c_cond1 rfl rfl ?_
  refine c_seq rfl ?_
  refine r_any [.b b1_ (.cells #[.int .i64 2, .int .u64 o1, .int .u64 o2, .int .i64 o3, .int .i64 o4] 43 (0, 0)), .f (KC k61 A c (l.map old))] (by kernel_rfl) rfl (by kernel_rfl) (mem_pick (idx := [1, 2]) rfl) ?_
  refine a_v 0 rfl (by kernel_rfl) (by kernel_rfl) (by kernel_rfl) rfl rfl rfl (v_mv rfl rfl) ?_
  refine a_v 1 rfl (by kernel_rfl) (by kernel_rfl) (by kernel_rfl) rfl rfl rfl (v_fa rfl Try.underlying43 rfl SZ41 rfl) ?_
  refine a_v 2 rfl (by kernel_rfl) (by kernel_rfl) (by kernel_rfl) rfl rfl rfl (v_ld 0 rfl Try.underlying41 rfl rfl rfl rfl) ?_
  refine a_v 3 rfl (by kernel_rfl) (by kernel_rfl) (by kernel_rfl) rfl rfl rfl (v_fa rfl Try.underlying43 rfl SZ41 rfl) ?_
  refine a_v 4 rfl (by kernel_rfl) (by kernel_rfl) (by kernel_rfl) rfl rfl rfl (v_ld 0 rfl Try.underlying41 rfl rfl rfl rfl) ?_
  refine a_v 5 rfl (by kernel_rfl) (by kernel_rfl) (by kernel_rfl) rfl rfl rfl (v_build (places := #[(0, 1), (1, 1)]) #[.int .u64 o1, .int .u64 o2] rfl ZR61 Try.underlying61 (by kernel_rfl) rfl rfl) ?_
  refine a_v 7 rfl (by kernel_rfl) (by kernel_rfl) (by kernel_rfl) rfl rfl rfl (v_mv rfl rfl) ?_
  refine a_v 8 rfl (by kernel_rfl) (by kernel_rfl) (by kernel_rfl) rfl rfl rfl (v_fa rfl Try.underlying43 rfl SZ41 rfl) ?_
  refine a_v 9 rfl (by kernel_rfl) (by kernel_rfl) (by kernel_rfl) rfl rfl rfl (v_ld 0 rfl Try.underlying41 rfl rfl rfl rfl) ?_
  refine a_1 (i := 6) (by kernel_rfl) ?_
  refine i_e rfl rfl (e_callK (fun z : Option Addr × Nat => .slice z.1 (((ins l o1 o2).map old).length) z.2) (fun z => [KC k61 z.1 z.2 ((ins l o1 o2).map old)]) #[.slice A ((l.map old).length) c, .agg #[.int .u64 o1, .int .u64 o2]] rfl rfl rfl rfl rfl Try.func54 rfl (by decide) rfl rfl (fun w ht => stepstoneref07_With.con 5000 _ _ (l.map old) o1 o2 _ (refWith_f l o1 o2 hs hl 5000 (by omega)) w (Tri.fact ht 2 rfl))) ?_
  intro z3_
  refine ⟨(mem_pick (idx := [2, 3]) rfl), ?_⟩
  refine a_1 (i := 10) (by kernel_rfl) ?_
  refine i_e rfl rfl (e_callK (fun z : Option Addr × Nat => .agg #[.bool ((getM l o1).1), .bool ((getM l o1).2.1), .int .u64 ((getM l o1).2.2.1), .slice z.1 (((getM l o1).2.2.2).length) z.2]) (fun z => [KC (Kd.int .u64) z.1 z.2 ((getM l o1).2.2.2)]) #[.slice A ((l.map old).length) c, .int .u64 o1] rfl rfl rfl rfl rfl Try.func53 rfl (by decide) rfl rfl (fun w ht => stepstoneref07_get.con 5000 _ _ (l.map old) o1 _ _ _ _ (refGet_f l o1 hl 5000 (by omega)) w (Tri.fact ht 3 rfl))) ?_
  intro z4_
  refine ⟨(mem_pick (idx := [3, 4]) rfl), ?_⟩
  refine a_v 11 rfl (by kernel_rfl) (by kernel_rfl) (by kernel_rfl) rfl rfl rfl (v_as rfl rfl) ?_
  refine a_1 (i := 12) (by kernel_rfl) ?_
  refine i_e rfl rfl (e_stA 2 rfl rfl SZ46 rfl rfl rfl rfl rfl rfl) ?_
  refine ⟨(mem_pick (idx := [3, 4]) rfl), ?_⟩
  refine a_end (by kernel_rfl) ?_
  refine q_seq ?_
  refine c_ret rfl ?_
  refine q_block_ret ?_
  refine q_then_ret ?_
  exact q_ret (vs := [.slice z3_.1 (((ins l o1 o2).map old).length) z3_.2, .agg #[.bool ((getM l o1).1), .bool ((getM l o1).2.1), .int .u64 ((getM l o1).2.2.1), .slice z4_.1 (((getM l o1).2.2.2).length) z4_.2]]) rfl (.tmp rfl (.agg [.bool ((getM l o1).1), .bool ((getM l o1).2.1), .int .u64 ((getM l o1).2.2.1), .slice z4_.1 (((getM l o1).2.2.2).length) z4_.2] 2 rfl Try.underlying46 rfl SZ46 rfl rfl rfl .nil)) [1, 0] rfl (by decide) (hX _ _ _ _)
set_option maxRecDepth 100000 in
set_option maxHeartbeats 4000000 in
theorem rdo_delete (A : Option Addr) (c : Nat) (l : List S56) (o1 o2 o3 o4 : Int) (hs : Srt l) (hl : l.length ≤ 1000)  (w0 : World) (H : List Nat) : Con Try.prog 31 #[.slice A (l.map old).length c, .agg #[.int .i64 3, .int .u64 o1, .int .u64 o2, .int .i64 o3, .int .i64 o4]] w0 H [.f (KC k61 A c (l.map old))] (fun X => ∀ A1 c1 A2 c2, X (.tuple #[.slice A1 ((del l o1).map old).length c1, .agg #[.bool (getM l o1).1, .bool (getM l o1).2.1, .int .u64 (getM l o1).2.2.1, .slice A2 (getM l o1).2.2.2.length c2]]) [.f (KC k61 A1 c1 ((del l o1).map old)), .f (KC (Kd.int .u64) A2 c2 (getM l o1).2.2.2)]) := by
  refine con_enter (c := bodyOf Try.f31) Try.func31 rfl (m := 112) rfl rfl rfl ?_
  intro X hX _
  refine c_seq rfl ?_
  refine r_ord (l := [0, 1, 2]) rfl (by kernel_rfl) (by kernel_rfl) ?_
  refine s_e rfl rfl (e_box rfl rfl rfl rfl) ?_
  intro b1_
  refine s_v rfl rfl rfl rfl (v_as rfl rfl) ?_
  refine s_e rfl rfl (e_alloc rfl rfl rfl ZR46) ?_
  intro b2_
  refine s_end ?_
  refine q_seq ?_
  refine c_seq rfl ?_
  refine c_seq rfl ?_
  refine r_ord (l := [0, 1]) rfl (by kernel_rfl) (by kernel_rfl) ?_
  refine s_v rfl rfl rfl rfl (v_fa rfl Try.underlying43 rfl SZ3 rfl) ?_
  refine s_v rfl rfl rfl rfl (v_ld 1 rfl Try.underlying3 rfl rfl rfl rfl) ?_
  refine s_end ?_
  refine q_seq ?_
  refine c_block rfl ?_
  refine c_seq rfl ?_
  refine r_ord (l := [0, 1]) rfl (by kernel_rfl) (by kernel_rfl) ?_
  refine s_v rfl rfl rfl rfl (v_ar rfl rfl rfl rfl) ?_
  refine s_v rfl rfl rfl rfl (v_as rfl rfl) ?_
  refine s_end ?_
  refine q_seq ?_
  refine c_cond0 rfl rfl ?_
  refine c_seq rfl ?_
  refine r_ord (l := [0, 1]) rfl (by kernel_rfl) (by kernel_rfl) ?_
  refine s_v rfl rfl rfl rfl (v_ar rfl rfl rfl rfl) ?_
  refine s_v rfl rfl rfl rfl (v_as rfl rfl) ?_
  refine s_end ?_
  refine q_seq ?_
  refine c_cond0 rfl rfl ?_
  refine c_seq rfl ?_
  refine r_ord (l := [0, 1]) rfl (by kernel_rfl) (by kernel_rfl) ?_
  refine s_v rfl rfl rfl rfl (v_ar rfl rfl rfl rfl) ?_
  refine s_v rfl rfl rfl rfl (v_as rfl rfl) ?_
  refine s_end ?_
  refine q_seq ?_
  refine c_cond1 rfl rfl ?_
  refine c_seq rfl ?_
  refine r_any [.b b1_ (.cells #[.int .i64 3, .int .u64 o1, .int .u64 o2, .int .i64 o3, .int .i64 o4] 43 (0, 0)), .f (KC k61 A c (l.map old))] (by kernel_rfl) rfl (by kernel_rfl) (mem_pick (idx := [1, 2]) rfl) ?_
  refine a_v 0 rfl (by kernel_rfl) (by kernel_rfl) (by kernel_rfl) rfl rfl rfl (v_mv rfl rfl) ?_
  refine a_v 1 rfl (by kernel_rfl) (by kernel_rfl) (by kernel_rfl) rfl rfl rfl (v_fa rfl Try.underlying43 rfl SZ41 rfl) ?_
  refine a_v 2 rfl (by kernel_rfl) (by kernel_rfl) (by kernel_rfl) rfl rfl rfl (v_ld 0 rfl Try.underlying41 rfl rfl rfl rfl) ?_
  refine a_v 4 rfl (by kernel_rfl) (by kernel_rfl) (by kernel_rfl) rfl rfl rfl (v_mv rfl rfl) ?_
  refine a_v 5 rfl (by kernel_rfl) (by kernel_rfl) (by kernel_rfl) rfl rfl rfl (v_fa rfl Try.underlying43 rfl SZ41 rfl) ?_
  refine a_v 6 rfl (by kernel_rfl) (by kernel_rfl) (by kernel_rfl) rfl rfl rfl (v_ld 0 rfl Try.underlying41 rfl rfl rfl rfl) ?_
  refine a_1 (i := 3) (by kernel_rfl) ?_
  refine i_e rfl rfl (e_callK (fun z : Option Addr × Nat => .slice z.1 (((del l o1).map old).length) z.2) (fun z => [KC k61 z.1 z.2 ((del l o1).map old)]) #[.slice A ((l.map old).length) c, .int .u64 o1] rfl rfl rfl rfl rfl Try.func55 rfl (by decide) rfl rfl (fun w ht => stepstoneref07_Without.con 5000 _ _ (l.map old) o1 _ (refWithout_f l o1 hl 5000 (by omega)) w (Tri.fact ht 2 rfl))) ?_
  intro z3_
  refine ⟨(mem_pick (idx := [2, 3]) rfl), ?_⟩
  refine a_1 (i := 7) (by kernel_rfl) ?_
  refine i_e rfl rfl (e_callK (fun z : Option Addr × Nat => .agg #[.bool ((getM l o1).1), .bool ((getM l o1).2.1), .int .u64 ((getM l o1).2.2.1), .slice z.1 (((getM l o1).2.2.2).length) z.2]) (fun z => [KC (Kd.int .u64) z.1 z.2 ((getM l o1).2.2.2)]) #[.slice A ((l.map old).length) c, .int .u64 o1] rfl rfl rfl rfl rfl Try.func53 rfl (by decide) rfl rfl (fun w ht => stepstoneref07_get.con 5000 _ _ (l.map old) o1 _ _ _ _ (refGet_f l o1 hl 5000 (by omega)) w (Tri.fact ht 3 rfl))) ?_
  intro z4_
  refine ⟨(mem_pick (idx := [3, 4]) rfl), ?_⟩
  refine a_v 8 rfl (by kernel_rfl) (by kernel_rfl) (by kernel_rfl) rfl rfl rfl (v_as rfl rfl) ?_
  refine a_1 (i := 9) (by kernel_rfl) ?_
  refine i_e rfl rfl (e_stA 2 rfl rfl SZ46 rfl rfl rfl rfl rfl rfl) ?_
  refine ⟨(mem_pick (idx := [3, 4]) rfl), ?_⟩
  refine a_end (by kernel_rfl) ?_
  refine q_seq ?_
  refine c_ret rfl ?_
  refine q_block_ret ?_
  refine q_then_ret ?_
  exact q_ret (vs := [.slice z3_.1 (((del l o1).map old).length) z3_.2, .agg #[.bool ((getM l o1).1), .bool ((getM l o1).2.1), .int .u64 ((getM l o1).2.2.1), .slice z4_.1 (((getM l o1).2.2.2).length) z4_.2]]) rfl (.tmp rfl (.agg [.bool ((getM l o1).1), .bool ((getM l o1).2.1), .int .u64 ((getM l o1).2.2.1), .slice z4_.1 (((getM l o1).2.2.2).length) z4_.2] 2 rfl Try.underlying46 rfl SZ46 rfl rfl rfl .nil)) [1, 0] rfl (by decide) (hX _ _ _ _)
set_option maxRecDepth 100000 in
set_option maxHeartbeats 4000000 in
theorem rdo_ceiling (A : Option Addr) (c : Nat) (l : List S56) (o1 o2 o3 o4 : Int) (hs : Srt l) (hl : l.length ≤ 1000)  (w0 : World) (H : List Nat) : Con Try.prog 31 #[.slice A (l.map old).length c, .agg #[.int .i64 4, .int .u64 o1, .int .u64 o2, .int .i64 o3, .int .i64 o4]] w0 H [.f (KC k61 A c (l.map old))] (fun X => ∀ A1 c1 A2 c2, X (.tuple #[.slice A1 (l.map old).length c1, .agg #[.bool (ceilM l o1).1, .bool (ceilM l o1).2.1, .int .u64 (ceilM l o1).2.2.1, .slice A2 (ceilM l o1).2.2.2.length c2]]) [.f (KC k61 A1 c1 (l.map old)), .f (KC (Kd.int .u64) A2 c2 (ceilM l o1).2.2.2)]) := by
 refine con_enter (c := bodyOf Try.f31) Try.func31 rfl (m := 112) rfl rfl rfl ?_
 intro X hX _
 refine c_seq rfl ?_
 refine r_ord (l := [0, 1, 2]) rfl (by kernel_rfl) (by kernel_rfl) ?_
 refine s_e rfl rfl (e_box rfl rfl rfl rfl) ?_
 intro b1_
 refine s_v rfl rfl rfl rfl (v_as rfl rfl) ?_
 refine s_e rfl rfl (e_alloc rfl rfl rfl ZR46) ?_
 intro b2_
 refine s_end ?_
 refine q_seq ?_
 refine c_seq rfl ?_
 refine c_seq rfl ?_
 refine r_ord (l := [0, 1]) rfl (by kernel_rfl) (by kernel_rfl) ?_
 refine s_v rfl rfl rfl rfl (v_fa rfl Try.underlying43 rfl SZ3 rfl) ?_
 refine s_v rfl rfl rfl rfl (v_ld 1 rfl Try.underlying3 rfl rfl rfl rfl) ?_
 refine s_end ?_
 refine q_seq ?_
 refine c_block rfl ?_
 refine c_seq rfl ?_
 refine r_ord (l := [0, 1]) rfl (by kernel_rfl) (by kernel_rfl) ?_
 refine s_v rfl rfl rfl rfl (v_ar rfl rfl rfl rfl) ?_
 refine s_v rfl rfl rfl rfl (v_as rfl rfl) ?_
 refine s_end ?_
 refine q_seq ?_
 refine c_cond0 rfl rfl ?_
 refine c_seq rfl ?_
 refine r_ord (l := [0, 1]) rfl (by kernel_rfl) (by kernel_rfl) ?_
 refine s_v rfl rfl rfl rfl (v_ar rfl rfl rfl rfl) ?_
 refine s_v rfl rfl rfl rfl (v_as rfl rfl) ?_
 refine s_end ?_
 refine q_seq ?_
 refine c_cond0 rfl rfl ?_
 refine c_seq rfl ?_
 refine r_ord (l := [0, 1]) rfl (by kernel_rfl) (by kernel_rfl) ?_
 refine s_v rfl rfl rfl rfl (v_ar rfl rfl rfl rfl) ?_
 refine s_v rfl rfl rfl rfl (v_as rfl rfl) ?_
 refine s_end ?_
 refine q_seq ?_
 refine c_cond0 rfl rfl ?_
 refine c_seq rfl ?_
 refine r_ord (l := [0, 1]) rfl (by kernel_rfl) (by kernel_rfl) ?_
 refine s_v rfl rfl rfl rfl (v_ar rfl rfl rfl rfl) ?_
 refine s_v rfl rfl rfl rfl (v_as rfl rfl) ?_
 refine s_end ?_
 refine q_seq ?_
 refine c_cond1 rfl rfl ?_
 refine c_seq rfl ?_
 refine r_ord (l := [0]) rfl (by kernel_rfl) (by kernel_rfl) ?_
 refine s_v rfl rfl rfl rfl (v_as rfl rfl) ?_
 refine s_end ?_
 refine q_seq ?_
 refine c_block rfl ?_
 have hz : kf (l.take 0) o1 = [] := rfl
 refine c_loop (σ := Nat) (fun i => i ≤ l.length ∧ kf (l.take i) o1 = []) (fun i => l.length - i) (fun i => [(0, .slice A ((l.map old).length) c), (3, .pointer (some ⟨b1_, 0, none⟩)), (4, .slice none 0 0), (5, .pointer (some ⟨b2_, 0, none⟩)), (6, .int .i64 ((i : Nat) : Int))]) (fun i => [.b b1_ (.cells #[.int .i64 4, .int .u64 o1, .int .u64 o2, .int .i64 o3, .int .i64 o4] 43 (0, 0)), .b b2_ (.cells #[.bool false, .bool false, .int .u64 0, .slice none 0 0] 46 (0, 0)), .f (KC k61 A c (l.map old))]) 0 [1, 0, 2] rfl ⟨Nat.zero_le _, hz⟩ (subF_spec ⟨rfl, rfl, rfl, rfl, rfl, trivial⟩) rfl (by decide) ?_
 rintro i hs
 have hs_ := hs
 refine c_seq rfl ?_
 refine c_seq rfl ?_
 refine r_ord (l := [0, 1, 2, 3]) rfl (by kernel_rfl) (by kernel_rfl) ?_
 refine s_v rfl rfl rfl rfl (v_mv rfl rfl) ?_
 refine s_v rfl rfl rfl rfl (v_mv rfl rfl) ?_
 refine s_v rfl rfl rfl rfl (v_len rfl rfl rfl Try.underlying31 rfl rfl) ?_
 refine s_v rfl rfl rfl rfl (v_ar rfl rfl rfl rfl) ?_
 refine s_end ?_
 refine q_seq ?_
 refine c_cond (t := decide ((((i : Nat) : Int) : Int) < ((l.map old).length : Nat))) rfl rfl (fun h3_ => ?_) (fun h3_ => ?_)
 have h3_d := of_decide_eq_true h3_
 have hil : i < l.length := by rw [List.length_map] at h3_d; omega
 refine c_skip rfl ?_
 refine q_seq ?_
 refine c_seq rfl ?_
 refine c_block rfl ?_
 refine c_seq rfl ?_
 refine r_any [.b b1_ (.cells #[.int .i64 4, .int .u64 o1, .int .u64 o2, .int .i64 o3, .int .i64 o4] 43 (0, 0)), .b b2_ (.cells #[.bool false, .bool false, .int .u64 0, .slice none 0 0] 46 (0, 0)), .f (KC k61 A c (l.map old))] (by kernel_rfl) rfl (by kernel_rfl) (mem_pick (idx := [0, 1, 2]) rfl) ?_
 refine a_v 0 rfl (by kernel_rfl) (by kernel_rfl) (by kernel_rfl) rfl rfl rfl (v_mv rfl rfl) ?_
 refine a_v 1 rfl (by kernel_rfl) (by kernel_rfl) (by kernel_rfl) rfl rfl rfl (v_mv rfl rfl) ?_
 refine a_v 2 rfl (by kernel_rfl) (by kernel_rfl) (by kernel_rfl) rfl rfl rfl (v_iaK (i := 2) rfl Try.underlying31 SZ61 rfl rfl rfl rfl (by omega) (by rw [List.length_map]; omega)) ?_
 refine a_v 3 rfl (by kernel_rfl) (by kernel_rfl) (by kernel_rfl) rfl rfl rfl (v_fax rfl Try.underlying61 rfl SZ41 rfl) ?_
 refine a_v 4 rfl (by kernel_rfl) (by kernel_rfl) (by kernel_rfl) rfl rfl rfl (v_ldKf (v := .int .u64 ((rd_T61 (l.map old) ((i : Nat) : Int)).f0)) z61 [.int .u64 ((rd_T61 (l.map old) ((i : Nat) : Int)).f0), .int .u64 ((rd_T61 (l.map old) ((i : Nat) : Int)).f1)] 2 rfl Try.underlying41 rfl rfl rfl rfl (by omega) (by rw [List.length_map]; omega) (fun w K h => k61_open h) rfl) ?_
 refine a_v 5 rfl (by kernel_rfl) (by kernel_rfl) (by kernel_rfl) rfl rfl rfl (v_fa rfl Try.underlying43 rfl SZ41 rfl) ?_
 refine a_v 6 rfl (by kernel_rfl) (by kernel_rfl) (by kernel_rfl) rfl rfl rfl (v_ld 0 rfl Try.underlying41 rfl rfl rfl rfl) ?_
 refine a_v 7 rfl (by kernel_rfl) (by kernel_rfl) (by kernel_rfl) rfl rfl rfl (v_ar rfl rfl rfl rfl) ?_
 refine a_end (by kernel_rfl) ?_
 refine q_seq ?_
 refine c_cond (t := decide (((rd_T61 (l.map old) ((i : Nat) : Int)).f0 : Int) ≥ o1)) rfl rfl (fun h4_ => ?_) (fun h4_ => ?_)
 have h4_d := of_decide_eq_true h4_
 rw [rdo hil] at h4_d
 have hcm := kf_hit hil hs_.2 h4_d
 refine c_seq rfl ?_
 refine r_any [.b b1_ (.cells #[.int .i64 4, .int .u64 o1, .int .u64 o2, .int .i64 o3, .int .i64 o4] 43 (0, 0)), .f (KC k61 A c (l.map old))] (by kernel_rfl) rfl (by kernel_rfl) (mem_pick (idx := [0, 2]) rfl) ?_
 refine a_v 0 rfl (by kernel_rfl) (by kernel_rfl) (by kernel_rfl) rfl rfl rfl (v_mv rfl rfl) ?_
 refine a_v 1 rfl (by kernel_rfl) (by kernel_rfl) (by kernel_rfl) rfl rfl rfl (v_mv rfl rfl) ?_
 refine a_v 2 rfl (by kernel_rfl) (by kernel_rfl) (by kernel_rfl) rfl rfl rfl (v_mv rfl rfl) ?_
 refine a_v 3 rfl (by kernel_rfl) (by kernel_rfl) (by kernel_rfl) rfl rfl rfl (v_iaK (i := 1) rfl Try.underlying31 SZ61 rfl rfl rfl rfl (by omega) (by rw [List.length_map]; omega)) ?_
 refine a_v 4 rfl (by kernel_rfl) (by kernel_rfl) (by kernel_rfl) rfl rfl rfl (v_fax rfl Try.underlying61 rfl SZ41 rfl) ?_
 refine a_v 5 rfl (by kernel_rfl) (by kernel_rfl) (by kernel_rfl) rfl rfl rfl (v_ldKf (v := .int .u64 ((rd_T61 (l.map old) ((i : Nat) : Int)).f0)) z61 [.int .u64 ((rd_T61 (l.map old) ((i : Nat) : Int)).f0), .int .u64 ((rd_T61 (l.map old) ((i : Nat) : Int)).f1)] 1 rfl Try.underlying41 rfl rfl rfl rfl (by omega) (by rw [List.length_map]; omega) (fun w K h => k61_open h) rfl) ?_
 refine a_v 6 rfl (by kernel_rfl) (by kernel_rfl) (by kernel_rfl) rfl rfl rfl (v_build (places := #[(0, 1), (1, 1), (2, 1), (3, 1)]) #[.bool false, .bool true, .int .u64 ((rd_T61 (l.map old) ((i : Nat) : Int)).f0), .slice none 0 0] rfl ZR46 Try.underlying46 (by kernel_rfl) rfl rfl) ?_
 refine a_v 7 rfl (by kernel_rfl) (by kernel_rfl) (by kernel_rfl) rfl rfl rfl (v_as rfl rfl) ?_
 refine a_1 (i := 8) (by kernel_rfl) ?_
 refine i_e rfl rfl (e_stA 1 rfl rfl SZ46 rfl rfl rfl rfl rfl rfl) ?_
 refine ⟨(mem_pick (idx := [0, 2]) rfl), ?_⟩
 refine a_end (by kernel_rfl) ?_
 refine q_seq ?_
 refine c_ret rfl ?_
 refine q_block_ret ?_
 refine q_then_ret ?_
 refine q_then_ret ?_
 refine q_block_ret ?_
 refine q_block_ret ?_
 refine q_then_ret ?_
 refine q_know (KC_nil (Kd.int .u64)) ?_
 exact q_ret (vs := [.slice A ((l.map old).length) c, .agg #[.bool false, .bool true, .int .u64 ((rd_T61 (l.map old) ((i : Nat) : Int)).f0), .slice none 0 0]]) rfl (.tmp rfl (.agg [.bool false, .bool true, .int .u64 ((rd_T61 (l.map old) ((i : Nat) : Int)).f0), .slice none 0 0] 2 rfl Try.underlying46 rfl SZ46 rfl rfl rfl .nil)) [3, 0] rfl (by decide) (by have h_ := hX A c none 0; rw [hcm, ← rdo hil] at h_; exact h_)
 have h4_d := of_decide_eq_false h4_
 rw [rdo hil] at h4_d
 have hge : ¬ o1 ≤ (l[i]).f0 := h4_d
 refine c_skip rfl ?_
 refine q_block ?_
 refine q_seq ?_
 refine r_ord (l := [0, 1, 2]) rfl (by kernel_rfl) (by kernel_rfl) ?_
 refine s_v rfl rfl rfl rfl (v_mv rfl rfl) ?_
 refine s_v rfl rfl rfl rfl (OpV.cast (v := .int .i64 ((i + 1 : Nat) : Int)) (v_ar rfl rfl rfl rfl) (inc64 (by omega))) ?_
 refine s_v rfl rfl rfl rfl (v_as rfl rfl) ?_
 refine s_end ?_
 exact q_again (i + 1) [0, 1, 2] ⟨by omega, by rw [kf_take hil, hs_.2, if_neg hge]; rfl⟩ (by omega) (subF_spec ⟨rfl, rfl, rfl, rfl, rfl, trivial⟩) rfl (by decide)
 have h3_d := of_decide_eq_false h3_
 obtain rfl : i = l.length := by rw [List.length_map] at h3_d; have := hs_.1; omega
 have hcm := kf_miss hs_.2
 refine c_exit (i := 1) rfl rfl ?_
 refine q_then_exit ?_
 refine q_then_exit ?_
 refine q_block_here rfl ?_
 refine q_block ?_
 refine q_seq ?_
 refine c_seq rfl ?_
 refine r_ord (l := [0, 1, 2, 3]) rfl (by kernel_rfl) (by kernel_rfl) ?_
 refine s_v rfl rfl rfl rfl (v_mv rfl rfl) ?_
 refine s_v rfl rfl rfl rfl (v_build (places := #[(0, 1), (1, 1), (2, 1), (3, 1)]) #[.bool false, .bool false, .int .u64 0, .slice none 0 0] rfl ZR46 Try.underlying46 (by kernel_rfl) rfl rfl) ?_
 refine s_v rfl rfl rfl rfl (v_as rfl rfl) ?_
 refine s_e rfl rfl (e_stA 1 rfl rfl SZ46 rfl rfl rfl rfl rfl rfl) ?_
 refine s_end ?_
 refine q_seq ?_
 refine c_ret rfl ?_
 refine q_know (KC_nil (Kd.int .u64)) ?_
 exact q_ret (vs := [.slice A ((l.map old).length) c, .agg #[.bool false, .bool false, .int .u64 0, .slice none 0 0]]) rfl (.tmp rfl (.agg [.bool false, .bool false, .int .u64 0, .slice none 0 0] 2 rfl Try.underlying46 rfl SZ46 rfl rfl rfl .nil)) [3, 0] rfl (by decide) (by have h_ := hX A c none 0; rw [hcm] at h_; exact h_)
set_option maxRecDepth 100000 in
set_option maxHeartbeats 4000000 in
theorem rdo_other (A : Option Addr) (c : Nat) (l : List S56) (o1 o2 o3 o4 : Int) (hs : Srt l) (hl : l.length ≤ 1000) (kd : Int) (hk1 : (kd == 1) = false) (hk2 : (kd == 2) = false) (hk3 : (kd == 3) = false) (hk4 : (kd == 4) = false) (hk5 : (kd == 5) = false) (w0 : World) (H : List Nat) : Con Try.prog 31 #[.slice A (l.map old).length c, .agg #[.int .i64 kd, .int .u64 o1, .int .u64 o2, .int .i64 o3, .int .i64 o4]] w0 H [.f (KC k61 A c (l.map old))] (fun X => ∀ A1 c1 A2 c2, X (.tuple #[.slice A1 (l.map old).length c1, .agg #[.bool false, .bool false, .int .u64 0, .slice A2 ([] : List Int).length c2]]) [.f (KC k61 A1 c1 (l.map old)), .f (KC (Kd.int .u64) A2 c2 ([] : List Int))]) := by
  refine con_enter (c := bodyOf Try.f31) Try.func31 rfl (m := 112) rfl rfl rfl ?_
  intro X hX _
  refine c_seq rfl ?_
  refine r_ord (l := [0, 1, 2]) rfl (by kernel_rfl) (by kernel_rfl) ?_
  refine s_e rfl rfl (e_box rfl rfl rfl rfl) ?_
  intro b1_
  refine s_v rfl rfl rfl rfl (v_as rfl rfl) ?_
  refine s_e rfl rfl (e_alloc rfl rfl rfl ZR46) ?_
  intro b2_
  refine s_end ?_
  refine q_seq ?_
  refine c_seq rfl ?_
  refine c_seq rfl ?_
  refine r_ord (l := [0, 1]) rfl (by kernel_rfl) (by kernel_rfl) ?_
  refine s_v rfl rfl rfl rfl (v_fa rfl Try.underlying43 rfl SZ3 rfl) ?_
  refine s_v rfl rfl rfl rfl (v_ld 1 rfl Try.underlying3 rfl rfl rfl rfl) ?_
  refine s_end ?_
  refine q_seq ?_
  refine c_block rfl ?_
  refine c_seq rfl ?_
  refine r_ord (l := [0, 1]) rfl (by kernel_rfl) (by kernel_rfl) ?_
  refine s_v rfl rfl rfl rfl (v_ar rfl rfl rfl rfl) ?_
  refine s_v rfl rfl rfl rfl (v_as rfl rfl) ?_
  refine s_end ?_
  refine q_seq ?_
  refine c_cond rfl rfl (fun h => absurd (h.symm.trans hk1) (by decide)) (fun _ => ?_)
  refine c_seq rfl ?_
  refine r_ord (l := [0, 1]) rfl (by kernel_rfl) (by kernel_rfl) ?_
  refine s_v rfl rfl rfl rfl (v_ar rfl rfl rfl rfl) ?_
  refine s_v rfl rfl rfl rfl (v_as rfl rfl) ?_
  refine s_end ?_
  refine q_seq ?_
  refine c_cond rfl rfl (fun h => absurd (h.symm.trans hk2) (by decide)) (fun _ => ?_)
  refine c_seq rfl ?_
  refine r_ord (l := [0, 1]) rfl (by kernel_rfl) (by kernel_rfl) ?_
  refine s_v rfl rfl rfl rfl (v_ar rfl rfl rfl rfl) ?_
  refine s_v rfl rfl rfl rfl (v_as rfl rfl) ?_
  refine s_end ?_
  refine q_seq ?_
  refine c_cond rfl rfl (fun h => absurd (h.symm.trans hk3) (by decide)) (fun _ => ?_)
  refine c_seq rfl ?_
  refine r_ord (l := [0, 1]) rfl (by kernel_rfl) (by kernel_rfl) ?_
  refine s_v rfl rfl rfl rfl (v_ar rfl rfl rfl rfl) ?_
  refine s_v rfl rfl rfl rfl (v_as rfl rfl) ?_
  refine s_end ?_
  refine q_seq ?_
  refine c_cond rfl rfl (fun h => absurd (h.symm.trans hk4) (by decide)) (fun _ => ?_)
  refine c_seq rfl ?_
  refine r_ord (l := [0, 1]) rfl (by kernel_rfl) (by kernel_rfl) ?_
  refine s_v rfl rfl rfl rfl (v_ar rfl rfl rfl rfl) ?_
  refine s_v rfl rfl rfl rfl (v_as rfl rfl) ?_
  refine s_end ?_
  refine q_seq ?_
  refine c_cond rfl rfl (fun h => absurd (h.symm.trans hk5) (by decide)) (fun _ => ?_)
  refine c_skip rfl ?_
  refine q_block ?_
  refine q_seq ?_
  refine c_seq rfl ?_
  refine r_ord (l := [0, 1, 2, 3]) rfl (by kernel_rfl) (by kernel_rfl) ?_
  refine s_v rfl rfl rfl rfl (v_mv rfl rfl) ?_
  refine s_v rfl rfl rfl rfl (v_build (places := #[(0, 1), (1, 1), (2, 1), (3, 1)]) #[.bool false, .bool false, .int .u64 0, .slice none 0 0] rfl ZR46 Try.underlying46 (by kernel_rfl) rfl rfl) ?_
  refine s_v rfl rfl rfl rfl (v_as rfl rfl) ?_
  refine s_e rfl rfl (e_stA 0 rfl rfl SZ46 rfl rfl rfl rfl rfl rfl) ?_
  refine s_end ?_
  refine q_seq ?_
  refine c_ret rfl ?_
  refine q_know (KC_nil (Kd.int .u64)) ?_
  exact q_ret (vs := [.slice A ((l.map old).length) c, .agg #[.bool false, .bool false, .int .u64 0, .slice none 0 0]]) rfl (.tmp rfl (.agg [.bool false, .bool false, .int .u64 0, .slice none 0 0] 1 rfl Try.underlying46 rfl SZ46 rfl rfl rfl .nil)) [3, 0] rfl (by decide) (hX _ _ _ _)
end Go.Eng
namespace Go.Eng
open Go.Proofs Go.RowKit Go.Proofs.YtiihjijmmephlaaW.PrintWords Go.Proofs.Ytiihjijmmephlaa.GHist
set_option linter.unusedVariables false
set_option linter.unusedSimpArgs false
def QInv (m : List Int) : Option (Nat × Nat × Nat × Array Value) → Prop
  | none => m = []
  | some (n, _, cap, cur) => n = m.length ∧ n ≤ cap ∧ cap ≤ maxLen ∧ cur.size = cap * 1 ∧ cur.toList.take (n * 1) = m.map (Value.int .u64)
theorem QInv.first {m : List Int} {x : Int} (h : m = []) {g cap : Nat} {cur : Array Value} (h1 : 1 ≤ cap) (h2 : cap ≤ maxLen) (h3 : cur.size = cap * 1) (htk : cur.toList.take (1 * 1) = [.int .u64 x]) : QInv (m ++ [x]) (some (1, g, cap, cur)) := by
  subst h
  exact ⟨rfl, h1, h2, h3, htk⟩
theorem QInv.next {m : List Int} {x : Int} {n g0 c0 : Nat} {u0 : Array Value} (hs : QInv m (some (n, g0, c0, u0))) {g cap : Nat} {cur : Array Value} (h1 : n + 1 ≤ cap) (h2 : cap ≤ maxLen) (h3 : cur.size = cap * 1) (htk : cur.toList.take ((n + 1) * 1) = u0.toList.take (n * 1) ++ [.int .u64 x]) : QInv (m ++ [x]) (some (n + 1, g, cap, cur)) := by
  obtain ⟨e1, _, _, _, e5⟩ := hs
  exact ⟨by simp [e1], h1, h2, h3, by rw [htk, e5]; simp⟩
set_option maxRecDepth 100000 in
set_option maxHeartbeats 4000000 in
theorem rdo_range (A : Option Addr) (c : Nat) (l : List S56) (o1 o2 o3 o4 : Int) (hs : Srt l) (hl : l.length ≤ 1000)  (w0 : World) (H : List Nat) : Con Try.prog 31 #[.slice A (l.map old).length c, .agg #[.int .i64 5, .int .u64 o1, .int .u64 o2, .int .i64 o3, .int .i64 o4]] w0 H [.f (KC k61 A c (l.map old))] (fun X => ∀ A1 c1 A2 c2, X (.tuple #[.slice A1 (l.map old).length c1, .agg #[.bool false, .bool false, .int .u64 0, .slice A2 (rngM l o1 o2 o3).length c2]]) [.f (KC k61 A1 c1 (l.map old)), .f (KC (Kd.int .u64) A2 c2 (rngM l o1 o2 o3))]) := by
 refine con_enter (c := bodyOf Try.f31) Try.func31 rfl (m := 112) rfl rfl rfl ?_
 intro X hX _
 refine c_seq rfl ?_
 refine r_ord (l := [0, 1, 2]) rfl (by kernel_rfl) (by kernel_rfl) ?_
 refine s_e rfl rfl (e_box rfl rfl rfl rfl) ?_
 intro b1_
 refine s_v rfl rfl rfl rfl (v_as rfl rfl) ?_
 refine s_e rfl rfl (e_alloc rfl rfl rfl ZR46) ?_
 intro b2_
 refine s_end ?_
 refine q_seq ?_
 refine c_seq rfl ?_
 refine c_seq rfl ?_
 refine r_ord (l := [0, 1]) rfl (by kernel_rfl) (by kernel_rfl) ?_
 refine s_v rfl rfl rfl rfl (v_fa rfl Try.underlying43 rfl SZ3 rfl) ?_
 refine s_v rfl rfl rfl rfl (v_ld 1 rfl Try.underlying3 rfl rfl rfl rfl) ?_
 refine s_end ?_
 refine q_seq ?_
 refine c_block rfl ?_
 refine c_seq rfl ?_
 refine r_ord (l := [0, 1]) rfl (by kernel_rfl) (by kernel_rfl) ?_
 refine s_v rfl rfl rfl rfl (v_ar rfl rfl rfl rfl) ?_
 refine s_v rfl rfl rfl rfl (v_as rfl rfl) ?_
 refine s_end ?_
 refine q_seq ?_
 refine c_cond0 rfl rfl ?_
 refine c_seq rfl ?_
 refine r_ord (l := [0, 1]) rfl (by kernel_rfl) (by kernel_rfl) ?_
 refine s_v rfl rfl rfl rfl (v_ar rfl rfl rfl rfl) ?_
 refine s_v rfl rfl rfl rfl (v_as rfl rfl) ?_
 refine s_end ?_
 refine q_seq ?_
 refine c_cond0 rfl rfl ?_
 refine c_seq rfl ?_
 refine r_ord (l := [0, 1]) rfl (by kernel_rfl) (by kernel_rfl) ?_
 refine s_v rfl rfl rfl rfl (v_ar rfl rfl rfl rfl) ?_
 refine s_v rfl rfl rfl rfl (v_as rfl rfl) ?_
 refine s_end ?_
 refine q_seq ?_
 refine c_cond0 rfl rfl ?_
 refine c_seq rfl ?_
 refine r_ord (l := [0, 1]) rfl (by kernel_rfl) (by kernel_rfl) ?_
 refine s_v rfl rfl rfl rfl (v_ar rfl rfl rfl rfl) ?_
 refine s_v rfl rfl rfl rfl (v_as rfl rfl) ?_
 refine s_end ?_
 refine q_seq ?_
 refine c_cond0 rfl rfl ?_
 refine c_seq rfl ?_
 refine r_ord (l := [0, 1]) rfl (by kernel_rfl) (by kernel_rfl) ?_
 refine s_v rfl rfl rfl rfl (v_ar rfl rfl rfl rfl) ?_
 refine s_v rfl rfl rfl rfl (v_as rfl rfl) ?_
 refine s_end ?_
 refine q_seq ?_
 refine c_cond1 rfl rfl ?_
 refine c_seq rfl ?_
 refine r_ord (l := [0]) rfl (by kernel_rfl) (by kernel_rfl) ?_
 refine s_e rfl rfl (e_alloc rfl rfl rfl ZR46) ?_
 intro b3_
 refine s_end ?_
 refine q_seq ?_
 refine c_seq rfl ?_
 refine c_seq rfl ?_
 refine r_ord (l := [0]) rfl (by kernel_rfl) (by kernel_rfl) ?_
 refine s_v rfl rfl rfl rfl (v_as rfl rfl) ?_
 refine s_end ?_
 refine q_seq ?_
 refine c_block rfl ?_
 refine c_loop (σ := (Nat × Option (Nat × Nat × Nat × Array Value))) (fun s : (Nat × Option (Nat × Nat × Nat × Array Value)) => s.1 ≤ l.length ∧ QInv (rngM (l.take s.1) o1 o2 o3) s.2) (fun s => l.length - s.1) (fun s => [(0, .slice A ((l.map old).length) c), (3, .pointer (some ⟨b1_, 0, none⟩)), (4, .slice none 0 0), (5, .pointer (some ⟨b2_, 0, none⟩)), (7, .pointer (some ⟨b3_, 0, none⟩)), (8, .int .i64 ((s.1 : Nat) : Int))]) (fun s : (Nat × Option (Nat × Nat × Nat × Array Value)) => match s with | (_, none) => [.b b1_ (.cells #[.int .i64 5, .int .u64 o1, .int .u64 o2, .int .i64 o3, .int .i64 o4] 43 (0, 0)), .b b2_ (.cells #[.bool false, .bool false, .int .u64 0, .slice none 0 0] 46 (0, 0)), .f (KC k61 A c (l.map old)), .b b3_ (.cells #[.bool false, .bool false, .int .u64 0, .slice none 0 0] 46 (0, 0))] | (_, some (n, g, cap, cur)) => [.b b1_ (.cells #[.int .i64 5, .int .u64 o1, .int .u64 o2, .int .i64 o3, .int .i64 o4] 43 (0, 0)), .b b2_ (.cells #[.bool false, .bool false, .int .u64 0, .slice none 0 0] 46 (0, 0)), .f (KC k61 A c (l.map old)), .b b3_ (.cells #[.bool false, .bool false, .int .u64 0, .slice (some ⟨g, 0, none⟩) n cap] 46 (0, 0)), .b g (.cells cur 41 (0, 0))]) (0, none) [2, 1, 3, 0] rfl ⟨Nat.zero_le _, (show rngM (l.take 0) o1 o2 o3 = [] from by simp [rngM, kf])⟩ (subF_spec ⟨rfl, rfl, rfl, rfl, rfl, rfl, trivial⟩) rfl (by decide) ?_
 rintro ⟨i, _ | ⟨n, g, cap, cur⟩⟩ hs_
 have hi_ : i ≤ l.length := hs_.1
 have hq_ : (rngM (l.take i) o1 o2 o3) = [] := hs_.2
 have hn : ((0 : Nat) : Int) = ((rngM (l.take i) o1 o2 o3).length : Int) := by rw [hq_]; rfl
 refine c_seq rfl ?_
 refine c_seq rfl ?_
 refine r_ord (l := [0, 1, 2, 3]) rfl (by kernel_rfl) (by kernel_rfl) ?_
 refine s_v rfl rfl rfl rfl (v_mv rfl rfl) ?_
 refine s_v rfl rfl rfl rfl (v_mv rfl rfl) ?_
 refine s_v rfl rfl rfl rfl (v_len rfl rfl rfl Try.underlying31 rfl rfl) ?_
 refine s_v rfl rfl rfl rfl (v_ar rfl rfl rfl rfl) ?_
 refine s_end ?_
 refine q_seq ?_
 refine c_cond (t := decide ((((i : Nat) : Int) : Int) < ((l.map old).length : Nat))) rfl rfl (fun h4_ => ?_) (fun h4_ => ?_)
 have h4_d := of_decide_eq_true h4_
 have hil : i < l.length := by rw [List.length_map] at h4_d; omega
 refine c_skip rfl ?_
 refine q_seq ?_
 refine c_seq rfl ?_
 refine c_block rfl ?_
 refine c_seq rfl ?_
 refine r_any [.b b1_ (.cells #[.int .i64 5, .int .u64 o1, .int .u64 o2, .int .i64 o3, .int .i64 o4] 43 (0, 0)), .b b2_ (.cells #[.bool false, .bool false, .int .u64 0, .slice none 0 0] 46 (0, 0)), .f (KC k61 A c (l.map old)), .b b3_ (.cells #[.bool false, .bool false, .int .u64 0, .slice none 0 0] 46 (0, 0))] (by kernel_rfl) rfl (by kernel_rfl) (mem_pick (idx := [0, 1, 2, 3]) rfl) ?_
 refine a_v 0 rfl (by kernel_rfl) (by kernel_rfl) (by kernel_rfl) rfl rfl rfl (v_mv rfl rfl) ?_
 refine a_v 1 rfl (by kernel_rfl) (by kernel_rfl) (by kernel_rfl) rfl rfl rfl (v_mv rfl rfl) ?_
 refine a_v 2 rfl (by kernel_rfl) (by kernel_rfl) (by kernel_rfl) rfl rfl rfl (v_iaK (i := 2) rfl Try.underlying31 SZ61 rfl rfl rfl rfl (by omega) (by rw [List.length_map]; omega)) ?_
 refine a_v 3 rfl (by kernel_rfl) (by kernel_rfl) (by kernel_rfl) rfl rfl rfl (v_fax rfl Try.underlying61 rfl SZ41 rfl) ?_
 refine a_v 4 rfl (by kernel_rfl) (by kernel_rfl) (by kernel_rfl) rfl rfl rfl (v_ldKf (v := .int .u64 ((rd_T61 (l.map old) ((i : Nat) : Int)).f0)) z61 [.int .u64 ((rd_T61 (l.map old) ((i : Nat) : Int)).f0), .int .u64 ((rd_T61 (l.map old) ((i : Nat) : Int)).f1)] 2 rfl Try.underlying41 rfl rfl rfl rfl (by omega) (by rw [List.length_map]; omega) (fun w K h => k61_open h) rfl) ?_
 refine a_v 5 rfl (by kernel_rfl) (by kernel_rfl) (by kernel_rfl) rfl rfl rfl (v_fa rfl Try.underlying43 rfl SZ41 rfl) ?_
 refine a_v 6 rfl (by kernel_rfl) (by kernel_rfl) (by kernel_rfl) rfl rfl rfl (v_ld 0 rfl Try.underlying41 rfl rfl rfl rfl) ?_
 refine a_v 7 rfl (by kernel_rfl) (by kernel_rfl) (by kernel_rfl) rfl rfl rfl (v_ar rfl rfl rfl rfl) ?_
 refine a_v 8 rfl (by kernel_rfl) (by kernel_rfl) (by kernel_rfl) rfl rfl rfl (v_mv rfl rfl) ?_
 refine a_splitv (d := 80) (t := decide (((rd_T61 (l.map old) ((i : Nat) : Int)).f0 : Int) ≥ o1)) rfl (fun h5_ => ?_) (fun h5_ => ?_)
 have h5_d := of_decide_eq_true h5_
 rw [rdo hil] at h5_d
 refine a_v 9 rfl (by kernel_rfl) (by kernel_rfl) (by kernel_rfl) rfl rfl rfl (v_mv rfl rfl) ?_
 refine a_v 10 rfl (by kernel_rfl) (by kernel_rfl) (by kernel_rfl) rfl rfl rfl (v_mv rfl rfl) ?_
 refine a_v 11 rfl (by kernel_rfl) (by kernel_rfl) (by kernel_rfl) rfl rfl rfl (v_iaK (i := 2) rfl Try.underlying31 SZ61 rfl rfl rfl rfl (by omega) (by rw [List.length_map]; omega)) ?_
 refine a_v 12 rfl (by kernel_rfl) (by kernel_rfl) (by kernel_rfl) rfl rfl rfl (v_fax rfl Try.underlying61 rfl SZ41 rfl) ?_
 refine a_v 13 rfl (by kernel_rfl) (by kernel_rfl) (by kernel_rfl) rfl rfl rfl (v_ldKf (v := .int .u64 ((rd_T61 (l.map old) ((i : Nat) : Int)).f0)) z61 [.int .u64 ((rd_T61 (l.map old) ((i : Nat) : Int)).f0), .int .u64 ((rd_T61 (l.map old) ((i : Nat) : Int)).f1)] 2 rfl Try.underlying41 rfl rfl rfl rfl (by omega) (by rw [List.length_map]; omega) (fun w K h => k61_open h) rfl) ?_
 refine a_v 14 rfl (by kernel_rfl) (by kernel_rfl) (by kernel_rfl) rfl rfl rfl (v_fa rfl Try.underlying43 rfl SZ41 rfl) ?_
 refine a_v 15 rfl (by kernel_rfl) (by kernel_rfl) (by kernel_rfl) rfl rfl rfl (v_ld 0 rfl Try.underlying41 rfl rfl rfl rfl) ?_
 refine a_v 16 rfl (by kernel_rfl) (by kernel_rfl) (by kernel_rfl) rfl rfl rfl (v_ar rfl rfl rfl rfl) ?_
 refine a_v 17 rfl (by kernel_rfl) (by kernel_rfl) (by kernel_rfl) rfl rfl rfl (v_pick rfl rfl rfl rfl) ?_
 refine a_v 18 rfl (by kernel_rfl) (by kernel_rfl) (by kernel_rfl) rfl rfl rfl (v_mv rfl rfl) ?_
 refine a_splitv (d := 90) (t := decide (((rd_T61 (l.map old) ((i : Nat) : Int)).f0 : Int) ≤ o2)) rfl (fun h6_ => ?_) (fun h6_ => ?_)
 have h6_d := of_decide_eq_true h6_
 rw [rdo hil] at h6_d
 refine a_v 19 rfl (by kernel_rfl) (by kernel_rfl) (by kernel_rfl) rfl rfl rfl (v_fa rfl Try.underlying46 rfl SZ44 rfl) ?_
 refine a_v 20 rfl (by kernel_rfl) (by kernel_rfl) (by kernel_rfl) rfl rfl rfl (v_ld 3 rfl Try.underlying44 rfl rfl rfl rfl) ?_
 refine a_v 21 rfl (by kernel_rfl) (by kernel_rfl) (by kernel_rfl) rfl rfl rfl (v_len rfl rfl rfl Try.underlying44 rfl rfl) ?_
 refine a_v 22 rfl (by kernel_rfl) (by kernel_rfl) (by kernel_rfl) rfl rfl rfl (v_fa rfl Try.underlying43 rfl SZ3 rfl) ?_
 refine a_v 23 rfl (by kernel_rfl) (by kernel_rfl) (by kernel_rfl) rfl rfl rfl (v_ld 0 rfl Try.underlying3 rfl rfl rfl rfl) ?_
 refine a_v 24 rfl (by kernel_rfl) (by kernel_rfl) (by kernel_rfl) rfl rfl rfl (v_ar rfl rfl rfl rfl) ?_
 refine a_v 25 rfl (by kernel_rfl) (by kernel_rfl) (by kernel_rfl) rfl rfl rfl (v_pick rfl rfl rfl rfl) ?_
 refine a_end (by kernel_rfl) ?_
 refine q_seq ?_
 refine c_cond (t := decide (((0 : Nat) : Int) < o3)) rfl rfl (fun h7_ => ?_) (fun h7_ => ?_)
 have h7_d := of_decide_eq_true h7_
 rw [hn] at h7_d
 refine r_any [.b b1_ (.cells #[.int .i64 5, .int .u64 o1, .int .u64 o2, .int .i64 o3, .int .i64 o4] 43 (0, 0)), .b b2_ (.cells #[.bool false, .bool false, .int .u64 0, .slice none 0 0] 46 (0, 0)), .f (KC k61 A c (l.map old))] (by kernel_rfl) rfl (by kernel_rfl) (mem_pick (idx := [0, 1, 2]) rfl) ?_
 refine a_v 0 rfl (by kernel_rfl) (by kernel_rfl) (by kernel_rfl) rfl rfl rfl (v_fa rfl Try.underlying46 rfl SZ44 rfl) ?_
 refine a_v 2 rfl (by kernel_rfl) (by kernel_rfl) (by kernel_rfl) rfl rfl rfl (v_mv rfl rfl) ?_
 refine a_v 3 rfl (by kernel_rfl) (by kernel_rfl) (by kernel_rfl) rfl rfl rfl (v_mv rfl rfl) ?_
 refine a_v 4 rfl (by kernel_rfl) (by kernel_rfl) (by kernel_rfl) rfl rfl rfl (v_iaK (i := 2) rfl Try.underlying31 SZ61 rfl rfl rfl rfl (by omega) (by rw [List.length_map]; omega)) ?_
 refine a_v 5 rfl (by kernel_rfl) (by kernel_rfl) (by kernel_rfl) rfl rfl rfl (v_fax rfl Try.underlying61 rfl SZ41 rfl) ?_
 refine a_v 6 rfl (by kernel_rfl) (by kernel_rfl) (by kernel_rfl) rfl rfl rfl (v_ldKf (v := .int .u64 ((rd_T61 (l.map old) ((i : Nat) : Int)).f0)) z61 [.int .u64 ((rd_T61 (l.map old) ((i : Nat) : Int)).f0), .int .u64 ((rd_T61 (l.map old) ((i : Nat) : Int)).f1)] 2 rfl Try.underlying41 rfl rfl rfl rfl (by omega) (by rw [List.length_map]; omega) (fun w K h => k61_open h) rfl) ?_
 refine a_2 (i := 1) (j := 7) (by kernel_rfl) ?_ ?_
 refine i_v rfl rfl rfl rfl (v_ld 3 rfl Try.underlying44 rfl rfl rfl rfl) ?_
 refine a_1 (i := 7) (by kernel_rfl) ?_
 refine i_e rfl rfl (e_bslice #[.int .u64 ((rd_T61 (l.map old) ((i : Nat) : Int)).f0)] (.int .u64 0) rfl rfl rfl Try.underlying44 SZ41 ZR41 (by decide) rfl (by kernel_rfl)) ?_
 intro b8_
 refine ⟨(mem_pick (idx := [1, 2, 3]) rfl), ?_⟩
 refine a_1 (i := 8) (by kernel_rfl) ?_
 refine i_e rfl rfl (e_app_nil (z := (.int .u64 0)) (m := 1) (bytes := 8) (k := 1) (news := [.int .u64 ((rd_T61 (l.map old) ((i : Nat) : Int)).f0)]) (i := 0) rfl rfl rfl rfl rfl rfl Try.underlying44 (by kernel_rfl) rfl (by decide) rfl rfl rfl rfl rfl (by simp [Value.oneCell']) (by decide) (by decide) (by decide)) ?_
 intro g9_ cap10_ cur11_ h12_ h13_ h14_ h15_
 refine ⟨(mem_pick (idx := [2, 3, 4]) rfl), ?_⟩
 refine a_v 9 rfl (by kernel_rfl) (by kernel_rfl) (by kernel_rfl) rfl rfl rfl (v_fa rfl Try.underlying46 rfl SZ44 rfl) ?_
 refine a_1 (i := 10) (by kernel_rfl) ?_
 refine i_e rfl rfl (e_st 5 rfl rfl SZ44 rfl rfl rfl rfl (blt_lt rfl)) ?_
 refine ⟨(mem_pick (idx := [2, 3, 4]) rfl), ?_⟩
 refine a_end (by kernel_rfl) ?_
 refine q_block ?_
 refine q_seq ?_
 refine r_ord (l := [0, 1, 2]) rfl (by kernel_rfl) (by kernel_rfl) ?_
 refine s_v rfl rfl rfl rfl (v_mv rfl rfl) ?_
 refine s_v rfl rfl rfl rfl (OpV.cast (v := .int .i64 ((i + 1 : Nat) : Int)) (v_ar rfl rfl rfl rfl) (inc64 (by omega))) ?_
 refine s_v rfl rfl rfl rfl (v_as rfl rfl) ?_
 refine s_end ?_
 have he : rngM (l.take (i + 1)) o1 o2 o3 = (rngM (l.take i) o1 o2 o3) ++ [(l[i]).f0] := by rw [rng_take hil, if_pos ⟨h5_d, h6_d, h7_d⟩]
 exact q_again (i + 1, some (1, g9_, cap10_, cur11_)) [2, 3, 4, 5, 0] ⟨by show i + 1 ≤ l.length; omega, (by rw [he]; exact QInv.first hq_ h12_ h13_ h14_ (by rw [← rdo hil]; exact h15_))⟩ (by show l.length - (i + 1) < l.length - i; omega) (subF_spec ⟨rfl, rfl, rfl, rfl, rfl, rfl, trivial⟩) rfl (by decide)
 refine i_e rfl rfl (e_bslice #[.int .u64 ((rd_T61 (l.map old) ((i : Nat) : Int)).f0)] (.int .u64 0) rfl rfl rfl Try.underlying44 SZ41 ZR41 (by decide) rfl (by kernel_rfl)) ?_
 intro b16_
 refine ⟨(mem_pick (idx := [1, 2, 3]) rfl), ?_⟩
 refine a_1 (i := 1) (by kernel_rfl) ?_
 refine i_v rfl rfl rfl rfl (v_ld 4 rfl Try.underlying44 rfl rfl rfl rfl) ?_
 refine a_1 (i := 8) (by kernel_rfl) ?_
 refine i_e rfl rfl (e_app_nil (z := (.int .u64 0)) (m := 1) (bytes := 8) (k := 1) (news := [.int .u64 ((rd_T61 (l.map old) ((i : Nat) : Int)).f0)]) (i := 0) rfl rfl rfl rfl rfl rfl Try.underlying44 (by kernel_rfl) rfl (by decide) rfl rfl rfl rfl rfl (by simp [Value.oneCell']) (by decide) (by decide) (by decide)) ?_
 intro g17_ cap18_ cur19_ h20_ h21_ h22_ h23_
 refine ⟨(mem_pick (idx := [2, 3, 4]) rfl), ?_⟩
 refine a_v 9 rfl (by kernel_rfl) (by kernel_rfl) (by kernel_rfl) rfl rfl rfl (v_fa rfl Try.underlying46 rfl SZ44 rfl) ?_
 refine a_1 (i := 10) (by kernel_rfl) ?_
 refine i_e rfl rfl (e_st 5 rfl rfl SZ44 rfl rfl rfl rfl (blt_lt rfl)) ?_
 refine ⟨(mem_pick (idx := [2, 3, 4]) rfl), ?_⟩
 refine a_end (by kernel_rfl) ?_
 refine q_block ?_
 refine q_seq ?_
 refine r_ord (l := [0, 1, 2]) rfl (by kernel_rfl) (by kernel_rfl) ?_
 refine s_v rfl rfl rfl rfl (v_mv rfl rfl) ?_
 refine s_v rfl rfl rfl rfl (OpV.cast (v := .int .i64 ((i + 1 : Nat) : Int)) (v_ar rfl rfl rfl rfl) (inc64 (by omega))) ?_
 refine s_v rfl rfl rfl rfl (v_as rfl rfl) ?_
 refine s_end ?_
 have he : rngM (l.take (i + 1)) o1 o2 o3 = (rngM (l.take i) o1 o2 o3) ++ [(l[i]).f0] := by rw [rng_take hil, if_pos ⟨h5_d, h6_d, h7_d⟩]
 exact q_again (i + 1, some (1, g17_, cap18_, cur19_)) [2, 3, 4, 5, 0] ⟨by show i + 1 ≤ l.length; omega, (by rw [he]; exact QInv.first hq_ h20_ h21_ h22_ (by rw [← rdo hil]; exact h23_))⟩ (by show l.length - (i + 1) < l.length - i; omega) (subF_spec ⟨rfl, rfl, rfl, rfl, rfl, rfl, trivial⟩) rfl (by decide)
 have h7_d := of_decide_eq_false h7_
 rw [hn] at h7_d
 refine c_skip rfl ?_
 refine q_block ?_
 refine q_seq ?_
 refine r_ord (l := [0, 1, 2]) rfl (by kernel_rfl) (by kernel_rfl) ?_
 refine s_v rfl rfl rfl rfl (v_mv rfl rfl) ?_
 refine s_v rfl rfl rfl rfl (OpV.cast (v := .int .i64 ((i + 1 : Nat) : Int)) (v_ar rfl rfl rfl rfl) (inc64 (by omega))) ?_
 refine s_v rfl rfl rfl rfl (v_as rfl rfl) ?_
 refine s_end ?_
 have he : rngM (l.take (i + 1)) o1 o2 o3 = (rngM (l.take i) o1 o2 o3) := by rw [rng_take hil, if_neg (fun h => h7_d h.2.2)]
 exact q_again (i + 1, none) [0, 1, 2, 3] ⟨by show i + 1 ≤ l.length; omega, (by rw [he]; exact hs_.2)⟩ (by show l.length - (i + 1) < l.length - i; omega) (subF_spec ⟨rfl, rfl, rfl, rfl, rfl, rfl, trivial⟩) rfl (by decide)
 have h6_d := of_decide_eq_false h6_
 rw [rdo hil] at h6_d
 refine a_no 19 rfl (by kernel_rfl) (by kernel_rfl) (by kernel_rfl) rfl rfl rfl ?_
 refine a_no 20 rfl (by kernel_rfl) (by kernel_rfl) (by kernel_rfl) rfl rfl rfl ?_
 refine a_no 21 rfl (by kernel_rfl) (by kernel_rfl) (by kernel_rfl) rfl rfl rfl ?_
 refine a_no 22 rfl (by kernel_rfl) (by kernel_rfl) (by kernel_rfl) rfl rfl rfl ?_
 refine a_no 23 rfl (by kernel_rfl) (by kernel_rfl) (by kernel_rfl) rfl rfl rfl ?_
 refine a_no 24 rfl (by kernel_rfl) (by kernel_rfl) (by kernel_rfl) rfl rfl rfl ?_
 refine a_v 25 rfl (by kernel_rfl) (by kernel_rfl) (by kernel_rfl) rfl rfl rfl (v_pick rfl rfl rfl rfl) ?_
 refine a_end (by kernel_rfl) ?_
 refine q_seq ?_
 refine c_cond0 rfl rfl ?_
 refine c_skip rfl ?_
 refine q_block ?_
 refine q_seq ?_
 refine r_ord (l := [0, 1, 2]) rfl (by kernel_rfl) (by kernel_rfl) ?_
 refine s_v rfl rfl rfl rfl (v_mv rfl rfl) ?_
 refine s_v rfl rfl rfl rfl (OpV.cast (v := .int .i64 ((i + 1 : Nat) : Int)) (v_ar rfl rfl rfl rfl) (inc64 (by omega))) ?_
 refine s_v rfl rfl rfl rfl (v_as rfl rfl) ?_
 refine s_end ?_
 have he : rngM (l.take (i + 1)) o1 o2 o3 = (rngM (l.take i) o1 o2 o3) := by rw [rng_take hil, if_neg (fun h => h6_d h.2.1)]
 exact q_again (i + 1, none) [0, 1, 2, 3] ⟨by show i + 1 ≤ l.length; omega, (by rw [he]; exact hs_.2)⟩ (by show l.length - (i + 1) < l.length - i; omega) (subF_spec ⟨rfl, rfl, rfl, rfl, rfl, rfl, trivial⟩) rfl (by decide)
 have h5_d := of_decide_eq_false h5_
 rw [rdo hil] at h5_d
 refine a_no 9 rfl (by kernel_rfl) (by kernel_rfl) (by kernel_rfl) rfl rfl rfl ?_
 refine a_no 10 rfl (by kernel_rfl) (by kernel_rfl) (by kernel_rfl) rfl rfl rfl ?_
 refine a_no 11 rfl (by kernel_rfl) (by kernel_rfl) (by kernel_rfl) rfl rfl rfl ?_
 refine a_no 12 rfl (by kernel_rfl) (by kernel_rfl) (by kernel_rfl) rfl rfl rfl ?_
 refine a_no 13 rfl (by kernel_rfl) (by kernel_rfl) (by kernel_rfl) rfl rfl rfl ?_
 refine a_no 14 rfl (by kernel_rfl) (by kernel_rfl) (by kernel_rfl) rfl rfl rfl ?_
 refine a_no 15 rfl (by kernel_rfl) (by kernel_rfl) (by kernel_rfl) rfl rfl rfl ?_
 refine a_no 16 rfl (by kernel_rfl) (by kernel_rfl) (by kernel_rfl) rfl rfl rfl ?_
 refine a_v 17 rfl (by kernel_rfl) (by kernel_rfl) (by kernel_rfl) rfl rfl rfl (v_pick rfl rfl rfl rfl) ?_
 refine a_v 18 rfl (by kernel_rfl) (by kernel_rfl) (by kernel_rfl) rfl rfl rfl (v_mv rfl rfl) ?_
 refine a_no 19 rfl (by kernel_rfl) (by kernel_rfl) (by kernel_rfl) rfl rfl rfl ?_
 refine a_no 20 rfl (by kernel_rfl) (by kernel_rfl) (by kernel_rfl) rfl rfl rfl ?_
 refine a_no 21 rfl (by kernel_rfl) (by kernel_rfl) (by kernel_rfl) rfl rfl rfl ?_
 refine a_no 22 rfl (by kernel_rfl) (by kernel_rfl) (by kernel_rfl) rfl rfl rfl ?_
 refine a_no 23 rfl (by kernel_rfl) (by kernel_rfl) (by kernel_rfl) rfl rfl rfl ?_
 refine a_no 24 rfl (by kernel_rfl) (by kernel_rfl) (by kernel_rfl) rfl rfl rfl ?_
 refine a_v 25 rfl (by kernel_rfl) (by kernel_rfl) (by kernel_rfl) rfl rfl rfl (v_pick rfl rfl rfl rfl) ?_
 refine a_end (by kernel_rfl) ?_
 refine q_seq ?_
 refine c_cond0 rfl rfl ?_
 refine c_skip rfl ?_
 refine q_block ?_
 refine q_seq ?_
 refine r_ord (l := [0, 1, 2]) rfl (by kernel_rfl) (by kernel_rfl) ?_
 refine s_v rfl rfl rfl rfl (v_mv rfl rfl) ?_
 refine s_v rfl rfl rfl rfl (OpV.cast (v := .int .i64 ((i + 1 : Nat) : Int)) (v_ar rfl rfl rfl rfl) (inc64 (by omega))) ?_
 refine s_v rfl rfl rfl rfl (v_as rfl rfl) ?_
 refine s_end ?_
 have he : rngM (l.take (i + 1)) o1 o2 o3 = (rngM (l.take i) o1 o2 o3) := by rw [rng_take hil, if_neg (fun h => h5_d h.1)]
 exact q_again (i + 1, none) [0, 1, 2, 3] ⟨by show i + 1 ≤ l.length; omega, (by rw [he]; exact hs_.2)⟩ (by show l.length - (i + 1) < l.length - i; omega) (subF_spec ⟨rfl, rfl, rfl, rfl, rfl, rfl, trivial⟩) rfl (by decide)
 have h4_d := of_decide_eq_false h4_
 obtain rfl : i = l.length := by rw [List.length_map] at h4_d; omega
 refine c_exit (i := 3) rfl rfl ?_
 refine q_then_exit ?_
 refine q_then_exit ?_
 refine q_block_here rfl ?_
 refine q_seq ?_
 refine c_seq rfl ?_
 refine r_any [.b b1_ (.cells #[.int .i64 5, .int .u64 o1, .int .u64 o2, .int .i64 o3, .int .i64 o4] 43 (0, 0)), .f (KC k61 A c (l.map old)), .b b3_ (.cells #[.bool false, .bool false, .int .u64 0, .slice none 0 0] 46 (0, 0))] (by kernel_rfl) rfl (by kernel_rfl) (mem_pick (idx := [0, 2, 3]) rfl) ?_
 refine a_v 0 rfl (by kernel_rfl) (by kernel_rfl) (by kernel_rfl) rfl rfl rfl (v_mv rfl rfl) ?_
 refine a_v 1 rfl (by kernel_rfl) (by kernel_rfl) (by kernel_rfl) rfl rfl rfl (v_ldA [.bool false, .bool false, .int .u64 0, .slice none 0 0] 2 rfl Try.underlying46 rfl SZ46 rfl rfl rfl rfl) ?_
 refine a_v 2 rfl (by kernel_rfl) (by kernel_rfl) (by kernel_rfl) rfl rfl rfl (v_as rfl rfl) ?_
 refine a_1 (i := 3) (by kernel_rfl) ?_
 refine i_e rfl rfl (e_stA 1 rfl rfl SZ46 rfl rfl rfl rfl rfl rfl) ?_
 refine ⟨(mem_pick (idx := [0, 2, 3]) rfl), ?_⟩
 refine a_end (by kernel_rfl) ?_
 refine q_seq ?_
 refine c_ret rfl ?_
 refine q_block_ret ?_
 refine q_then_ret ?_
 refine q_know (KC_nil (Kd.int .u64)) ?_
 exact q_ret (vs := [.slice A ((l.map old).length) c, .agg #[.bool false, .bool false, .int .u64 0, .slice none 0 0]]) rfl (.tmp rfl (.agg [.bool false, .bool false, .int .u64 0, .slice none 0 0] 2 rfl Try.underlying46 rfl SZ46 rfl rfl rfl .nil)) [3, 0] rfl (by decide) (by have h_ := hX A c none 0; rw [show rngM l o1 o2 o3 = [] from by rw [← hq_, List.take_length]] at h_; exact h_)
 have hi_ : i ≤ l.length := hs_.1
 obtain ⟨hn0, hr1_, hr2_, hr3_, hr4_⟩ := id hs_.2
 have hn : (n : Int) = ((rngM (l.take i) o1 o2 o3).length : Int) := by rw [hn0]
 have hnb : n ≤ 1000 := by have := rng_len (l.take i) o1 o2 o3; rw [List.length_take] at this; omega
 refine c_seq rfl ?_
 refine c_seq rfl ?_
 refine r_ord (l := [0, 1, 2, 3]) rfl (by kernel_rfl) (by kernel_rfl) ?_
 refine s_v rfl rfl rfl rfl (v_mv rfl rfl) ?_
 refine s_v rfl rfl rfl rfl (v_mv rfl rfl) ?_
 refine s_v rfl rfl rfl rfl (v_len rfl rfl rfl Try.underlying31 rfl rfl) ?_
 refine s_v rfl rfl rfl rfl (v_ar rfl rfl rfl rfl) ?_
 refine s_end ?_
 refine q_seq ?_
 refine c_cond (t := decide ((((i : Nat) : Int) : Int) < ((l.map old).length : Nat))) rfl rfl (fun h24_ => ?_) (fun h24_ => ?_)
 have h24_d := of_decide_eq_true h24_
 have hil : i < l.length := by rw [List.length_map] at h24_d; omega
 refine c_skip rfl ?_
 refine q_seq ?_
 refine c_seq rfl ?_
 refine c_block rfl ?_
 refine c_seq rfl ?_
 refine r_any [.b b1_ (.cells #[.int .i64 5, .int .u64 o1, .int .u64 o2, .int .i64 o3, .int .i64 o4] 43 (0, 0)), .b b2_ (.cells #[.bool false, .bool false, .int .u64 0, .slice none 0 0] 46 (0, 0)), .f (KC k61 A c (l.map old)), .b b3_ (.cells #[.bool false, .bool false, .int .u64 0, .slice (some ⟨g, 0, none⟩) n cap] 46 (0, 0)), .b g (.cells cur 41 (0, 0))] (by kernel_rfl) rfl (by kernel_rfl) (mem_pick (idx := [0, 1, 2, 3, 4]) rfl) ?_
 refine a_v 0 rfl (by kernel_rfl) (by kernel_rfl) (by kernel_rfl) rfl rfl rfl (v_mv rfl rfl) ?_
 refine a_v 1 rfl (by kernel_rfl) (by kernel_rfl) (by kernel_rfl) rfl rfl rfl (v_mv rfl rfl) ?_
 refine a_v 2 rfl (by kernel_rfl) (by kernel_rfl) (by kernel_rfl) rfl rfl rfl (v_iaK (i := 2) rfl Try.underlying31 SZ61 rfl rfl rfl rfl (by omega) (by rw [List.length_map]; omega)) ?_
 refine a_v 3 rfl (by kernel_rfl) (by kernel_rfl) (by kernel_rfl) rfl rfl rfl (v_fax rfl Try.underlying61 rfl SZ41 rfl) ?_
 refine a_v 4 rfl (by kernel_rfl) (by kernel_rfl) (by kernel_rfl) rfl rfl rfl (v_ldKf (v := .int .u64 ((rd_T61 (l.map old) ((i : Nat) : Int)).f0)) z61 [.int .u64 ((rd_T61 (l.map old) ((i : Nat) : Int)).f0), .int .u64 ((rd_T61 (l.map old) ((i : Nat) : Int)).f1)] 2 rfl Try.underlying41 rfl rfl rfl rfl (by omega) (by rw [List.length_map]; omega) (fun w K h => k61_open h) rfl) ?_
 refine a_v 5 rfl (by kernel_rfl) (by kernel_rfl) (by kernel_rfl) rfl rfl rfl (v_fa rfl Try.underlying43 rfl SZ41 rfl) ?_
 refine a_v 6 rfl (by kernel_rfl) (by kernel_rfl) (by kernel_rfl) rfl rfl rfl (v_ld 0 rfl Try.underlying41 rfl rfl rfl rfl) ?_
 refine a_v 7 rfl (by kernel_rfl) (by kernel_rfl) (by kernel_rfl) rfl rfl rfl (v_ar rfl rfl rfl rfl) ?_
 refine a_v 8 rfl (by kernel_rfl) (by kernel_rfl) (by kernel_rfl) rfl rfl rfl (v_mv rfl rfl) ?_
 refine a_splitv (d := 80) (t := decide (((rd_T61 (l.map old) ((i : Nat) : Int)).f0 : Int) ≥ o1)) rfl (fun h25_ => ?_) (fun h25_ => ?_)
 have h25_d := of_decide_eq_true h25_
 rw [rdo hil] at h25_d
 refine a_v 9 rfl (by kernel_rfl) (by kernel_rfl) (by kernel_rfl) rfl rfl rfl (v_mv rfl rfl) ?_
 refine a_v 10 rfl (by kernel_rfl) (by kernel_rfl) (by kernel_rfl) rfl rfl rfl (v_mv rfl rfl) ?_
 refine a_v 11 rfl (by kernel_rfl) (by kernel_rfl) (by kernel_rfl) rfl rfl rfl (v_iaK (i := 2) rfl Try.underlying31 SZ61 rfl rfl rfl rfl (by omega) (by rw [List.length_map]; omega)) ?_
 refine a_v 12 rfl (by kernel_rfl) (by kernel_rfl) (by kernel_rfl) rfl rfl rfl (v_fax rfl Try.underlying61 rfl SZ41 rfl) ?_
 refine a_v 13 rfl (by kernel_rfl) (by kernel_rfl) (by kernel_rfl) rfl rfl rfl (v_ldKf (v := .int .u64 ((rd_T61 (l.map old) ((i : Nat) : Int)).f0)) z61 [.int .u64 ((rd_T61 (l.map old) ((i : Nat) : Int)).f0), .int .u64 ((rd_T61 (l.map old) ((i : Nat) : Int)).f1)] 2 rfl Try.underlying41 rfl rfl rfl rfl (by omega) (by rw [List.length_map]; omega) (fun w K h => k61_open h) rfl) ?_
 refine a_v 14 rfl (by kernel_rfl) (by kernel_rfl) (by kernel_rfl) rfl rfl rfl (v_fa rfl Try.underlying43 rfl SZ41 rfl) ?_
 refine a_v 15 rfl (by kernel_rfl) (by kernel_rfl) (by kernel_rfl) rfl rfl rfl (v_ld 0 rfl Try.underlying41 rfl rfl rfl rfl) ?_
 refine a_v 16 rfl (by kernel_rfl) (by kernel_rfl) (by kernel_rfl) rfl rfl rfl (v_ar rfl rfl rfl rfl) ?_
 refine a_v 17 rfl (by kernel_rfl) (by kernel_rfl) (by kernel_rfl) rfl rfl rfl (v_pick rfl rfl rfl rfl) ?_
 refine a_v 18 rfl (by kernel_rfl) (by kernel_rfl) (by kernel_rfl) rfl rfl rfl (v_mv rfl rfl) ?_
 refine a_splitv (d := 90) (t := decide (((rd_T61 (l.map old) ((i : Nat) : Int)).f0 : Int) ≤ o2)) rfl (fun h26_ => ?_) (fun h26_ => ?_)
 have h26_d := of_decide_eq_true h26_
 rw [rdo hil] at h26_d
 refine a_v 19 rfl (by kernel_rfl) (by kernel_rfl) (by kernel_rfl) rfl rfl rfl (v_fa rfl Try.underlying46 rfl SZ44 rfl) ?_
 refine a_v 20 rfl (by kernel_rfl) (by kernel_rfl) (by kernel_rfl) rfl rfl rfl (v_ld 3 rfl Try.underlying44 rfl rfl rfl rfl) ?_
 refine a_v 21 rfl (by kernel_rfl) (by kernel_rfl) (by kernel_rfl) rfl rfl rfl (v_len rfl rfl rfl Try.underlying44 rfl rfl) ?_
 refine a_v 22 rfl (by kernel_rfl) (by kernel_rfl) (by kernel_rfl) rfl rfl rfl (v_fa rfl Try.underlying43 rfl SZ3 rfl) ?_
 refine a_v 23 rfl (by kernel_rfl) (by kernel_rfl) (by kernel_rfl) rfl rfl rfl (v_ld 0 rfl Try.underlying3 rfl rfl rfl rfl) ?_
 refine a_v 24 rfl (by kernel_rfl) (by kernel_rfl) (by kernel_rfl) rfl rfl rfl (v_ar rfl rfl rfl rfl) ?_
 refine a_v 25 rfl (by kernel_rfl) (by kernel_rfl) (by kernel_rfl) rfl rfl rfl (v_pick rfl rfl rfl rfl) ?_
 refine a_end (by kernel_rfl) ?_
 refine q_seq ?_
 refine c_cond (t := decide (((n : Nat) : Int) < o3)) rfl rfl (fun h27_ => ?_) (fun h27_ => ?_)
 have h27_d := of_decide_eq_true h27_
 rw [hn] at h27_d
 refine r_any [.b b1_ (.cells #[.int .i64 5, .int .u64 o1, .int .u64 o2, .int .i64 o3, .int .i64 o4] 43 (0, 0)), .b b2_ (.cells #[.bool false, .bool false, .int .u64 0, .slice none 0 0] 46 (0, 0)), .f (KC k61 A c (l.map old))] (by kernel_rfl) rfl (by kernel_rfl) (mem_pick (idx := [0, 1, 2]) rfl) ?_
 refine a_v 0 rfl (by kernel_rfl) (by kernel_rfl) (by kernel_rfl) rfl rfl rfl (v_fa rfl Try.underlying46 rfl SZ44 rfl) ?_
 refine a_v 2 rfl (by kernel_rfl) (by kernel_rfl) (by kernel_rfl) rfl rfl rfl (v_mv rfl rfl) ?_
 refine a_v 3 rfl (by kernel_rfl) (by kernel_rfl) (by kernel_rfl) rfl rfl rfl (v_mv rfl rfl) ?_
 refine a_v 4 rfl (by kernel_rfl) (by kernel_rfl) (by kernel_rfl) rfl rfl rfl (v_iaK (i := 2) rfl Try.underlying31 SZ61 rfl rfl rfl rfl (by omega) (by rw [List.length_map]; omega)) ?_
 refine a_v 5 rfl (by kernel_rfl) (by kernel_rfl) (by kernel_rfl) rfl rfl rfl (v_fax rfl Try.underlying61 rfl SZ41 rfl) ?_
 refine a_v 6 rfl (by kernel_rfl) (by kernel_rfl) (by kernel_rfl) rfl rfl rfl (v_ldKf (v := .int .u64 ((rd_T61 (l.map old) ((i : Nat) : Int)).f0)) z61 [.int .u64 ((rd_T61 (l.map old) ((i : Nat) : Int)).f0), .int .u64 ((rd_T61 (l.map old) ((i : Nat) : Int)).f1)] 2 rfl Try.underlying41 rfl rfl rfl rfl (by omega) (by rw [List.length_map]; omega) (fun w K h => k61_open h) rfl) ?_
 refine a_2 (i := 1) (j := 7) (by kernel_rfl) ?_ ?_
 refine i_v rfl rfl rfl rfl (v_ld 3 rfl Try.underlying44 rfl rfl rfl rfl) ?_
 refine a_1 (i := 7) (by kernel_rfl) ?_
 refine i_e rfl rfl (e_bslice #[.int .u64 ((rd_T61 (l.map old) ((i : Nat) : Int)).f0)] (.int .u64 0) rfl rfl rfl Try.underlying44 SZ41 ZR41 (by decide) rfl (by kernel_rfl)) ?_
 intro b28_
 refine ⟨(mem_pick (idx := [1, 2, 3]) rfl), ?_⟩
 refine a_1 (i := 8) (by kernel_rfl) ?_
 refine i_e rfl rfl (e_app (z := (.int .u64 0)) (m := 1) (bytes := 8) (k := 1) (news := [.int .u64 ((rd_T61 (l.map old) ((i : Nat) : Int)).f0)]) (i := 0) (j := 5) rfl rfl rfl rfl rfl rfl Try.underlying44 (by kernel_rfl) rfl (by decide) rfl rfl hr1_ hr2_ hr3_ rfl rfl rfl rfl rfl (by simp [Value.oneCell']) (by omega) (by simp only [maxLen]; omega)) ?_
 intro g29_ cap30_ cur31_ h32_ h33_ h34_ h35_
 refine ⟨(mem_pick (idx := [1, 2, 3]) rfl), ?_⟩
 refine a_v 9 rfl (by kernel_rfl) (by kernel_rfl) (by kernel_rfl) rfl rfl rfl (v_fa rfl Try.underlying46 rfl SZ44 rfl) ?_
 refine a_1 (i := 10) (by kernel_rfl) ?_
 refine i_e rfl rfl (e_st 4 rfl rfl SZ44 rfl rfl rfl rfl (blt_lt rfl)) ?_
 refine ⟨(mem_pick (idx := [1, 2, 3]) rfl), ?_⟩
 refine a_end (by kernel_rfl) ?_
 refine q_block ?_
 refine q_seq ?_
 refine r_ord (l := [0, 1, 2]) rfl (by kernel_rfl) (by kernel_rfl) ?_
 refine s_v rfl rfl rfl rfl (v_mv rfl rfl) ?_
 refine s_v rfl rfl rfl rfl (OpV.cast (v := .int .i64 ((i + 1 : Nat) : Int)) (v_ar rfl rfl rfl rfl) (inc64 (by omega))) ?_
 refine s_v rfl rfl rfl rfl (v_as rfl rfl) ?_
 refine s_end ?_
 have he : rngM (l.take (i + 1)) o1 o2 o3 = (rngM (l.take i) o1 o2 o3) ++ [(l[i]).f0] := by rw [rng_take hil, if_pos ⟨h25_d, h26_d, h27_d⟩]
 exact q_again (i + 1, some (n + 1, g29_, cap30_, cur31_)) [1, 2, 3, 4, 5] ⟨by show i + 1 ≤ l.length; omega, (by rw [he]; exact QInv.next hs_.2 h32_ h33_ h34_ (by rw [← rdo hil]; exact h35_))⟩ (by show l.length - (i + 1) < l.length - i; omega) (subF_spec ⟨rfl, rfl, rfl, rfl, rfl, rfl, trivial⟩) rfl (by decide)
 refine i_e rfl rfl (e_bslice #[.int .u64 ((rd_T61 (l.map old) ((i : Nat) : Int)).f0)] (.int .u64 0) rfl rfl rfl Try.underlying44 SZ41 ZR41 (by decide) rfl (by kernel_rfl)) ?_
 intro b36_
 refine ⟨(mem_pick (idx := [1, 2, 3]) rfl), ?_⟩
 refine a_1 (i := 1) (by kernel_rfl) ?_
 refine i_v rfl rfl rfl rfl (v_ld 4 rfl Try.underlying44 rfl rfl rfl rfl) ?_
 refine a_1 (i := 8) (by kernel_rfl) ?_
 refine i_e rfl rfl (e_app (z := (.int .u64 0)) (m := 1) (bytes := 8) (k := 1) (news := [.int .u64 ((rd_T61 (l.map old) ((i : Nat) : Int)).f0)]) (i := 0) (j := 5) rfl rfl rfl rfl rfl rfl Try.underlying44 (by kernel_rfl) rfl (by decide) rfl rfl hr1_ hr2_ hr3_ rfl rfl rfl rfl rfl (by simp [Value.oneCell']) (by omega) (by simp only [maxLen]; omega)) ?_
 intro g37_ cap38_ cur39_ h40_ h41_ h42_ h43_
 refine ⟨(mem_pick (idx := [1, 2, 3]) rfl), ?_⟩
 refine a_v 9 rfl (by kernel_rfl) (by kernel_rfl) (by kernel_rfl) rfl rfl rfl (v_fa rfl Try.underlying46 rfl SZ44 rfl) ?_
 refine a_1 (i := 10) (by kernel_rfl) ?_
 refine i_e rfl rfl (e_st 4 rfl rfl SZ44 rfl rfl rfl rfl (blt_lt rfl)) ?_
 refine ⟨(mem_pick (idx := [1, 2, 3]) rfl), ?_⟩
 refine a_end (by kernel_rfl) ?_
 refine q_block ?_
 refine q_seq ?_
 refine r_ord (l := [0, 1, 2]) rfl (by kernel_rfl) (by kernel_rfl) ?_
 refine s_v rfl rfl rfl rfl (v_mv rfl rfl) ?_
 refine s_v rfl rfl rfl rfl (OpV.cast (v := .int .i64 ((i + 1 : Nat) : Int)) (v_ar rfl rfl rfl rfl) (inc64 (by omega))) ?_
 refine s_v rfl rfl rfl rfl (v_as rfl rfl) ?_
 refine s_end ?_
 have he : rngM (l.take (i + 1)) o1 o2 o3 = (rngM (l.take i) o1 o2 o3) ++ [(l[i]).f0] := by rw [rng_take hil, if_pos ⟨h25_d, h26_d, h27_d⟩]
 exact q_again (i + 1, some (n + 1, g37_, cap38_, cur39_)) [1, 2, 3, 4, 5] ⟨by show i + 1 ≤ l.length; omega, (by rw [he]; exact QInv.next hs_.2 h40_ h41_ h42_ (by rw [← rdo hil]; exact h43_))⟩ (by show l.length - (i + 1) < l.length - i; omega) (subF_spec ⟨rfl, rfl, rfl, rfl, rfl, rfl, trivial⟩) rfl (by decide)
 have h27_d := of_decide_eq_false h27_
 rw [hn] at h27_d
 refine c_skip rfl ?_
 refine q_block ?_
 refine q_seq ?_
 refine r_ord (l := [0, 1, 2]) rfl (by kernel_rfl) (by kernel_rfl) ?_
 refine s_v rfl rfl rfl rfl (v_mv rfl rfl) ?_
 refine s_v rfl rfl rfl rfl (OpV.cast (v := .int .i64 ((i + 1 : Nat) : Int)) (v_ar rfl rfl rfl rfl) (inc64 (by omega))) ?_
 refine s_v rfl rfl rfl rfl (v_as rfl rfl) ?_
 refine s_end ?_
 have he : rngM (l.take (i + 1)) o1 o2 o3 = (rngM (l.take i) o1 o2 o3) := by rw [rng_take hil, if_neg (fun h => h27_d h.2.2)]
 exact q_again (i + 1, some (n, g, cap, cur)) [0, 1, 2, 3, 4] ⟨by show i + 1 ≤ l.length; omega, (by rw [he]; exact hs_.2)⟩ (by show l.length - (i + 1) < l.length - i; omega) (subF_spec ⟨rfl, rfl, rfl, rfl, rfl, rfl, trivial⟩) rfl (by decide)
 have h26_d := of_decide_eq_false h26_
 rw [rdo hil] at h26_d
 refine a_no 19 rfl (by kernel_rfl) (by kernel_rfl) (by kernel_rfl) rfl rfl rfl ?_
 refine a_no 20 rfl (by kernel_rfl) (by kernel_rfl) (by kernel_rfl) rfl rfl rfl ?_
 refine a_no 21 rfl (by kernel_rfl) (by kernel_rfl) (by kernel_rfl) rfl rfl rfl ?_
 refine a_no 22 rfl (by kernel_rfl) (by kernel_rfl) (by kernel_rfl) rfl rfl rfl ?_
 refine a_no 23 rfl (by kernel_rfl) (by kernel_rfl) (by kernel_rfl) rfl rfl rfl ?_
 refine a_no 24 rfl (by kernel_rfl) (by kernel_rfl) (by kernel_rfl) rfl rfl rfl ?_
 refine a_v 25 rfl (by kernel_rfl) (by kernel_rfl) (by kernel_rfl) rfl rfl rfl (v_pick rfl rfl rfl rfl) ?_
 refine a_end (by kernel_rfl) ?_
 refine q_seq ?_
 refine c_cond0 rfl rfl ?_
 refine c_skip rfl ?_
 refine q_block ?_
 refine q_seq ?_
 refine r_ord (l := [0, 1, 2]) rfl (by kernel_rfl) (by kernel_rfl) ?_
 refine s_v rfl rfl rfl rfl (v_mv rfl rfl) ?_
 refine s_v rfl rfl rfl rfl (OpV.cast (v := .int .i64 ((i + 1 : Nat) : Int)) (v_ar rfl rfl rfl rfl) (inc64 (by omega))) ?_
 refine s_v rfl rfl rfl rfl (v_as rfl rfl) ?_
 refine s_end ?_
 have he : rngM (l.take (i + 1)) o1 o2 o3 = (rngM (l.take i) o1 o2 o3) := by rw [rng_take hil, if_neg (fun h => h26_d h.2.1)]
 exact q_again (i + 1, some (n, g, cap, cur)) [0, 1, 2, 3, 4] ⟨by show i + 1 ≤ l.length; omega, (by rw [he]; exact hs_.2)⟩ (by show l.length - (i + 1) < l.length - i; omega) (subF_spec ⟨rfl, rfl, rfl, rfl, rfl, rfl, trivial⟩) rfl (by decide)
 have h25_d := of_decide_eq_false h25_
 rw [rdo hil] at h25_d
 refine a_no 9 rfl (by kernel_rfl) (by kernel_rfl) (by kernel_rfl) rfl rfl rfl ?_
 refine a_no 10 rfl (by kernel_rfl) (by kernel_rfl) (by kernel_rfl) rfl rfl rfl ?_
 refine a_no 11 rfl (by kernel_rfl) (by kernel_rfl) (by kernel_rfl) rfl rfl rfl ?_
 refine a_no 12 rfl (by kernel_rfl) (by kernel_rfl) (by kernel_rfl) rfl rfl rfl ?_
 refine a_no 13 rfl (by kernel_rfl) (by kernel_rfl) (by kernel_rfl) rfl rfl rfl ?_
 refine a_no 14 rfl (by kernel_rfl) (by kernel_rfl) (by kernel_rfl) rfl rfl rfl ?_
 refine a_no 15 rfl (by kernel_rfl) (by kernel_rfl) (by kernel_rfl) rfl rfl rfl ?_
 refine a_no 16 rfl (by kernel_rfl) (by kernel_rfl) (by kernel_rfl) rfl rfl rfl ?_
 refine a_v 17 rfl (by kernel_rfl) (by kernel_rfl) (by kernel_rfl) rfl rfl rfl (v_pick rfl rfl rfl rfl) ?_
 refine a_v 18 rfl (by kernel_rfl) (by kernel_rfl) (by kernel_rfl) rfl rfl rfl (v_mv rfl rfl) ?_
 refine a_no 19 rfl (by kernel_rfl) (by kernel_rfl) (by kernel_rfl) rfl rfl rfl ?_
 refine a_no 20 rfl (by kernel_rfl) (by kernel_rfl) (by kernel_rfl) rfl rfl rfl ?_
 refine a_no 21 rfl (by kernel_rfl) (by kernel_rfl) (by kernel_rfl) rfl rfl rfl ?_
 refine a_no 22 rfl (by kernel_rfl) (by kernel_rfl) (by kernel_rfl) rfl rfl rfl ?_
 refine a_no 23 rfl (by kernel_rfl) (by kernel_rfl) (by kernel_rfl) rfl rfl rfl ?_
 refine a_no 24 rfl (by kernel_rfl) (by kernel_rfl) (by kernel_rfl) rfl rfl rfl ?_
 refine a_v 25 rfl (by kernel_rfl) (by kernel_rfl) (by kernel_rfl) rfl rfl rfl (v_pick rfl rfl rfl rfl) ?_
 refine a_end (by kernel_rfl) ?_
 refine q_seq ?_
 refine c_cond0 rfl rfl ?_
 refine c_skip rfl ?_
 refine q_block ?_
 refine q_seq ?_
 refine r_ord (l := [0, 1, 2]) rfl (by kernel_rfl) (by kernel_rfl) ?_
 refine s_v rfl rfl rfl rfl (v_mv rfl rfl) ?_
 refine s_v rfl rfl rfl rfl (OpV.cast (v := .int .i64 ((i + 1 : Nat) : Int)) (v_ar rfl rfl rfl rfl) (inc64 (by omega))) ?_
 refine s_v rfl rfl rfl rfl (v_as rfl rfl) ?_
 refine s_end ?_
 have he : rngM (l.take (i + 1)) o1 o2 o3 = (rngM (l.take i) o1 o2 o3) := by rw [rng_take hil, if_neg (fun h => h25_d h.1)]
 exact q_again (i + 1, some (n, g, cap, cur)) [0, 1, 2, 3, 4] ⟨by show i + 1 ≤ l.length; omega, (by rw [he]; exact hs_.2)⟩ (by show l.length - (i + 1) < l.length - i; omega) (subF_spec ⟨rfl, rfl, rfl, rfl, rfl, rfl, trivial⟩) rfl (by decide)
 have h24_d := of_decide_eq_false h24_
 obtain rfl : i = l.length := by rw [List.length_map] at h24_d; omega
 refine c_exit (i := 3) rfl rfl ?_
 refine q_then_exit ?_
 refine q_then_exit ?_
 refine q_block_here rfl ?_
 refine q_seq ?_
 refine c_seq rfl ?_
 refine r_any [.b b1_ (.cells #[.int .i64 5, .int .u64 o1, .int .u64 o2, .int .i64 o3, .int .i64 o4] 43 (0, 0)), .f (KC k61 A c (l.map old)), .b b3_ (.cells #[.bool false, .bool false, .int .u64 0, .slice (some ⟨g, 0, none⟩) n cap] 46 (0, 0)), .b g (.cells cur 41 (0, 0))] (by kernel_rfl) rfl (by kernel_rfl) (mem_pick (idx := [0, 2, 3, 4]) rfl) ?_
 refine a_v 0 rfl (by kernel_rfl) (by kernel_rfl) (by kernel_rfl) rfl rfl rfl (v_mv rfl rfl) ?_
 refine a_v 1 rfl (by kernel_rfl) (by kernel_rfl) (by kernel_rfl) rfl rfl rfl (v_ldA [.bool false, .bool false, .int .u64 0, .slice (some ⟨g, 0, none⟩) n cap] 2 rfl Try.underlying46 rfl SZ46 rfl rfl rfl rfl) ?_
 refine a_v 2 rfl (by kernel_rfl) (by kernel_rfl) (by kernel_rfl) rfl rfl rfl (v_as rfl rfl) ?_
 refine a_1 (i := 3) (by kernel_rfl) ?_
 refine i_e rfl rfl (e_stA 1 rfl rfl SZ46 rfl rfl rfl rfl rfl rfl) ?_
 refine ⟨(mem_pick (idx := [0, 2, 3, 4]) rfl), ?_⟩
 refine a_end (by kernel_rfl) ?_
 refine q_seq ?_
 refine c_ret rfl ?_
 refine q_block_ret ?_
 refine q_then_ret ?_
 rw [List.take_length] at hn0 hr4_
 subst hn0
 refine q_give [4, 0, 1, 2, 3] rfl (by decide) (by simp [ids, Ent.id?]) (KC_own (xs := (rngM l o1 o2 o3)) hr4_ hr1_ hr2_) ?_
 exact q_ret (vs := [.slice A ((l.map old).length) c, .agg #[.bool false, .bool false, .int .u64 0, .slice (some ⟨g, 0, none⟩) ((rngM l o1 o2 o3).length) cap]]) rfl (.tmp rfl (.agg [.bool false, .bool false, .int .u64 0, .slice (some ⟨g, 0, none⟩) ((rngM l o1 o2 o3).length) cap] 2 rfl Try.underlying46 rfl SZ46 rfl rfl rfl .nil)) [3, 0] rfl (by decide) (hX _ _ _ _)
theorem rdo_con (A : Option Addr) (c : Nat) (l : List S56) (o0 o1 o2 o3 o4 : Int) (hs : Srt l) (hl : l.length ≤ 1000) (w0 : World) (H : List Nat) : Con Try.prog 31 #[.slice A (l.map old).length c, .agg #[.int .i64 o0, .int .u64 o1, .int .u64 o2, .int .i64 o3, .int .i64 o4]] w0 H [.f (KC k61 A c (l.map old))]
    (fun X => ∀ A1 c1 A2 c2, X (.tuple #[.slice A1 ((Dm l o0 o1 o2 o3).1.map old).length c1, .agg #[.bool (Dm l o0 o1 o2 o3).2.1, .bool (Dm l o0 o1 o2 o3).2.2.1, .int .u64 (Dm l o0 o1 o2 o3).2.2.2.1, .slice A2 (Dm l o0 o1 o2 o3).2.2.2.2.length c2]]) [.f (KC k61 A1 c1 ((Dm l o0 o1 o2 o3).1.map old)), .f (KC (Kd.int .u64) A2 c2 (Dm l o0 o1 o2 o3).2.2.2.2)]) := by
  by_cases h1 : o0 = 1
  · subst h1; exact rdo_get A c l o1 o2 o3 o4 hs hl w0 H
  by_cases h2 : o0 = 2
  · subst h2; exact rdo_put A c l o1 o2 o3 o4 hs hl w0 H
  by_cases h3 : o0 = 3
  · subst h3; exact rdo_delete A c l o1 o2 o3 o4 hs hl w0 H
  by_cases h4 : o0 = 4
  · subst h4; exact rdo_ceiling A c l o1 o2 o3 o4 hs hl w0 H
  by_cases h5 : o0 = 5
  · subst h5; exact rdo_range A c l o1 o2 o3 o4 hs hl w0 H
  · have hD : Dm l o0 o1 o2 o3 = (l, false, false, 0, []) := by simp [Dm, h1, h2, h3, h4, h5]
    rw [hD]
    exact rdo_other A c l o1 o2 o3 o4 hs hl o0 (by simpa using h1) (by simpa using h2) (by simpa using h3) (by simpa using h4) (by simpa using h5) w0 H
end Go.Eng
namespace Go.Eng
open Go.Proofs Go.RowKit Go.Proofs.YtiihjijmmephlaaW.PrintWords Go.Proofs.Ytiihjijmmephlaa.GHist
set_option linter.unusedVariables false
set_option linter.unusedSimpArgs false
theorem getM_keys (l : List S56) (k : Int) : (getM l k).2.2.2 = [] := by unfold getM; split <;> rfl
theorem ceilM_keys (l : List S56) (k : Int) : (ceilM l k).2.2.2 = [] := by unfold ceilM; split <;> rfl
theorem Dm_facts {l : List S56} (hs : Srt l) {o0 o1 o2 o3 : Int} {m : List S56} {q0 q1 : Bool} {q2 : Int} {q3 : List Int} (hr : Dm l o0 o1 o2 o3 = (m, q0, q1, q2, q3)) : Srt m ∧ m.length ≤ l.length + 1 ∧ q3.length ≤ l.length := by
  unfold Dm at hr
  split at hr
  · obtain ⟨rfl, e⟩ := Prod.mk.inj hr
    refine ⟨hs, by omega, ?_⟩
    have := getM_keys l o1; rw [e] at this; simp at this; simp [this]
  split at hr
  · obtain ⟨rfl, e⟩ := Prod.mk.inj hr
    refine ⟨srt_ins hs _ _, ins_len _ _ _, ?_⟩
    have := getM_keys l o1; rw [e] at this; simp at this; simp [this]
  split at hr
  · obtain ⟨rfl, e⟩ := Prod.mk.inj hr
    refine ⟨srt_del hs _, by have := del_len l o1; omega, ?_⟩
    have := getM_keys l o1; rw [e] at this; simp at this; simp [this]
  split at hr
  · obtain ⟨rfl, e⟩ := Prod.mk.inj hr
    refine ⟨hs, by omega, ?_⟩
    have := ceilM_keys l o1; rw [e] at this; simp at this; simp [this]
  split at hr
  · obtain ⟨rfl, e⟩ := Prod.mk.inj hr
    simp only [Prod.mk.injEq] at e
    obtain ⟨_, _, _, rfl⟩ := e
    exact ⟨hs, by omega, rng_len _ _ _ _⟩
  · obtain ⟨rfl, e⟩ := Prod.mk.inj hr
    simp only [Prod.mk.injEq] at e
    obtain ⟨_, _, _, rfl⟩ := e
    exact ⟨hs, by omega, Nat.zero_le _⟩
theorem rdo_conr (A : Option Addr) (c : Nat) (l : List S56) (o0 o1 o2 o3 o4 : Int) (hs : Srt l) (hl : l.length ≤ 1000) (m : List S56) (q0 q1 : Bool) (q2 : Int) (q3 : List Int) (hr : Dm l o0 o1 o2 o3 = (m, q0, q1, q2, q3)) (w0 : World) (H : List Nat) : Con Try.prog 31 #[.slice A (l.map old).length c, .agg #[.int .i64 o0, .int .u64 o1, .int .u64 o2, .int .i64 o3, .int .i64 o4]] w0 H [.f (KC k61 A c (l.map old))]
    (fun X => ∀ A1 c1 A2 c2, X (.tuple #[.slice A1 (m.map old).length c1, .agg #[.bool q0, .bool q1, .int .u64 q2, .slice A2 q3.length c2]]) [.f (KC k61 A1 c1 (m.map old)), .f (KC (Kd.int .u64) A2 c2 q3)]) := by
  have h := rdo_con A c l o0 o1 o2 o3 o4 hs hl w0 H
  rw [hr] at h
  exact h
end Go.Eng
namespace Go.Eng
open Go.Proofs Go.RowKit Go.Proofs.YtiihjijmmephlaaW.PrintWords Go.Proofs.Ytiihjijmmephlaa.GHist
set_option linter.unusedVariables false
set_option linter.unusedSimpArgs false
instance (key : Int → Int) (x y : Int) : Decidable (Ah key x y) := by unfold Ah; infer_instance
def insA (key : Int → Int) (x : Int) : List Int → List Int
  | [] => [x]
  | y :: r => if Ah key x y then x :: y :: r else y :: insA key x r
theorem insA_perm (key : Int → Int) (x : Int) : ∀ r, (insA key x r).Perm (x :: r)
  | [] => List.Perm.refl _
  | y :: r => by
    unfold insA
    split
    · exact List.Perm.refl _
    · exact ((insA_perm key x r).cons y).trans (List.Perm.swap x y r)
theorem insA_pair {key : Int → Int} {x : Int} : ∀ {r : List Int}, r.Pairwise (Ah key) → x ∉ r → (insA key x r).Pairwise (Ah key)
  | [], _, _ => List.pairwise_singleton _ _
  | y :: r, h, hx => by
    obtain ⟨h1, h2⟩ := List.pairwise_cons.1 h
    have hne : x ≠ y := fun e => hx (e ▸ List.mem_cons_self)
    unfold insA
    split
    · rename_i hxy
      refine List.pairwise_cons.2 ⟨fun z hz => ?_, h⟩
      rcases List.mem_cons.1 hz with rfl | hz
      · exact hxy
      · exact hxy.trans (h1 z hz)
    · rename_i hxy
      refine List.pairwise_cons.2 ⟨fun z hz => ?_, insA_pair h2 (fun hm => hx (List.mem_cons_of_mem _ hm))⟩
      rcases List.mem_cons.1 ((insA_perm key x r).mem_iff.1 hz) with rfl | hz
      · rcases Ah.tot hne with h3 | h3
        · exact absurd h3 hxy
        · exact h3
      · exact h1 z hz
def sortA (key : Int → Int) : List Int → List Int
  | [] => []
  | x :: r => insA key x (sortA key r)
theorem sortA_perm (key : Int → Int) : ∀ r, (sortA key r).Perm r
  | [] => List.Perm.refl _
  | x :: r => (insA_perm key x _).trans ((sortA_perm key r).cons x)
theorem sortA_pair (key : Int → Int) : ∀ r : List Int, r.Nodup → (sortA key r).Pairwise (Ah key)
  | [], _ => List.Pairwise.nil
  | x :: r, h => by
    obtain ⟨h1, h2⟩ := List.nodup_cons.1 h
    exact insA_pair (sortA_pair key r h2) (fun hm => h1 ((sortA_perm key r).mem_iff.1 hm))
def ordL (l : List S48) : List Int := sortA (keyA l) (hapTo l l.length)
theorem ordL_one {l : List S48} {ys : List Int} (hp : ys.Perm (hapTo l l.length)) (hs : SS (keyA l) 0 ys.length ys) : ys = ordL l :=
  order_one (hp.trans (sortA_perm _ _).symm) (ss_pair hs) (sortA_pair _ _ ((hap_inc l l.length).imp (fun h e => by omega)))
theorem ordL_mem {l : List S48} {x : Int} (h : x ∈ ordL l) : 0 ≤ x ∧ x < (l.length : Int) := hap_mem ((sortA_perm _ _).mem_iff.1 h)
theorem ordL_len (l : List S48) : (ordL l).length ≤ l.length := by
  rw [ordL, (sortA_perm _ _).length_eq]; exact hap_len l l.length
theorem order_con' (A : Option Addr) (c : Nat) (l : List S48) (hl : l.length ≤ 80) (hn : (hapTo l l.length).length ≤ 40) (w0 : World) (H : List Nat) : Con Try.prog 11 #[.slice A l.length c] w0 H [.f (KC k48 A c l)] (fun X => ∀ A1 c1, X (.slice A1 (ordL l).length c1) [.f (KC (Kd.int .i64) A1 c1 (ordL l))]) :=
  (order_con A c l hl hn w0 H).of (fun X hX A1 c1 ys hp hs => by obtain rfl := ordL_one hp hs; exact hX A1 c1)
theorem rorder_con' (A : Option Addr) (c : Nat) (l : List S48) (hl : l.length ≤ 1000) (w0 : World) (H : List Nat) : Con Try.prog 13 #[.slice A l.length c] w0 H [.f (KC k48 A c l)] (fun X => ∀ A1 c1, X (.slice A1 (ordL l).length c1) [.f (KC (Kd.int .i64) A1 c1 (ordL l))]) :=
  (rorder_con A c l hl w0 H).of (fun X hX A1 c1 ys hp hs => by obtain rfl := ordL_one hp hs; exact hX A1 c1)
def doE (l : List S48) (m : List S56) (k : Int) : List S56 := (Dm m (rd_T48 l k).f1.f0 (rd_T48 l k).f1.f1 (rd_T48 l k).f1.f2 (rd_T48 l k).f1.f3).1
def mapF (l : List S48) (t : Int) (ks : List Int) : List S56 := ks.foldl (fun m k => if keyA l k ≤ t then doE l m k else m) []
theorem mapF_snoc (l : List S48) (t : Int) {ks : List Int} {j : Nat} (h : j < ks.length) : mapF l t (ks.take (j + 1)) = if keyA l (rd ks (j : Int)) ≤ t then doE l (mapF l t (ks.take j)) (rd ks (j : Int)) else mapF l t (ks.take j) := by
  rw [List.take_succ_eq_append_getElem h]
  have : rd ks (j : Int) = ks[j] := by simp [rd, List.getD_eq_getElem?_getD, h]
  rw [this]
  unfold mapF
  rw [List.foldl_append]
  rfl
theorem doE_facts {l : List S48} {m : List S56} (hs : Srt m) (k : Int) : Srt (doE l m k) ∧ (doE l m k).length ≤ m.length + 1 := by
  unfold doE
  obtain ⟨m1, q0, q1, q2, q3, hD⟩ : ∃ m1 q0 q1 q2 q3, Dm m (rd_T48 l k).f1.f0 (rd_T48 l k).f1.f1 (rd_T48 l k).f1.f2 (rd_T48 l k).f1.f3 = (m1, q0, q1, q2, q3) := ⟨_, _, _, _, _, rfl⟩
  rw [hD]
  have := Dm_facts hs hD
  exact ⟨this.1, this.2.1⟩
theorem mapF_facts (l : List S48) (t : Int) : ∀ ks : List Int, Srt (mapF l t ks) ∧ (mapF l t ks).length ≤ ks.length := by
  have key : ∀ (ks : List Int) (m : List S56), Srt m → Srt (ks.foldl (fun m k => if keyA l k ≤ t then doE l m k else m) m) ∧ (ks.foldl (fun m k => if keyA l k ≤ t then doE l m k else m) m).length ≤ m.length + ks.length := by
    intro ks
    induction ks with
    | nil => exact fun m h => ⟨h, Nat.le_refl _⟩
    | cons k r ih =>
      intro m h
      simp only [List.foldl_cons, List.length_cons]
      split
      · have h1 := doE_facts (l := l) h k
        have h2 := ih _ h1.1
        exact ⟨h2.1, by omega⟩
      · have h2 := ih _ h
        exact ⟨h2.1, by omega⟩
  intro ks
  have := key ks [] List.Pairwise.nil
  exact ⟨this.1, by simpa [mapF] using this.2⟩
theorem ord_at {l : List S48} {j : Nat} (h : j < (ordL l).length) : 0 ≤ rd (ordL l) (j : Int) ∧ rd (ordL l) (j : Int) < (l.length : Int) := by
  have : rd (ordL l) (j : Int) = (ordL l)[j] := by simp [rd, List.getD_eq_getElem?_getD, h]
  rw [this]; exact ordL_mem (List.getElem_mem h)
theorem k48_op {w : World} {x : S48} {K : List Value} (h : k48.K w x K) : ∀ p v, ([.int .i64 x.f1.f0, .int .u64 x.f1.f1, .int .u64 x.f1.f2, .int .i64 x.f1.f3, .int .i64 x.f1.f4] : List Value)[p]? = some v → K[1 + p]? = some v := by
  obtain ⟨A, c, rfl⟩ := k48_sh h
  intro p v hp
  match p, hp with
  | 0, hp => exact hp
  | 1, hp => exact hp
  | 2, hp => exact hp
  | 3, hp => exact hp
  | 4, hp => exact hp
  | p + 5, hp => simp at hp
end Go.Eng
namespace Go.Eng
open Go.Proofs Go.RowKit Go.Proofs.YtiihjijmmephlaaW.PrintWords Go.Proofs.Ytiihjijmmephlaa.GHist
set_option linter.unusedVariables false
set_option linter.unusedSimpArgs false
set_option maxRecDepth 100000 in
set_option maxHeartbeats 4000000 in
theorem hmap_con (A : Option Addr) (c : Nat) (l : List S48) (t : Int) (hl : l.length ≤ 80) (hn : (hapTo l l.length).length ≤ 40) (w0 : World) (H : List Nat) : Con Try.prog 16 #[.slice A l.length c, .int .i64 t] w0 H [.f (KC k48 A c l)] (fun X => ∀ A1 c1, X (.agg #[.slice A1 (mapF l t (ordL l)).length c1]) [.f (KC k56 A1 c1 (mapF l t (ordL l)))]) := by
 refine con_enter (c := bodyOf Try.f16) Try.func16 rfl (m := 34) rfl rfl rfl ?_
 intro X hX _
 refine c_seq rfl ?_
 refine r_ord (l := [0]) rfl (by kernel_rfl) (by kernel_rfl) ?_
 refine s_e rfl rfl (e_alloc rfl rfl rfl ZR35) ?_
 intro b1_
 refine s_end ?_
 refine q_seq ?_
 refine c_seq rfl ?_
 refine r_ord (l := [0]) rfl (by kernel_rfl) (by kernel_rfl) ?_
 refine s_e rfl rfl (e_alloc rfl rfl rfl ZR35) ?_
 intro b2_
 refine s_end ?_
 refine q_seq ?_
 refine c_seq rfl ?_
 refine c_seq rfl ?_
 refine r_ord (l := [0, 1, 2, 3]) rfl (by kernel_rfl) (by kernel_rfl) ?_
 refine s_v rfl rfl rfl rfl (v_mv rfl rfl) ?_
 refine s_e rfl rfl (e_callF [2] #[.slice A l.length c] rfl rfl rfl rfl rfl Try.func11 rfl (by decide) rfl rfl rfl rfl (fun w ht => order_con' A c l (by omega) hn w _)) ?_
 intro A3_ c4_
 refine s_v rfl rfl rfl rfl (v_len rfl rfl rfl Try.underlying25 rfl rfl) ?_
 refine s_v rfl rfl rfl rfl (v_mv rfl rfl) ?_
 refine s_end ?_
 refine q_seq ?_
 refine c_block rfl ?_
 refine c_knowT (KC_nil k56) ?_
 refine c_loop (σ := (Nat × Option Addr × Nat)) (fun s : (Nat × Option Addr × Nat) => match s with | (j, B, d) => j ≤ (ordL l).length) (fun s : (Nat × Option Addr × Nat) => match s with | (j, B, d) => (ordL l).length - j) (fun s : (Nat × Option Addr × Nat) => match s with | (j, B, d) => [(0, .slice A l.length c), (1, .int .i64 t), (4, .pointer (some ⟨b1_, 0, none⟩)), (5, .pointer (some ⟨b2_, 0, none⟩)), (9, .slice A3_ ((ordL l).length) c4_), (10, .int .i64 ((ordL l).length : Nat)), (11, .int .i64 (j : Int))]) (fun s : (Nat × Option Addr × Nat) => match s with | (j, B, d) => [.b b2_ (.cells #[.slice B ((mapF l t ((ordL l).take j)).length) d] 35 (0, 0)), .b b1_ (.cells #[.slice none 0 0] 35 (0, 0)), .f (KC k56 B d (mapF l t ((ordL l).take j))), .f (KC k48 A c l), .f (KC (Kd.int .i64) A3_ c4_ (ordL l))]) (0, none, 0) [2, 3, 0, 4, 1] rfl (Nat.zero_le _) (subF_spec ⟨rfl, rfl, rfl, rfl, rfl, rfl, rfl, trivial⟩) rfl (by decide) ?_
 rintro ⟨j, B, d⟩ hs
 have hj_ : j ≤ (ordL l).length := hs
 have hol := ordL_len l
 refine c_seq rfl ?_
 refine r_ord (l := [0]) rfl (by kernel_rfl) (by kernel_rfl) ?_
 refine s_v rfl rfl rfl rfl (v_ar rfl rfl rfl rfl) ?_
 refine s_end ?_
 refine q_seq ?_
 refine c_seq rfl ?_
 refine c_cond (t := decide (((j : Int) : Int) < ((ordL l).length : Nat))) rfl rfl (fun h5_ => ?_) (fun h5_ => ?_)
 have h5_d := of_decide_eq_true h5_
 have hjl : j < (ordL l).length := by omega
 have hat := ord_at hjl
 have hmf := mapF_facts l t ((ordL l).take j)
 have hml : (mapF l t ((ordL l).take j)).length ≤ 1000 := by have h_ := hmf.2; rw [List.length_take] at h_; have := ordL_len l; omega
 refine c_skip rfl ?_
 refine q_seq ?_
 refine c_seq rfl ?_
 refine c_block rfl ?_
 refine c_seq rfl ?_
 refine r_ord (l := [0, 1, 2]) rfl (by kernel_rfl) (by kernel_rfl) ?_
 refine s_v rfl rfl rfl rfl (v_iaK (i := 4) rfl Try.underlying25 SZ3 rfl rfl rfl rfl (by omega) (by omega)) ?_
 refine s_v rfl rfl rfl rfl (v_ldK (v := .int .i64 (rd (ordL l) (j : Int))) 0 4 rfl Try.underlying3 rfl rfl rfl rfl (by omega) (by omega) (fun w K h => h)) ?_
 refine s_v rfl rfl rfl rfl (v_as rfl rfl) ?_
 refine s_end ?_
 refine q_seq ?_
 refine c_seq rfl ?_
 refine r_ord (l := [0, 1, 2, 3, 4, 5, 6]) rfl (by kernel_rfl) (by kernel_rfl) ?_
 refine s_v rfl rfl rfl rfl (v_mv rfl rfl) ?_
 refine s_v rfl rfl rfl rfl (v_mv rfl rfl) ?_
 refine s_v rfl rfl rfl rfl (v_iaK (i := 3) rfl Try.underlying27 SZ53 rfl rfl rfl rfl (by omega) (by omega)) ?_
 refine s_v rfl rfl rfl rfl (v_fax rfl Try.underlying53 rfl SZ3 rfl) ?_
 refine s_v rfl rfl rfl rfl (v_ldKq (v := .int .i64 (rd_T48 l (rd (ordL l) (j : Int))).f3) z48 3 rfl Try.underlying3 rfl rfl rfl rfl (by omega) (by omega) (fun w K h => k48_at7 h)) ?_
 refine s_v rfl rfl rfl rfl (v_mv rfl rfl) ?_
 refine s_v rfl rfl rfl rfl (v_ar rfl rfl rfl rfl) ?_
 refine s_end ?_
 refine q_seq ?_
 refine c_cond (t := decide (((rd_T48 l (rd (ordL l) (j : Int))).f3 : Int) ≤ t)) rfl rfl (fun h6_ => ?_) (fun h6_ => ?_)
 have h6_d := of_decide_eq_true h6_
 have hk_ : keyA l (rd (ordL l) (j : Int)) ≤ t := h6_d
 refine r_any [.b b1_ (.cells #[.slice none 0 0] 35 (0, 0)), .f (KC k56 B d (mapF l t ((ordL l).take j))), .f (KC k48 A c l), .f (KC (Kd.int .i64) A3_ c4_ (ordL l))] (by kernel_rfl) rfl (by kernel_rfl) (mem_pick (idx := [1, 2, 3, 4]) rfl) ?_
 refine a_v 1 rfl (by kernel_rfl) (by kernel_rfl) (by kernel_rfl) rfl rfl rfl (v_mv rfl rfl) ?_
 refine a_v 2 rfl (by kernel_rfl) (by kernel_rfl) (by kernel_rfl) rfl rfl rfl (v_mv rfl rfl) ?_
 refine a_v 3 rfl (by kernel_rfl) (by kernel_rfl) (by kernel_rfl) rfl rfl rfl (v_iaK (i := 2) rfl Try.underlying27 SZ53 rfl rfl rfl rfl (by omega) (by omega)) ?_
 refine a_v 4 rfl (by kernel_rfl) (by kernel_rfl) (by kernel_rfl) rfl rfl rfl (v_fax rfl Try.underlying53 rfl SZ43 rfl) ?_
 refine a_v 5 rfl (by kernel_rfl) (by kernel_rfl) (by kernel_rfl) rfl rfl rfl (v_ldKqA z48 [.int .i64 ((rd_T48 l (rd (ordL l) (j : Int))).f1.f0), .int .u64 ((rd_T48 l (rd (ordL l) (j : Int))).f1.f1), .int .u64 ((rd_T48 l (rd (ordL l) (j : Int))).f1.f2), .int .i64 ((rd_T48 l (rd (ordL l) (j : Int))).f1.f3), .int .i64 ((rd_T48 l (rd (ordL l) (j : Int))).f1.f4)] 2 rfl Try.underlying43 rfl SZ43 rfl rfl rfl rfl (by omega) (by omega) (fun w K h => k48_op h)) ?_
 refine a_1 (i := 0) (by kernel_rfl) ?_
 refine i_v rfl rfl rfl rfl (v_ldA [.slice B ((mapF l t ((ordL l).take j)).length) d] 0 rfl Try.underlying35 rfl SZ35 rfl rfl rfl rfl) ?_
 refine a_1 (i := 6) (by kernel_rfl) ?_
 obtain ⟨m1, q0, q1, q2, q3, hD⟩ : ∃ m1 q0 q1 q2 q3, Dm (mapF l t ((ordL l).take j)) ((rd_T48 l (rd (ordL l) ((j : Nat) : Int))).f1.f0) ((rd_T48 l (rd (ordL l) ((j : Nat) : Int))).f1.f1) ((rd_T48 l (rd (ordL l) ((j : Nat) : Int))).f1.f2) ((rd_T48 l (rd (ordL l) ((j : Nat) : Int))).f1.f3) = (m1, q0, q1, q2, q3) := ⟨_, _, _, _, _, rfl⟩
 refine i_e rfl rfl (e_callF [2] #[.agg #[.slice B ((mapF l t ((ordL l).take j)).length) d], .agg #[.int .i64 ((rd_T48 l (rd (ordL l) (j : Int))).f1.f0), .int .u64 ((rd_T48 l (rd (ordL l) (j : Int))).f1.f1), .int .u64 ((rd_T48 l (rd (ordL l) (j : Int))).f1.f2), .int .i64 ((rd_T48 l (rd (ordL l) (j : Int))).f1.f3), .int .i64 ((rd_T48 l (rd (ordL l) (j : Int))).f1.f4)]] rfl rfl rfl rfl rfl Try.func23 rfl (by decide) rfl rfl rfl rfl (fun w ht => do_conr B d (mapF l t ((ordL l).take j)) ((rd_T48 l (rd (ordL l) (j : Int))).f1.f0) ((rd_T48 l (rd (ordL l) (j : Int))).f1.f1) ((rd_T48 l (rd (ordL l) (j : Int))).f1.f2) ((rd_T48 l (rd (ordL l) (j : Int))).f1.f3) ((rd_T48 l (rd (ordL l) (j : Int))).f1.f4) hmf.1 hml m1 q0 q1 q2 q3 hD w _)) ?_
 intro A7_ c8_ A9_ c10_
 refine ⟨(mem_pick (idx := [3, 4, 5, 6]) rfl), ?_⟩
 refine a_v 7 rfl (by kernel_rfl) (by kernel_rfl) (by kernel_rfl) rfl rfl rfl (v_mv rfl rfl) ?_
 refine a_v 8 rfl (by kernel_rfl) (by kernel_rfl) (by kernel_rfl) rfl rfl rfl (v_ext rfl rfl rfl) ?_
 refine a_v 9 rfl (by kernel_rfl) (by kernel_rfl) (by kernel_rfl) rfl rfl rfl (v_ext rfl rfl rfl) ?_
 refine a_1 (i := 10) (by kernel_rfl) ?_
 refine i_e rfl rfl (e_stA 2 rfl rfl SZ35 rfl rfl rfl rfl rfl rfl) ?_
 refine ⟨(mem_pick (idx := [3, 4, 5, 6]) rfl), ?_⟩
 refine a_end (by kernel_rfl) ?_
 refine q_block ?_
 refine q_seq ?_
 refine r_ord (l := [0, 1]) rfl (by kernel_rfl) (by kernel_rfl) ?_
 refine s_v rfl rfl rfl rfl (OpV.cast (v := .int .i64 ((j + 1 : Nat) : Int)) (v_ar rfl rfl rfl rfl) (addN (a := j) (b := 1) (by omega))) ?_
 refine s_v rfl rfl rfl rfl (v_mv rfl rfl) ?_
 refine s_end ?_
 have he : mapF l t ((ordL l).take (j + 1)) = doE l (mapF l t ((ordL l).take j)) (rd (ordL l) (j : Int)) := by rw [mapF_snoc l t hjl, if_pos hk_]
 have he : mapF l t ((ordL l).take (j + 1)) = m1 := by rw [he]; unfold doE; rw [hD]
 exact q_again (j + 1, A7_, c8_) [2, 3, 0, 5, 6] (by show j + 1 ≤ _; omega) (by dsimp only; omega) (subF_spec ⟨rfl, rfl, rfl, rfl, rfl, rfl, rfl, trivial⟩) (by dsimp only; rw [he]; rfl) (by decide)
 have h6_d := of_decide_eq_false h6_
 have hk_ : ¬ keyA l (rd (ordL l) (j : Int)) ≤ t := h6_d
 refine c_skip rfl ?_
 refine q_block ?_
 refine q_seq ?_
 refine r_ord (l := [0, 1]) rfl (by kernel_rfl) (by kernel_rfl) ?_
 refine s_v rfl rfl rfl rfl (OpV.cast (v := .int .i64 ((j + 1 : Nat) : Int)) (v_ar rfl rfl rfl rfl) (addN (a := j) (b := 1) (by omega))) ?_
 refine s_v rfl rfl rfl rfl (v_mv rfl rfl) ?_
 refine s_end ?_
 have he : mapF l t ((ordL l).take (j + 1)) = (mapF l t ((ordL l).take j)) := by rw [mapF_snoc l t hjl, if_neg hk_]
 exact q_again (j + 1, B, d) [0, 1, 2, 3, 4] (by show j + 1 ≤ _; omega) (by dsimp only; omega) (subF_spec ⟨rfl, rfl, rfl, rfl, rfl, rfl, rfl, trivial⟩) (by dsimp only; rw [he]; rfl) (by decide)
 have h5_d := of_decide_eq_false h5_
 have hM_ : mapF l t ((ordL l).take j) = mapF l t (ordL l) := by rw [show j = (ordL l).length by omega, List.take_length]
 refine c_exit (i := 0) rfl rfl ?_
 refine q_then_exit ?_
 refine q_then_exit ?_
 refine q_block_here rfl ?_
 refine q_seq ?_
 refine c_seq rfl ?_
 refine r_ord (l := [0, 1]) rfl (by kernel_rfl) (by kernel_rfl) ?_
 refine s_v rfl rfl rfl rfl (v_ldA [.slice B ((mapF l t ((ordL l).take j)).length) d] 0 rfl Try.underlying35 rfl SZ35 rfl rfl rfl rfl) ?_
 refine s_e rfl rfl (e_stA 1 rfl rfl SZ35 rfl rfl rfl rfl rfl rfl) ?_
 refine s_end ?_
 refine q_seq ?_
 refine c_ret rfl ?_
 have hX2 := hX B d
 rw [← hM_] at hX2
 exact q_ret (vs := [.agg #[.slice B ((mapF l t ((ordL l).take j)).length) d]]) rfl (.agg [.slice B ((mapF l t ((ordL l).take j)).length) d] 1 rfl Try.underlying35 rfl SZ35 rfl rfl rfl .nil) [2] rfl (by decide) hX2
end Go.Eng
namespace Go.Eng
open Go.Proofs Go.RowKit Go.Proofs.YtiihjijmmephlaaW.PrintWords Go.Proofs.Ytiihjijmmephlaa.GHist
set_option linter.unusedVariables false
set_option linter.unusedSimpArgs false
set_option maxRecDepth 100000 in
set_option maxHeartbeats 4000000 in
theorem rmap_con (A : Option Addr) (c : Nat) (l : List S48) (t : Int) (hl : l.length ≤ 1000) (w0 : World) (H : List Nat) : Con Try.prog 18 #[.slice A l.length c, .int .i64 t] w0 H [.f (KC k48 A c l)] (fun X => ∀ A1 c1, X (.slice A1 ((mapF l t (ordL l)).map old).length c1) [.f (KC k61 A1 c1 ((mapF l t (ordL l)).map old))]) := by
 refine con_enter (c := bodyOf Try.f18) Try.func18 rfl (m := 40) rfl rfl rfl ?_
 intro X hX _
 refine c_seq rfl ?_
 refine r_ord (l := [0]) rfl (by kernel_rfl) (by kernel_rfl) ?_
 refine s_v rfl rfl rfl rfl (v_as rfl rfl) ?_
 refine s_end ?_
 refine q_seq ?_
 refine c_seq rfl ?_
 refine r_ord (l := [0]) rfl (by kernel_rfl) (by kernel_rfl) ?_
 refine s_v rfl rfl rfl rfl (v_as rfl rfl) ?_
 refine s_end ?_
 refine q_seq ?_
 refine c_seq rfl ?_
 refine r_ord (l := [0, 1, 2]) rfl (by kernel_rfl) (by kernel_rfl) ?_
 refine s_v rfl rfl rfl rfl (v_mv rfl rfl) ?_
 refine s_e rfl rfl (e_callF [0] #[.slice A l.length c] rfl rfl rfl rfl rfl Try.func13 rfl (by decide) rfl rfl rfl rfl (fun w ht => rorder_con' A c l (by omega) w _)) ?_
 intro A1_ c2_
 refine s_v rfl rfl rfl rfl (v_as rfl rfl) ?_
 refine s_end ?_
 refine q_seq ?_
 refine c_seq rfl ?_
 refine c_seq rfl ?_
 refine r_ord (l := [0]) rfl (by kernel_rfl) (by kernel_rfl) ?_
 refine s_v rfl rfl rfl rfl (v_as rfl rfl) ?_
 refine s_end ?_
 refine q_seq ?_
 refine c_block rfl ?_
 refine c_knowT (KC_nil k61) ?_
 refine c_loop (σ := (Nat × Option Addr × Nat)) (fun s : (Nat × Option Addr × Nat) => match s with | (j, B, d) => j ≤ (ordL l).length) (fun s : (Nat × Option Addr × Nat) => match s with | (j, B, d) => (ordL l).length - j) (fun s : (Nat × Option Addr × Nat) => match s with | (j, B, d) => [(0, .slice A l.length c), (1, .int .i64 t), (6, .slice A1_ ((ordL l).length) c2_), (7, .int .i64 (j : Int)), (5, .slice B (((mapF l t ((ordL l).take j)).map old).length) d)]) (fun s : (Nat × Option Addr × Nat) => match s with | (j, B, d) => [.f (KC k61 B d ((mapF l t ((ordL l).take j)).map old)), .f (KC k48 A c l), .f (KC (Kd.int .i64) A1_ c2_ (ordL l))]) (0, none, 0) [0, 2, 1] rfl (Nat.zero_le _) (subF_spec ⟨rfl, rfl, rfl, rfl, rfl, trivial⟩) rfl (by decide) ?_
 rintro ⟨j, B, d⟩ hs
 have hj_ : j ≤ (ordL l).length := hs
 have hol := ordL_len l
 refine c_seq rfl ?_
 refine c_seq rfl ?_
 refine r_ord (l := [0, 1, 2, 3]) rfl (by kernel_rfl) (by kernel_rfl) ?_
 refine s_v rfl rfl rfl rfl (v_mv rfl rfl) ?_
 refine s_v rfl rfl rfl rfl (v_mv rfl rfl) ?_
 refine s_v rfl rfl rfl rfl (v_len rfl rfl rfl Try.underlying25 rfl rfl) ?_
 refine s_v rfl rfl rfl rfl (v_ar rfl rfl rfl rfl) ?_
 refine s_end ?_
 refine q_seq ?_
 refine c_cond (t := decide (((j : Int) : Int) < ((ordL l).length : Nat))) rfl rfl (fun h3_ => ?_) (fun h3_ => ?_)
 have h3_d := of_decide_eq_true h3_
 have hjl : j < (ordL l).length := by omega
 have hat := ord_at hjl
 have hmf := mapF_facts l t ((ordL l).take j)
 have hml : (mapF l t ((ordL l).take j)).length ≤ 1000 := by have h_ := hmf.2; rw [List.length_take] at h_; have := ordL_len l; omega
 refine c_skip rfl ?_
 refine q_seq ?_
 refine c_seq rfl ?_
 refine c_block rfl ?_
 refine c_seq rfl ?_
 refine r_ord (l := [0, 1, 2, 3, 4, 5, 6, 7, 8, 9]) rfl (by kernel_rfl) (by kernel_rfl) ?_
 refine s_v rfl rfl rfl rfl (v_mv rfl rfl) ?_
 refine s_v rfl rfl rfl rfl (v_mv rfl rfl) ?_
 refine s_v rfl rfl rfl rfl (v_mv rfl rfl) ?_
 refine s_v rfl rfl rfl rfl (v_iaK (i := 2) rfl Try.underlying25 SZ3 rfl rfl rfl rfl (by omega) (by omega)) ?_
 refine s_v rfl rfl rfl rfl (v_ldK (v := .int .i64 (rd (ordL l) (j : Int))) 0 2 rfl Try.underlying3 rfl rfl rfl rfl (by omega) (by omega) (fun w K h => h)) ?_
 refine s_v rfl rfl rfl rfl (v_iaK (i := 1) rfl Try.underlying22 SZ48 rfl rfl rfl rfl (by omega) (by omega)) ?_
 refine s_v rfl rfl rfl rfl (v_fax rfl Try.underlying48 rfl SZ3 rfl) ?_
 refine s_v rfl rfl rfl rfl (v_ldKq (v := .int .i64 (rd_T48 l (rd (ordL l) (j : Int))).f3) z48 1 rfl Try.underlying3 rfl rfl rfl rfl (by omega) (by omega) (fun w K h => k48_at7 h)) ?_
 refine s_v rfl rfl rfl rfl (v_mv rfl rfl) ?_
 refine s_v rfl rfl rfl rfl (v_ar rfl rfl rfl rfl) ?_
 refine s_end ?_
 refine q_seq ?_
 refine c_cond (t := decide (((rd_T48 l (rd (ordL l) (j : Int))).f3 : Int) ≤ t)) rfl rfl (fun h4_ => ?_) (fun h4_ => ?_)
 have h4_d := of_decide_eq_true h4_
 have hk_ : keyA l (rd (ordL l) (j : Int)) ≤ t := h4_d
 refine r_ord (l := [0, 1, 2, 3, 4, 5, 6, 7, 8, 9, 10, 11, 12, 13]) rfl (by kernel_rfl) (by kernel_rfl) ?_
 refine s_v rfl rfl rfl rfl (v_mv rfl rfl) ?_
 refine s_v rfl rfl rfl rfl (v_mv rfl rfl) ?_
 refine s_v rfl rfl rfl rfl (v_mv rfl rfl) ?_
 refine s_v rfl rfl rfl rfl (v_mv rfl rfl) ?_
 refine s_v rfl rfl rfl rfl (v_iaK (i := 2) rfl Try.underlying25 SZ3 rfl rfl rfl rfl (by omega) (by omega)) ?_
 refine s_v rfl rfl rfl rfl (v_ldK (v := .int .i64 (rd (ordL l) (j : Int))) 0 2 rfl Try.underlying3 rfl rfl rfl rfl (by omega) (by omega) (fun w K h => h)) ?_
 refine s_v rfl rfl rfl rfl (v_iaK (i := 1) rfl Try.underlying22 SZ48 rfl rfl rfl rfl (by omega) (by omega)) ?_
 refine s_v rfl rfl rfl rfl (v_fax rfl Try.underlying48 rfl SZ43 rfl) ?_
 refine s_v rfl rfl rfl rfl (v_ldKqA z48 [.int .i64 ((rd_T48 l (rd (ordL l) (j : Int))).f1.f0), .int .u64 ((rd_T48 l (rd (ordL l) (j : Int))).f1.f1), .int .u64 ((rd_T48 l (rd (ordL l) (j : Int))).f1.f2), .int .i64 ((rd_T48 l (rd (ordL l) (j : Int))).f1.f3), .int .i64 ((rd_T48 l (rd (ordL l) (j : Int))).f1.f4)] 1 rfl Try.underlying43 rfl SZ43 rfl rfl rfl rfl (by omega) (by omega) (fun w K h => k48_op h)) ?_
 obtain ⟨m1, q0, q1, q2, q3, hD⟩ : ∃ m1 q0 q1 q2 q3, Dm (mapF l t ((ordL l).take j)) ((rd_T48 l (rd (ordL l) ((j : Nat) : Int))).f1.f0) ((rd_T48 l (rd (ordL l) ((j : Nat) : Int))).f1.f1) ((rd_T48 l (rd (ordL l) ((j : Nat) : Int))).f1.f2) ((rd_T48 l (rd (ordL l) ((j : Nat) : Int))).f1.f3) = (m1, q0, q1, q2, q3) := ⟨_, _, _, _, _, rfl⟩
 refine s_e rfl rfl (e_callF [0] #[.slice B (((mapF l t ((ordL l).take j)).map old).length) d, .agg #[.int .i64 ((rd_T48 l (rd (ordL l) (j : Int))).f1.f0), .int .u64 ((rd_T48 l (rd (ordL l) (j : Int))).f1.f1), .int .u64 ((rd_T48 l (rd (ordL l) (j : Int))).f1.f2), .int .i64 ((rd_T48 l (rd (ordL l) (j : Int))).f1.f3), .int .i64 ((rd_T48 l (rd (ordL l) (j : Int))).f1.f4)]] rfl rfl rfl rfl rfl Try.func31 rfl (by decide) rfl rfl rfl rfl (fun w ht => rdo_conr B d (mapF l t ((ordL l).take j)) ((rd_T48 l (rd (ordL l) (j : Int))).f1.f0) ((rd_T48 l (rd (ordL l) (j : Int))).f1.f1) ((rd_T48 l (rd (ordL l) (j : Int))).f1.f2) ((rd_T48 l (rd (ordL l) (j : Int))).f1.f3) ((rd_T48 l (rd (ordL l) (j : Int))).f1.f4) hmf.1 hml m1 q0 q1 q2 q3 hD w _)) ?_
 intro A5_ c6_ A7_ c8_
 refine s_v rfl rfl rfl rfl (v_mv rfl rfl) ?_
 refine s_v rfl rfl rfl rfl (v_ext rfl rfl rfl) ?_
 refine s_v rfl rfl rfl rfl (v_ext rfl rfl rfl) ?_
 refine s_v rfl rfl rfl rfl (v_as rfl rfl) ?_
 refine s_end ?_
 refine q_block ?_
 refine q_seq ?_
 refine r_ord (l := [0, 1, 2]) rfl (by kernel_rfl) (by kernel_rfl) ?_
 refine s_v rfl rfl rfl rfl (v_mv rfl rfl) ?_
 refine s_v rfl rfl rfl rfl (OpV.cast (v := .int .i64 ((j + 1 : Nat) : Int)) (v_ar rfl rfl rfl rfl) (addN (a := j) (b := 1) (by omega))) ?_
 refine s_v rfl rfl rfl rfl (v_as rfl rfl) ?_
 refine s_end ?_
 have he : mapF l t ((ordL l).take (j + 1)) = m1 := by rw [mapF_snoc l t hjl, if_pos hk_]; unfold doE; rw [hD]
 exact q_again (j + 1, A5_, c6_) [0, 3, 4] (by show j + 1 ≤ _; omega) (by dsimp only; omega) (by dsimp only; rw [he]; exact subF_spec ⟨rfl, rfl, rfl, rfl, rfl, trivial⟩) (by dsimp only; rw [he]; rfl) (by decide)
 have h4_d := of_decide_eq_false h4_
 have hk_ : ¬ keyA l (rd (ordL l) (j : Int)) ≤ t := h4_d
 refine c_skip rfl ?_
 refine q_block ?_
 refine q_seq ?_
 refine r_ord (l := [0, 1, 2]) rfl (by kernel_rfl) (by kernel_rfl) ?_
 refine s_v rfl rfl rfl rfl (v_mv rfl rfl) ?_
 refine s_v rfl rfl rfl rfl (OpV.cast (v := .int .i64 ((j + 1 : Nat) : Int)) (v_ar rfl rfl rfl rfl) (addN (a := j) (b := 1) (by omega))) ?_
 refine s_v rfl rfl rfl rfl (v_as rfl rfl) ?_
 refine s_end ?_
 have he : mapF l t ((ordL l).take (j + 1)) = (mapF l t ((ordL l).take j)) := by rw [mapF_snoc l t hjl, if_neg hk_]
 exact q_again (j + 1, B, d) [0, 1, 2] (by show j + 1 ≤ _; omega) (by dsimp only; omega) (by dsimp only; rw [he]; exact subF_spec ⟨rfl, rfl, rfl, rfl, rfl, trivial⟩) (by dsimp only; rw [he]; rfl) (by decide)
 have h3_d := of_decide_eq_false h3_
 have hM_ : mapF l t ((ordL l).take j) = mapF l t (ordL l) := by rw [show j = (ordL l).length by omega, List.take_length]
 refine c_exit (i := 0) rfl rfl ?_
 refine q_then_exit ?_
 refine q_then_exit ?_
 refine q_block_here rfl ?_
 refine q_seq ?_
 refine c_seq rfl ?_
 refine r_ord (l := [0, 1]) rfl (by kernel_rfl) (by kernel_rfl) ?_
 refine s_v rfl rfl rfl rfl (v_mv rfl rfl) ?_
 refine s_v rfl rfl rfl rfl (v_as rfl rfl) ?_
 refine s_end ?_
 refine q_seq ?_
 refine c_ret rfl ?_
 have hX2 := hX B d
 rw [← hM_] at hX2
 refine q_take [0] rfl (by decide) ?_
 exact q_post rfl (.cons rfl (.nil)) hX2
end Go.Eng
namespace Go.Eng
open Go.Proofs Go.RowKit Go.Proofs.YtiihjijmmephlaaW.PrintWords Go.Proofs.Ytiihjijmmephlaa.GHist
set_option linter.unusedVariables false
set_option linter.unusedSimpArgs false
def told (l : List S48) (m : List S56) (k : Int) : Bool × Bool × Int × List Int := (Dm m (rd_T48 l k).f1.f0 (rd_T48 l k).f1.f1 (rd_T48 l k).f1.f2 (rd_T48 l k).f1.f3).2
def sameT (x : S48) (q : Bool × Bool × Int × List Int) : Bool := sameB x.f6.f0 x.f6.f1 x.f6.f2 x.f6.f3 q.1 q.2.1 q.2.2.1 q.2.2.2
def rep (l : List S48) : List Int → List S56 → Int → Bool
  | [], _, _ => true
  | k :: r, m, last => if keyA l k = last then false else if (rd_T48 l k).f5 = true ∧ sameT (rd_T48 l k) (told l m k) = false then false else rep l r (doE l m k) (keyA l k)
def legalM (l : List S48) : Bool := l.all timelyB && rep l (ordL l) [] 0
theorem rep_at {l : List S48} {j : Nat} (h : j < (ordL l).length) (m : List S56) (last : Int) : rep l ((ordL l).drop j) m last = if keyA l (rd (ordL l) (j : Int)) = last then false else if (rd_T48 l (rd (ordL l) (j : Int))).f5 = true ∧ sameT (rd_T48 l (rd (ordL l) (j : Int))) (told l m (rd (ordL l) (j : Int))) = false then false else rep l ((ordL l).drop (j + 1)) (doE l m (rd (ordL l) (j : Int))) (keyA l (rd (ordL l) (j : Int))) := by
  rw [List.drop_eq_getElem_cons h]
  have : rd (ordL l) (j : Int) = (ordL l)[j] := by simp [rd, List.getD_eq_getElem?_getD, h]
  rw [this]; rfl
end Go.Eng
namespace Go.Eng
open Go.Proofs Go.RowKit Go.Proofs.YtiihjijmmephlaaW.PrintWords Go.Proofs.Ytiihjijmmephlaa.GHist
set_option linter.unusedVariables false
set_option linter.unusedSimpArgs false
theorem rdE {l : List S48} {i : Nat} (h : i < l.length) : rd_T48 l (i : Int) = l[i] := by simp [rd_T48, List.getD_eq_getElem?_getD, h]
theorem el_mem {l : List S48} {i : Nat} (h : i < l.length) : rd_T48 l (i : Int) ∈ l := by rw [rdE h]; exact List.getElem_mem h
theorem el_mem2 {l : List S48} {k : Int} (h : 0 ≤ k ∧ k < (l.length : Int)) : rd_T48 l k ∈ l := by
  obtain ⟨i, rfl⟩ := Int.eq_ofNat_of_zero_le h.1
  exact el_mem (by omega)
theorem all_next {l : List S48} {i : Nat} (h : i < l.length) (ha : (l.take i).all timelyB = true) (ht : timelyB (rd_T48 l (i : Int)) = true) : (l.take (i + 1)).all timelyB = true := by
  rw [List.take_succ_eq_append_getElem h, List.all_append, ha, ← rdE h]; simp [ht]
theorem all_of {l : List S48} {i : Nat} (h : l.length ≤ i) (ha : (l.take i).all timelyB = true) : l.all timelyB = true := by rwa [List.take_of_length_le h] at ha
theorem all_bad {l : List S48} {i : Nat} (h : i < l.length) (ht : timelyB (rd_T48 l (i : Int)) = false) : l.all timelyB = false := by
  rw [List.all_eq_false]; exact ⟨_, el_mem h, by rw [ht]; decide⟩
set_option maxRecDepth 100000 in
set_option maxHeartbeats 4000000 in
theorem legal_con (A : Option Addr) (c : Nat) (l : List S48) (hl : l.length ≤ 80) (hn : (hapTo l l.length).length ≤ 40) (hK : ∀ x ∈ l, x.f6.f3.length ≤ 40) (w0 : World) (H : List Nat) : Con Try.prog 19 #[.slice A l.length c] w0 H [.f (KC k48 A c l)] (fun X => X (.bool (legalM l)) []) := by
 refine con_enter (c := bodyOf Try.f19) Try.func19 rfl (m := 63) rfl rfl rfl ?_
 intro X hX _
 refine c_seq rfl ?_
 refine r_ord (l := [0]) rfl (by kernel_rfl) (by kernel_rfl) ?_
 refine s_v rfl rfl rfl rfl (v_as rfl rfl) ?_
 refine s_end ?_
 refine q_seq ?_
 refine c_scope rfl ?_
 refine c_seq rfl ?_
 refine c_seq rfl ?_
 refine r_ord (l := [0, 1, 2]) rfl (by kernel_rfl) (by kernel_rfl) ?_
 refine s_v rfl rfl rfl rfl (v_mv rfl rfl) ?_
 refine s_v rfl rfl rfl rfl (v_len rfl rfl rfl Try.underlying27 rfl rfl) ?_
 refine s_v rfl rfl rfl rfl (v_mv rfl rfl) ?_
 refine s_end ?_
 refine q_seq ?_
 refine c_block rfl ?_
 refine c_loop (σ := Nat) (fun i => i ≤ l.length ∧ (l.take i).all timelyB = true) (fun i => l.length - i) (fun i => [(0, .slice A l.length c), (13, .slice A l.length c), (14, .int .i64 (l.length : Nat)), (15, .int .i64 (i : Int))]) (fun i => [.f (KC k48 A c l)]) 0 [0] rfl ⟨Nat.zero_le _, rfl⟩ (subF_spec ⟨rfl, rfl, rfl, rfl, trivial⟩) rfl (by decide) ?_
 rintro i hs
 have hi_ : i ≤ l.length := hs.1
 refine c_seq rfl ?_
 refine r_ord (l := [0]) rfl (by kernel_rfl) (by kernel_rfl) ?_
 refine s_v rfl rfl rfl rfl (v_ar rfl rfl rfl rfl) ?_
 refine s_end ?_
 refine q_seq ?_
 refine c_seq rfl ?_
 refine c_cond (t := decide (((i : Int) : Int) < (l.length : Nat))) rfl rfl (fun h1_ => ?_) (fun h1_ => ?_)
 have h1_d := of_decide_eq_true h1_
 have hil : i < l.length := by omega
 refine c_skip rfl ?_
 refine q_seq ?_
 refine c_seq rfl ?_
 refine c_block rfl ?_
 refine c_seq rfl ?_
 refine r_ord (l := [0, 1, 2, 3]) rfl (by kernel_rfl) (by kernel_rfl) ?_
 refine s_v rfl rfl rfl rfl (v_iaK (i := 0) rfl Try.underlying27 SZ53 rfl rfl rfl rfl (by omega) (by omega)) ?_
 refine s_e rfl rfl (e_ldKX z48 0 rfl rfl rfl Try.underlying53 rfl SZ53 rfl rfl rfl (by omega) (by omega)) ?_
 intro cs2_ h3_
 refine s_know 0 rfl (fun w h => k48_sh h) (fun h4_ => ?_)
 obtain ⟨A5_, c6_, rfl⟩ := h4_
 refine s_weak 0 rfl (fun w h => k48_row h) ?_
 refine s_e rfl rfl (e_alloc rfl rfl rfl ZR53) ?_
 intro b7_
 refine s_e rfl rfl (e_stA 0 rfl rfl SZ53 rfl rfl rfl rfl rfl rfl) ?_
 refine s_end ?_
 refine q_seq ?_
 refine c_seq rfl ?_
 refine r_ord (l := [0, 1, 2]) rfl (by kernel_rfl) (by kernel_rfl) ?_
 refine s_v rfl rfl rfl rfl (v_ldA [.int .i64 ((rd_T48 l (i : Int)).f0), .int .i64 ((rd_T48 l (i : Int)).f1.f0), .int .u64 ((rd_T48 l (i : Int)).f1.f1), .int .u64 ((rd_T48 l (i : Int)).f1.f2), .int .i64 ((rd_T48 l (i : Int)).f1.f3), .int .i64 ((rd_T48 l (i : Int)).f1.f4), .int .i64 ((rd_T48 l (i : Int)).f2), .int .i64 ((rd_T48 l (i : Int)).f3), .int .i64 ((rd_T48 l (i : Int)).f4), .bool ((rd_T48 l (i : Int)).f5), .bool ((rd_T48 l (i : Int)).f6.f0), .bool ((rd_T48 l (i : Int)).f6.f1), .int .u64 ((rd_T48 l (i : Int)).f6.f2), .slice A5_ ((rd_T48 l (i : Int)).f6.f3.length) c6_] 0 rfl Try.underlying53 rfl SZ53 rfl rfl rfl rfl) ?_
 refine s_e rfl rfl (e_callF [1] #[.agg #[.int .i64 ((rd_T48 l (i : Int)).f0), .int .i64 ((rd_T48 l (i : Int)).f1.f0), .int .u64 ((rd_T48 l (i : Int)).f1.f1), .int .u64 ((rd_T48 l (i : Int)).f1.f2), .int .i64 ((rd_T48 l (i : Int)).f1.f3), .int .i64 ((rd_T48 l (i : Int)).f1.f4), .int .i64 ((rd_T48 l (i : Int)).f2), .int .i64 ((rd_T48 l (i : Int)).f3), .int .i64 ((rd_T48 l (i : Int)).f4), .bool ((rd_T48 l (i : Int)).f5), .bool ((rd_T48 l (i : Int)).f6.f0), .bool ((rd_T48 l (i : Int)).f6.f1), .int .u64 ((rd_T48 l (i : Int)).f6.f2), .slice A5_ ((rd_T48 l (i : Int)).f6.f3.length) c6_]] rfl rfl rfl rfl rfl Try.func32 rfl (by decide) rfl rfl rfl rfl (fun w ht => timelyC (rd_T48 l (i : Int)) A5_ c6_ (by have := hK _ (el_mem hil); omega) w _)) ?_
 refine s_v rfl rfl rfl rfl (v_not rfl rfl) ?_
 refine s_end ?_
 refine q_seq ?_
 refine c_cond (t := !(timelyB (rd_T48 l (i : Int)))) rfl rfl (fun h8_ => ?_) (fun h8_ => ?_)
 have htm : timelyB (rd_T48 l (i : Int)) = false := by simpa using h8_
 refine c_seq rfl ?_
 refine r_ord (l := [0]) rfl (by kernel_rfl) (by kernel_rfl) ?_
 refine s_v rfl rfl rfl rfl (v_as rfl rfl) ?_
 refine s_end ?_
 refine q_seq ?_
 refine c_ret rfl ?_
 refine q_block_ret ?_
 refine q_then_ret ?_
 refine q_then_ret ?_
 refine q_block_ret ?_
 refine q_then_ret ?_
 refine q_scope_r ?_
 refine q_take [] rfl (by decide) ?_
 have hlg : legalM l = false := (by rw [legalM, all_bad hil htm]; rfl)
 rw [hlg] at hX
 exact q_post rfl (.cons rfl (.nil)) hX
 have htm : timelyB (rd_T48 l (i : Int)) = true := by simpa using h8_
 refine c_skip rfl ?_
 refine q_block ?_
 refine q_seq ?_
 refine r_ord (l := [0, 1]) rfl (by kernel_rfl) (by kernel_rfl) ?_
 refine s_v rfl rfl rfl rfl (OpV.cast (v := .int .i64 ((i + 1 : Nat) : Int)) (v_ar rfl rfl rfl rfl) (addN (a := i) (b := 1) (by omega))) ?_
 refine s_v rfl rfl rfl rfl (v_mv rfl rfl) ?_
 refine s_end ?_
 exact q_again (i + 1) [3] ⟨by omega, all_next hil hs.2 htm⟩ (by show l.length - (i + 1) < l.length - i; omega) (subF_spec ⟨rfl, rfl, rfl, rfl, trivial⟩) rfl (by decide)
 have h1_d := of_decide_eq_false h1_
 have hall : l.all timelyB = true := all_of (i := i) (by omega) hs.2
 refine c_exit (i := 0) rfl rfl ?_
 refine q_then_exit ?_
 refine q_then_exit ?_
 refine q_block_here rfl ?_
 refine q_seq ?_
 refine c_seq rfl ?_
 refine r_ord (l := [0]) rfl (by kernel_rfl) (by kernel_rfl) ?_
 refine s_e rfl rfl (e_alloc rfl rfl rfl ZR35) ?_
 intro b9_
 refine s_end ?_
 refine q_seq ?_
 refine c_seq rfl ?_
 refine r_ord (l := [0]) rfl (by kernel_rfl) (by kernel_rfl) ?_
 refine s_v rfl rfl rfl rfl (v_as rfl rfl) ?_
 refine s_end ?_
 refine q_seq ?_
 refine c_seq rfl ?_
 refine r_ord (l := [0]) rfl (by kernel_rfl) (by kernel_rfl) ?_
 refine s_v rfl rfl rfl rfl (v_as rfl rfl) ?_
 refine s_end ?_
 refine q_seq ?_
 refine c_seq rfl ?_
 refine c_label rfl ?_
 refine q_seq ?_
 refine c_seq rfl ?_
 refine c_seq rfl ?_
 refine r_ord (l := [0, 1, 2, 3]) rfl (by kernel_rfl) (by kernel_rfl) ?_
 refine s_v rfl rfl rfl rfl (v_mv rfl rfl) ?_
 refine s_e rfl rfl (e_callF [1] #[.slice A l.length c] rfl rfl rfl rfl rfl Try.func11 rfl (by decide) rfl rfl rfl rfl (fun w ht => order_con' A c l (by omega) hn w _)) ?_
 intro A10_ c11_
 refine s_v rfl rfl rfl rfl (v_len rfl rfl rfl Try.underlying25 rfl rfl) ?_
 refine s_v rfl rfl rfl rfl (v_mv rfl rfl) ?_
 refine s_end ?_
 refine q_seq ?_
 refine c_block rfl ?_
 refine c_knowT (KC_nil k56) ?_
 refine c_loop (σ := (Nat × List S56 × Int × Option Addr × Nat)) (fun s : (Nat × List S56 × Int × Option Addr × Nat) => match s with | (j, m, last, B, d) => j ≤ (ordL l).length ∧ Srt m ∧ m.length ≤ j ∧ rep l ((ordL l).drop j) m last = rep l (ordL l) [] 0) (fun s : (Nat × List S56 × Int × Option Addr × Nat) => match s with | (j, m, last, B, d) => (ordL l).length - j) (fun s : (Nat × List S56 × Int × Option Addr × Nat) => match s with | (j, m, last, B, d) => [(0, .slice A l.length c), (5, .pointer (some ⟨b9_, 0, none⟩)), (7, .bool true), (24, .slice A10_ ((ordL l).length) c11_), (25, .int .i64 ((ordL l).length : Nat)), (26, .int .i64 (j : Int)), (6, .int .i64 last)]) (fun s : (Nat × List S56 × Int × Option Addr × Nat) => match s with | (j, m, last, B, d) => [.b b9_ (.cells #[.slice B m.length d] 35 (0, 0)), .f (KC k56 B d m), .f (KC k48 A c l), .f (KC (Kd.int .i64) A10_ c11_ (ordL l))]) (0, [], 0, none, 0) [2, 0, 3, 1] rfl ⟨Nat.zero_le _, List.Pairwise.nil, Nat.le_refl _, rfl⟩ (subF_spec ⟨rfl, rfl, rfl, rfl, rfl, rfl, rfl, trivial⟩) rfl (by decide) ?_
 rintro ⟨j, m, last, B, d⟩ hs
 have hs_ : j ≤ (ordL l).length ∧ Srt m ∧ m.length ≤ j ∧ rep l ((ordL l).drop j) m last = rep l (ordL l) [] 0 := hs
 have hol := ordL_len l
 have hj_ := hs_.1
 have hm_ := hs_.2.2.1
 refine c_seq rfl ?_
 refine r_ord (l := [0]) rfl (by kernel_rfl) (by kernel_rfl) ?_
 refine s_v rfl rfl rfl rfl (v_ar rfl rfl rfl rfl) ?_
 refine s_end ?_
 refine q_seq ?_
 refine c_seq rfl ?_
 refine c_cond (t := decide (((j : Int) : Int) < ((ordL l).length : Nat))) rfl rfl (fun h12_ => ?_) (fun h12_ => ?_)
 have h12_d := of_decide_eq_true h12_
 have hjl : j < (ordL l).length := by omega
 have hat := ord_at hjl
 have hml : m.length ≤ 1000 := by have := hs_.2.2.1; omega
 have hrp := rep_at hjl m last
 refine c_skip rfl ?_
 refine q_seq ?_
 refine c_seq rfl ?_
 refine c_block rfl ?_
 refine c_seq rfl ?_
 refine r_ord (l := [0, 1, 2]) rfl (by kernel_rfl) (by kernel_rfl) ?_
 refine s_v rfl rfl rfl rfl (v_iaK (i := 3) rfl Try.underlying25 SZ3 rfl rfl rfl rfl (by omega) (by omega)) ?_
 refine s_v rfl rfl rfl rfl (v_ldK (v := .int .i64 (rd (ordL l) (j : Int))) 0 3 rfl Try.underlying3 rfl rfl rfl rfl (by omega) (by omega) (fun w K h => h)) ?_
 refine s_v rfl rfl rfl rfl (v_as rfl rfl) ?_
 refine s_end ?_
 refine q_seq ?_
 refine c_seq rfl ?_
 refine r_ord (l := [0, 1, 2, 3, 4, 5]) rfl (by kernel_rfl) (by kernel_rfl) ?_
 refine s_v rfl rfl rfl rfl (v_mv rfl rfl) ?_
 refine s_v rfl rfl rfl rfl (v_mv rfl rfl) ?_
 refine s_v rfl rfl rfl rfl (v_iaK (i := 2) rfl Try.underlying27 SZ53 rfl rfl rfl rfl (by omega) (by omega)) ?_
 refine s_e rfl rfl (e_ldKX z48 2 rfl rfl rfl Try.underlying53 rfl SZ53 rfl rfl rfl (by omega) (by omega)) ?_
 intro cs13_ h14_
 refine s_know 0 rfl (fun w h => k48_sh h) (fun h15_ => ?_)
 obtain ⟨A16_, c17_, rfl⟩ := h15_
 refine s_weak 0 rfl (fun w h => k48_row h) ?_
 refine s_e rfl rfl (e_alloc rfl rfl rfl ZR53) ?_
 intro b18_
 refine s_e rfl rfl (e_stA 0 rfl rfl SZ53 rfl rfl rfl rfl rfl rfl) ?_
 refine s_end ?_
 refine q_seq ?_
 refine c_seq rfl ?_
 refine r_ord (l := [0, 1, 2, 3, 4, 5, 6, 7, 8, 9, 10]) rfl (by kernel_rfl) (by kernel_rfl) ?_
 refine s_v rfl rfl rfl rfl (v_ldA [.slice B m.length d] 3 rfl Try.underlying35 rfl SZ35 rfl rfl rfl rfl) ?_
 refine s_v rfl rfl rfl rfl (v_fa rfl Try.underlying53 rfl SZ43 rfl) ?_
 refine s_v rfl rfl rfl rfl (v_ldA [.int .i64 ((rd_T48 l (rd (ordL l) (j : Int))).f1.f0), .int .u64 ((rd_T48 l (rd (ordL l) (j : Int))).f1.f1), .int .u64 ((rd_T48 l (rd (ordL l) (j : Int))).f1.f2), .int .i64 ((rd_T48 l (rd (ordL l) (j : Int))).f1.f3), .int .i64 ((rd_T48 l (rd (ordL l) (j : Int))).f1.f4)] 0 rfl Try.underlying43 rfl SZ43 rfl rfl rfl rfl) ?_
 obtain ⟨m1, q0, q1, q2, q3, hD⟩ : ∃ m1 q0 q1 q2 q3, Dm m ((rd_T48 l (rd (ordL l) ((j : Nat) : Int))).f1.f0) ((rd_T48 l (rd (ordL l) ((j : Nat) : Int))).f1.f1) ((rd_T48 l (rd (ordL l) ((j : Nat) : Int))).f1.f2) ((rd_T48 l (rd (ordL l) ((j : Nat) : Int))).f1.f3) = (m1, q0, q1, q2, q3) := ⟨_, _, _, _, _, rfl⟩
 have hDf := Dm_facts hs_.2.1 hD
 refine s_e rfl rfl (e_callF [4] #[.agg #[.slice B m.length d], .agg #[.int .i64 ((rd_T48 l (rd (ordL l) (j : Int))).f1.f0), .int .u64 ((rd_T48 l (rd (ordL l) (j : Int))).f1.f1), .int .u64 ((rd_T48 l (rd (ordL l) (j : Int))).f1.f2), .int .i64 ((rd_T48 l (rd (ordL l) (j : Int))).f1.f3), .int .i64 ((rd_T48 l (rd (ordL l) (j : Int))).f1.f4)]] rfl rfl rfl rfl rfl Try.func23 rfl (by decide) rfl rfl rfl rfl (fun w ht => do_conr B d m ((rd_T48 l (rd (ordL l) (j : Int))).f1.f0) ((rd_T48 l (rd (ordL l) (j : Int))).f1.f1) ((rd_T48 l (rd (ordL l) (j : Int))).f1.f2) ((rd_T48 l (rd (ordL l) (j : Int))).f1.f3) ((rd_T48 l (rd (ordL l) (j : Int))).f1.f4) hs_.2.1 hml m1 q0 q1 q2 q3 hD w _)) ?_
 intro A19_ c20_ A21_ c22_
 refine s_v rfl rfl rfl rfl (v_mv rfl rfl) ?_
 refine s_v rfl rfl rfl rfl (v_ext rfl rfl rfl) ?_
 refine s_v rfl rfl rfl rfl (v_ext rfl rfl rfl) ?_
 refine s_e rfl rfl (e_alloc rfl rfl rfl ZR35) ?_
 intro b23_
 refine s_e rfl rfl (e_alloc rfl rfl rfl ZR46) ?_
 intro b24_
 refine s_e rfl rfl (e_stA 1 rfl rfl SZ35 rfl rfl rfl rfl rfl rfl) ?_
 refine s_e rfl rfl (e_stA 0 rfl rfl SZ46 rfl rfl rfl rfl rfl rfl) ?_
 refine s_end ?_
 refine q_seq ?_
 refine c_seq rfl ?_
 refine c_block rfl ?_
 refine c_seq rfl ?_
 refine r_ord (l := [0, 1, 2, 3, 4]) rfl (by kernel_rfl) (by kernel_rfl) ?_
 refine s_v rfl rfl rfl rfl (v_fa rfl Try.underlying53 rfl SZ3 rfl) ?_
 refine s_v rfl rfl rfl rfl (v_ld 4 rfl Try.underlying3 rfl rfl rfl rfl) ?_
 refine s_v rfl rfl rfl rfl (v_mv rfl rfl) ?_
 refine s_v rfl rfl rfl rfl (v_ar rfl rfl rfl rfl) ?_
 refine s_v rfl rfl rfl rfl (v_as rfl rfl) ?_
 refine s_end ?_
 refine q_seq ?_
 refine c_cond (t := ((rd_T48 l (rd (ordL l) (j : Int))).f3 : Int) == last) rfl rfl (fun h25_ => ?_) (fun h25_ => ?_)
 have hend : rep l (ordL l) [] 0 = false := by rw [← hs_.2.2.2, hrp, if_pos (show keyA l (rd (ordL l) (j : Int)) = last from (by simpa using h25_ : (rd_T48 l (rd (ordL l) (j : Int))).f3 = last))]
 have h25_d : (rd_T48 l (rd (ordL l) ((j : Nat) : Int))).f3 = last := by simpa using h25_
 refine r_ord (l := [0]) rfl (by kernel_rfl) (by kernel_rfl) ?_
 refine s_v rfl rfl rfl rfl (v_as rfl rfl) ?_
 refine s_end ?_
 refine q_block ?_
 refine q_seq ?_
 refine c_seq rfl ?_
 refine c_seq rfl ?_
 refine r_ord (l := [0, 1]) rfl (by kernel_rfl) (by kernel_rfl) ?_
 refine s_v rfl rfl rfl rfl (v_mv rfl rfl) ?_
 refine s_v rfl rfl rfl rfl (v_not rfl rfl) ?_
 refine s_end ?_
 refine q_seq ?_
 refine c_cond1 rfl rfl ?_
 refine c_exit (i := 2) rfl rfl ?_
 refine q_then_exit ?_
 refine q_block_on rfl ?_
 refine q_then_exit ?_
 refine q_then_exit ?_
 refine q_block_here rfl ?_
 refine q_seq ?_
 refine c_seq rfl ?_
 refine r_ord (l := [0, 1]) rfl (by kernel_rfl) (by kernel_rfl) ?_
 refine s_v rfl rfl rfl rfl (v_mv rfl rfl) ?_
 refine s_v rfl rfl rfl rfl (v_as rfl rfl) ?_
 refine s_end ?_
 refine q_seq ?_
 refine c_ret rfl ?_
 refine q_scope_r ?_
 refine q_take [] rfl (by decide) ?_
 have hlg : legalM l = false := (by rw [legalM, hall, hend]; rfl)
 rw [hlg] at hX
 exact q_post rfl (.cons rfl (.nil)) hX
 have hne : ¬ keyA l (rd (ordL l) (j : Int)) = last := (by simpa using h25_ : ¬ (rd_T48 l (rd (ordL l) (j : Int))).f3 = last)
 have h25_d : (rd_T48 l (rd (ordL l) ((j : Nat) : Int))).f3 ≠ last := by simpa using h25_
 refine c_seq rfl ?_
 refine r_ord (l := [0, 1, 2, 3, 4, 5, 6, 7, 8, 9]) rfl (by kernel_rfl) (by kernel_rfl) ?_
 refine s_v rfl rfl rfl rfl (v_fa rfl Try.underlying53 rfl SZ4 rfl) ?_
 refine s_v rfl rfl rfl rfl (v_ld 4 rfl Try.underlying4 rfl rfl rfl rfl) ?_
 refine s_v rfl rfl rfl rfl (v_mv rfl rfl) ?_
 refine s_splitv (d := 49) (t := (rd_T48 l (rd (ordL l) (j : Int))).f5) rfl (fun h26_ => ?_) (fun h26_ => ?_)
 refine s_vg rfl rfl rfl rfl (v_fa rfl Try.underlying53 rfl SZ46 rfl) ?_
 refine s_vg rfl rfl rfl rfl (v_ldA [.bool ((rd_T48 l (rd (ordL l) (j : Int))).f6.f0), .bool ((rd_T48 l (rd (ordL l) (j : Int))).f6.f1), .int .u64 ((rd_T48 l (rd (ordL l) (j : Int))).f6.f2), .slice A16_ ((rd_T48 l (rd (ordL l) (j : Int))).f6.f3.length) c17_] 4 rfl Try.underlying46 rfl SZ46 rfl rfl rfl rfl) ?_
 refine s_vg rfl rfl rfl rfl (v_ldA [.bool q0, .bool q1, .int .u64 q2, .slice A21_ q3.length c22_] 0 rfl Try.underlying46 rfl SZ46 rfl rfl rfl rfl) ?_
 refine s_eg rfl rfl (e_callK (fun z : Unit => .bool (sameB ((rd_T48 l (rd (ordL l) (j : Int))).f6.f0) ((rd_T48 l (rd (ordL l) (j : Int))).f6.f1) ((rd_T48 l (rd (ordL l) (j : Int))).f6.f2) ((rd_T48 l (rd (ordL l) (j : Int))).f6.f3) q0 q1 q2 q3)) (fun z => []) #[.agg #[.bool ((rd_T48 l (rd (ordL l) (j : Int))).f6.f0), .bool ((rd_T48 l (rd (ordL l) (j : Int))).f6.f1), .int .u64 ((rd_T48 l (rd (ordL l) (j : Int))).f6.f2), .slice A16_ ((rd_T48 l (rd (ordL l) (j : Int))).f6.f3.length) c17_], .agg #[.bool q0, .bool q1, .int .u64 q2, .slice A21_ q3.length c22_]] rfl rfl rfl rfl rfl Try.func33 rfl (by decide) rfl rfl (fun w ht => seq_Same.con 5000 _ _ _ _ _ _ _ _ _ _ _ _ _ (same_f ((rd_T48 l (rd (ordL l) (j : Int))).f6.f0) ((rd_T48 l (rd (ordL l) (j : Int))).f6.f1) ((rd_T48 l (rd (ordL l) (j : Int))).f6.f2) ((rd_T48 l (rd (ordL l) (j : Int))).f6.f3) q0 q1 q2 q3 (by have := hK _ (el_mem2 hat); omega) 5000 (by omega)) w (Tri.fact ht 5 rfl) (Tri.fact ht 3 rfl))) ?_
 intro z27_
 refine s_vg rfl rfl rfl rfl (v_not rfl rfl) ?_
 refine s_v rfl rfl rfl rfl (v_pick rfl rfl rfl rfl) ?_
 refine s_v rfl rfl rfl rfl (v_as rfl rfl) ?_
 refine s_end ?_
 refine q_seq ?_
 refine c_cond (t := !(sameB ((rd_T48 l (rd (ordL l) (j : Int))).f6.f0) ((rd_T48 l (rd (ordL l) (j : Int))).f6.f1) ((rd_T48 l (rd (ordL l) (j : Int))).f6.f2) ((rd_T48 l (rd (ordL l) (j : Int))).f6.f3) q0 q1 q2 q3)) rfl rfl (fun h28_ => ?_) (fun h28_ => ?_)
 have hend : rep l (ordL l) [] 0 = false := by rw [← hs_.2.2.2, hrp, if_neg hne, if_pos ⟨h26_, by unfold told sameT; rw [hD]; simpa using h28_⟩]
 refine r_ord (l := [0]) rfl (by kernel_rfl) (by kernel_rfl) ?_
 refine s_v rfl rfl rfl rfl (v_as rfl rfl) ?_
 refine s_end ?_
 refine q_block ?_
 refine q_seq ?_
 refine c_seq rfl ?_
 refine c_seq rfl ?_
 refine r_ord (l := [0, 1]) rfl (by kernel_rfl) (by kernel_rfl) ?_
 refine s_v rfl rfl rfl rfl (v_mv rfl rfl) ?_
 refine s_v rfl rfl rfl rfl (v_not rfl rfl) ?_
 refine s_end ?_
 refine q_seq ?_
 refine c_cond1 rfl rfl ?_
 refine c_exit (i := 2) rfl rfl ?_
 refine q_then_exit ?_
 refine q_block_on rfl ?_
 refine q_then_exit ?_
 refine q_then_exit ?_
 refine q_block_here rfl ?_
 refine q_seq ?_
 refine c_seq rfl ?_
 refine r_ord (l := [0, 1]) rfl (by kernel_rfl) (by kernel_rfl) ?_
 refine s_v rfl rfl rfl rfl (v_mv rfl rfl) ?_
 refine s_v rfl rfl rfl rfl (v_as rfl rfl) ?_
 refine s_end ?_
 refine q_seq ?_
 refine c_ret rfl ?_
 refine q_scope_r ?_
 refine q_take [] rfl (by decide) ?_
 have hlg : legalM l = false := (by rw [legalM, hall, hend]; rfl)
 rw [hlg] at hX
 exact q_post rfl (.cons rfl (.nil)) hX
 refine c_skip rfl ?_
 refine q_block ?_
 refine q_seq ?_
 refine c_seq rfl ?_
 refine c_seq rfl ?_
 refine r_ord (l := [0, 1]) rfl (by kernel_rfl) (by kernel_rfl) ?_
 refine s_v rfl rfl rfl rfl (v_mv rfl rfl) ?_
 refine s_v rfl rfl rfl rfl (v_not rfl rfl) ?_
 refine s_end ?_
 refine q_seq ?_
 refine c_cond0 rfl rfl ?_
 refine c_skip rfl ?_
 refine q_seq ?_
 refine r_any [.b b24_ (.cells #[.bool q0, .bool q1, .int .u64 q2, .slice A21_ q3.length c22_] 46 (0, 0)), .b b23_ (.cells #[.slice A19_ m1.length c20_] 35 (0, 0)), .f (KC k56 A19_ c20_ m1), .f (KC (Kd.int .u64) A21_ c22_ q3), .b b18_ (.cells #[.int .i64 ((rd_T48 l (rd (ordL l) (j : Int))).f0), .int .i64 ((rd_T48 l (rd (ordL l) (j : Int))).f1.f0), .int .u64 ((rd_T48 l (rd (ordL l) (j : Int))).f1.f1), .int .u64 ((rd_T48 l (rd (ordL l) (j : Int))).f1.f2), .int .i64 ((rd_T48 l (rd (ordL l) (j : Int))).f1.f3), .int .i64 ((rd_T48 l (rd (ordL l) (j : Int))).f1.f4), .int .i64 ((rd_T48 l (rd (ordL l) (j : Int))).f2), .int .i64 ((rd_T48 l (rd (ordL l) (j : Int))).f3), .int .i64 ((rd_T48 l (rd (ordL l) (j : Int))).f4), .bool ((rd_T48 l (rd (ordL l) (j : Int))).f5), .bool ((rd_T48 l (rd (ordL l) (j : Int))).f6.f0), .bool ((rd_T48 l (rd (ordL l) (j : Int))).f6.f1), .int .u64 ((rd_T48 l (rd (ordL l) (j : Int))).f6.f2), .slice A16_ ((rd_T48 l (rd (ordL l) (j : Int))).f6.f3.length) c17_] 53 (0, 0)), .f (KC (Kd.int .u64) A16_ c17_ ((rd_T48 l (rd (ordL l) (j : Int))).f6.f3)), .f (fun w => k48.K w (l.getD (rd (ordL l) (j : Int)).toNat z48) (cellsE (rd_T48 l (rd (ordL l) (j : Int))) A16_ c17_)), .f (KC k56 B d m), .f (KC k48 A c l), .f (KC (Kd.int .i64) A10_ c11_ (ordL l))] (by kernel_rfl) rfl (by kernel_rfl) (mem_pick (idx := [0, 1, 2, 3, 4, 5, 6, 8, 9, 10]) rfl) ?_
 refine a_v 0 rfl (by kernel_rfl) (by kernel_rfl) (by kernel_rfl) rfl rfl rfl (v_ldA [.slice A19_ m1.length c20_] 1 rfl Try.underlying35 rfl SZ35 rfl rfl rfl rfl) ?_
 refine a_v 1 rfl (by kernel_rfl) (by kernel_rfl) (by kernel_rfl) rfl rfl rfl (v_fa rfl Try.underlying53 rfl SZ3 rfl) ?_
 refine a_v 2 rfl (by kernel_rfl) (by kernel_rfl) (by kernel_rfl) rfl rfl rfl (v_ld 4 rfl Try.underlying3 rfl rfl rfl rfl) ?_
 refine a_1 (i := 3) (by kernel_rfl) ?_
 refine i_e rfl rfl (e_stA 7 rfl rfl SZ35 rfl rfl rfl rfl rfl rfl) ?_
 refine ⟨(mem_pick (idx := [0, 1, 2, 3, 4, 5, 6, 8, 9, 10]) rfl), ?_⟩
 refine a_v 4 rfl (by kernel_rfl) (by kernel_rfl) (by kernel_rfl) rfl rfl rfl (v_as rfl rfl) ?_
 refine a_end (by kernel_rfl) ?_
 refine q_block ?_
 refine q_seq ?_
 refine r_ord (l := [0, 1]) rfl (by kernel_rfl) (by kernel_rfl) ?_
 refine s_v rfl rfl rfl rfl (OpV.cast (v := .int .i64 ((j + 1 : Nat) : Int)) (v_ar rfl rfl rfl rfl) (addN (a := j) (b := 1) (by omega))) ?_
 refine s_v rfl rfl rfl rfl (v_mv rfl rfl) ?_
 refine s_end ?_
 have hnx : rep l ((ordL l).drop (j + 1)) m1 (keyA l (rd (ordL l) (j : Int))) = rep l (ordL l) [] 0 := by rw [← hs_.2.2.2, hrp, if_neg hne, if_neg (fun h => by have h_ := h.2; unfold told sameT at h_; rw [hD] at h_; simp_all)]; unfold doE; rw [hD]
 exact q_again (j + 1, m1, keyA l (rd (ordL l) (j : Int)), A19_, c20_) [7, 2, 9, 10] ⟨by omega, hDf.1, by have := hDf.2.1; omega, hnx⟩ (by dsimp only; omega) (subF_spec ⟨rfl, rfl, rfl, rfl, rfl, rfl, rfl, trivial⟩) rfl (by decide)
 refine s_no rfl rfl rfl rfl ?_
 refine s_no rfl rfl rfl rfl ?_
 refine s_no rfl rfl rfl rfl ?_
 refine s_no rfl rfl rfl rfl ?_
 refine s_no rfl rfl rfl rfl ?_
 refine s_v rfl rfl rfl rfl (v_pick rfl rfl rfl rfl) ?_
 refine s_v rfl rfl rfl rfl (v_as rfl rfl) ?_
 refine s_end ?_
 refine q_seq ?_
 refine c_cond0 rfl rfl ?_
 refine c_skip rfl ?_
 refine q_block ?_
 refine q_seq ?_
 refine c_seq rfl ?_
 refine c_seq rfl ?_
 refine r_ord (l := [0, 1]) rfl (by kernel_rfl) (by kernel_rfl) ?_
 refine s_v rfl rfl rfl rfl (v_mv rfl rfl) ?_
 refine s_v rfl rfl rfl rfl (v_not rfl rfl) ?_
 refine s_end ?_
 refine q_seq ?_
 refine c_cond0 rfl rfl ?_
 refine c_skip rfl ?_
 refine q_seq ?_
 refine r_any [.b b24_ (.cells #[.bool q0, .bool q1, .int .u64 q2, .slice A21_ q3.length c22_] 46 (0, 0)), .b b23_ (.cells #[.slice A19_ m1.length c20_] 35 (0, 0)), .f (KC k56 A19_ c20_ m1), .f (KC (Kd.int .u64) A21_ c22_ q3), .b b18_ (.cells #[.int .i64 ((rd_T48 l (rd (ordL l) (j : Int))).f0), .int .i64 ((rd_T48 l (rd (ordL l) (j : Int))).f1.f0), .int .u64 ((rd_T48 l (rd (ordL l) (j : Int))).f1.f1), .int .u64 ((rd_T48 l (rd (ordL l) (j : Int))).f1.f2), .int .i64 ((rd_T48 l (rd (ordL l) (j : Int))).f1.f3), .int .i64 ((rd_T48 l (rd (ordL l) (j : Int))).f1.f4), .int .i64 ((rd_T48 l (rd (ordL l) (j : Int))).f2), .int .i64 ((rd_T48 l (rd (ordL l) (j : Int))).f3), .int .i64 ((rd_T48 l (rd (ordL l) (j : Int))).f4), .bool ((rd_T48 l (rd (ordL l) (j : Int))).f5), .bool ((rd_T48 l (rd (ordL l) (j : Int))).f6.f0), .bool ((rd_T48 l (rd (ordL l) (j : Int))).f6.f1), .int .u64 ((rd_T48 l (rd (ordL l) (j : Int))).f6.f2), .slice A16_ ((rd_T48 l (rd (ordL l) (j : Int))).f6.f3.length) c17_] 53 (0, 0)), .f (KC (Kd.int .u64) A16_ c17_ ((rd_T48 l (rd (ordL l) (j : Int))).f6.f3)), .f (fun w => k48.K w (l.getD (rd (ordL l) (j : Int)).toNat z48) (cellsE (rd_T48 l (rd (ordL l) (j : Int))) A16_ c17_)), .f (KC k56 B d m), .f (KC k48 A c l), .f (KC (Kd.int .i64) A10_ c11_ (ordL l))] (by kernel_rfl) rfl (by kernel_rfl) (mem_pick (idx := [0, 1, 2, 3, 4, 5, 6, 8, 9, 10]) rfl) ?_
 refine a_v 0 rfl (by kernel_rfl) (by kernel_rfl) (by kernel_rfl) rfl rfl rfl (v_ldA [.slice A19_ m1.length c20_] 1 rfl Try.underlying35 rfl SZ35 rfl rfl rfl rfl) ?_
 refine a_v 1 rfl (by kernel_rfl) (by kernel_rfl) (by kernel_rfl) rfl rfl rfl (v_fa rfl Try.underlying53 rfl SZ3 rfl) ?_
 refine a_v 2 rfl (by kernel_rfl) (by kernel_rfl) (by kernel_rfl) rfl rfl rfl (v_ld 4 rfl Try.underlying3 rfl rfl rfl rfl) ?_
 refine a_1 (i := 3) (by kernel_rfl) ?_
 refine i_e rfl rfl (e_stA 7 rfl rfl SZ35 rfl rfl rfl rfl rfl rfl) ?_
 refine ⟨(mem_pick (idx := [0, 1, 2, 3, 4, 5, 6, 8, 9, 10]) rfl), ?_⟩
 refine a_v 4 rfl (by kernel_rfl) (by kernel_rfl) (by kernel_rfl) rfl rfl rfl (v_as rfl rfl) ?_
 refine a_end (by kernel_rfl) ?_
 refine q_block ?_
 refine q_seq ?_
 refine r_ord (l := [0, 1]) rfl (by kernel_rfl) (by kernel_rfl) ?_
 refine s_v rfl rfl rfl rfl (OpV.cast (v := .int .i64 ((j + 1 : Nat) : Int)) (v_ar rfl rfl rfl rfl) (addN (a := j) (b := 1) (by omega))) ?_
 refine s_v rfl rfl rfl rfl (v_mv rfl rfl) ?_
 refine s_end ?_
 have hnx : rep l ((ordL l).drop (j + 1)) m1 (keyA l (rd (ordL l) (j : Int))) = rep l (ordL l) [] 0 := by rw [← hs_.2.2.2, hrp, if_neg hne, if_neg (fun h => by have h_ := h.1; rw [h26_] at h_; cases h_)]; unfold doE; rw [hD]
 exact q_again (j + 1, m1, keyA l (rd (ordL l) (j : Int)), A19_, c20_) [7, 2, 9, 10] ⟨by omega, hDf.1, by have := hDf.2.1; omega, hnx⟩ (by dsimp only; omega) (subF_spec ⟨rfl, rfl, rfl, rfl, rfl, rfl, rfl, trivial⟩) rfl (by decide)
 have h12_d := of_decide_eq_false h12_
 have hend : rep l (ordL l) [] 0 = true := by rw [← hs_.2.2.2, List.drop_of_length_le (by omega)]; rfl
 refine c_exit (i := 2) rfl rfl ?_
 refine q_then_exit ?_
 refine q_then_exit ?_
 refine q_block_here rfl ?_
 refine q_seq ?_
 refine c_seq rfl ?_
 refine r_ord (l := [0, 1]) rfl (by kernel_rfl) (by kernel_rfl) ?_
 refine s_v rfl rfl rfl rfl (v_mv rfl rfl) ?_
 refine s_v rfl rfl rfl rfl (v_as rfl rfl) ?_
 refine s_end ?_
 refine q_seq ?_
 refine c_ret rfl ?_
 refine q_scope_r ?_
 refine q_take [] rfl (by decide) ?_
 have hlg : legalM l = true := (by rw [legalM, hall, hend]; rfl)
 rw [hlg] at hX
 exact q_post rfl (.cons rfl (.nil)) hX
end Go.Eng
namespace Go.Eng
open Go.Proofs Go.RowKit Go.Proofs.YtiihjijmmephlaaW.PrintWords Go.Proofs.Ytiihjijmmephlaa.GHist
set_option linter.unusedVariables false
set_option linter.unusedSimpArgs false
theorem hasD (l : List S56) (k : Int) : Dm l 1 k 0 0 = (l, false, (getM l k).2.1, (getM l k).2.2.1, []) := by
  have h1 : (getM l k).1 = false := by unfold getM; split <;> rfl
  have h2 := getM_keys l k
  show (l, getM l k) = _
  rw [← h1, ← h2]
set_option maxRecDepth 100000 in
set_option maxHeartbeats 4000000 in
theorem has_con (A : Option Addr) (c : Nat) (l : List S56) (k : Int) (hs : Srt l) (hl : l.length ≤ 1000) (w0 : World) (H : List Nat) : Con Try.prog 39 #[.agg #[.slice A l.length c], .int .u64 k] w0 H [.f (KC k56 A c l)] (fun X => X (.bool (getM l k).2.1) []) := by
  refine con_enter (c := bodyOf Try.f39) Try.func39 rfl (m := 16) rfl rfl rfl ?_
  intro X hX _
  refine c_seq rfl ?_
  refine r_ord (l := [0, 1]) rfl (by kernel_rfl) (by kernel_rfl) ?_
  refine s_e rfl rfl (e_box rfl rfl rfl rfl) ?_
  intro b1_
  refine s_v rfl rfl rfl rfl (v_as rfl rfl) ?_
  refine s_end ?_
  refine q_seq ?_
  refine c_seq rfl ?_
  refine r_ord (l := [0, 1, 2, 3, 4, 5, 6, 7, 8, 9, 10]) rfl (by kernel_rfl) (by kernel_rfl) ?_
  refine s_v rfl rfl rfl rfl (v_ldA [.slice A l.length c] 0 rfl Try.underlying35 rfl SZ35 rfl rfl rfl rfl) ?_
  refine s_v rfl rfl rfl rfl (v_mv rfl rfl) ?_
  refine s_v rfl rfl rfl rfl (v_build (places := #[(0, 1), (1, 1), (2, 1), (3, 1), (4, 1)]) #[.int .i64 1, .int .u64 k, .int .u64 0, .int .i64 0, .int .i64 0] rfl ZR43 Try.underlying43 (by kernel_rfl) rfl rfl) ?_
  refine s_e rfl rfl (e_callF [1] #[.agg #[.slice A l.length c], .agg #[.int .i64 1, .int .u64 k, .int .u64 0, .int .i64 0, .int .i64 0]] rfl rfl rfl rfl rfl Try.func23 rfl (by decide) rfl rfl rfl rfl (fun w ht => do_conr A c l 1 k 0 0 0 hs hl l false ((getM l k).2.1) ((getM l k).2.2.1) ([] : List Int) (hasD l k) w _)) ?_
  intro A2_ c3_ A4_ c5_
  refine s_v rfl rfl rfl rfl (v_mv rfl rfl) ?_
  refine s_v rfl rfl rfl rfl (v_ext rfl rfl rfl) ?_
  refine s_v rfl rfl rfl rfl (v_ext rfl rfl rfl) ?_
  refine s_e rfl rfl (e_alloc rfl rfl rfl ZR35) ?_
  intro b6_
  refine s_e rfl rfl (e_alloc rfl rfl rfl ZR46) ?_
  intro b7_
  refine s_e rfl rfl (e_stA 1 rfl rfl SZ35 rfl rfl rfl rfl rfl rfl) ?_
  refine s_e rfl rfl (e_stA 0 rfl rfl SZ46 rfl rfl rfl rfl rfl rfl) ?_
  refine s_end ?_
  refine q_seq ?_
  refine c_seq rfl ?_
  refine r_ord (l := [0, 1, 2]) rfl (by kernel_rfl) (by kernel_rfl) ?_
  refine s_v rfl rfl rfl rfl (v_fa rfl Try.underlying46 rfl SZ4 rfl) ?_
  refine s_v rfl rfl rfl rfl (v_ld 0 rfl Try.underlying4 rfl rfl rfl rfl) ?_
  refine s_v rfl rfl rfl rfl (v_as rfl rfl) ?_
  refine s_end ?_
  refine q_seq ?_
  refine c_ret rfl ?_
  refine q_take [] rfl (by decide) ?_
  exact q_post rfl (.cons rfl (.nil)) hX
end Go.Eng
namespace Go.Eng
open Go.Proofs Go.RowKit Go.Proofs.YtiihjijmmephlaaW.PrintWords Go.Proofs.Ytiihjijmmephlaa.GHist
set_option linter.unusedVariables false
set_option linter.unusedSimpArgs false
def amid (l : List S48) (x : S48) (k : Int) : Bool := decide (keyA l k > x.f2) && decide (keyA l k ≤ x.f4)
def mapsL (l : List S48) (x : S48) (j : Nat) : List S35 := ⟨mapF l x.f2 (ordL l)⟩ :: (((ordL l).take j).filter (amid l x)).map (fun k => (⟨mapF l (keyA l k) (ordL l)⟩ : S35))
theorem maps_yes {l : List S48} {x : S48} {j : Nat} (h : j < (ordL l).length) (ha : amid l x (rd (ordL l) (j : Int)) = true) : mapsL l x (j + 1) = mapsL l x j ++ [⟨mapF l (keyA l (rd (ordL l) (j : Int))) (ordL l)⟩] := by
  have e : rd (ordL l) (j : Int) = (ordL l)[j] := by simp [rd, List.getD_eq_getElem?_getD, h]
  rw [e] at ha ⊢
  unfold mapsL
  rw [List.take_succ_eq_append_getElem h, List.filter_append, List.map_append]
  simp [List.filter_cons, ha]
theorem maps_no {l : List S48} {x : S48} {j : Nat} (h : j < (ordL l).length) (ha : amid l x (rd (ordL l) (j : Int)) = false) : mapsL l x (j + 1) = mapsL l x j := by
  have e : rd (ordL l) (j : Int) = (ordL l)[j] := by simp [rd, List.getD_eq_getElem?_getD, h]
  rw [e] at ha
  unfold mapsL
  rw [List.take_succ_eq_append_getElem h, List.filter_append, List.map_append]
  simp [List.filter_cons, ha]
theorem maps_len (l : List S48) (x : S48) (j : Nat) : (mapsL l x j).length ≤ (ordL l).length + 1 := by
  unfold mapsL
  rw [List.length_cons, List.length_map]
  have h1 := List.length_filter_le (amid l x) ((ordL l).take j)
  rw [List.length_take] at h1
  omega
theorem K35 {w : World} {A : Option Addr} {c : Nat} {m : List S56} (h : KC k56 A c m w) : k35.K w ⟨m⟩ [.slice A m.length c] := k35_mk w ⟨m⟩ h.2 h.1
theorem reps35_one {w : World} {A : Option Addr} {c : Nat} {m : List S56} (h : KC k56 A c m w) : Reps (k35.K w) 1 [⟨m⟩] [.slice A m.length c] := by
  have := (Reps.none (k35.K w) 1).snoc (K35 h) rfl
  simpa using this
theorem reps35_next {w : World} {A : Option Addr} {c : Nat} {m : List S56} {xs : List S35} {inner : List Value} (hr : Reps (k35.K w) 1 xs inner) (h : KC k56 A c m w) : Reps (k35.K w) 1 (xs ++ [⟨m⟩]) (inner ++ [.slice A m.length c]) := hr.snoc (K35 h) rfl
end Go.Eng
namespace Go.Eng
open Go.Proofs Go.RowKit Go.Proofs.YtiihjijmmephlaaW.PrintWords Go.Proofs.Ytiihjijmmephlaa.GHist
set_option linter.unusedVariables false
set_option linter.unusedSimpArgs false
set_option maxRecDepth 100000 in
set_option maxHeartbeats 4000000 in
theorem maps_con (A : Option Addr) (c : Nat) (l : List S48) (x : S48) (AE : Option Addr) (cE : Nat) (hl : l.length ≤ 80) (hn : (hapTo l l.length).length ≤ 40) (w0 : World) (H : List Nat) : Con Try.prog 35 #[.slice A l.length c, .agg #[.int .i64 x.f0, .int .i64 x.f1.f0, .int .u64 x.f1.f1, .int .u64 x.f1.f2, .int .i64 x.f1.f3, .int .i64 x.f1.f4, .int .i64 x.f2, .int .i64 x.f3, .int .i64 x.f4, .bool x.f5, .bool x.f6.f0, .bool x.f6.f1, .int .u64 x.f6.f2, .slice AE x.f6.f3.length cE]] w0 H [.f (KC k48 A c l)] (fun X => ∀ A1 c1, X (.slice A1 (mapsL l x (ordL l).length).length c1) [.f (KC k35 A1 c1 (mapsL l x (ordL l).length))]) := by
 refine con_enter (c := bodyOf Try.f35) Try.func35 rfl (m := 44) rfl rfl rfl ?_
 intro X hX _
 refine c_seq rfl ?_
 refine r_ord (l := [0, 1]) rfl (by kernel_rfl) (by kernel_rfl) ?_
 refine s_e rfl rfl (e_box rfl rfl rfl rfl) ?_
 intro b1_
 refine s_v rfl rfl rfl rfl (v_as rfl rfl) ?_
 refine s_end ?_
 refine q_seq ?_
 refine c_seq rfl ?_
 refine r_ord (l := [0, 1, 2, 3, 4, 5]) rfl (by kernel_rfl) (by kernel_rfl) ?_
 refine s_v rfl rfl rfl rfl (v_mv rfl rfl) ?_
 refine s_v rfl rfl rfl rfl (v_fa rfl Try.underlying53 rfl SZ3 rfl) ?_
 refine s_v rfl rfl rfl rfl (v_ld 0 rfl Try.underlying3 rfl rfl rfl rfl) ?_
 refine s_e rfl rfl (e_callF [1] #[.slice A l.length c, .int .i64 x.f2] rfl rfl rfl rfl rfl Try.func16 rfl (by decide) rfl rfl rfl rfl (fun w ht => hmap_con A c l x.f2 hl hn w _)) ?_
 intro A2_ c3_
 refine s_e rfl rfl (e_bslice #[.slice A2_ ((mapF l x.f2 (ordL l)).length) c3_] (.agg #[.slice none 0 0]) rfl rfl rfl Try.underlying67 SZ35 ZR35 (by decide) rfl (by kernel_rfl)) ?_
 intro b4_
 refine s_v rfl rfl rfl rfl (v_as rfl rfl) ?_
 refine s_end ?_
 refine q_seq ?_
 refine c_seq rfl ?_
 refine c_seq rfl ?_
 refine r_ord (l := [0, 1, 2, 3]) rfl (by kernel_rfl) (by kernel_rfl) ?_
 refine s_v rfl rfl rfl rfl (v_mv rfl rfl) ?_
 refine s_e rfl rfl (e_callF [3] #[.slice A l.length c] rfl rfl rfl rfl rfl Try.func11 rfl (by decide) rfl rfl rfl rfl (fun w ht => order_con' A c l (by omega) hn w _)) ?_
 intro A5_ c6_
 refine s_v rfl rfl rfl rfl (v_len rfl rfl rfl Try.underlying25 rfl rfl) ?_
 refine s_v rfl rfl rfl rfl (v_mv rfl rfl) ?_
 refine s_end ?_
 refine q_seq ?_
 refine c_block rfl ?_
 refine c_weak 2 rfl (fun w h => reps35_one h) ?_
 refine c_loop (σ := (Nat × Nat × Nat × Nat × Array Value × List Value)) (fun s : (Nat × Nat × Nat × Nat × Array Value × List Value) => match s with | (j, n, g, cap, cur, inner) => j ≤ (ordL l).length ∧ n = (mapsL l x j).length ∧ 0 < n ∧ n ≤ cap ∧ cap ≤ maxLen ∧ cur.size = cap * 1 ∧ cur.toList.take (n * 1) = inner) (fun s : (Nat × Nat × Nat × Nat × Array Value × List Value) => match s with | (j, n, g, cap, cur, inner) => (ordL l).length - j) (fun s : (Nat × Nat × Nat × Nat × Array Value × List Value) => match s with | (j, n, g, cap, cur, inner) => [(0, .slice A l.length c), (3, .pointer (some ⟨b1_, 0, none⟩)), (15, .slice A5_ ((ordL l).length) c6_), (16, .int .i64 ((ordL l).length : Nat)), (17, .int .i64 (j : Int)), (5, .slice (some ⟨g, 0, none⟩) n cap)]) (fun s : (Nat × Nat × Nat × Nat × Array Value × List Value) => match s with | (j, n, g, cap, cur, inner) => [.b b1_ (.cells #[.int .i64 x.f0, .int .i64 x.f1.f0, .int .u64 x.f1.f1, .int .u64 x.f1.f2, .int .i64 x.f1.f3, .int .i64 x.f1.f4, .int .i64 x.f2, .int .i64 x.f3, .int .i64 x.f4, .bool x.f5, .bool x.f6.f0, .bool x.f6.f1, .int .u64 x.f6.f2, .slice AE x.f6.f3.length cE] 53 (0, 0)), .b g (.cells cur 35 (0, 0)), .f (fun w => Reps (k35.K w) 1 (mapsL l x j) inner), .f (KC k48 A c l), .f (KC (Kd.int .i64) A5_ c6_ (ordL l))]) (0, 1, b4_, 1, #[.slice A2_ ((mapF l x.f2 (ordL l)).length) c3_], [.slice A2_ ((mapF l x.f2 (ordL l)).length) c3_]) [4, 2, 0, 5, 1] rfl ⟨Nat.zero_le _, rfl, by omega, by omega, by decide, rfl, rfl⟩ (subF_spec ⟨rfl, rfl, rfl, rfl, rfl, rfl, trivial⟩) rfl (by decide) ?_
 rintro ⟨j, n, g, cap, cur, inner⟩ hs
 obtain ⟨hj_, hn0, hn1, hr1_, hr2_, hr3_, hr4_⟩ : j ≤ (ordL l).length ∧ n = (mapsL l x j).length ∧ 0 < n ∧ n ≤ cap ∧ cap ≤ maxLen ∧ cur.size = cap * 1 ∧ cur.toList.take (n * 1) = inner := hs
 have hol := ordL_len l
 refine c_seq rfl ?_
 refine r_ord (l := [0]) rfl (by kernel_rfl) (by kernel_rfl) ?_
 refine s_v rfl rfl rfl rfl (v_ar rfl rfl rfl rfl) ?_
 refine s_end ?_
 refine q_seq ?_
 refine c_seq rfl ?_
 refine c_cond (t := decide (((j : Int) : Int) < ((ordL l).length : Nat))) rfl rfl (fun h7_ => ?_) (fun h7_ => ?_)
 have h7_d := of_decide_eq_true h7_
 have hjl : j < (ordL l).length := by omega
 have hat := ord_at hjl
 have hml := maps_len l x j
 refine c_skip rfl ?_
 refine q_seq ?_
 refine c_seq rfl ?_
 refine c_block rfl ?_
 refine c_seq rfl ?_
 refine r_ord (l := [0, 1, 2]) rfl (by kernel_rfl) (by kernel_rfl) ?_
 refine s_v rfl rfl rfl rfl (v_iaK (i := 4) rfl Try.underlying25 SZ3 rfl rfl rfl rfl (by omega) (by omega)) ?_
 refine s_v rfl rfl rfl rfl (v_ldK (v := .int .i64 (rd (ordL l) (j : Int))) 0 4 rfl Try.underlying3 rfl rfl rfl rfl (by omega) (by omega) (fun w K h => h)) ?_
 refine s_v rfl rfl rfl rfl (v_as rfl rfl) ?_
 refine s_end ?_
 refine q_seq ?_
 refine c_seq rfl ?_
 refine r_ord (l := [0, 1, 2, 3, 4, 5]) rfl (by kernel_rfl) (by kernel_rfl) ?_
 refine s_v rfl rfl rfl rfl (v_mv rfl rfl) ?_
 refine s_v rfl rfl rfl rfl (v_mv rfl rfl) ?_
 refine s_v rfl rfl rfl rfl (v_iaK (i := 3) rfl Try.underlying27 SZ53 rfl rfl rfl rfl (by omega) (by omega)) ?_
 refine s_v rfl rfl rfl rfl (v_fax rfl Try.underlying53 rfl SZ3 rfl) ?_
 refine s_v rfl rfl rfl rfl (v_ldKq (v := .int .i64 (rd_T48 l (rd (ordL l) (j : Int))).f3) z48 3 rfl Try.underlying3 rfl rfl rfl rfl (by omega) (by omega) (fun w K h => k48_at7 h)) ?_
 refine s_v rfl rfl rfl rfl (v_as rfl rfl) ?_
 refine s_end ?_
 refine q_seq ?_
 refine c_seq rfl ?_
 refine r_ord (l := [0, 1, 2, 3, 4, 5, 6, 7, 8, 9]) rfl (by kernel_rfl) (by kernel_rfl) ?_
 refine s_v rfl rfl rfl rfl (v_mv rfl rfl) ?_
 refine s_v rfl rfl rfl rfl (v_fa rfl Try.underlying53 rfl SZ3 rfl) ?_
 refine s_v rfl rfl rfl rfl (v_ld 0 rfl Try.underlying3 rfl rfl rfl rfl) ?_
 refine s_v rfl rfl rfl rfl (v_ar rfl rfl rfl rfl) ?_
 refine s_v rfl rfl rfl rfl (v_mv rfl rfl) ?_
 refine s_splitv (d := 30) (t := decide (((rd_T48 l (rd (ordL l) (j : Int))).f3 : Int) > x.f2)) rfl (fun h8_ => ?_) (fun h8_ => ?_)
 have h8_d := of_decide_eq_true h8_
 refine s_vg rfl rfl rfl rfl (v_mv rfl rfl) ?_
 refine s_vg rfl rfl rfl rfl (v_fa rfl Try.underlying53 rfl SZ3 rfl) ?_
 refine s_vg rfl rfl rfl rfl (v_ld 0 rfl Try.underlying3 rfl rfl rfl rfl) ?_
 refine s_vg rfl rfl rfl rfl (v_ar rfl rfl rfl rfl) ?_
 refine s_v rfl rfl rfl rfl (v_pick rfl rfl rfl rfl) ?_
 refine s_end ?_
 refine q_seq ?_
 refine c_cond (t := decide (((rd_T48 l (rd (ordL l) (j : Int))).f3 : Int) ≤ x.f4)) rfl rfl (fun h9_ => ?_) (fun h9_ => ?_)
 have h9_d := of_decide_eq_true h9_
 refine r_ord (l := [0, 1, 2, 3, 4, 5, 6]) rfl (by kernel_rfl) (by kernel_rfl) ?_
 refine s_v rfl rfl rfl rfl (v_mv rfl rfl) ?_
 refine s_v rfl rfl rfl rfl (v_mv rfl rfl) ?_
 refine s_v rfl rfl rfl rfl (v_mv rfl rfl) ?_
 refine s_e rfl rfl (e_callF [3] #[.slice A l.length c, .int .i64 ((rd_T48 l (rd (ordL l) (j : Int))).f3)] rfl rfl rfl rfl rfl Try.func16 rfl (by decide) rfl rfl rfl rfl (fun w ht => hmap_con A c l ((rd_T48 l (rd (ordL l) (j : Int))).f3) hl hn w _)) ?_
 intro A10_ c11_
 refine s_e rfl rfl (e_bslice #[.slice A10_ ((mapF l ((rd_T48 l (rd (ordL l) (j : Int))).f3) (ordL l)).length) c11_] (.agg #[.slice none 0 0]) rfl rfl rfl Try.underlying67 SZ35 ZR35 (by decide) rfl (by kernel_rfl)) ?_
 intro b12_
 refine s_e rfl rfl (e_app (z := (.agg #[.slice none 0 0])) (m := 1) (bytes := 24) (k := 1) (news := [.slice A10_ ((mapF l ((rd_T48 l (rd (ordL l) (j : Int))).f3) (ordL l)).length) c11_]) (i := 0) (j := 3) rfl rfl rfl rfl rfl rfl Try.underlying67 (by kernel_rfl) rfl (by decide) rfl rfl hr1_ hr2_ hr3_ hr4_ rfl rfl rfl rfl (by simp [Value.oneCell']) (by omega) (by simp only [maxLen]; omega)) ?_
 intro g13_ cap14_ cur15_ h16_ h17_ h18_ h19_
 refine s_v rfl rfl rfl rfl (v_as rfl rfl) ?_
 refine s_end ?_
 refine q_block ?_
 refine q_seq ?_
 refine r_ord (l := [0, 1]) rfl (by kernel_rfl) (by kernel_rfl) ?_
 refine s_v rfl rfl rfl rfl (OpV.cast (v := .int .i64 ((j + 1 : Nat) : Int)) (v_ar rfl rfl rfl rfl) (addN (a := j) (b := 1) (by omega))) ?_
 refine s_v rfl rfl rfl rfl (v_mv rfl rfl) ?_
 refine s_end ?_
 have he := maps_yes (x := x) hjl (by unfold amid keyA; simp_all)
 refine q_both 4 1 rfl rfl ?_
 refine q_weak 0 rfl (fun w h => (show Reps (k35.K w) 1 (mapsL l x (j + 1)) _ from by rw [he]; exact reps35_next h.1 h.2)) ?_
 exact q_again (j + 1, n + 1, g13_, cap14_, cur15_, (inner ++ [.slice A10_ (mapF l ((rd_T48 l (rd (ordL l) ((j : Nat) : Int))).f3) (ordL l)).length c11_])) [4, 5, 0, 7, 8] ⟨by omega, by rw [he, List.length_append, ← hn0]; rfl, by omega, h16_, h17_, h18_, h19_⟩ (by dsimp only; omega) (subF_spec ⟨rfl, rfl, rfl, rfl, rfl, rfl, trivial⟩) rfl (by decide)
 have h9_d := of_decide_eq_false h9_
 refine c_skip rfl ?_
 refine q_block ?_
 refine q_seq ?_
 refine r_ord (l := [0, 1]) rfl (by kernel_rfl) (by kernel_rfl) ?_
 refine s_v rfl rfl rfl rfl (OpV.cast (v := .int .i64 ((j + 1 : Nat) : Int)) (v_ar rfl rfl rfl rfl) (addN (a := j) (b := 1) (by omega))) ?_
 refine s_v rfl rfl rfl rfl (v_mv rfl rfl) ?_
 refine s_end ?_
 have he := maps_no (x := x) hjl (by unfold amid keyA; simp_all <;> omega)
 exact q_again (j + 1, n, g, cap, cur, inner) [0, 1, 2, 3, 4] (by dsimp only; rw [he]; exact ⟨by omega, hn0, hn1, hr1_, hr2_, hr3_, hr4_⟩) (by dsimp only; omega) (subF_spec ⟨rfl, rfl, rfl, rfl, rfl, rfl, trivial⟩) (by dsimp only; rw [he]; rfl) (by decide)
 have h8_d := of_decide_eq_false h8_
 refine s_no rfl rfl rfl rfl ?_
 refine s_no rfl rfl rfl rfl ?_
 refine s_no rfl rfl rfl rfl ?_
 refine s_no rfl rfl rfl rfl ?_
 refine s_v rfl rfl rfl rfl (v_pick rfl rfl rfl rfl) ?_
 refine s_end ?_
 refine q_seq ?_
 refine c_cond0 rfl rfl ?_
 refine c_skip rfl ?_
 refine q_block ?_
 refine q_seq ?_
 refine r_ord (l := [0, 1]) rfl (by kernel_rfl) (by kernel_rfl) ?_
 refine s_v rfl rfl rfl rfl (OpV.cast (v := .int .i64 ((j + 1 : Nat) : Int)) (v_ar rfl rfl rfl rfl) (addN (a := j) (b := 1) (by omega))) ?_
 refine s_v rfl rfl rfl rfl (v_mv rfl rfl) ?_
 refine s_end ?_
 have he := maps_no (x := x) hjl (by unfold amid keyA; simp_all <;> omega)
 exact q_again (j + 1, n, g, cap, cur, inner) [0, 1, 2, 3, 4] (by dsimp only; rw [he]; exact ⟨by omega, hn0, hn1, hr1_, hr2_, hr3_, hr4_⟩) (by dsimp only; omega) (subF_spec ⟨rfl, rfl, rfl, rfl, rfl, rfl, trivial⟩) (by dsimp only; rw [he]; rfl) (by decide)
 have h7_d := of_decide_eq_false h7_
 obtain rfl : j = (ordL l).length := by omega
 refine c_exit (i := 0) rfl rfl ?_
 refine q_then_exit ?_
 refine q_then_exit ?_
 refine q_block_here rfl ?_
 refine q_seq ?_
 refine c_seq rfl ?_
 refine r_ord (l := [0, 1]) rfl (by kernel_rfl) (by kernel_rfl) ?_
 refine s_v rfl rfl rfl rfl (v_mv rfl rfl) ?_
 refine s_v rfl rfl rfl rfl (v_as rfl rfl) ?_
 refine s_end ?_
 refine q_seq ?_
 refine c_ret rfl ?_
 subst hn0
 refine q_give [1, 0, 2, 3, 4] rfl (by decide) (by simp [ids, Ent.id?]) (fun w h => h) ?_
 refine q_both 0 2 rfl rfl ?_
 refine q_weak 0 rfl (fun w h => KC_ofReps (d := k35) (cap := cap) (xs := mapsL l x (ordL l).length) h.1 h.2 hr4_ hr1_ hr2_) ?_
 refine q_take [0] rfl (by decide) ?_
 exact q_post rfl (.cons rfl (.nil)) (hX (some ⟨g, 0, none⟩) cap)
end Go.Eng
namespace Go.Eng
open Go.Proofs Go.RowKit Go.Proofs.YtiihjijmmephlaaW.PrintWords Go.Proofs.Ytiihjijmmephlaa.GHist
set_option linter.unusedVariables false
set_option linter.unusedSimpArgs false
set_option maxRecDepth 100000 in
set_option maxHeartbeats 4000000 in
theorem once1_con (bk : Nat) (A : Option Addr) (c : Nat) (m : List S56) (k : Int) (hs : Srt m) (hl : m.length ≤ 1000) (w0 : World) (H : List Nat) : Con Try.prog 38 #[.agg #[.slice A m.length c], .pointer (some ⟨bk, 0, none⟩)] w0 H [.f (KC k56 A c m), .f (fun w => w.heap[bk]? = some (.cells #[.int .u64 k] 41 (0, 0)))] (fun X => X (.bool ((getM m k).2.1)) []) := by
  refine con_enter (c := bodyOf Try.f38) Try.func38 rfl (m := 7) rfl rfl rfl ?_
  intro X hX _
  refine c_seq rfl ?_
  refine r_ord (l := [0, 1]) rfl (by kernel_rfl) (by kernel_rfl) ?_
  refine s_e rfl rfl (e_box rfl rfl rfl rfl) ?_
  intro b1_
  refine s_v rfl rfl rfl rfl (v_as rfl rfl) ?_
  refine s_end ?_
  refine q_seq ?_
  refine c_seq rfl ?_
  refine r_ord (l := [0, 1, 2, 3]) rfl (by kernel_rfl) (by kernel_rfl) ?_
  refine s_v rfl rfl rfl rfl (v_ldA [.slice A m.length c] 0 rfl Try.underlying35 rfl SZ35 rfl rfl rfl rfl) ?_
  refine s_v rfl rfl rfl rfl (v_ldr 2 rfl Try.underlying41 rfl rfl rfl rfl) ?_
  refine s_e rfl rfl (e_callF [1] #[.agg #[.slice A m.length c], .int .u64 k] rfl rfl rfl rfl rfl Try.func39 rfl (by decide) rfl rfl rfl rfl (fun w ht => has_con A c m k hs hl w _)) ?_
  refine s_v rfl rfl rfl rfl (v_as rfl rfl) ?_
  refine s_end ?_
  refine q_seq ?_
  refine c_ret rfl ?_
  refine q_take [] rfl (by decide) ?_
  exact q_post rfl (.cons rfl (.nil)) hX
set_option maxRecDepth 100000 in
set_option maxHeartbeats 4000000 in
theorem always1_con (bk : Nat) (A : Option Addr) (c : Nat) (m : List S56) (k : Int) (hs : Srt m) (hl : m.length ≤ 1000) (w0 : World) (H : List Nat) : Con Try.prog 41 #[.agg #[.slice A m.length c], .pointer (some ⟨bk, 0, none⟩)] w0 H [.f (KC k56 A c m), .f (fun w => w.heap[bk]? = some (.cells #[.int .u64 k] 41 (0, 0)))] (fun X => X (.bool (!(getM m k).2.1)) []) := by
  refine con_enter (c := bodyOf Try.f41) Try.func41 rfl (m := 8) rfl rfl rfl ?_
  intro X hX _
  refine c_seq rfl ?_
  refine r_ord (l := [0, 1]) rfl (by kernel_rfl) (by kernel_rfl) ?_
  refine s_e rfl rfl (e_box rfl rfl rfl rfl) ?_
  intro b1_
  refine s_v rfl rfl rfl rfl (v_as rfl rfl) ?_
  refine s_end ?_
  refine q_seq ?_
  refine c_seq rfl ?_
  refine r_ord (l := [0, 1, 2, 3, 4]) rfl (by kernel_rfl) (by kernel_rfl) ?_
  refine s_v rfl rfl rfl rfl (v_ldA [.slice A m.length c] 0 rfl Try.underlying35 rfl SZ35 rfl rfl rfl rfl) ?_
  refine s_v rfl rfl rfl rfl (v_ldr 2 rfl Try.underlying41 rfl rfl rfl rfl) ?_
  refine s_e rfl rfl (e_callF [1] #[.agg #[.slice A m.length c], .int .u64 k] rfl rfl rfl rfl rfl Try.func39 rfl (by decide) rfl rfl rfl rfl (fun w ht => has_con A c m k hs hl w _)) ?_
  refine s_v rfl rfl rfl rfl (v_not rfl rfl) ?_
  refine s_v rfl rfl rfl rfl (v_as rfl rfl) ?_
  refine s_end ?_
  refine q_seq ?_
  refine c_ret rfl ?_
  refine q_take [] rfl (by decide) ?_
  exact q_post rfl (.cons rfl (.nil)) hX
end Go.Eng
namespace Go.Eng
open Go.Proofs Go.RowKit Go.Proofs.YtiihjijmmephlaaW.PrintWords Go.Proofs.Ytiihjijmmephlaa.GHist
set_option linter.unusedVariables false
set_option linter.unusedSimpArgs false
theorem k35_sh {w : World} {x : S35} {cs : List Value} (h : k35.K w x cs) : ∃ A c, cs = [.slice A x.f0.length c] := by
  obtain ⟨A, c, e, _⟩ := k35_open h
  exact ⟨A, c, e⟩
theorem k35_row {w : World} {x : S35} {A : Option Addr} {c : Nat} (h : k35.K w x [.slice A x.f0.length c]) : KC k56 A c x.f0 w := by
  obtain ⟨A', c', e, hl, hC⟩ := k35_open h
  simp only [List.cons.injEq, Value.slice.injEq, and_true, true_and] at e
  obtain ⟨rfl, rfl⟩ := e
  exact ⟨hC, hl⟩
theorem rd35 {l : List S35} {i : Nat} (h : i < l.length) : rd_T35 l (i : Int) = l[i] := by simp [rd_T35, List.getD_eq_getElem?_getD, h]
theorem any_next {l : List S35} {i : Nat} {p : S35 → Bool} (h : i < l.length) (ha : (l.take i).any p = false) (ht : p (rd_T35 l (i : Int)) = false) : (l.take (i + 1)).any p = false := by
  rw [List.take_succ_eq_append_getElem h, List.any_append, ha, ← rd35 h]; simp [ht]
theorem any_hit {l : List S35} {i : Nat} {p : S35 → Bool} (h : i < l.length) (ht : p (rd_T35 l (i : Int)) = true) : l.any p = true := by
  rw [List.any_eq_true]; exact ⟨_, by rw [rd35 h]; exact List.getElem_mem h, ht⟩
end Go.Eng
namespace Go.Eng
open Go.Proofs Go.RowKit Go.Proofs.YtiihjijmmephlaaW.PrintWords Go.Proofs.Ytiihjijmmephlaa.GHist
set_option linter.unusedVariables false
set_option linter.unusedSimpArgs false
set_option maxRecDepth 100000 in
set_option maxHeartbeats 4000000 in
theorem once2_idx (bk : Nat) (A : Option Addr) (c : Nat) (l : List S35) (k : Int) (hl : l.length ≤ 1000) (hS : ∀ x ∈ l, Srt x.f0 ∧ x.f0.length ≤ 1000) (w0 : World) (H : List Nat) : Con Try.prog 57 #[.slice A l.length c, .func (.func 38) #[] #[.pointer (some ⟨bk, 0, none⟩)]] w0 H [.f (KC k35 A c l), .f (fun w => w.heap[bk]? = some (.cells #[.int .u64 k] 41 (0, 0)))] (fun X => ∀ r : Int, decide (r ≥ 0) = l.any (fun x : S35 => (getM x.f0 k).2.1) → X (.int .i64 r) []) := by
 refine con_enter (c := bodyOf Try.f57) Try.func57 rfl (m := 19) rfl rfl rfl ?_
 intro X hX _
 refine c_seq rfl ?_
 refine r_ord (l := [0]) rfl (by kernel_rfl) (by kernel_rfl) ?_
 refine s_v rfl rfl rfl rfl (v_as rfl rfl) ?_
 refine s_end ?_
 refine q_seq ?_
 refine c_seq rfl ?_
 refine c_seq rfl ?_
 refine r_ord (l := [0, 1, 2]) rfl (by kernel_rfl) (by kernel_rfl) ?_
 refine s_v rfl rfl rfl rfl (v_mv rfl rfl) ?_
 refine s_v rfl rfl rfl rfl (v_len rfl rfl rfl Try.underlying67 rfl rfl) ?_
 refine s_v rfl rfl rfl rfl (v_mv rfl rfl) ?_
 refine s_end ?_
 refine q_seq ?_
 refine c_block rfl ?_
 refine c_loop (σ := Nat) (fun i => i ≤ l.length ∧ (l.take i).any (fun x : S35 => (getM x.f0 k).2.1) = false) (fun i => l.length - i) (fun i => [(1, .func (.func 38) #[] #[.pointer (some ⟨bk, 0, none⟩)]), (0, .slice A l.length c), (6, .slice A l.length c), (7, .int .i64 (l.length : Nat)), (8, .int .i64 (i : Int))]) (fun i => [.f (KC k35 A c l), .f (fun w => w.heap[bk]? = some (.cells #[.int .u64 k] 41 (0, 0)))]) 0 [0, 1] rfl ⟨Nat.zero_le _, rfl⟩ (subF_spec ⟨rfl, rfl, rfl, rfl, rfl, trivial⟩) rfl (by decide) ?_
 rintro i hs
 have hi_ : i ≤ l.length := hs.1
 refine c_seq rfl ?_
 refine r_ord (l := [0]) rfl (by kernel_rfl) (by kernel_rfl) ?_
 refine s_v rfl rfl rfl rfl (v_ar rfl rfl rfl rfl) ?_
 refine s_end ?_
 refine q_seq ?_
 refine c_seq rfl ?_
 refine c_cond (t := decide (((i : Int) : Int) < (l.length : Nat))) rfl rfl (fun h1_ => ?_) (fun h1_ => ?_)
 have h1_d := of_decide_eq_true h1_
 have hil : i < l.length := by omega
 refine c_skip rfl ?_
 refine q_seq ?_
 refine c_seq rfl ?_
 refine c_block rfl ?_
 refine c_seq rfl ?_
 refine r_ord (l := [0, 1]) rfl (by kernel_rfl) (by kernel_rfl) ?_
 refine s_v rfl rfl rfl rfl (v_mv rfl rfl) ?_
 refine s_v rfl rfl rfl rfl (v_as rfl rfl) ?_
 refine s_end ?_
 refine q_seq ?_
 refine c_seq rfl ?_
 refine r_ord (l := [0, 1, 2, 3, 4, 5]) rfl (by kernel_rfl) (by kernel_rfl) ?_
 refine s_v rfl rfl rfl rfl (v_mv rfl rfl) ?_
 refine s_v rfl rfl rfl rfl (v_mv rfl rfl) ?_
 refine s_v rfl rfl rfl rfl (v_mv rfl rfl) ?_
 refine s_v rfl rfl rfl rfl (v_iaK (i := 0) rfl Try.underlying67 SZ35 rfl rfl rfl rfl (by omega) (by omega)) ?_
 refine s_e rfl rfl (e_ldKX z35 0 rfl rfl rfl Try.underlying35 rfl SZ35 rfl rfl rfl (by omega) (by omega)) ?_
 intro cs2_ h3_
 refine s_know 0 rfl (fun w h => k35_sh h) (fun h4_ => ?_)
 obtain ⟨A5_, c6_, rfl⟩ := h4_
 refine s_weak 0 rfl (fun w h => k35_row h) ?_
 refine s_e rfl rfl (e_callF [0, 3] #[.agg #[.slice A5_ ((rd_T35 l (i : Int)).f0.length) c6_], .pointer (some ⟨bk, 0, none⟩)] rfl rfl rfl rfl rfl Try.func38 rfl (by decide) rfl rfl rfl rfl (fun w ht => once1_con bk _ _ (rd_T35 l (i : Int)).f0 k (hS _ (by rw [rd35 hil]; exact List.getElem_mem hil)).1 (hS _ (by rw [rd35 hil]; exact List.getElem_mem hil)).2 w _)) ?_
 refine s_end ?_
 refine q_seq ?_
 refine c_cond (t := (getM (rd_T35 l (i : Int)).f0 k).2.1) rfl rfl (fun h7_ => ?_) (fun h7_ => ?_)
 have hpx : (fun x : S35 => (getM x.f0 k).2.1) (rd_T35 l (i : Int)) = true := by simpa using h7_
 refine c_seq rfl ?_
 refine r_ord (l := [0, 1]) rfl (by kernel_rfl) (by kernel_rfl) ?_
 refine s_v rfl rfl rfl rfl (v_mv rfl rfl) ?_
 refine s_v rfl rfl rfl rfl (v_as rfl rfl) ?_
 refine s_end ?_
 refine q_seq ?_
 refine c_ret rfl ?_
 refine q_block_ret ?_
 refine q_then_ret ?_
 refine q_then_ret ?_
 refine q_block_ret ?_
 refine q_then_ret ?_
 refine q_take [] rfl (by decide) ?_
 exact q_post rfl (.cons rfl (.nil)) (hX _ (by rw [any_hit hil hpx]; simp))
 have hpx : (fun x : S35 => (getM x.f0 k).2.1) (rd_T35 l (i : Int)) = false := by simpa using h7_
 refine c_skip rfl ?_
 refine q_block ?_
 refine q_seq ?_
 refine r_ord (l := [0, 1]) rfl (by kernel_rfl) (by kernel_rfl) ?_
 refine s_v rfl rfl rfl rfl (OpV.cast (v := .int .i64 ((i + 1 : Nat) : Int)) (v_ar rfl rfl rfl rfl) (addN (a := i) (b := 1) (by omega))) ?_
 refine s_v rfl rfl rfl rfl (v_mv rfl rfl) ?_
 refine s_end ?_
 exact q_again (i + 1) [2, 3] ⟨by omega, any_next hil hs.2 hpx⟩ (by show l.length - (i + 1) < l.length - i; omega) (subF_spec ⟨rfl, rfl, rfl, rfl, rfl, trivial⟩) rfl (by decide)
 have h1_d := of_decide_eq_false h1_
 have hend : l.any (fun x : S35 => (getM x.f0 k).2.1) = false := by have h_ := hs.2; rwa [List.take_of_length_le (by omega)] at h_
 refine c_exit (i := 0) rfl rfl ?_
 refine q_then_exit ?_
 refine q_then_exit ?_
 refine q_block_here rfl ?_
 refine q_seq ?_
 refine c_seq rfl ?_
 refine r_ord (l := [0]) rfl (by kernel_rfl) (by kernel_rfl) ?_
 refine s_v rfl rfl rfl rfl (v_as rfl rfl) ?_
 refine s_end ?_
 refine q_seq ?_
 refine c_ret rfl ?_
 refine q_take [] rfl (by decide) ?_
 exact q_post rfl (.cons rfl (.nil)) (hX _ (by rw [hend]; decide))
set_option maxRecDepth 100000 in
set_option maxHeartbeats 4000000 in
theorem once2_con (bk : Nat) (A : Option Addr) (c : Nat) (l : List S35) (k : Int) (hl : l.length ≤ 1000) (hS : ∀ x ∈ l, Srt x.f0 ∧ x.f0.length ≤ 1000) (w0 : World) (H : List Nat) : Con Try.prog 37 #[.slice A l.length c, .func (.func 38) #[] #[.pointer (some ⟨bk, 0, none⟩)]] w0 H [.f (KC k35 A c l), .f (fun w => w.heap[bk]? = some (.cells #[.int .u64 k] 41 (0, 0)))] (fun X => X (.bool (l.any (fun x : S35 => (getM x.f0 k).2.1))) []) := by
  refine con_enter (c := bodyOf Try.f37) Try.func37 rfl (m := 9) rfl rfl rfl ?_
  intro X hX _
  refine c_seq rfl ?_
  refine r_ord (l := [0]) rfl (by kernel_rfl) (by kernel_rfl) ?_
  refine s_v rfl rfl rfl rfl (v_as rfl rfl) ?_
  refine s_end ?_
  refine q_seq ?_
  refine c_seq rfl ?_
  refine r_ord (l := [0, 1, 2, 3, 4]) rfl (by kernel_rfl) (by kernel_rfl) ?_
  refine s_v rfl rfl rfl rfl (v_mv rfl rfl) ?_
  refine s_v rfl rfl rfl rfl (v_mv rfl rfl) ?_
  refine s_e rfl rfl (e_callF [0, 1] #[.slice A l.length c, .func (.func 38) #[] #[.pointer (some ⟨bk, 0, none⟩)]] rfl rfl rfl rfl rfl Try.func57 rfl (by decide) rfl rfl rfl rfl (fun w ht => once2_idx bk A c l k hl hS w _)) ?_
  intro r hr
  refine s_v rfl rfl rfl rfl (v_ar rfl rfl rfl rfl) ?_
  refine s_v rfl rfl rfl rfl (v_as rfl rfl) ?_
  refine s_end ?_
  refine q_seq ?_
  refine c_ret rfl ?_
  refine q_take [] rfl (by decide) ?_
  rw [← hr] at hX
  exact q_post rfl (.cons rfl (.nil)) hX
set_option maxRecDepth 100000 in
set_option maxHeartbeats 4000000 in
theorem always2_idx (bk : Nat) (A : Option Addr) (c : Nat) (l : List S35) (k : Int) (hl : l.length ≤ 1000) (hS : ∀ x ∈ l, Srt x.f0 ∧ x.f0.length ≤ 1000) (w0 : World) (H : List Nat) : Con Try.prog 57 #[.slice A l.length c, .func (.func 41) #[] #[.pointer (some ⟨bk, 0, none⟩)]] w0 H [.f (KC k35 A c l), .f (fun w => w.heap[bk]? = some (.cells #[.int .u64 k] 41 (0, 0)))] (fun X => ∀ r : Int, decide (r ≥ 0) = l.any (fun x : S35 => !(getM x.f0 k).2.1) → X (.int .i64 r) []) := by
 refine con_enter (c := bodyOf Try.f57) Try.func57 rfl (m := 19) rfl rfl rfl ?_
 intro X hX _
 refine c_seq rfl ?_
 refine r_ord (l := [0]) rfl (by kernel_rfl) (by kernel_rfl) ?_
 refine s_v rfl rfl rfl rfl (v_as rfl rfl) ?_
 refine s_end ?_
 refine q_seq ?_
 refine c_seq rfl ?_
 refine c_seq rfl ?_
 refine r_ord (l := [0, 1, 2]) rfl (by kernel_rfl) (by kernel_rfl) ?_
 refine s_v rfl rfl rfl rfl (v_mv rfl rfl) ?_
 refine s_v rfl rfl rfl rfl (v_len rfl rfl rfl Try.underlying67 rfl rfl) ?_
 refine s_v rfl rfl rfl rfl (v_mv rfl rfl) ?_
 refine s_end ?_
 refine q_seq ?_
 refine c_block rfl ?_
 refine c_loop (σ := Nat) (fun i => i ≤ l.length ∧ (l.take i).any (fun x : S35 => !(getM x.f0 k).2.1) = false) (fun i => l.length - i) (fun i => [(1, .func (.func 41) #[] #[.pointer (some ⟨bk, 0, none⟩)]), (0, .slice A l.length c), (6, .slice A l.length c), (7, .int .i64 (l.length : Nat)), (8, .int .i64 (i : Int))]) (fun i => [.f (KC k35 A c l), .f (fun w => w.heap[bk]? = some (.cells #[.int .u64 k] 41 (0, 0)))]) 0 [0, 1] rfl ⟨Nat.zero_le _, rfl⟩ (subF_spec ⟨rfl, rfl, rfl, rfl, rfl, trivial⟩) rfl (by decide) ?_
 rintro i hs
 have hi_ : i ≤ l.length := hs.1
 refine c_seq rfl ?_
 refine r_ord (l := [0]) rfl (by kernel_rfl) (by kernel_rfl) ?_
 refine s_v rfl rfl rfl rfl (v_ar rfl rfl rfl rfl) ?_
 refine s_end ?_
 refine q_seq ?_
 refine c_seq rfl ?_
 refine c_cond (t := decide (((i : Int) : Int) < (l.length : Nat))) rfl rfl (fun h1_ => ?_) (fun h1_ => ?_)
 have h1_d := of_decide_eq_true h1_
 have hil : i < l.length := by omega
 refine c_skip rfl ?_
 refine q_seq ?_
 refine c_seq rfl ?_
 refine c_block rfl ?_
 refine c_seq rfl ?_
 refine r_ord (l := [0, 1]) rfl (by kernel_rfl) (by kernel_rfl) ?_
 refine s_v rfl rfl rfl rfl (v_mv rfl rfl) ?_
 refine s_v rfl rfl rfl rfl (v_as rfl rfl) ?_
 refine s_end ?_
 refine q_seq ?_
 refine c_seq rfl ?_
 refine r_ord (l := [0, 1, 2, 3, 4, 5]) rfl (by kernel_rfl) (by kernel_rfl) ?_
 refine s_v rfl rfl rfl rfl (v_mv rfl rfl) ?_
 refine s_v rfl rfl rfl rfl (v_mv rfl rfl) ?_
 refine s_v rfl rfl rfl rfl (v_mv rfl rfl) ?_
 refine s_v rfl rfl rfl rfl (v_iaK (i := 0) rfl Try.underlying67 SZ35 rfl rfl rfl rfl (by omega) (by omega)) ?_
 refine s_e rfl rfl (e_ldKX z35 0 rfl rfl rfl Try.underlying35 rfl SZ35 rfl rfl rfl (by omega) (by omega)) ?_
 intro cs2_ h3_
 refine s_know 0 rfl (fun w h => k35_sh h) (fun h4_ => ?_)
 obtain ⟨A5_, c6_, rfl⟩ := h4_
 refine s_weak 0 rfl (fun w h => k35_row h) ?_
 refine s_e rfl rfl (e_callF [0, 3] #[.agg #[.slice A5_ ((rd_T35 l (i : Int)).f0.length) c6_], .pointer (some ⟨bk, 0, none⟩)] rfl rfl rfl rfl rfl Try.func41 rfl (by decide) rfl rfl rfl rfl (fun w ht => always1_con bk _ _ (rd_T35 l (i : Int)).f0 k (hS _ (by rw [rd35 hil]; exact List.getElem_mem hil)).1 (hS _ (by rw [rd35 hil]; exact List.getElem_mem hil)).2 w _)) ?_
 refine s_end ?_
 refine q_seq ?_
 refine c_cond (t := !(getM (rd_T35 l (i : Int)).f0 k).2.1) rfl rfl (fun h7_ => ?_) (fun h7_ => ?_)
 have hpx : (fun x : S35 => !(getM x.f0 k).2.1) (rd_T35 l (i : Int)) = true := by simpa using h7_
 refine c_seq rfl ?_
 refine r_ord (l := [0, 1]) rfl (by kernel_rfl) (by kernel_rfl) ?_
 refine s_v rfl rfl rfl rfl (v_mv rfl rfl) ?_
 refine s_v rfl rfl rfl rfl (v_as rfl rfl) ?_
 refine s_end ?_
 refine q_seq ?_
 refine c_ret rfl ?_
 refine q_block_ret ?_
 refine q_then_ret ?_
 refine q_then_ret ?_
 refine q_block_ret ?_
 refine q_then_ret ?_
 refine q_take [] rfl (by decide) ?_
 exact q_post rfl (.cons rfl (.nil)) (hX _ (by rw [any_hit hil hpx]; simp))
 have hpx : (fun x : S35 => !(getM x.f0 k).2.1) (rd_T35 l (i : Int)) = false := by simpa using h7_
 refine c_skip rfl ?_
 refine q_block ?_
 refine q_seq ?_
 refine r_ord (l := [0, 1]) rfl (by kernel_rfl) (by kernel_rfl) ?_
 refine s_v rfl rfl rfl rfl (OpV.cast (v := .int .i64 ((i + 1 : Nat) : Int)) (v_ar rfl rfl rfl rfl) (addN (a := i) (b := 1) (by omega))) ?_
 refine s_v rfl rfl rfl rfl (v_mv rfl rfl) ?_
 refine s_end ?_
 exact q_again (i + 1) [2, 3] ⟨by omega, any_next hil hs.2 hpx⟩ (by show l.length - (i + 1) < l.length - i; omega) (subF_spec ⟨rfl, rfl, rfl, rfl, rfl, trivial⟩) rfl (by decide)
 have h1_d := of_decide_eq_false h1_
 have hend : l.any (fun x : S35 => !(getM x.f0 k).2.1) = false := by have h_ := hs.2; rwa [List.take_of_length_le (by omega)] at h_
 refine c_exit (i := 0) rfl rfl ?_
 refine q_then_exit ?_
 refine q_then_exit ?_
 refine q_block_here rfl ?_
 refine q_seq ?_
 refine c_seq rfl ?_
 refine r_ord (l := [0]) rfl (by kernel_rfl) (by kernel_rfl) ?_
 refine s_v rfl rfl rfl rfl (v_as rfl rfl) ?_
 refine s_end ?_
 refine q_seq ?_
 refine c_ret rfl ?_
 refine q_take [] rfl (by decide) ?_
 exact q_post rfl (.cons rfl (.nil)) (hX _ (by rw [hend]; decide))
set_option maxRecDepth 100000 in
set_option maxHeartbeats 4000000 in
theorem always2_con (bk : Nat) (A : Option Addr) (c : Nat) (l : List S35) (k : Int) (hl : l.length ≤ 1000) (hS : ∀ x ∈ l, Srt x.f0 ∧ x.f0.length ≤ 1000) (w0 : World) (H : List Nat) : Con Try.prog 37 #[.slice A l.length c, .func (.func 41) #[] #[.pointer (some ⟨bk, 0, none⟩)]] w0 H [.f (KC k35 A c l), .f (fun w => w.heap[bk]? = some (.cells #[.int .u64 k] 41 (0, 0)))] (fun X => X (.bool (l.any (fun x : S35 => !(getM x.f0 k).2.1))) []) := by
  refine con_enter (c := bodyOf Try.f37) Try.func37 rfl (m := 9) rfl rfl rfl ?_
  intro X hX _
  refine c_seq rfl ?_
  refine r_ord (l := [0]) rfl (by kernel_rfl) (by kernel_rfl) ?_
  refine s_v rfl rfl rfl rfl (v_as rfl rfl) ?_
  refine s_end ?_
  refine q_seq ?_
  refine c_seq rfl ?_
  refine r_ord (l := [0, 1, 2, 3, 4]) rfl (by kernel_rfl) (by kernel_rfl) ?_
  refine s_v rfl rfl rfl rfl (v_mv rfl rfl) ?_
  refine s_v rfl rfl rfl rfl (v_mv rfl rfl) ?_
  refine s_e rfl rfl (e_callF [0, 1] #[.slice A l.length c, .func (.func 41) #[] #[.pointer (some ⟨bk, 0, none⟩)]] rfl rfl rfl rfl rfl Try.func57 rfl (by decide) rfl rfl rfl rfl (fun w ht => always2_idx bk A c l k hl hS w _)) ?_
  intro r hr
  refine s_v rfl rfl rfl rfl (v_ar rfl rfl rfl rfl) ?_
  refine s_v rfl rfl rfl rfl (v_as rfl rfl) ?_
  refine s_end ?_
  refine q_seq ?_
  refine c_ret rfl ?_
  refine q_take [] rfl (by decide) ?_
  rw [← hr] at hX
  exact q_post rfl (.cons rfl (.nil)) hX
end Go.Eng
namespace Go.Eng
open Go.Proofs Go.RowKit Go.Proofs.YtiihjijmmephlaaW.PrintWords Go.Proofs.Ytiihjijmmephlaa.GHist
set_option linter.unusedVariables false
set_option linter.unusedSimpArgs false
set_option maxRecDepth 100000 in
set_option maxHeartbeats 4000000 in
theorem once_con (ba : Nat) (A : Option Addr) (c : Nat) (l : List S35) (k : Int) (hl : l.length ≤ 1000) (hS : ∀ x ∈ l, Srt x.f0 ∧ x.f0.length ≤ 1000) (w0 : World) (H : List Nat) : Con Try.prog 36 #[.int .u64 k, .pointer (some ⟨ba, 0, none⟩)] w0 H [.f (KC k35 A c l), .f (fun w => w.heap[ba]? = some (.cells #[.slice A l.length c] 67 (0, 0)))] (fun X => X (.bool (l.any (fun x : S35 => (getM x.f0 k).2.1))) []) := by
  refine con_enter (c := bodyOf Try.f36) Try.func36 rfl (m := 7) rfl rfl rfl ?_
  intro X hX _
  refine c_seq rfl ?_
  refine r_ord (l := [0, 1]) rfl (by kernel_rfl) (by kernel_rfl) ?_
  refine s_e rfl rfl (e_box rfl rfl rfl rfl) ?_
  intro b1_
  refine s_v rfl rfl rfl rfl (v_as rfl rfl) ?_
  refine s_end ?_
  refine q_seq ?_
  refine c_seq rfl ?_
  refine r_ord (l := [0, 1, 2, 3]) rfl (by kernel_rfl) (by kernel_rfl) ?_
  refine s_v rfl rfl rfl rfl (v_ldr 2 rfl Try.underlying67 rfl rfl rfl rfl) ?_
  refine s_v rfl rfl rfl rfl (v_mf rfl rfl rfl) ?_
  refine s_give [0, 1, 2] rfl (by decide) (by simp [ids, Ent.id?]) (fun w h => h) ?_
  refine s_e rfl rfl (e_callF [1, 0] #[.slice A l.length c, .func (.func 38) #[] #[.pointer (some ⟨b1_, 0, none⟩)]] rfl rfl rfl rfl rfl Try.func37 rfl (by decide) rfl rfl rfl rfl (fun w ht => once2_con b1_ A c l k hl hS w _)) ?_
  refine s_v rfl rfl rfl rfl (v_as rfl rfl) ?_
  refine s_end ?_
  refine q_seq ?_
  refine c_ret rfl ?_
  refine q_take [] rfl (by decide) ?_
  exact q_post rfl (.cons rfl (.nil)) hX
set_option maxRecDepth 100000 in
set_option maxHeartbeats 4000000 in
theorem always_con (ba : Nat) (A : Option Addr) (c : Nat) (l : List S35) (k : Int) (hl : l.length ≤ 1000) (hS : ∀ x ∈ l, Srt x.f0 ∧ x.f0.length ≤ 1000) (w0 : World) (H : List Nat) : Con Try.prog 40 #[.int .u64 k, .pointer (some ⟨ba, 0, none⟩)] w0 H [.f (KC k35 A c l), .f (fun w => w.heap[ba]? = some (.cells #[.slice A l.length c] 67 (0, 0)))] (fun X => X (.bool (!(l.any (fun x : S35 => !(getM x.f0 k).2.1)))) []) := by
  refine con_enter (c := bodyOf Try.f40) Try.func40 rfl (m := 8) rfl rfl rfl ?_
  intro X hX _
  refine c_seq rfl ?_
  refine r_ord (l := [0, 1]) rfl (by kernel_rfl) (by kernel_rfl) ?_
  refine s_e rfl rfl (e_box rfl rfl rfl rfl) ?_
  intro b1_
  refine s_v rfl rfl rfl rfl (v_as rfl rfl) ?_
  refine s_end ?_
  refine q_seq ?_
  refine c_seq rfl ?_
  refine r_ord (l := [0, 1, 2, 3, 4]) rfl (by kernel_rfl) (by kernel_rfl) ?_
  refine s_v rfl rfl rfl rfl (v_ldr 2 rfl Try.underlying67 rfl rfl rfl rfl) ?_
  refine s_v rfl rfl rfl rfl (v_mf rfl rfl rfl) ?_
  refine s_give [0, 1, 2] rfl (by decide) (by simp [ids, Ent.id?]) (fun w h => h) ?_
  refine s_e rfl rfl (e_callF [1, 0] #[.slice A l.length c, .func (.func 41) #[] #[.pointer (some ⟨b1_, 0, none⟩)]] rfl rfl rfl rfl rfl Try.func37 rfl (by decide) rfl rfl rfl rfl (fun w ht => always2_con b1_ A c l k hl hS w _)) ?_
  refine s_v rfl rfl rfl rfl (v_not rfl rfl) ?_
  refine s_v rfl rfl rfl rfl (v_as rfl rfl) ?_
  refine s_end ?_
  refine q_seq ?_
  refine c_ret rfl ?_
  refine q_take [] rfl (by decide) ?_
  exact q_post rfl (.cons rfl (.nil)) hX
end Go.Eng
namespace Go.Eng
open Go.Proofs Go.RowKit Go.Proofs.YtiihjijmmephlaaW.PrintWords Go.Proofs.Ytiihjijmmephlaa.GHist
set_option linter.unusedVariables false
set_option linter.unusedSimpArgs false
theorem rdI {l : List Int} {i : Nat} (h : i < l.length) : rd l (i : Int) = l[i] := by simp [rd, List.getD_eq_getElem?_getD, h]
theorem anyI_next {l : List Int} {i : Nat} {p : Int → Bool} (h : i < l.length) (ha : (l.take i).any p = false) (ht : p (rd l (i : Int)) = false) : (l.take (i + 1)).any p = false := by
  rw [List.take_succ_eq_append_getElem h, List.any_append, ha, ← rdI h]; simp [ht]
theorem anyI_hit {l : List Int} {i : Nat} {p : Int → Bool} (h : i < l.length) (ht : p (rd l (i : Int)) = true) : l.any p = true := by
  rw [List.any_eq_true]; exact ⟨_, by rw [rdI h]; exact List.getElem_mem h, ht⟩
set_option maxRecDepth 100000 in
set_option maxHeartbeats 4000000 in
theorem miss_con (ba bo : Nat) (A : Option Addr) (c : Nat) (l : List S35) (k : Int) (hl : l.length ≤ 1000) (hS : ∀ x ∈ l, Srt x.f0 ∧ x.f0.length ≤ 1000) (w0 : World) (H : List Nat) : Con Try.prog 44 #[.int .u64 k, .pointer (some ⟨bo, 0, none⟩)] w0 H [.f (KC k35 A c l), .f (fun w => w.heap[ba]? = some (.cells #[.slice A l.length c] 67 (0, 0))), .f (fun w => w.heap[bo]? = some (.cells #[.func (.func 36) #[] #[.pointer (some ⟨ba, 0, none⟩)]] 72 (0, 0)))] (fun X => X (.bool ((fun k : Int => !(l.any (fun x : S35 => (getM x.f0 k).2.1))) k)) []) := by
  refine con_enter (c := bodyOf Try.f44) Try.func44 rfl (m := 8) rfl rfl rfl ?_
  intro X hX _
  refine c_seq rfl ?_
  refine r_ord (l := [0]) rfl (by kernel_rfl) (by kernel_rfl) ?_
  refine s_v rfl rfl rfl rfl (v_as rfl rfl) ?_
  refine s_end ?_
  refine q_seq ?_
  refine c_seq rfl ?_
  refine r_ord (l := [0, 1, 2, 3, 4]) rfl (by kernel_rfl) (by kernel_rfl) ?_
  refine s_v rfl rfl rfl rfl (v_ldr 2 rfl Try.underlying72 rfl rfl rfl rfl) ?_
  refine s_v rfl rfl rfl rfl (v_mv rfl rfl) ?_
  refine s_e rfl rfl (e_callF [0, 1] #[.int .u64 k, .pointer (some ⟨ba, 0, none⟩)] rfl rfl rfl rfl rfl Try.func36 rfl (by decide) rfl rfl rfl rfl (fun w ht => once_con ba A c l k hl hS w _)) ?_
  refine s_v rfl rfl rfl rfl (v_not rfl rfl) ?_
  refine s_v rfl rfl rfl rfl (v_as rfl rfl) ?_
  refine s_end ?_
  refine q_seq ?_
  refine c_ret rfl ?_
  refine q_take [] rfl (by decide) ?_
  exact q_post rfl (.cons rfl (.nil)) hX
set_option maxRecDepth 100000 in
set_option maxHeartbeats 4000000 in
theorem miss_idx (ba bo : Nat) (A : Option Addr) (c : Nat) (l : List S35) (B : Option Addr) (d : Nat) (ks : List Int) (hks : ks.length ≤ 1000) (hl : l.length ≤ 1000) (hS : ∀ x ∈ l, Srt x.f0 ∧ x.f0.length ≤ 1000) (w0 : World) (H : List Nat) : Con Try.prog 58 #[.slice B ks.length d, .func (.func 44) #[] #[.pointer (some ⟨bo, 0, none⟩)]] w0 H [.f (KC (Kd.int .u64) B d ks), .f (KC k35 A c l), .f (fun w => w.heap[ba]? = some (.cells #[.slice A l.length c] 67 (0, 0))), .f (fun w => w.heap[bo]? = some (.cells #[.func (.func 36) #[] #[.pointer (some ⟨ba, 0, none⟩)]] 72 (0, 0)))] (fun X => ∀ r : Int, decide (r ≥ 0) = ks.any (fun k : Int => !(l.any (fun x : S35 => (getM x.f0 k).2.1))) → X (.int .i64 r) []) := by
 refine con_enter (c := bodyOf Try.f58) Try.func58 rfl (m := 19) rfl rfl rfl ?_
 intro X hX _
 refine c_seq rfl ?_
 refine r_ord (l := [0]) rfl (by kernel_rfl) (by kernel_rfl) ?_
 refine s_v rfl rfl rfl rfl (v_as rfl rfl) ?_
 refine s_end ?_
 refine q_seq ?_
 refine c_seq rfl ?_
 refine c_seq rfl ?_
 refine r_ord (l := [0, 1, 2]) rfl (by kernel_rfl) (by kernel_rfl) ?_
 refine s_v rfl rfl rfl rfl (v_mv rfl rfl) ?_
 refine s_v rfl rfl rfl rfl (v_len rfl rfl rfl Try.underlying44 rfl rfl) ?_
 refine s_v rfl rfl rfl rfl (v_mv rfl rfl) ?_
 refine s_end ?_
 refine q_seq ?_
 refine c_block rfl ?_
 refine c_loop (σ := Nat) (fun i => i ≤ ks.length ∧ (ks.take i).any (fun k : Int => !(l.any (fun x : S35 => (getM x.f0 k).2.1))) = false) (fun i => ks.length - i) (fun i => [(1, .func (.func 44) #[] #[.pointer (some ⟨bo, 0, none⟩)]), (0, .slice B ks.length d), (6, .slice B ks.length d), (7, .int .i64 (ks.length : Nat)), (8, .int .i64 (i : Int))]) (fun i => [.f (KC (Kd.int .u64) B d ks), .f (KC k35 A c l), .f (fun w => w.heap[ba]? = some (.cells #[.slice A l.length c] 67 (0, 0))), .f (fun w => w.heap[bo]? = some (.cells #[.func (.func 36) #[] #[.pointer (some ⟨ba, 0, none⟩)]] 72 (0, 0)))]) 0 [0, 1, 2, 3] rfl ⟨Nat.zero_le _, rfl⟩ (subF_spec ⟨rfl, rfl, rfl, rfl, rfl, trivial⟩) rfl (by decide) ?_
 rintro i hs
 have hi_ : i ≤ ks.length := hs.1
 refine c_seq rfl ?_
 refine r_ord (l := [0]) rfl (by kernel_rfl) (by kernel_rfl) ?_
 refine s_v rfl rfl rfl rfl (v_ar rfl rfl rfl rfl) ?_
 refine s_end ?_
 refine q_seq ?_
 refine c_seq rfl ?_
 refine c_cond (t := decide (((i : Int) : Int) < (ks.length : Nat))) rfl rfl (fun h1_ => ?_) (fun h1_ => ?_)
 have h1_d := of_decide_eq_true h1_
 have hil : i < ks.length := by omega
 refine c_skip rfl ?_
 refine q_seq ?_
 refine c_seq rfl ?_
 refine c_block rfl ?_
 refine c_seq rfl ?_
 refine r_ord (l := [0, 1]) rfl (by kernel_rfl) (by kernel_rfl) ?_
 refine s_v rfl rfl rfl rfl (v_mv rfl rfl) ?_
 refine s_v rfl rfl rfl rfl (v_as rfl rfl) ?_
 refine s_end ?_
 refine q_seq ?_
 refine c_seq rfl ?_
 refine r_ord (l := [0, 1, 2, 3, 4, 5]) rfl (by kernel_rfl) (by kernel_rfl) ?_
 refine s_v rfl rfl rfl rfl (v_mv rfl rfl) ?_
 refine s_v rfl rfl rfl rfl (v_mv rfl rfl) ?_
 refine s_v rfl rfl rfl rfl (v_mv rfl rfl) ?_
 refine s_v rfl rfl rfl rfl (v_iaK (i := 0) rfl Try.underlying44 SZ41 rfl rfl rfl rfl (by omega) (by omega)) ?_
 refine s_v rfl rfl rfl rfl (v_ldK (v := .int .u64 (rd ks (i : Int))) 0 0 rfl Try.underlying41 rfl rfl rfl rfl (by omega) (by omega) (fun w K h => h)) ?_
 refine s_e rfl rfl (e_callF [1, 2, 3] #[.int .u64 (rd ks (i : Int)), .pointer (some ⟨bo, 0, none⟩)] rfl rfl rfl rfl rfl Try.func44 rfl (by decide) rfl rfl rfl rfl (fun w ht => miss_con ba bo A c l _ hl hS w _)) ?_
 refine s_end ?_
 refine q_seq ?_
 refine c_cond (t := (fun k : Int => !(l.any (fun x : S35 => (getM x.f0 k).2.1))) (rd ks (i : Int))) rfl rfl (fun h2_ => ?_) (fun h2_ => ?_)
 have hpx : (fun k : Int => !(l.any (fun x : S35 => (getM x.f0 k).2.1))) (rd ks (i : Int)) = true := h2_
 refine c_seq rfl ?_
 refine r_ord (l := [0, 1]) rfl (by kernel_rfl) (by kernel_rfl) ?_
 refine s_v rfl rfl rfl rfl (v_mv rfl rfl) ?_
 refine s_v rfl rfl rfl rfl (v_as rfl rfl) ?_
 refine s_end ?_
 refine q_seq ?_
 refine c_ret rfl ?_
 refine q_block_ret ?_
 refine q_then_ret ?_
 refine q_then_ret ?_
 refine q_block_ret ?_
 refine q_then_ret ?_
 refine q_take [] rfl (by decide) ?_
 exact q_post rfl (.cons rfl (.nil)) (hX _ (by rw [anyI_hit hil hpx]; simp))
 have hpx : (fun k : Int => !(l.any (fun x : S35 => (getM x.f0 k).2.1))) (rd ks (i : Int)) = false := h2_
 refine c_skip rfl ?_
 refine q_block ?_
 refine q_seq ?_
 refine r_ord (l := [0, 1]) rfl (by kernel_rfl) (by kernel_rfl) ?_
 refine s_v rfl rfl rfl rfl (OpV.cast (v := .int .i64 ((i + 1 : Nat) : Int)) (v_ar rfl rfl rfl rfl) (addN (a := i) (b := 1) (by omega))) ?_
 refine s_v rfl rfl rfl rfl (v_mv rfl rfl) ?_
 refine s_end ?_
 exact q_again (i + 1) [0, 1, 2, 3] ⟨by omega, anyI_next hil hs.2 hpx⟩ (by show ks.length - (i + 1) < ks.length - i; omega) (subF_spec ⟨rfl, rfl, rfl, rfl, rfl, trivial⟩) rfl (by decide)
 have h1_d := of_decide_eq_false h1_
 have hend : ks.any (fun k : Int => !(l.any (fun x : S35 => (getM x.f0 k).2.1))) = false := by have h_ := hs.2; rwa [List.take_of_length_le (by omega)] at h_
 refine c_exit (i := 0) rfl rfl ?_
 refine q_then_exit ?_
 refine q_then_exit ?_
 refine q_block_here rfl ?_
 refine q_seq ?_
 refine c_seq rfl ?_
 refine r_ord (l := [0]) rfl (by kernel_rfl) (by kernel_rfl) ?_
 refine s_v rfl rfl rfl rfl (v_as rfl rfl) ?_
 refine s_end ?_
 refine q_seq ?_
 refine c_ret rfl ?_
 refine q_take [] rfl (by decide) ?_
 exact q_post rfl (.cons rfl (.nil)) (hX _ (by rw [hend]; decide))
set_option maxRecDepth 100000 in
set_option maxHeartbeats 4000000 in
theorem miss_any (ba bo : Nat) (A : Option Addr) (c : Nat) (l : List S35) (B : Option Addr) (d : Nat) (ks : List Int) (hks : ks.length ≤ 1000) (hl : l.length ≤ 1000) (hS : ∀ x ∈ l, Srt x.f0 ∧ x.f0.length ≤ 1000) (w0 : World) (H : List Nat) : Con Try.prog 43 #[.slice B ks.length d, .func (.func 44) #[] #[.pointer (some ⟨bo, 0, none⟩)]] w0 H [.f (KC (Kd.int .u64) B d ks), .f (KC k35 A c l), .f (fun w => w.heap[ba]? = some (.cells #[.slice A l.length c] 67 (0, 0))), .f (fun w => w.heap[bo]? = some (.cells #[.func (.func 36) #[] #[.pointer (some ⟨ba, 0, none⟩)]] 72 (0, 0)))] (fun X => X (.bool (ks.any (fun k : Int => !(l.any (fun x : S35 => (getM x.f0 k).2.1))))) []) := by
  refine con_enter (c := bodyOf Try.f43) Try.func43 rfl (m := 9) rfl rfl rfl ?_
  intro X hX _
  refine c_seq rfl ?_
  refine r_ord (l := [0]) rfl (by kernel_rfl) (by kernel_rfl) ?_
  refine s_v rfl rfl rfl rfl (v_as rfl rfl) ?_
  refine s_end ?_
  refine q_seq ?_
  refine c_seq rfl ?_
  refine r_ord (l := [0, 1, 2, 3, 4]) rfl (by kernel_rfl) (by kernel_rfl) ?_
  refine s_v rfl rfl rfl rfl (v_mv rfl rfl) ?_
  refine s_v rfl rfl rfl rfl (v_mv rfl rfl) ?_
  refine s_e rfl rfl (e_callF [0, 1, 2, 3] #[.slice B ks.length d, .func (.func 44) #[] #[.pointer (some ⟨bo, 0, none⟩)]] rfl rfl rfl rfl rfl Try.func58 rfl (by decide) rfl rfl rfl rfl (fun w ht => miss_idx ba bo A c l B d ks hks hl hS w _)) ?_
  intro r hr
  refine s_v rfl rfl rfl rfl (v_ar rfl rfl rfl rfl) ?_
  refine s_v rfl rfl rfl rfl (v_as rfl rfl) ?_
  refine s_end ?_
  refine q_seq ?_
  refine c_ret rfl ?_
  refine q_take [] rfl (by decide) ?_
  rw [← hr] at hX
  exact q_post rfl (.cons rfl (.nil)) hX
end Go.Eng
