/-
Own text, put together by an own program (shake.py) out of this claim's texts: what its theorem needs of them.
-/
import Derived.Test.YtiihjijmmephlaaA6
namespace Go.Eng
open Go.Proofs Go.RowKit Go.Proofs.YtiihjijmmephlaaW.PrintWords Go.Proofs.Ytiihjijmmephlaa.GHist
set_option linter.unusedVariables false
set_option linter.unusedSimpArgs false
def lastK (l : List S48) (j : Nat) : Int := if j = 0 then 0 else keyA l (rd (ordL l) ((j - 1 : Nat) : Int))
theorem lastK_succ (l : List S48) (j : Nat) : lastK l (j + 1) = keyA l (rd (ordL l) (j : Int)) := by simp [lastK]
theorem lastK_eq {l : List S48} {j : Nat} (h : 0 < j) (e : (rd_T48 l (rd (ordL l) ((j - 1 : Nat) : Int))).f3 = (rd_T48 l (rd (ordL l) (j : Int))).f3) : keyA l (rd (ordL l) (j : Int)) = lastK l j := by
  unfold lastK; rw [if_neg (by omega)]; exact e.symm
theorem lastK_ne {l : List S48} {j : Nat} (h : 0 < j) (e : ¬ (rd_T48 l (rd (ordL l) ((j - 1 : Nat) : Int))).f3 = (rd_T48 l (rd (ordL l) (j : Int))).f3) : ¬ keyA l (rd (ordL l) (j : Int)) = lastK l j := by
  unfold lastK; rw [if_neg (by omega)]; exact fun h2 => e h2.symm
theorem ord_pos {l : List S48} {j : Nat} (h : j < (ordL l).length) : 0 < keyA l (rd (ordL l) (j : Int)) := by
  have e : rd (ordL l) (j : Int) = (ordL l)[j] := by simp [rd, List.getD_eq_getElem?_getD, h]
  have hm : rd (ordL l) (j : Int) ∈ hapTo l l.length := (sortA_perm _ _).mem_iff.1 (by rw [e]; exact List.getElem_mem h)
  unfold hapTo at hm
  obtain ⟨k, hk, hkk⟩ := List.mem_map.1 hm
  have h2 := (List.mem_filter.1 hk).2
  rw [← hkk]
  unfold hapB at h2
  simp at h2
  exact h2.2.2
set_option maxRecDepth 100000 in
set_option maxHeartbeats 4000000 in
theorem rlegal_con (A : Option Addr) (c : Nat) (l : List S48) (hl : l.length ≤ 40) (hK : ∀ x ∈ l, x.f6.f3.length ≤ 40) (w0 : World) (H : List Nat) : Con Try.prog 20 #[.slice A l.length c] w0 H [.f (KC k48 A c l)] (fun X => X (.bool (legalM l)) []) := by
 refine con_enter (c := bodyOf Try.f20) Try.func20 rfl (m := 127) rfl rfl rfl ?_
 intro X hX _
 refine c_seq rfl ?_
 refine r_ord (l := [0]) rfl (by kernel_rfl) (by kernel_rfl) ?_
 refine s_v rfl rfl rfl rfl (v_assign rfl rfl) ?_
 refine s_end ?_
 refine q_seq ?_
 refine c_seq rfl ?_
 refine c_seq rfl ?_
 refine r_ord (l := [0]) rfl (by kernel_rfl) (by kernel_rfl) ?_
 refine s_v rfl rfl rfl rfl (v_assign rfl rfl) ?_
 refine s_end ?_
 refine q_seq ?_
 refine c_block rfl ?_
 refine c_loop (σ := Nat) (fun i => i ≤ l.length ∧ (l.take i).all timelyB = true) (fun i => l.length - i) (fun i => [(0, .slice A l.length c), (3, .int .i64 ((i : Nat) : Int))]) (fun i => [.f (KC k48 A c l)]) 0 [0] rfl ⟨Nat.zero_le _, rfl⟩ (subF_spec ⟨rfl, rfl, trivial⟩) rfl (by decide) ?_
 rintro i hs
 have hi_ : i ≤ l.length := hs.1
 refine c_seq rfl ?_
 refine c_seq rfl ?_
 refine r_ord (l := [0, 1, 2, 3]) rfl (by kernel_rfl) (by kernel_rfl) ?_
 refine s_v rfl rfl rfl rfl (v_move rfl rfl) ?_
 refine s_v rfl rfl rfl rfl (v_move rfl rfl) ?_
 refine s_v rfl rfl rfl rfl (v_len rfl rfl rfl Try.underlying22 rfl rfl) ?_
 refine s_v rfl rfl rfl rfl (v_arith rfl rfl rfl rfl) ?_
 refine s_end ?_
 refine q_seq ?_
 refine c_cond (t := decide ((((i : Nat) : Int) : Int) < (l.length : Nat))) rfl rfl (fun h1_ => ?_) (fun h1_ => ?_)
 have h1_d := of_decide_eq_true h1_
 have hil : i < l.length := by omega
 refine c_skip rfl ?_
 refine q_seq ?_
 refine c_seq rfl ?_
 refine c_block rfl ?_
 refine c_seq rfl ?_
 refine r_ord (l := [0, 1, 2, 3, 4, 5]) rfl (by kernel_rfl) (by kernel_rfl) ?_
 refine s_v rfl rfl rfl rfl (v_move rfl rfl) ?_
 refine s_v rfl rfl rfl rfl (v_move rfl rfl) ?_
 refine s_v rfl rfl rfl rfl (v_iaK (i := 0) rfl Try.underlying22 SZ48 rfl rfl rfl rfl (by omega) (by omega)) ?_
 refine s_e rfl rfl (e_ldKX z48 0 rfl rfl rfl Try.underlying48 rfl SZ48 rfl rfl rfl (by omega) (by omega)) ?_
 intro cs2_ h3_
 refine s_know 0 rfl (fun w h => k48_sh h) (fun h4_ => ?_)
 obtain ⟨A5_, c6_, rfl⟩ := h4_
 refine s_weak 0 rfl (fun w h => k48_row h) ?_
 refine s_e rfl rfl (e_alloc rfl rfl rfl ZR48) ?_
 intro b7_
 refine s_e rfl rfl (e_stA 0 rfl rfl SZ48 rfl rfl rfl rfl rfl rfl) ?_
 refine s_end ?_
 refine q_seq ?_
 refine c_seq rfl ?_
 refine c_seq rfl ?_
 refine r_ord (l := [0, 1, 2, 3]) rfl (by kernel_rfl) (by kernel_rfl) ?_
 refine s_v rfl rfl rfl rfl (v_fa rfl Try.underlying48 rfl SZ43 rfl) ?_
 refine s_v rfl rfl rfl rfl (v_fa rfl Try.underlying43 rfl SZ3 rfl) ?_
 refine s_v rfl rfl rfl rfl (v_ld 0 rfl Try.underlying3 rfl rfl rfl rfl) ?_
 refine s_v rfl rfl rfl rfl (v_arith rfl rfl rfl rfl) ?_
 refine s_end ?_
 refine q_seq ?_
 refine c_cond (t := ((rd_T48 l ((i : Nat) : Int)).f1.f0 : Int) == 5) rfl rfl (fun h8_ => ?_) (fun h8_ => ?_)
 have h8_d : (rd_T48 l ((i : Nat) : Int)).f1.f0 = 5 := by simpa using h8_
 refine c_exit (i := 1) rfl rfl ?_
 refine q_then_exit ?_
 refine q_block_here rfl ?_
 refine q_seq ?_
 refine r_ord (l := [0, 1, 2]) rfl (by kernel_rfl) (by kernel_rfl) ?_
 refine s_v rfl rfl rfl rfl (v_move rfl rfl) ?_
 refine s_v rfl rfl rfl rfl (OpV.cast (v := .int .i64 ((i + 1 : Nat) : Int)) (v_arith rfl rfl rfl rfl) (addN (a := i) (b := 1) (by first | omega | (simp only [List.length_set, swr_len, swp_len]; omega)))) ?_
 refine s_v rfl rfl rfl rfl (v_assign rfl rfl) ?_
 refine s_end ?_
 have htm : timelyB (rd_T48 l (i : Int)) = true := by unfold timelyB; simp_all <;> omega
 exact q_again (i + 1) [3] ⟨by omega, all_next hil hs.2 htm⟩ (by show l.length - (i + 1) < l.length - i; omega) (subF_spec ⟨rfl, rfl, trivial⟩) rfl (by decide)
 have h8_d : (rd_T48 l ((i : Nat) : Int)).f1.f0 ≠ 5 := by simpa using h8_
 refine c_skip rfl ?_
 refine q_seq ?_
 refine c_seq rfl ?_
 refine c_seq rfl ?_
 refine r_ord (l := [0, 1, 2, 3, 4, 5, 6]) rfl (by kernel_rfl) (by kernel_rfl) ?_
 refine s_v rfl rfl rfl rfl (v_fa rfl Try.underlying48 rfl SZ4 rfl) ?_
 refine s_v rfl rfl rfl rfl (v_ld 0 rfl Try.underlying4 rfl rfl rfl rfl) ?_
 refine s_v rfl rfl rfl rfl (v_move rfl rfl) ?_
 refine s_splitv (d := 27) (t := (rd_T48 l ((i : Nat) : Int)).f5) rfl (fun h9_ => ?_) (fun h9_ => ?_)
 refine s_vg rfl rfl rfl rfl (v_fa rfl Try.underlying48 rfl SZ46 rfl) ?_
 refine s_vg rfl rfl rfl rfl (v_fa rfl Try.underlying46 rfl SZ4 rfl) ?_
 refine s_vg rfl rfl rfl rfl (v_ld 0 rfl Try.underlying4 rfl rfl rfl rfl) ?_
 refine s_v rfl rfl rfl rfl (v_pick rfl rfl rfl rfl) ?_
 refine s_end ?_
 refine q_seq ?_
 refine c_cond (t := (rd_T48 l ((i : Nat) : Int)).f6.f0) rfl rfl (fun h10_ => ?_) (fun h10_ => ?_)
 refine c_seq rfl ?_
 refine c_seq rfl ?_
 refine r_ord (l := [0, 1, 2, 3, 4, 5, 6, 7, 8, 9, 10]) rfl (by kernel_rfl) (by kernel_rfl) ?_
 refine s_v rfl rfl rfl rfl (v_fa rfl Try.underlying48 rfl SZ43 rfl) ?_
 refine s_v rfl rfl rfl rfl (v_fa rfl Try.underlying43 rfl SZ3 rfl) ?_
 refine s_v rfl rfl rfl rfl (v_ld 0 rfl Try.underlying3 rfl rfl rfl rfl) ?_
 refine s_v rfl rfl rfl rfl (v_arith rfl rfl rfl rfl) ?_
 refine s_v rfl rfl rfl rfl (v_move rfl rfl) ?_
 refine s_splitv (d := 36) (t := ((rd_T48 l ((i : Nat) : Int)).f1.f0 : Int) != 2) rfl (fun h11_ => ?_) (fun h11_ => ?_)
 have h11_d : (rd_T48 l ((i : Nat) : Int)).f1.f0 ≠ 2 := by simpa using h11_
 refine s_no rfl rfl rfl rfl ?_
 refine s_no rfl rfl rfl rfl ?_
 refine s_no rfl rfl rfl rfl ?_
 refine s_no rfl rfl rfl rfl ?_
 refine s_no rfl rfl rfl rfl ?_
 refine s_v rfl rfl rfl rfl (v_pick rfl rfl rfl rfl) ?_
 refine s_end ?_
 refine q_seq ?_
 refine c_cond1 rfl rfl ?_
 refine c_seq rfl ?_
 refine r_ord (l := [0]) rfl (by kernel_rfl) (by kernel_rfl) ?_
 refine s_v rfl rfl rfl rfl (v_assign rfl rfl) ?_
 refine s_end ?_
 refine q_seq ?_
 refine c_ret rfl ?_
 refine q_then_ret ?_
 refine q_then_ret ?_
 refine q_block_ret ?_
 refine q_then_ret ?_
 refine q_then_ret ?_
 refine q_block_ret ?_
 refine q_then_ret ?_
 refine q_take [] rfl (by decide) ?_
 have htm : timelyB (rd_T48 l (i : Int)) = false := by unfold timelyB; simp_all <;> omega
 have hlg : legalM l = false := (by rw [legalM, all_bad hil htm]; rfl)
 rw [hlg] at hX
 exact q_post rfl (.cons rfl (.nil)) hX
 have h11_d : (rd_T48 l ((i : Nat) : Int)).f1.f0 = 2 := by simpa using h11_
 refine s_vg rfl rfl rfl rfl (v_fa rfl Try.underlying48 rfl SZ46 rfl) ?_
 refine s_vg rfl rfl rfl rfl (v_ldA [.bool ((rd_T48 l ((i : Nat) : Int)).f6.f0), .bool ((rd_T48 l ((i : Nat) : Int)).f6.f1), .int .u64 ((rd_T48 l ((i : Nat) : Int)).f6.f2), .slice A5_ ((rd_T48 l ((i : Nat) : Int)).f6.f3.length) c6_] 0 rfl Try.underlying46 rfl SZ46 rfl rfl rfl rfl) ?_
 refine s_vg rfl rfl rfl rfl (v_build (places := #[(0, 1), (1, 1), (2, 1), (3, 1)]) #[.bool true, .bool false, .int .u64 0, .slice none 0 0] rfl ZR46 Try.underlying46 (by kernel_rfl) rfl rfl) ?_
 refine s_knowT (KC_nil (Kd.int .u64)) ?_
 refine s_eg rfl rfl (e_callK (fun z : Unit => .bool (sameB ((rd_T48 l ((i : Nat) : Int)).f6.f0) ((rd_T48 l ((i : Nat) : Int)).f6.f1) ((rd_T48 l ((i : Nat) : Int)).f6.f2) ((rd_T48 l ((i : Nat) : Int)).f6.f3) true false 0 ([] : List Int))) (fun z => []) #[.agg #[.bool ((rd_T48 l ((i : Nat) : Int)).f6.f0), .bool ((rd_T48 l ((i : Nat) : Int)).f6.f1), .int .u64 ((rd_T48 l ((i : Nat) : Int)).f6.f2), .slice A5_ ((rd_T48 l ((i : Nat) : Int)).f6.f3.length) c6_], .agg #[.bool true, .bool false, .int .u64 0, .slice none 0 0]] rfl rfl rfl rfl rfl Try.func34 rfl (by decide) rfl rfl (fun w ht => stepstoneref07_Same.con 5000 _ _ _ _ _ _ _ _ _ _ _ _ _ (refSame_f ((rd_T48 l ((i : Nat) : Int)).f6.f0) ((rd_T48 l ((i : Nat) : Int)).f6.f1) ((rd_T48 l ((i : Nat) : Int)).f6.f2) ((rd_T48 l ((i : Nat) : Int)).f6.f3) true false 0 ([] : List Int) (by have := hK _ (el_mem hil); omega) 5000 (by omega)) w (Tri.fact ht 2 rfl) (Tri.fact ht 0 rfl))) ?_
 intro z12_
 refine s_vg rfl rfl rfl rfl (v_not rfl rfl) ?_
 refine s_v rfl rfl rfl rfl (v_pick rfl rfl rfl rfl) ?_
 refine s_end ?_
 refine q_seq ?_
 refine c_cond (t := !(sameB ((rd_T48 l ((i : Nat) : Int)).f6.f0) ((rd_T48 l ((i : Nat) : Int)).f6.f1) ((rd_T48 l ((i : Nat) : Int)).f6.f2) ((rd_T48 l ((i : Nat) : Int)).f6.f3) true false 0 ([] : List Int))) rfl rfl (fun h13_ => ?_) (fun h13_ => ?_)
 refine c_seq rfl ?_
 refine r_ord (l := [0]) rfl (by kernel_rfl) (by kernel_rfl) ?_
 refine s_v rfl rfl rfl rfl (v_assign rfl rfl) ?_
 refine s_end ?_
 refine q_seq ?_
 refine c_ret rfl ?_
 refine q_then_ret ?_
 refine q_then_ret ?_
 refine q_block_ret ?_
 refine q_then_ret ?_
 refine q_then_ret ?_
 refine q_block_ret ?_
 refine q_then_ret ?_
 refine q_take [] rfl (by decide) ?_
 have htm : timelyB (rd_T48 l (i : Int)) = false := by unfold timelyB; simp_all <;> omega
 have hlg : legalM l = false := (by rw [legalM, all_bad hil htm]; rfl)
 rw [hlg] at hX
 exact q_post rfl (.cons rfl (.nil)) hX
 refine c_skip rfl ?_
 refine q_seq ?_
 refine c_exit (i := 1) rfl rfl ?_
 refine q_then_exit ?_
 refine q_block_here rfl ?_
 refine q_seq ?_
 refine r_ord (l := [0, 1, 2]) rfl (by kernel_rfl) (by kernel_rfl) ?_
 refine s_v rfl rfl rfl rfl (v_move rfl rfl) ?_
 refine s_v rfl rfl rfl rfl (OpV.cast (v := .int .i64 ((i + 1 : Nat) : Int)) (v_arith rfl rfl rfl rfl) (addN (a := i) (b := 1) (by first | omega | (simp only [List.length_set, swr_len, swp_len]; omega)))) ?_
 refine s_v rfl rfl rfl rfl (v_assign rfl rfl) ?_
 refine s_end ?_
 have htm : timelyB (rd_T48 l (i : Int)) = true := by unfold timelyB; simp_all <;> omega
 exact q_again (i + 1) [4] ⟨by omega, all_next hil hs.2 htm⟩ (by show l.length - (i + 1) < l.length - i; omega) (subF_spec ⟨rfl, rfl, trivial⟩) rfl (by decide)
 refine c_skip rfl ?_
 refine q_seq ?_
 refine c_seq rfl ?_
 refine c_seq rfl ?_
 refine r_ord (l := [0, 1, 2, 3, 4, 5, 6, 7, 8, 9, 10, 11, 12, 13, 14, 15, 16, 17, 18, 19, 20]) rfl (by kernel_rfl) (by kernel_rfl) ?_
 refine s_v rfl rfl rfl rfl (v_fa rfl Try.underlying48 rfl SZ4 rfl) ?_
 refine s_v rfl rfl rfl rfl (v_ld 0 rfl Try.underlying4 rfl rfl rfl rfl) ?_
 refine s_v rfl rfl rfl rfl (v_move rfl rfl) ?_
 refine s_splitv (d := 45) (t := (rd_T48 l ((i : Nat) : Int)).f5) rfl (fun h14_ => ?_) (fun h14_ => ?_)
 refine s_vg rfl rfl rfl rfl (v_fa rfl Try.underlying48 rfl SZ3 rfl) ?_
 refine s_vg rfl rfl rfl rfl (v_ld 0 rfl Try.underlying3 rfl rfl rfl rfl) ?_
 refine s_vg rfl rfl rfl rfl (v_arith rfl rfl rfl rfl) ?_
 refine s_vg rfl rfl rfl rfl (v_move rfl rfl) ?_
 refine s_splitv (d := 49) (t := decide (((rd_T48 l ((i : Nat) : Int)).f3 : Int) ≤ 0)) rfl (fun h15_ => ?_) (fun h15_ => ?_)
 have h15_d := of_decide_eq_true h15_
 refine s_no rfl rfl rfl rfl ?_
 refine s_no rfl rfl rfl rfl ?_
 refine s_no rfl rfl rfl rfl ?_
 refine s_no rfl rfl rfl rfl ?_
 refine s_no rfl rfl rfl rfl ?_
 refine s_vg rfl rfl rfl rfl (v_pick rfl rfl rfl rfl) ?_
 refine s_vg rfl rfl rfl rfl (v_move rfl rfl) ?_
 refine s_no rfl rfl rfl rfl ?_
 refine s_no rfl rfl rfl rfl ?_
 refine s_no rfl rfl rfl rfl ?_
 refine s_no rfl rfl rfl rfl ?_
 refine s_no rfl rfl rfl rfl ?_
 refine s_vg rfl rfl rfl rfl (v_pick rfl rfl rfl rfl) ?_
 refine s_v rfl rfl rfl rfl (v_pick rfl rfl rfl rfl) ?_
 refine s_end ?_
 refine q_seq ?_
 refine c_cond1 rfl rfl ?_
 refine c_seq rfl ?_
 refine r_ord (l := [0]) rfl (by kernel_rfl) (by kernel_rfl) ?_
 refine s_v rfl rfl rfl rfl (v_assign rfl rfl) ?_
 refine s_end ?_
 refine q_seq ?_
 refine c_ret rfl ?_
 refine q_then_ret ?_
 refine q_block_ret ?_
 refine q_then_ret ?_
 refine q_then_ret ?_
 refine q_block_ret ?_
 refine q_then_ret ?_
 refine q_take [] rfl (by decide) ?_
 have htm : timelyB (rd_T48 l (i : Int)) = false := by unfold timelyB; simp_all <;> omega
 have hlg : legalM l = false := (by rw [legalM, all_bad hil htm]; rfl)
 rw [hlg] at hX
 exact q_post rfl (.cons rfl (.nil)) hX
 have h15_d := of_decide_eq_false h15_
 refine s_vg rfl rfl rfl rfl (v_fa rfl Try.underlying48 rfl SZ3 rfl) ?_
 refine s_vg rfl rfl rfl rfl (v_ld 0 rfl Try.underlying3 rfl rfl rfl rfl) ?_
 refine s_vg rfl rfl rfl rfl (v_fa rfl Try.underlying48 rfl SZ3 rfl) ?_
 refine s_vg rfl rfl rfl rfl (v_ld 0 rfl Try.underlying3 rfl rfl rfl rfl) ?_
 refine s_vg rfl rfl rfl rfl (v_arith rfl rfl rfl rfl) ?_
 refine s_vg rfl rfl rfl rfl (v_pick rfl rfl rfl rfl) ?_
 refine s_vg rfl rfl rfl rfl (v_move rfl rfl) ?_
 refine s_splitv (d := 56) (t := decide (((rd_T48 l ((i : Nat) : Int)).f2 : Int) > ((rd_T48 l ((i : Nat) : Int)).f3))) rfl (fun h16_ => ?_) (fun h16_ => ?_)
 have h16_d := of_decide_eq_true h16_
 refine s_no rfl rfl rfl rfl ?_
 refine s_no rfl rfl rfl rfl ?_
 refine s_no rfl rfl rfl rfl ?_
 refine s_no rfl rfl rfl rfl ?_
 refine s_no rfl rfl rfl rfl ?_
 refine s_vg rfl rfl rfl rfl (v_pick rfl rfl rfl rfl) ?_
 refine s_v rfl rfl rfl rfl (v_pick rfl rfl rfl rfl) ?_
 refine s_end ?_
 refine q_seq ?_
 refine c_cond1 rfl rfl ?_
 refine c_seq rfl ?_
 refine r_ord (l := [0]) rfl (by kernel_rfl) (by kernel_rfl) ?_
 refine s_v rfl rfl rfl rfl (v_assign rfl rfl) ?_
 refine s_end ?_
 refine q_seq ?_
 refine c_ret rfl ?_
 refine q_then_ret ?_
 refine q_block_ret ?_
 refine q_then_ret ?_
 refine q_then_ret ?_
 refine q_block_ret ?_
 refine q_then_ret ?_
 refine q_take [] rfl (by decide) ?_
 have htm : timelyB (rd_T48 l (i : Int)) = false := by unfold timelyB; simp_all <;> omega
 have hlg : legalM l = false := (by rw [legalM, all_bad hil htm]; rfl)
 rw [hlg] at hX
 exact q_post rfl (.cons rfl (.nil)) hX
 have h16_d := of_decide_eq_false h16_
 refine s_vg rfl rfl rfl rfl (v_fa rfl Try.underlying48 rfl SZ3 rfl) ?_
 refine s_vg rfl rfl rfl rfl (v_ld 0 rfl Try.underlying3 rfl rfl rfl rfl) ?_
 refine s_vg rfl rfl rfl rfl (v_fa rfl Try.underlying48 rfl SZ3 rfl) ?_
 refine s_vg rfl rfl rfl rfl (v_ld 0 rfl Try.underlying3 rfl rfl rfl rfl) ?_
 refine s_vg rfl rfl rfl rfl (v_arith rfl rfl rfl rfl) ?_
 refine s_vg rfl rfl rfl rfl (v_pick rfl rfl rfl rfl) ?_
 refine s_v rfl rfl rfl rfl (v_pick rfl rfl rfl rfl) ?_
 refine s_end ?_
 refine q_seq ?_
 refine c_cond (t := decide (((rd_T48 l ((i : Nat) : Int)).f3 : Int) > ((rd_T48 l ((i : Nat) : Int)).f4))) rfl rfl (fun h17_ => ?_) (fun h17_ => ?_)
 have h17_d := of_decide_eq_true h17_
 refine c_seq rfl ?_
 refine r_ord (l := [0]) rfl (by kernel_rfl) (by kernel_rfl) ?_
 refine s_v rfl rfl rfl rfl (v_assign rfl rfl) ?_
 refine s_end ?_
 refine q_seq ?_
 refine c_ret rfl ?_
 refine q_then_ret ?_
 refine q_block_ret ?_
 refine q_then_ret ?_
 refine q_then_ret ?_
 refine q_block_ret ?_
 refine q_then_ret ?_
 refine q_take [] rfl (by decide) ?_
 have htm : timelyB (rd_T48 l (i : Int)) = false := by unfold timelyB; simp_all <;> omega
 have hlg : legalM l = false := (by rw [legalM, all_bad hil htm]; rfl)
 rw [hlg] at hX
 exact q_post rfl (.cons rfl (.nil)) hX
 have h17_d := of_decide_eq_false h17_
 refine c_skip rfl ?_
 refine q_seq ?_
 refine c_seq rfl ?_
 refine r_ord (l := [0, 1, 2, 3, 4, 5, 6, 7, 8, 9, 10, 11, 12, 13, 14]) rfl (by kernel_rfl) (by kernel_rfl) ?_
 refine s_v rfl rfl rfl rfl (v_fa rfl Try.underlying48 rfl SZ4 rfl) ?_
 refine s_v rfl rfl rfl rfl (v_ld 0 rfl Try.underlying4 rfl rfl rfl rfl) ?_
 refine s_v rfl rfl rfl rfl (v_not rfl rfl) ?_
 refine s_v rfl rfl rfl rfl (v_move rfl rfl) ?_
 refine s_splitv (d := 67) (t := !((rd_T48 l ((i : Nat) : Int)).f5)) rfl (fun h18_ => ?_) (fun h18_ => ?_)
 refine s_vg rfl rfl rfl rfl (v_fa rfl Try.underlying48 rfl SZ3 rfl) ?_
 refine s_vg rfl rfl rfl rfl (v_ld 0 rfl Try.underlying3 rfl rfl rfl rfl) ?_
 refine s_vg rfl rfl rfl rfl (v_arith rfl rfl rfl rfl) ?_
 refine s_v rfl rfl rfl rfl (v_pick rfl rfl rfl rfl) ?_
 refine s_v rfl rfl rfl rfl (v_move rfl rfl) ?_
 refine s_splitv (d := 72) (t := decide (((rd_T48 l ((i : Nat) : Int)).f3 : Int) > 0)) rfl (fun h19_ => ?_) (fun h19_ => ?_)
 have h19_d := of_decide_eq_true h19_
 refine s_vg rfl rfl rfl rfl (v_fa rfl Try.underlying48 rfl SZ3 rfl) ?_
 refine s_vg rfl rfl rfl rfl (v_ld 0 rfl Try.underlying3 rfl rfl rfl rfl) ?_
 refine s_vg rfl rfl rfl rfl (v_fa rfl Try.underlying48 rfl SZ3 rfl) ?_
 refine s_vg rfl rfl rfl rfl (v_ld 0 rfl Try.underlying3 rfl rfl rfl rfl) ?_
 refine s_vg rfl rfl rfl rfl (v_arith rfl rfl rfl rfl) ?_
 refine s_v rfl rfl rfl rfl (v_pick rfl rfl rfl rfl) ?_
 refine s_end ?_
 refine q_seq ?_
 refine c_cond (t := decide (((rd_T48 l ((i : Nat) : Int)).f2 : Int) > ((rd_T48 l ((i : Nat) : Int)).f3))) rfl rfl (fun h20_ => ?_) (fun h20_ => ?_)
 have h20_d := of_decide_eq_true h20_
 refine c_seq rfl ?_
 refine r_ord (l := [0]) rfl (by kernel_rfl) (by kernel_rfl) ?_
 refine s_v rfl rfl rfl rfl (v_assign rfl rfl) ?_
 refine s_end ?_
 refine q_seq ?_
 refine c_ret rfl ?_
 refine q_block_ret ?_
 refine q_then_ret ?_
 refine q_then_ret ?_
 refine q_block_ret ?_
 refine q_then_ret ?_
 refine q_take [] rfl (by decide) ?_
 have htm : timelyB (rd_T48 l (i : Int)) = false := by unfold timelyB; simp_all <;> omega
 have hlg : legalM l = false := (by rw [legalM, all_bad hil htm]; rfl)
 rw [hlg] at hX
 exact q_post rfl (.cons rfl (.nil)) hX
 have h20_d := of_decide_eq_false h20_
 refine c_skip rfl ?_
 refine q_block ?_
 refine q_seq ?_
 refine r_ord (l := [0, 1, 2]) rfl (by kernel_rfl) (by kernel_rfl) ?_
 refine s_v rfl rfl rfl rfl (v_move rfl rfl) ?_
 refine s_v rfl rfl rfl rfl (OpV.cast (v := .int .i64 ((i + 1 : Nat) : Int)) (v_arith rfl rfl rfl rfl) (addN (a := i) (b := 1) (by first | omega | (simp only [List.length_set, swr_len, swp_len]; omega)))) ?_
 refine s_v rfl rfl rfl rfl (v_assign rfl rfl) ?_
 refine s_end ?_
 have htm : timelyB (rd_T48 l (i : Int)) = true := by unfold timelyB; simp_all <;> omega
 exact q_again (i + 1) [3] ⟨by omega, all_next hil hs.2 htm⟩ (by show l.length - (i + 1) < l.length - i; omega) (subF_spec ⟨rfl, rfl, trivial⟩) rfl (by decide)
 have h19_d := of_decide_eq_false h19_
 refine s_no rfl rfl rfl rfl ?_
 refine s_no rfl rfl rfl rfl ?_
 refine s_no rfl rfl rfl rfl ?_
 refine s_no rfl rfl rfl rfl ?_
 refine s_no rfl rfl rfl rfl ?_
 refine s_v rfl rfl rfl rfl (v_pick rfl rfl rfl rfl) ?_
 refine s_end ?_
 refine q_seq ?_
 refine c_cond0 rfl rfl ?_
 refine c_skip rfl ?_
 refine q_block ?_
 refine q_seq ?_
 refine r_ord (l := [0, 1, 2]) rfl (by kernel_rfl) (by kernel_rfl) ?_
 refine s_v rfl rfl rfl rfl (v_move rfl rfl) ?_
 refine s_v rfl rfl rfl rfl (OpV.cast (v := .int .i64 ((i + 1 : Nat) : Int)) (v_arith rfl rfl rfl rfl) (addN (a := i) (b := 1) (by first | omega | (simp only [List.length_set, swr_len, swp_len]; omega)))) ?_
 refine s_v rfl rfl rfl rfl (v_assign rfl rfl) ?_
 refine s_end ?_
 have htm : timelyB (rd_T48 l (i : Int)) = true := by unfold timelyB; simp_all <;> omega
 exact q_again (i + 1) [3] ⟨by omega, all_next hil hs.2 htm⟩ (by show l.length - (i + 1) < l.length - i; omega) (subF_spec ⟨rfl, rfl, trivial⟩) rfl (by decide)
 refine s_no rfl rfl rfl rfl ?_
 refine s_no rfl rfl rfl rfl ?_
 refine s_no rfl rfl rfl rfl ?_
 refine s_v rfl rfl rfl rfl (v_pick rfl rfl rfl rfl) ?_
 refine s_v rfl rfl rfl rfl (v_move rfl rfl) ?_
 refine s_no rfl rfl rfl rfl ?_
 refine s_no rfl rfl rfl rfl ?_
 refine s_no rfl rfl rfl rfl ?_
 refine s_no rfl rfl rfl rfl ?_
 refine s_no rfl rfl rfl rfl ?_
 refine s_v rfl rfl rfl rfl (v_pick rfl rfl rfl rfl) ?_
 refine s_end ?_
 refine q_seq ?_
 refine c_cond0 rfl rfl ?_
 refine c_skip rfl ?_
 refine q_block ?_
 refine q_seq ?_
 refine r_ord (l := [0, 1, 2]) rfl (by kernel_rfl) (by kernel_rfl) ?_
 refine s_v rfl rfl rfl rfl (v_move rfl rfl) ?_
 refine s_v rfl rfl rfl rfl (OpV.cast (v := .int .i64 ((i + 1 : Nat) : Int)) (v_arith rfl rfl rfl rfl) (addN (a := i) (b := 1) (by first | omega | (simp only [List.length_set, swr_len, swp_len]; omega)))) ?_
 refine s_v rfl rfl rfl rfl (v_assign rfl rfl) ?_
 refine s_end ?_
 have htm : timelyB (rd_T48 l (i : Int)) = true := by unfold timelyB; simp_all <;> omega
 exact q_again (i + 1) [3] ⟨by omega, all_next hil hs.2 htm⟩ (by show l.length - (i + 1) < l.length - i; omega) (subF_spec ⟨rfl, rfl, trivial⟩) rfl (by decide)
 refine s_no rfl rfl rfl rfl ?_
 refine s_no rfl rfl rfl rfl ?_
 refine s_no rfl rfl rfl rfl ?_
 refine s_no rfl rfl rfl rfl ?_
 refine s_no rfl rfl rfl rfl ?_
 refine s_no rfl rfl rfl rfl ?_
 refine s_no rfl rfl rfl rfl ?_
 refine s_no rfl rfl rfl rfl ?_
 refine s_no rfl rfl rfl rfl ?_
 refine s_no rfl rfl rfl rfl ?_
 refine s_no rfl rfl rfl rfl ?_
 refine s_no rfl rfl rfl rfl ?_
 refine s_no rfl rfl rfl rfl ?_
 refine s_no rfl rfl rfl rfl ?_
 refine s_no rfl rfl rfl rfl ?_
 refine s_no rfl rfl rfl rfl ?_
 refine s_no rfl rfl rfl rfl ?_
 refine s_v rfl rfl rfl rfl (v_pick rfl rfl rfl rfl) ?_
 refine s_end ?_
 refine q_seq ?_
 refine c_cond0 rfl rfl ?_
 refine c_skip rfl ?_
 refine q_seq ?_
 refine c_seq rfl ?_
 refine r_ord (l := [0, 1, 2, 3, 4, 5, 6, 7, 8, 9, 10, 11, 12, 13, 14]) rfl (by kernel_rfl) (by kernel_rfl) ?_
 refine s_v rfl rfl rfl rfl (v_fa rfl Try.underlying48 rfl SZ4 rfl) ?_
 refine s_v rfl rfl rfl rfl (v_ld 0 rfl Try.underlying4 rfl rfl rfl rfl) ?_
 refine s_v rfl rfl rfl rfl (v_not rfl rfl) ?_
 refine s_v rfl rfl rfl rfl (v_move rfl rfl) ?_
 refine s_splitv (d := 67) (t := !((rd_T48 l ((i : Nat) : Int)).f5)) rfl (fun h21_ => ?_) (fun h21_ => ?_)
 refine s_vg rfl rfl rfl rfl (v_fa rfl Try.underlying48 rfl SZ3 rfl) ?_
 refine s_vg rfl rfl rfl rfl (v_ld 0 rfl Try.underlying3 rfl rfl rfl rfl) ?_
 refine s_vg rfl rfl rfl rfl (v_arith rfl rfl rfl rfl) ?_
 refine s_v rfl rfl rfl rfl (v_pick rfl rfl rfl rfl) ?_
 refine s_v rfl rfl rfl rfl (v_move rfl rfl) ?_
 refine s_splitv (d := 72) (t := decide (((rd_T48 l ((i : Nat) : Int)).f3 : Int) > 0)) rfl (fun h22_ => ?_) (fun h22_ => ?_)
 have h22_d := of_decide_eq_true h22_
 refine s_vg rfl rfl rfl rfl (v_fa rfl Try.underlying48 rfl SZ3 rfl) ?_
 refine s_vg rfl rfl rfl rfl (v_ld 0 rfl Try.underlying3 rfl rfl rfl rfl) ?_
 refine s_vg rfl rfl rfl rfl (v_fa rfl Try.underlying48 rfl SZ3 rfl) ?_
 refine s_vg rfl rfl rfl rfl (v_ld 0 rfl Try.underlying3 rfl rfl rfl rfl) ?_
 refine s_vg rfl rfl rfl rfl (v_arith rfl rfl rfl rfl) ?_
 refine s_v rfl rfl rfl rfl (v_pick rfl rfl rfl rfl) ?_
 refine s_end ?_
 refine q_seq ?_
 refine c_cond (t := decide (((rd_T48 l ((i : Nat) : Int)).f2 : Int) > ((rd_T48 l ((i : Nat) : Int)).f3))) rfl rfl (fun h23_ => ?_) (fun h23_ => ?_)
 have h23_d := of_decide_eq_true h23_
 refine c_seq rfl ?_
 refine r_ord (l := [0]) rfl (by kernel_rfl) (by kernel_rfl) ?_
 refine s_v rfl rfl rfl rfl (v_assign rfl rfl) ?_
 refine s_end ?_
 refine q_seq ?_
 refine c_ret rfl ?_
 refine q_block_ret ?_
 refine q_then_ret ?_
 refine q_then_ret ?_
 refine q_block_ret ?_
 refine q_then_ret ?_
 refine q_take [] rfl (by decide) ?_
 have htm : timelyB (rd_T48 l (i : Int)) = false := by unfold timelyB; simp_all <;> omega
 have hlg : legalM l = false := (by rw [legalM, all_bad hil htm]; rfl)
 rw [hlg] at hX
 exact q_post rfl (.cons rfl (.nil)) hX
 have h23_d := of_decide_eq_false h23_
 refine c_skip rfl ?_
 refine q_block ?_
 refine q_seq ?_
 refine r_ord (l := [0, 1, 2]) rfl (by kernel_rfl) (by kernel_rfl) ?_
 refine s_v rfl rfl rfl rfl (v_move rfl rfl) ?_
 refine s_v rfl rfl rfl rfl (OpV.cast (v := .int .i64 ((i + 1 : Nat) : Int)) (v_arith rfl rfl rfl rfl) (addN (a := i) (b := 1) (by first | omega | (simp only [List.length_set, swr_len, swp_len]; omega)))) ?_
 refine s_v rfl rfl rfl rfl (v_assign rfl rfl) ?_
 refine s_end ?_
 have htm : timelyB (rd_T48 l (i : Int)) = true := by unfold timelyB; simp_all <;> omega
 exact q_again (i + 1) [3] ⟨by omega, all_next hil hs.2 htm⟩ (by show l.length - (i + 1) < l.length - i; omega) (subF_spec ⟨rfl, rfl, trivial⟩) rfl (by decide)
 have h22_d := of_decide_eq_false h22_
 refine s_no rfl rfl rfl rfl ?_
 refine s_no rfl rfl rfl rfl ?_
 refine s_no rfl rfl rfl rfl ?_
 refine s_no rfl rfl rfl rfl ?_
 refine s_no rfl rfl rfl rfl ?_
 refine s_v rfl rfl rfl rfl (v_pick rfl rfl rfl rfl) ?_
 refine s_end ?_
 refine q_seq ?_
 refine c_cond0 rfl rfl ?_
 refine c_skip rfl ?_
 refine q_block ?_
 refine q_seq ?_
 refine r_ord (l := [0, 1, 2]) rfl (by kernel_rfl) (by kernel_rfl) ?_
 refine s_v rfl rfl rfl rfl (v_move rfl rfl) ?_
 refine s_v rfl rfl rfl rfl (OpV.cast (v := .int .i64 ((i + 1 : Nat) : Int)) (v_arith rfl rfl rfl rfl) (addN (a := i) (b := 1) (by first | omega | (simp only [List.length_set, swr_len, swp_len]; omega)))) ?_
 refine s_v rfl rfl rfl rfl (v_assign rfl rfl) ?_
 refine s_end ?_
 have htm : timelyB (rd_T48 l (i : Int)) = true := by unfold timelyB; simp_all <;> omega
 exact q_again (i + 1) [3] ⟨by omega, all_next hil hs.2 htm⟩ (by show l.length - (i + 1) < l.length - i; omega) (subF_spec ⟨rfl, rfl, trivial⟩) rfl (by decide)
 refine s_no rfl rfl rfl rfl ?_
 refine s_no rfl rfl rfl rfl ?_
 refine s_no rfl rfl rfl rfl ?_
 refine s_v rfl rfl rfl rfl (v_pick rfl rfl rfl rfl) ?_
 refine s_v rfl rfl rfl rfl (v_move rfl rfl) ?_
 refine s_no rfl rfl rfl rfl ?_
 refine s_no rfl rfl rfl rfl ?_
 refine s_no rfl rfl rfl rfl ?_
 refine s_no rfl rfl rfl rfl ?_
 refine s_no rfl rfl rfl rfl ?_
 refine s_v rfl rfl rfl rfl (v_pick rfl rfl rfl rfl) ?_
 refine s_end ?_
 refine q_seq ?_
 refine c_cond0 rfl rfl ?_
 refine c_skip rfl ?_
 refine q_block ?_
 refine q_seq ?_
 refine r_ord (l := [0, 1, 2]) rfl (by kernel_rfl) (by kernel_rfl) ?_
 refine s_v rfl rfl rfl rfl (v_move rfl rfl) ?_
 refine s_v rfl rfl rfl rfl (OpV.cast (v := .int .i64 ((i + 1 : Nat) : Int)) (v_arith rfl rfl rfl rfl) (addN (a := i) (b := 1) (by first | omega | (simp only [List.length_set, swr_len, swp_len]; omega)))) ?_
 refine s_v rfl rfl rfl rfl (v_assign rfl rfl) ?_
 refine s_end ?_
 have htm : timelyB (rd_T48 l (i : Int)) = true := by unfold timelyB; simp_all <;> omega
 exact q_again (i + 1) [3] ⟨by omega, all_next hil hs.2 htm⟩ (by show l.length - (i + 1) < l.length - i; omega) (subF_spec ⟨rfl, rfl, trivial⟩) rfl (by decide)
 refine s_no rfl rfl rfl rfl ?_
 refine s_no rfl rfl rfl rfl ?_
 refine s_no rfl rfl rfl rfl ?_
 refine s_v rfl rfl rfl rfl (v_pick rfl rfl rfl rfl) ?_
 refine s_end ?_
 refine q_seq ?_
 refine c_cond0 rfl rfl ?_
 refine c_skip rfl ?_
 refine q_seq ?_
 refine c_seq rfl ?_
 refine c_seq rfl ?_
 refine r_ord (l := [0, 1, 2, 3, 4, 5, 6, 7, 8, 9, 10, 11, 12, 13, 14, 15, 16, 17, 18, 19, 20]) rfl (by kernel_rfl) (by kernel_rfl) ?_
 refine s_v rfl rfl rfl rfl (v_fa rfl Try.underlying48 rfl SZ4 rfl) ?_
 refine s_v rfl rfl rfl rfl (v_ld 0 rfl Try.underlying4 rfl rfl rfl rfl) ?_
 refine s_v rfl rfl rfl rfl (v_move rfl rfl) ?_
 refine s_splitv (d := 45) (t := (rd_T48 l ((i : Nat) : Int)).f5) rfl (fun h24_ => ?_) (fun h24_ => ?_)
 refine s_vg rfl rfl rfl rfl (v_fa rfl Try.underlying48 rfl SZ3 rfl) ?_
 refine s_vg rfl rfl rfl rfl (v_ld 0 rfl Try.underlying3 rfl rfl rfl rfl) ?_
 refine s_vg rfl rfl rfl rfl (v_arith rfl rfl rfl rfl) ?_
 refine s_vg rfl rfl rfl rfl (v_move rfl rfl) ?_
 refine s_splitv (d := 49) (t := decide (((rd_T48 l ((i : Nat) : Int)).f3 : Int) ≤ 0)) rfl (fun h25_ => ?_) (fun h25_ => ?_)
 have h25_d := of_decide_eq_true h25_
 refine s_no rfl rfl rfl rfl ?_
 refine s_no rfl rfl rfl rfl ?_
 refine s_no rfl rfl rfl rfl ?_
 refine s_no rfl rfl rfl rfl ?_
 refine s_no rfl rfl rfl rfl ?_
 refine s_vg rfl rfl rfl rfl (v_pick rfl rfl rfl rfl) ?_
 refine s_vg rfl rfl rfl rfl (v_move rfl rfl) ?_
 refine s_no rfl rfl rfl rfl ?_
 refine s_no rfl rfl rfl rfl ?_
 refine s_no rfl rfl rfl rfl ?_
 refine s_no rfl rfl rfl rfl ?_
 refine s_no rfl rfl rfl rfl ?_
 refine s_vg rfl rfl rfl rfl (v_pick rfl rfl rfl rfl) ?_
 refine s_v rfl rfl rfl rfl (v_pick rfl rfl rfl rfl) ?_
 refine s_end ?_
 refine q_seq ?_
 refine c_cond1 rfl rfl ?_
 refine c_seq rfl ?_
 refine r_ord (l := [0]) rfl (by kernel_rfl) (by kernel_rfl) ?_
 refine s_v rfl rfl rfl rfl (v_assign rfl rfl) ?_
 refine s_end ?_
 refine q_seq ?_
 refine c_ret rfl ?_
 refine q_then_ret ?_
 refine q_block_ret ?_
 refine q_then_ret ?_
 refine q_then_ret ?_
 refine q_block_ret ?_
 refine q_then_ret ?_
 refine q_take [] rfl (by decide) ?_
 have htm : timelyB (rd_T48 l (i : Int)) = false := by unfold timelyB; simp_all <;> omega
 have hlg : legalM l = false := (by rw [legalM, all_bad hil htm]; rfl)
 rw [hlg] at hX
 exact q_post rfl (.cons rfl (.nil)) hX
 have h25_d := of_decide_eq_false h25_
 refine s_vg rfl rfl rfl rfl (v_fa rfl Try.underlying48 rfl SZ3 rfl) ?_
 refine s_vg rfl rfl rfl rfl (v_ld 0 rfl Try.underlying3 rfl rfl rfl rfl) ?_
 refine s_vg rfl rfl rfl rfl (v_fa rfl Try.underlying48 rfl SZ3 rfl) ?_
 refine s_vg rfl rfl rfl rfl (v_ld 0 rfl Try.underlying3 rfl rfl rfl rfl) ?_
 refine s_vg rfl rfl rfl rfl (v_arith rfl rfl rfl rfl) ?_
 refine s_vg rfl rfl rfl rfl (v_pick rfl rfl rfl rfl) ?_
 refine s_vg rfl rfl rfl rfl (v_move rfl rfl) ?_
 refine s_splitv (d := 56) (t := decide (((rd_T48 l ((i : Nat) : Int)).f2 : Int) > ((rd_T48 l ((i : Nat) : Int)).f3))) rfl (fun h26_ => ?_) (fun h26_ => ?_)
 have h26_d := of_decide_eq_true h26_
 refine s_no rfl rfl rfl rfl ?_
 refine s_no rfl rfl rfl rfl ?_
 refine s_no rfl rfl rfl rfl ?_
 refine s_no rfl rfl rfl rfl ?_
 refine s_no rfl rfl rfl rfl ?_
 refine s_vg rfl rfl rfl rfl (v_pick rfl rfl rfl rfl) ?_
 refine s_v rfl rfl rfl rfl (v_pick rfl rfl rfl rfl) ?_
 refine s_end ?_
 refine q_seq ?_
 refine c_cond1 rfl rfl ?_
 refine c_seq rfl ?_
 refine r_ord (l := [0]) rfl (by kernel_rfl) (by kernel_rfl) ?_
 refine s_v rfl rfl rfl rfl (v_assign rfl rfl) ?_
 refine s_end ?_
 refine q_seq ?_
 refine c_ret rfl ?_
 refine q_then_ret ?_
 refine q_block_ret ?_
 refine q_then_ret ?_
 refine q_then_ret ?_
 refine q_block_ret ?_
 refine q_then_ret ?_
 refine q_take [] rfl (by decide) ?_
 have htm : timelyB (rd_T48 l (i : Int)) = false := by unfold timelyB; simp_all <;> omega
 have hlg : legalM l = false := (by rw [legalM, all_bad hil htm]; rfl)
 rw [hlg] at hX
 exact q_post rfl (.cons rfl (.nil)) hX
 have h26_d := of_decide_eq_false h26_
 refine s_vg rfl rfl rfl rfl (v_fa rfl Try.underlying48 rfl SZ3 rfl) ?_
 refine s_vg rfl rfl rfl rfl (v_ld 0 rfl Try.underlying3 rfl rfl rfl rfl) ?_
 refine s_vg rfl rfl rfl rfl (v_fa rfl Try.underlying48 rfl SZ3 rfl) ?_
 refine s_vg rfl rfl rfl rfl (v_ld 0 rfl Try.underlying3 rfl rfl rfl rfl) ?_
 refine s_vg rfl rfl rfl rfl (v_arith rfl rfl rfl rfl) ?_
 refine s_vg rfl rfl rfl rfl (v_pick rfl rfl rfl rfl) ?_
 refine s_v rfl rfl rfl rfl (v_pick rfl rfl rfl rfl) ?_
 refine s_end ?_
 refine q_seq ?_
 refine c_cond (t := decide (((rd_T48 l ((i : Nat) : Int)).f3 : Int) > ((rd_T48 l ((i : Nat) : Int)).f4))) rfl rfl (fun h27_ => ?_) (fun h27_ => ?_)
 have h27_d := of_decide_eq_true h27_
 refine c_seq rfl ?_
 refine r_ord (l := [0]) rfl (by kernel_rfl) (by kernel_rfl) ?_
 refine s_v rfl rfl rfl rfl (v_assign rfl rfl) ?_
 refine s_end ?_
 refine q_seq ?_
 refine c_ret rfl ?_
 refine q_then_ret ?_
 refine q_block_ret ?_
 refine q_then_ret ?_
 refine q_then_ret ?_
 refine q_block_ret ?_
 refine q_then_ret ?_
 refine q_take [] rfl (by decide) ?_
 have htm : timelyB (rd_T48 l (i : Int)) = false := by unfold timelyB; simp_all <;> omega
 have hlg : legalM l = false := (by rw [legalM, all_bad hil htm]; rfl)
 rw [hlg] at hX
 exact q_post rfl (.cons rfl (.nil)) hX
 have h27_d := of_decide_eq_false h27_
 refine c_skip rfl ?_
 refine q_seq ?_
 refine c_seq rfl ?_
 refine r_ord (l := [0, 1, 2, 3, 4, 5, 6, 7, 8, 9, 10, 11, 12, 13, 14]) rfl (by kernel_rfl) (by kernel_rfl) ?_
 refine s_v rfl rfl rfl rfl (v_fa rfl Try.underlying48 rfl SZ4 rfl) ?_
 refine s_v rfl rfl rfl rfl (v_ld 0 rfl Try.underlying4 rfl rfl rfl rfl) ?_
 refine s_v rfl rfl rfl rfl (v_not rfl rfl) ?_
 refine s_v rfl rfl rfl rfl (v_move rfl rfl) ?_
 refine s_splitv (d := 67) (t := !((rd_T48 l ((i : Nat) : Int)).f5)) rfl (fun h28_ => ?_) (fun h28_ => ?_)
 refine s_vg rfl rfl rfl rfl (v_fa rfl Try.underlying48 rfl SZ3 rfl) ?_
 refine s_vg rfl rfl rfl rfl (v_ld 0 rfl Try.underlying3 rfl rfl rfl rfl) ?_
 refine s_vg rfl rfl rfl rfl (v_arith rfl rfl rfl rfl) ?_
 refine s_v rfl rfl rfl rfl (v_pick rfl rfl rfl rfl) ?_
 refine s_v rfl rfl rfl rfl (v_move rfl rfl) ?_
 refine s_splitv (d := 72) (t := decide (((rd_T48 l ((i : Nat) : Int)).f3 : Int) > 0)) rfl (fun h29_ => ?_) (fun h29_ => ?_)
 have h29_d := of_decide_eq_true h29_
 refine s_vg rfl rfl rfl rfl (v_fa rfl Try.underlying48 rfl SZ3 rfl) ?_
 refine s_vg rfl rfl rfl rfl (v_ld 0 rfl Try.underlying3 rfl rfl rfl rfl) ?_
 refine s_vg rfl rfl rfl rfl (v_fa rfl Try.underlying48 rfl SZ3 rfl) ?_
 refine s_vg rfl rfl rfl rfl (v_ld 0 rfl Try.underlying3 rfl rfl rfl rfl) ?_
 refine s_vg rfl rfl rfl rfl (v_arith rfl rfl rfl rfl) ?_
 refine s_v rfl rfl rfl rfl (v_pick rfl rfl rfl rfl) ?_
 refine s_end ?_
 refine q_seq ?_
 refine c_cond (t := decide (((rd_T48 l ((i : Nat) : Int)).f2 : Int) > ((rd_T48 l ((i : Nat) : Int)).f3))) rfl rfl (fun h30_ => ?_) (fun h30_ => ?_)
 have h30_d := of_decide_eq_true h30_
 refine c_seq rfl ?_
 refine r_ord (l := [0]) rfl (by kernel_rfl) (by kernel_rfl) ?_
 refine s_v rfl rfl rfl rfl (v_assign rfl rfl) ?_
 refine s_end ?_
 refine q_seq ?_
 refine c_ret rfl ?_
 refine q_block_ret ?_
 refine q_then_ret ?_
 refine q_then_ret ?_
 refine q_block_ret ?_
 refine q_then_ret ?_
 refine q_take [] rfl (by decide) ?_
 have htm : timelyB (rd_T48 l (i : Int)) = false := by unfold timelyB; simp_all <;> omega
 have hlg : legalM l = false := (by rw [legalM, all_bad hil htm]; rfl)
 rw [hlg] at hX
 exact q_post rfl (.cons rfl (.nil)) hX
 have h30_d := of_decide_eq_false h30_
 refine c_skip rfl ?_
 refine q_block ?_
 refine q_seq ?_
 refine r_ord (l := [0, 1, 2]) rfl (by kernel_rfl) (by kernel_rfl) ?_
 refine s_v rfl rfl rfl rfl (v_move rfl rfl) ?_
 refine s_v rfl rfl rfl rfl (OpV.cast (v := .int .i64 ((i + 1 : Nat) : Int)) (v_arith rfl rfl rfl rfl) (addN (a := i) (b := 1) (by first | omega | (simp only [List.length_set, swr_len, swp_len]; omega)))) ?_
 refine s_v rfl rfl rfl rfl (v_assign rfl rfl) ?_
 refine s_end ?_
 have htm : timelyB (rd_T48 l (i : Int)) = true := by unfold timelyB; simp_all <;> omega
 exact q_again (i + 1) [3] ⟨by omega, all_next hil hs.2 htm⟩ (by show l.length - (i + 1) < l.length - i; omega) (subF_spec ⟨rfl, rfl, trivial⟩) rfl (by decide)
 have h29_d := of_decide_eq_false h29_
 refine s_no rfl rfl rfl rfl ?_
 refine s_no rfl rfl rfl rfl ?_
 refine s_no rfl rfl rfl rfl ?_
 refine s_no rfl rfl rfl rfl ?_
 refine s_no rfl rfl rfl rfl ?_
 refine s_v rfl rfl rfl rfl (v_pick rfl rfl rfl rfl) ?_
 refine s_end ?_
 refine q_seq ?_
 refine c_cond0 rfl rfl ?_
 refine c_skip rfl ?_
 refine q_block ?_
 refine q_seq ?_
 refine r_ord (l := [0, 1, 2]) rfl (by kernel_rfl) (by kernel_rfl) ?_
 refine s_v rfl rfl rfl rfl (v_move rfl rfl) ?_
 refine s_v rfl rfl rfl rfl (OpV.cast (v := .int .i64 ((i + 1 : Nat) : Int)) (v_arith rfl rfl rfl rfl) (addN (a := i) (b := 1) (by first | omega | (simp only [List.length_set, swr_len, swp_len]; omega)))) ?_
 refine s_v rfl rfl rfl rfl (v_assign rfl rfl) ?_
 refine s_end ?_
 have htm : timelyB (rd_T48 l (i : Int)) = true := by unfold timelyB; simp_all <;> omega
 exact q_again (i + 1) [3] ⟨by omega, all_next hil hs.2 htm⟩ (by show l.length - (i + 1) < l.length - i; omega) (subF_spec ⟨rfl, rfl, trivial⟩) rfl (by decide)
 refine s_no rfl rfl rfl rfl ?_
 refine s_no rfl rfl rfl rfl ?_
 refine s_no rfl rfl rfl rfl ?_
 refine s_v rfl rfl rfl rfl (v_pick rfl rfl rfl rfl) ?_
 refine s_v rfl rfl rfl rfl (v_move rfl rfl) ?_
 refine s_no rfl rfl rfl rfl ?_
 refine s_no rfl rfl rfl rfl ?_
 refine s_no rfl rfl rfl rfl ?_
 refine s_no rfl rfl rfl rfl ?_
 refine s_no rfl rfl rfl rfl ?_
 refine s_v rfl rfl rfl rfl (v_pick rfl rfl rfl rfl) ?_
 refine s_end ?_
 refine q_seq ?_
 refine c_cond0 rfl rfl ?_
 refine c_skip rfl ?_
 refine q_block ?_
 refine q_seq ?_
 refine r_ord (l := [0, 1, 2]) rfl (by kernel_rfl) (by kernel_rfl) ?_
 refine s_v rfl rfl rfl rfl (v_move rfl rfl) ?_
 refine s_v rfl rfl rfl rfl (OpV.cast (v := .int .i64 ((i + 1 : Nat) : Int)) (v_arith rfl rfl rfl rfl) (addN (a := i) (b := 1) (by first | omega | (simp only [List.length_set, swr_len, swp_len]; omega)))) ?_
 refine s_v rfl rfl rfl rfl (v_assign rfl rfl) ?_
 refine s_end ?_
 have htm : timelyB (rd_T48 l (i : Int)) = true := by unfold timelyB; simp_all <;> omega
 exact q_again (i + 1) [3] ⟨by omega, all_next hil hs.2 htm⟩ (by show l.length - (i + 1) < l.length - i; omega) (subF_spec ⟨rfl, rfl, trivial⟩) rfl (by decide)
 refine s_no rfl rfl rfl rfl ?_
 refine s_no rfl rfl rfl rfl ?_
 refine s_no rfl rfl rfl rfl ?_
 refine s_no rfl rfl rfl rfl ?_
 refine s_no rfl rfl rfl rfl ?_
 refine s_no rfl rfl rfl rfl ?_
 refine s_no rfl rfl rfl rfl ?_
 refine s_no rfl rfl rfl rfl ?_
 refine s_no rfl rfl rfl rfl ?_
 refine s_no rfl rfl rfl rfl ?_
 refine s_no rfl rfl rfl rfl ?_
 refine s_no rfl rfl rfl rfl ?_
 refine s_no rfl rfl rfl rfl ?_
 refine s_no rfl rfl rfl rfl ?_
 refine s_no rfl rfl rfl rfl ?_
 refine s_no rfl rfl rfl rfl ?_
 refine s_no rfl rfl rfl rfl ?_
 refine s_v rfl rfl rfl rfl (v_pick rfl rfl rfl rfl) ?_
 refine s_end ?_
 refine q_seq ?_
 refine c_cond0 rfl rfl ?_
 refine c_skip rfl ?_
 refine q_seq ?_
 refine c_seq rfl ?_
 refine r_ord (l := [0, 1, 2, 3, 4, 5, 6, 7, 8, 9, 10, 11, 12, 13, 14]) rfl (by kernel_rfl) (by kernel_rfl) ?_
 refine s_v rfl rfl rfl rfl (v_fa rfl Try.underlying48 rfl SZ4 rfl) ?_
 refine s_v rfl rfl rfl rfl (v_ld 0 rfl Try.underlying4 rfl rfl rfl rfl) ?_
 refine s_v rfl rfl rfl rfl (v_not rfl rfl) ?_
 refine s_v rfl rfl rfl rfl (v_move rfl rfl) ?_
 refine s_splitv (d := 67) (t := !((rd_T48 l ((i : Nat) : Int)).f5)) rfl (fun h31_ => ?_) (fun h31_ => ?_)
 refine s_vg rfl rfl rfl rfl (v_fa rfl Try.underlying48 rfl SZ3 rfl) ?_
 refine s_vg rfl rfl rfl rfl (v_ld 0 rfl Try.underlying3 rfl rfl rfl rfl) ?_
 refine s_vg rfl rfl rfl rfl (v_arith rfl rfl rfl rfl) ?_
 refine s_v rfl rfl rfl rfl (v_pick rfl rfl rfl rfl) ?_
 refine s_v rfl rfl rfl rfl (v_move rfl rfl) ?_
 refine s_splitv (d := 72) (t := decide (((rd_T48 l ((i : Nat) : Int)).f3 : Int) > 0)) rfl (fun h32_ => ?_) (fun h32_ => ?_)
 have h32_d := of_decide_eq_true h32_
 refine s_vg rfl rfl rfl rfl (v_fa rfl Try.underlying48 rfl SZ3 rfl) ?_
 refine s_vg rfl rfl rfl rfl (v_ld 0 rfl Try.underlying3 rfl rfl rfl rfl) ?_
 refine s_vg rfl rfl rfl rfl (v_fa rfl Try.underlying48 rfl SZ3 rfl) ?_
 refine s_vg rfl rfl rfl rfl (v_ld 0 rfl Try.underlying3 rfl rfl rfl rfl) ?_
 refine s_vg rfl rfl rfl rfl (v_arith rfl rfl rfl rfl) ?_
 refine s_v rfl rfl rfl rfl (v_pick rfl rfl rfl rfl) ?_
 refine s_end ?_
 refine q_seq ?_
 refine c_cond (t := decide (((rd_T48 l ((i : Nat) : Int)).f2 : Int) > ((rd_T48 l ((i : Nat) : Int)).f3))) rfl rfl (fun h33_ => ?_) (fun h33_ => ?_)
 have h33_d := of_decide_eq_true h33_
 refine c_seq rfl ?_
 refine r_ord (l := [0]) rfl (by kernel_rfl) (by kernel_rfl) ?_
 refine s_v rfl rfl rfl rfl (v_assign rfl rfl) ?_
 refine s_end ?_
 refine q_seq ?_
 refine c_ret rfl ?_
 refine q_block_ret ?_
 refine q_then_ret ?_
 refine q_then_ret ?_
 refine q_block_ret ?_
 refine q_then_ret ?_
 refine q_take [] rfl (by decide) ?_
 have htm : timelyB (rd_T48 l (i : Int)) = false := by unfold timelyB; simp_all <;> omega
 have hlg : legalM l = false := (by rw [legalM, all_bad hil htm]; rfl)
 rw [hlg] at hX
 exact q_post rfl (.cons rfl (.nil)) hX
 have h33_d := of_decide_eq_false h33_
 refine c_skip rfl ?_
 refine q_block ?_
 refine q_seq ?_
 refine r_ord (l := [0, 1, 2]) rfl (by kernel_rfl) (by kernel_rfl) ?_
 refine s_v rfl rfl rfl rfl (v_move rfl rfl) ?_
 refine s_v rfl rfl rfl rfl (OpV.cast (v := .int .i64 ((i + 1 : Nat) : Int)) (v_arith rfl rfl rfl rfl) (addN (a := i) (b := 1) (by first | omega | (simp only [List.length_set, swr_len, swp_len]; omega)))) ?_
 refine s_v rfl rfl rfl rfl (v_assign rfl rfl) ?_
 refine s_end ?_
 have htm : timelyB (rd_T48 l (i : Int)) = true := by unfold timelyB; simp_all <;> omega
 exact q_again (i + 1) [3] ⟨by omega, all_next hil hs.2 htm⟩ (by show l.length - (i + 1) < l.length - i; omega) (subF_spec ⟨rfl, rfl, trivial⟩) rfl (by decide)
 have h32_d := of_decide_eq_false h32_
 refine s_no rfl rfl rfl rfl ?_
 refine s_no rfl rfl rfl rfl ?_
 refine s_no rfl rfl rfl rfl ?_
 refine s_no rfl rfl rfl rfl ?_
 refine s_no rfl rfl rfl rfl ?_
 refine s_v rfl rfl rfl rfl (v_pick rfl rfl rfl rfl) ?_
 refine s_end ?_
 refine q_seq ?_
 refine c_cond0 rfl rfl ?_
 refine c_skip rfl ?_
 refine q_block ?_
 refine q_seq ?_
 refine r_ord (l := [0, 1, 2]) rfl (by kernel_rfl) (by kernel_rfl) ?_
 refine s_v rfl rfl rfl rfl (v_move rfl rfl) ?_
 refine s_v rfl rfl rfl rfl (OpV.cast (v := .int .i64 ((i + 1 : Nat) : Int)) (v_arith rfl rfl rfl rfl) (addN (a := i) (b := 1) (by first | omega | (simp only [List.length_set, swr_len, swp_len]; omega)))) ?_
 refine s_v rfl rfl rfl rfl (v_assign rfl rfl) ?_
 refine s_end ?_
 have htm : timelyB (rd_T48 l (i : Int)) = true := by unfold timelyB; simp_all <;> omega
 exact q_again (i + 1) [3] ⟨by omega, all_next hil hs.2 htm⟩ (by show l.length - (i + 1) < l.length - i; omega) (subF_spec ⟨rfl, rfl, trivial⟩) rfl (by decide)
 refine s_no rfl rfl rfl rfl ?_
 refine s_no rfl rfl rfl rfl ?_
 refine s_no rfl rfl rfl rfl ?_
 refine s_v rfl rfl rfl rfl (v_pick rfl rfl rfl rfl) ?_
 refine s_v rfl rfl rfl rfl (v_move rfl rfl) ?_
 refine s_no rfl rfl rfl rfl ?_
 refine s_no rfl rfl rfl rfl ?_
 refine s_no rfl rfl rfl rfl ?_
 refine s_no rfl rfl rfl rfl ?_
 refine s_no rfl rfl rfl rfl ?_
 refine s_v rfl rfl rfl rfl (v_pick rfl rfl rfl rfl) ?_
 refine s_end ?_
 refine q_seq ?_
 refine c_cond0 rfl rfl ?_
 refine c_skip rfl ?_
 refine q_block ?_
 refine q_seq ?_
 refine r_ord (l := [0, 1, 2]) rfl (by kernel_rfl) (by kernel_rfl) ?_
 refine s_v rfl rfl rfl rfl (v_move rfl rfl) ?_
 refine s_v rfl rfl rfl rfl (OpV.cast (v := .int .i64 ((i + 1 : Nat) : Int)) (v_arith rfl rfl rfl rfl) (addN (a := i) (b := 1) (by first | omega | (simp only [List.length_set, swr_len, swp_len]; omega)))) ?_
 refine s_v rfl rfl rfl rfl (v_assign rfl rfl) ?_
 refine s_end ?_
 have htm : timelyB (rd_T48 l (i : Int)) = true := by unfold timelyB; simp_all <;> omega
 exact q_again (i + 1) [3] ⟨by omega, all_next hil hs.2 htm⟩ (by show l.length - (i + 1) < l.length - i; omega) (subF_spec ⟨rfl, rfl, trivial⟩) rfl (by decide)
 have h1_d := of_decide_eq_false h1_
 have hall : l.all timelyB = true := all_of (i := i) (by omega) hs.2
 refine c_exit (i := 0) rfl rfl ?_
 refine q_then_exit ?_
 refine q_then_exit ?_
 refine q_block_here rfl ?_
 refine q_seq ?_
 refine c_seq rfl ?_
 refine r_ord (l := [0, 1, 2]) rfl (by kernel_rfl) (by kernel_rfl) ?_
 refine s_v rfl rfl rfl rfl (v_move rfl rfl) ?_
 refine s_e rfl rfl (e_callF [0] #[.slice A l.length c] rfl rfl rfl rfl rfl Try.func13 rfl (by decide) rfl rfl rfl rfl (fun w ht => rorder_con' A c l (by omega) w _)) ?_
 intro A34_ c35_
 refine s_v rfl rfl rfl rfl (v_assign rfl rfl) ?_
 refine s_end ?_
 refine q_seq ?_
 refine c_seq rfl ?_
 refine r_ord (l := [0]) rfl (by kernel_rfl) (by kernel_rfl) ?_
 refine s_v rfl rfl rfl rfl (v_assign rfl rfl) ?_
 refine s_end ?_
 refine q_seq ?_
 refine c_seq rfl ?_
 refine c_seq rfl ?_
 refine r_ord (l := [0]) rfl (by kernel_rfl) (by kernel_rfl) ?_
 refine s_v rfl rfl rfl rfl (v_assign rfl rfl) ?_
 refine s_end ?_
 refine q_seq ?_
 refine c_block rfl ?_
 refine c_knowT (KC_nil k61) ?_
 refine c_loop (σ := (Nat × List S56 × Option Addr × Nat)) (fun s : (Nat × List S56 × Option Addr × Nat) => match s with | (j, m, B, d) => j ≤ (ordL l).length ∧ Srt m ∧ m.length ≤ j ∧ rep l ((ordL l).drop j) m (lastK l j) = rep l (ordL l) [] 0) (fun s : (Nat × List S56 × Option Addr × Nat) => match s with | (j, m, B, d) => (ordL l).length - j) (fun s : (Nat × List S56 × Option Addr × Nat) => match s with | (j, m, B, d) => [(0, .slice A l.length c), (5, .slice A34_ ((ordL l).length) c35_), (7, .int .i64 ((j : Nat) : Int)), (6, .slice B ((m.map old).length) d)]) (fun s : (Nat × List S56 × Option Addr × Nat) => match s with | (j, m, B, d) => [.f (KC k61 B d (m.map old)), .f (KC k48 A c l), .f (KC (Kd.int .i64) A34_ c35_ (ordL l))]) (0, [], none, 0) [0, 2, 1] rfl ⟨Nat.zero_le _, List.Pairwise.nil, Nat.le_refl _, rfl⟩ (subF_spec ⟨rfl, rfl, rfl, rfl, trivial⟩) rfl (by decide) ?_
 rintro ⟨j, m, B, d⟩ hs
 have hs_ : j ≤ (ordL l).length ∧ Srt m ∧ m.length ≤ j ∧ rep l ((ordL l).drop j) m (lastK l j) = rep l (ordL l) [] 0 := hs
 have hol := ordL_len l
 have hj_ := hs_.1
 have hm_ := hs_.2.2.1
 refine c_seq rfl ?_
 refine c_seq rfl ?_
 refine r_ord (l := [0, 1, 2, 3]) rfl (by kernel_rfl) (by kernel_rfl) ?_
 refine s_v rfl rfl rfl rfl (v_move rfl rfl) ?_
 refine s_v rfl rfl rfl rfl (v_move rfl rfl) ?_
 refine s_v rfl rfl rfl rfl (v_len rfl rfl rfl Try.underlying25 rfl rfl) ?_
 refine s_v rfl rfl rfl rfl (v_arith rfl rfl rfl rfl) ?_
 refine s_end ?_
 refine q_seq ?_
 refine c_cond (t := decide ((((j : Nat) : Int) : Int) < ((ordL l).length : Nat))) rfl rfl (fun h36_ => ?_) (fun h36_ => ?_)
 have h36_d := of_decide_eq_true h36_
 have hjl : j < (ordL l).length := by omega
 have hat := ord_at hjl
 have hml : m.length ≤ 1000 := by have := hs_.2.2.1; omega
 have hrp := rep_at hjl m (lastK l j)
 have hpos := ord_pos hjl
 refine c_skip rfl ?_
 refine q_seq ?_
 refine c_seq rfl ?_
 refine c_block rfl ?_
 refine c_seq rfl ?_
 refine r_ord (l := [0, 1, 2, 3, 4, 5, 6, 7, 8]) rfl (by kernel_rfl) (by kernel_rfl) ?_
 refine s_v rfl rfl rfl rfl (v_move rfl rfl) ?_
 refine s_v rfl rfl rfl rfl (v_move rfl rfl) ?_
 refine s_v rfl rfl rfl rfl (v_move rfl rfl) ?_
 refine s_v rfl rfl rfl rfl (v_iaK (i := 2) rfl Try.underlying25 SZ3 rfl rfl rfl rfl (by omega) (by omega)) ?_
 refine s_v rfl rfl rfl rfl (v_ldK (v := .int .i64 (rd (ordL l) ((j : Nat) : Int))) 0 2 rfl Try.underlying3 rfl rfl rfl rfl (by omega) (by omega) (fun w K h => h)) ?_
 refine s_v rfl rfl rfl rfl (v_iaK (i := 1) rfl Try.underlying22 SZ48 rfl rfl rfl rfl (by omega) (by omega)) ?_
 refine s_e rfl rfl (e_ldKX z48 1 rfl rfl rfl Try.underlying48 rfl SZ48 rfl rfl rfl (by omega) (by omega)) ?_
 intro cs37_ h38_
 refine s_know 0 rfl (fun w h => k48_sh h) (fun h39_ => ?_)
 obtain ⟨A40_, c41_, rfl⟩ := h39_
 refine s_weak 0 rfl (fun w h => k48_row h) ?_
 refine s_e rfl rfl (e_alloc rfl rfl rfl ZR48) ?_
 intro b42_
 refine s_e rfl rfl (e_stA 0 rfl rfl SZ48 rfl rfl rfl rfl rfl rfl) ?_
 refine s_end ?_
 refine q_seq ?_
 refine c_seq rfl ?_
 refine c_seq rfl ?_
 refine r_any [.b b42_ (.cells #[.int .i64 ((rd_T48 l (rd (ordL l) ((j : Nat) : Int))).f0), .int .i64 ((rd_T48 l (rd (ordL l) ((j : Nat) : Int))).f1.f0), .int .u64 ((rd_T48 l (rd (ordL l) ((j : Nat) : Int))).f1.f1), .int .u64 ((rd_T48 l (rd (ordL l) ((j : Nat) : Int))).f1.f2), .int .i64 ((rd_T48 l (rd (ordL l) ((j : Nat) : Int))).f1.f3), .int .i64 ((rd_T48 l (rd (ordL l) ((j : Nat) : Int))).f1.f4), .int .i64 ((rd_T48 l (rd (ordL l) ((j : Nat) : Int))).f2), .int .i64 ((rd_T48 l (rd (ordL l) ((j : Nat) : Int))).f3), .int .i64 ((rd_T48 l (rd (ordL l) ((j : Nat) : Int))).f4), .bool ((rd_T48 l (rd (ordL l) ((j : Nat) : Int))).f5), .bool ((rd_T48 l (rd (ordL l) ((j : Nat) : Int))).f6.f0), .bool ((rd_T48 l (rd (ordL l) ((j : Nat) : Int))).f6.f1), .int .u64 ((rd_T48 l (rd (ordL l) ((j : Nat) : Int))).f6.f2), .slice A40_ ((rd_T48 l (rd (ordL l) ((j : Nat) : Int))).f6.f3.length) c41_] 48 (0, 0)), .f (KC (Kd.int .u64) A40_ c41_ ((rd_T48 l (rd (ordL l) ((j : Nat) : Int))).f6.f3)), .f (fun w => k48.K w (l.getD (rd (ordL l) ((j : Nat) : Int)).toNat z48) (cellsE (rd_T48 l (rd (ordL l) ((j : Nat) : Int))) A40_ c41_)), .f (KC k61 B d (m.map old)), .f (KC k48 A c l), .f (KC (Kd.int .i64) A34_ c35_ (ordL l))] (by kernel_rfl) rfl (by kernel_rfl) (mem_pick (idx := [0, 1, 2, 3, 4, 5]) rfl) ?_
 refine a_v 0 rfl (by kernel_rfl) (by kernel_rfl) (by kernel_rfl) rfl rfl rfl (v_move rfl rfl) ?_
 refine a_v 1 rfl (by kernel_rfl) (by kernel_rfl) (by kernel_rfl) rfl rfl rfl (v_arith rfl rfl rfl rfl) ?_
 refine a_v 2 rfl (by kernel_rfl) (by kernel_rfl) (by kernel_rfl) rfl rfl rfl (v_move rfl rfl) ?_
 refine a_splitv (d := 96) (t := decide ((((j : Nat) : Int) : Int) > 0)) rfl (fun h43_ => ?_) (fun h43_ => ?_)
 have h43_d := of_decide_eq_true h43_
 have hj0 : 0 < j := by omega
 have hat1 := ord_at (l := l) (j := j - 1) (by omega)
 refine a_v 3 rfl (by kernel_rfl) (by kernel_rfl) (by kernel_rfl) rfl rfl rfl (v_move rfl rfl) ?_
 refine a_v 4 rfl (by kernel_rfl) (by kernel_rfl) (by kernel_rfl) rfl rfl rfl (v_move rfl rfl) ?_
 refine a_v 5 rfl (by kernel_rfl) (by kernel_rfl) (by kernel_rfl) rfl rfl rfl (v_move rfl rfl) ?_
 refine a_v 6 rfl (by kernel_rfl) (by kernel_rfl) (by kernel_rfl) rfl rfl rfl (OpV.cast (v := .int .i64 ((j - 1 : Nat) : Int)) (v_arith rfl rfl rfl rfl) (subN (a := j) (b := 1) (by first | omega | (simp only [List.length_set, swr_len, swp_len]; omega)) (by first | omega | (simp only [List.length_set, swr_len, swp_len]; omega)))) ?_
 refine a_v 7 rfl (by kernel_rfl) (by kernel_rfl) (by kernel_rfl) rfl rfl rfl (v_iaK (i := 5) rfl Try.underlying25 SZ3 rfl rfl rfl rfl (by omega) (by omega)) ?_
 refine a_v 8 rfl (by kernel_rfl) (by kernel_rfl) (by kernel_rfl) rfl rfl rfl (v_ldK (v := .int .i64 (rd (ordL l) ((j - 1 : Nat) : Int))) 0 5 rfl Try.underlying3 rfl rfl rfl rfl (by omega) (by omega) (fun w K h => h)) ?_
 refine a_v 9 rfl (by kernel_rfl) (by kernel_rfl) (by kernel_rfl) rfl rfl rfl (v_iaK (i := 4) rfl Try.underlying22 SZ48 rfl rfl rfl rfl (by omega) (by omega)) ?_
 refine a_v 10 rfl (by kernel_rfl) (by kernel_rfl) (by kernel_rfl) rfl rfl rfl (v_fax rfl Try.underlying48 rfl SZ3 rfl) ?_
 refine a_v 11 rfl (by kernel_rfl) (by kernel_rfl) (by kernel_rfl) rfl rfl rfl (v_ldKq (v := .int .i64 (rd_T48 l (rd (ordL l) ((j - 1 : Nat) : Int))).f3) z48 4 rfl Try.underlying3 rfl rfl rfl rfl (by omega) (by omega) (fun w K h => k48_at7 h)) ?_
 refine a_v 12 rfl (by kernel_rfl) (by kernel_rfl) (by kernel_rfl) rfl rfl rfl (v_fa rfl Try.underlying48 rfl SZ3 rfl) ?_
 refine a_v 13 rfl (by kernel_rfl) (by kernel_rfl) (by kernel_rfl) rfl rfl rfl (v_ld 0 rfl Try.underlying3 rfl rfl rfl rfl) ?_
 refine a_v 14 rfl (by kernel_rfl) (by kernel_rfl) (by kernel_rfl) rfl rfl rfl (v_arith rfl rfl rfl rfl) ?_
 refine a_v 15 rfl (by kernel_rfl) (by kernel_rfl) (by kernel_rfl) rfl rfl rfl (v_pick rfl rfl rfl rfl) ?_
 refine a_end (by kernel_rfl) ?_
 refine q_seq ?_
 refine c_cond (t := ((rd_T48 l (rd (ordL l) ((j - 1 : Nat) : Int))).f3 : Int) == ((rd_T48 l (rd (ordL l) ((j : Nat) : Int))).f3)) rfl rfl (fun h44_ => ?_) (fun h44_ => ?_)
 have hend : rep l (ordL l) [] 0 = false := by rw [← hs_.2.2.2, hrp, if_pos (lastK_eq hj0 (by simpa using h44_))]
 have h44_d : (rd_T48 l (rd (ordL l) ((j - 1 : Nat) : Int))).f3 = ((rd_T48 l (rd (ordL l) ((j : Nat) : Int))).f3) := by simpa using h44_
 refine c_seq rfl ?_
 refine r_ord (l := [0]) rfl (by kernel_rfl) (by kernel_rfl) ?_
 refine s_v rfl rfl rfl rfl (v_assign rfl rfl) ?_
 refine s_end ?_
 refine q_seq ?_
 refine c_ret rfl ?_
 refine q_then_ret ?_
 refine q_block_ret ?_
 refine q_then_ret ?_
 refine q_then_ret ?_
 refine q_block_ret ?_
 refine q_then_ret ?_
 refine q_take [] rfl (by decide) ?_
 have hlg : legalM l = false := (by rw [legalM, hall, hend]; rfl)
 rw [hlg] at hX
 exact q_post rfl (.cons rfl (.nil)) hX
 have hne : ¬ keyA l (rd (ordL l) (j : Int)) = lastK l j := lastK_ne hj0 (by simpa using h44_)
 have h44_d : (rd_T48 l (rd (ordL l) ((j - 1 : Nat) : Int))).f3 ≠ ((rd_T48 l (rd (ordL l) ((j : Nat) : Int))).f3) := by simpa using h44_
 refine c_skip rfl ?_
 refine q_seq ?_
 refine c_seq rfl ?_
 refine r_ord (l := [0, 1, 2, 3, 4, 5, 6, 7, 8, 9]) rfl (by kernel_rfl) (by kernel_rfl) ?_
 refine s_v rfl rfl rfl rfl (v_move rfl rfl) ?_
 refine s_v rfl rfl rfl rfl (v_fa rfl Try.underlying48 rfl SZ43 rfl) ?_
 refine s_v rfl rfl rfl rfl (v_ldA [.int .i64 ((rd_T48 l (rd (ordL l) ((j : Nat) : Int))).f1.f0), .int .u64 ((rd_T48 l (rd (ordL l) ((j : Nat) : Int))).f1.f1), .int .u64 ((rd_T48 l (rd (ordL l) ((j : Nat) : Int))).f1.f2), .int .i64 ((rd_T48 l (rd (ordL l) ((j : Nat) : Int))).f1.f3), .int .i64 ((rd_T48 l (rd (ordL l) ((j : Nat) : Int))).f1.f4)] 0 rfl Try.underlying43 rfl SZ43 rfl rfl rfl rfl) ?_
 obtain ⟨m1, q0, q1, q2, q3, hD⟩ : ∃ m1 q0 q1 q2 q3, Dm m ((rd_T48 l (rd (ordL l) ((j : Nat) : Int))).f1.f0) ((rd_T48 l (rd (ordL l) ((j : Nat) : Int))).f1.f1) ((rd_T48 l (rd (ordL l) ((j : Nat) : Int))).f1.f2) ((rd_T48 l (rd (ordL l) ((j : Nat) : Int))).f1.f3) = (m1, q0, q1, q2, q3) := ⟨_, _, _, _, _, rfl⟩
 have hDf := Dm_facts hs_.2.1 hD
 refine s_e rfl rfl (e_callF [3] #[.slice B ((m.map old).length) d, .agg #[.int .i64 ((rd_T48 l (rd (ordL l) ((j : Nat) : Int))).f1.f0), .int .u64 ((rd_T48 l (rd (ordL l) ((j : Nat) : Int))).f1.f1), .int .u64 ((rd_T48 l (rd (ordL l) ((j : Nat) : Int))).f1.f2), .int .i64 ((rd_T48 l (rd (ordL l) ((j : Nat) : Int))).f1.f3), .int .i64 ((rd_T48 l (rd (ordL l) ((j : Nat) : Int))).f1.f4)]] rfl rfl rfl rfl rfl Try.func31 rfl (by decide) rfl rfl rfl rfl (fun w ht => rdo_conr B d m ((rd_T48 l (rd (ordL l) ((j : Nat) : Int))).f1.f0) ((rd_T48 l (rd (ordL l) ((j : Nat) : Int))).f1.f1) ((rd_T48 l (rd (ordL l) ((j : Nat) : Int))).f1.f2) ((rd_T48 l (rd (ordL l) ((j : Nat) : Int))).f1.f3) ((rd_T48 l (rd (ordL l) ((j : Nat) : Int))).f1.f4) hs_.2.1 hml m1 q0 q1 q2 q3 hD w _)) ?_
 intro A45_ c46_ A47_ c48_
 refine s_v rfl rfl rfl rfl (v_move rfl rfl) ?_
 refine s_v rfl rfl rfl rfl (v_ext rfl rfl rfl) ?_
 refine s_v rfl rfl rfl rfl (v_ext rfl rfl rfl) ?_
 refine s_e rfl rfl (e_alloc rfl rfl rfl ZR46) ?_
 intro b49_
 refine s_v rfl rfl rfl rfl (v_assign rfl rfl) ?_
 refine s_e rfl rfl (e_stA 0 rfl rfl SZ46 rfl rfl rfl rfl rfl rfl) ?_
 refine s_end ?_
 refine q_seq ?_
 refine c_seq rfl ?_
 refine c_seq rfl ?_
 refine r_ord (l := [0, 1, 2, 3, 4, 5, 6, 7, 8]) rfl (by kernel_rfl) (by kernel_rfl) ?_
 refine s_v rfl rfl rfl rfl (v_fa rfl Try.underlying48 rfl SZ4 rfl) ?_
 refine s_v rfl rfl rfl rfl (v_ld 3 rfl Try.underlying4 rfl rfl rfl rfl) ?_
 refine s_v rfl rfl rfl rfl (v_move rfl rfl) ?_
 refine s_splitv (d := 119) (t := (rd_T48 l (rd (ordL l) ((j : Nat) : Int))).f5) rfl (fun h50_ => ?_) (fun h50_ => ?_)
 refine s_vg rfl rfl rfl rfl (v_fa rfl Try.underlying48 rfl SZ46 rfl) ?_
 refine s_vg rfl rfl rfl rfl (v_ldA [.bool ((rd_T48 l (rd (ordL l) ((j : Nat) : Int))).f6.f0), .bool ((rd_T48 l (rd (ordL l) ((j : Nat) : Int))).f6.f1), .int .u64 ((rd_T48 l (rd (ordL l) ((j : Nat) : Int))).f6.f2), .slice A40_ ((rd_T48 l (rd (ordL l) ((j : Nat) : Int))).f6.f3.length) c41_] 3 rfl Try.underlying46 rfl SZ46 rfl rfl rfl rfl) ?_
 refine s_vg rfl rfl rfl rfl (v_ldA [.bool q0, .bool q1, .int .u64 q2, .slice A47_ q3.length c48_] 0 rfl Try.underlying46 rfl SZ46 rfl rfl rfl rfl) ?_
 refine s_eg rfl rfl (e_callK (fun z : Unit => .bool (sameB ((rd_T48 l (rd (ordL l) ((j : Nat) : Int))).f6.f0) ((rd_T48 l (rd (ordL l) ((j : Nat) : Int))).f6.f1) ((rd_T48 l (rd (ordL l) ((j : Nat) : Int))).f6.f2) ((rd_T48 l (rd (ordL l) ((j : Nat) : Int))).f6.f3) q0 q1 q2 q3)) (fun z => []) #[.agg #[.bool ((rd_T48 l (rd (ordL l) ((j : Nat) : Int))).f6.f0), .bool ((rd_T48 l (rd (ordL l) ((j : Nat) : Int))).f6.f1), .int .u64 ((rd_T48 l (rd (ordL l) ((j : Nat) : Int))).f6.f2), .slice A40_ ((rd_T48 l (rd (ordL l) ((j : Nat) : Int))).f6.f3.length) c41_], .agg #[.bool q0, .bool q1, .int .u64 q2, .slice A47_ q3.length c48_]] rfl rfl rfl rfl rfl Try.func34 rfl (by decide) rfl rfl (fun w ht => stepstoneref07_Same.con 5000 _ _ _ _ _ _ _ _ _ _ _ _ _ (refSame_f ((rd_T48 l (rd (ordL l) ((j : Nat) : Int))).f6.f0) ((rd_T48 l (rd (ordL l) ((j : Nat) : Int))).f6.f1) ((rd_T48 l (rd (ordL l) ((j : Nat) : Int))).f6.f2) ((rd_T48 l (rd (ordL l) ((j : Nat) : Int))).f6.f3) q0 q1 q2 q3 (by have := hK _ (el_mem2 hat); omega) 5000 (by omega)) w (Tri.fact ht 4 rfl) (Tri.fact ht 2 rfl))) ?_
 intro z51_
 refine s_vg rfl rfl rfl rfl (v_not rfl rfl) ?_
 refine s_v rfl rfl rfl rfl (v_pick rfl rfl rfl rfl) ?_
 refine s_end ?_
 refine q_seq ?_
 refine c_cond (t := !(sameB ((rd_T48 l (rd (ordL l) ((j : Nat) : Int))).f6.f0) ((rd_T48 l (rd (ordL l) ((j : Nat) : Int))).f6.f1) ((rd_T48 l (rd (ordL l) ((j : Nat) : Int))).f6.f2) ((rd_T48 l (rd (ordL l) ((j : Nat) : Int))).f6.f3) q0 q1 q2 q3)) rfl rfl (fun h52_ => ?_) (fun h52_ => ?_)
 have hend : rep l (ordL l) [] 0 = false := by rw [← hs_.2.2.2, hrp, if_neg hne, if_pos ⟨h50_, by unfold told sameT; rw [hD]; simpa using h52_⟩]
 refine c_seq rfl ?_
 refine r_ord (l := [0]) rfl (by kernel_rfl) (by kernel_rfl) ?_
 refine s_v rfl rfl rfl rfl (v_assign rfl rfl) ?_
 refine s_end ?_
 refine q_seq ?_
 refine c_ret rfl ?_
 refine q_then_ret ?_
 refine q_block_ret ?_
 refine q_then_ret ?_
 refine q_then_ret ?_
 refine q_block_ret ?_
 refine q_then_ret ?_
 refine q_take [] rfl (by decide) ?_
 have hlg : legalM l = false := (by rw [legalM, hall, hend]; rfl)
 rw [hlg] at hX
 exact q_post rfl (.cons rfl (.nil)) hX
 refine c_skip rfl ?_
 refine q_seq ?_
 refine r_ord (l := [0, 1]) rfl (by kernel_rfl) (by kernel_rfl) ?_
 refine s_v rfl rfl rfl rfl (v_move rfl rfl) ?_
 refine s_v rfl rfl rfl rfl (v_assign rfl rfl) ?_
 refine s_end ?_
 refine q_block ?_
 refine q_seq ?_
 refine r_ord (l := [0, 1, 2]) rfl (by kernel_rfl) (by kernel_rfl) ?_
 refine s_v rfl rfl rfl rfl (v_move rfl rfl) ?_
 refine s_v rfl rfl rfl rfl (OpV.cast (v := .int .i64 ((j + 1 : Nat) : Int)) (v_arith rfl rfl rfl rfl) (addN (a := j) (b := 1) (by first | omega | (simp only [List.length_set, swr_len, swp_len]; omega)))) ?_
 refine s_v rfl rfl rfl rfl (v_assign rfl rfl) ?_
 refine s_end ?_
 have hnx : rep l ((ordL l).drop (j + 1)) m1 (lastK l (j + 1)) = rep l (ordL l) [] 0 := by rw [← hs_.2.2.2, hrp, if_neg hne, if_neg (fun h => by have h_ := h.2; unfold told sameT at h_; rw [hD] at h_; simp_all), lastK_succ]; unfold doE; rw [hD]
 exact q_again (j + 1, m1, A45_, c46_) [1, 7, 8] ⟨by omega, hDf.1, by have := hDf.2.1; omega, hnx⟩ (by dsimp only; omega) (subF_spec ⟨rfl, rfl, rfl, rfl, trivial⟩) rfl (by decide)
 refine s_no rfl rfl rfl rfl ?_
 refine s_no rfl rfl rfl rfl ?_
 refine s_no rfl rfl rfl rfl ?_
 refine s_no rfl rfl rfl rfl ?_
 refine s_no rfl rfl rfl rfl ?_
 refine s_v rfl rfl rfl rfl (v_pick rfl rfl rfl rfl) ?_
 refine s_end ?_
 refine q_seq ?_
 refine c_cond0 rfl rfl ?_
 refine c_skip rfl ?_
 refine q_seq ?_
 refine r_ord (l := [0, 1]) rfl (by kernel_rfl) (by kernel_rfl) ?_
 refine s_v rfl rfl rfl rfl (v_move rfl rfl) ?_
 refine s_v rfl rfl rfl rfl (v_assign rfl rfl) ?_
 refine s_end ?_
 refine q_block ?_
 refine q_seq ?_
 refine r_ord (l := [0, 1, 2]) rfl (by kernel_rfl) (by kernel_rfl) ?_
 refine s_v rfl rfl rfl rfl (v_move rfl rfl) ?_
 refine s_v rfl rfl rfl rfl (OpV.cast (v := .int .i64 ((j + 1 : Nat) : Int)) (v_arith rfl rfl rfl rfl) (addN (a := j) (b := 1) (by first | omega | (simp only [List.length_set, swr_len, swp_len]; omega)))) ?_
 refine s_v rfl rfl rfl rfl (v_assign rfl rfl) ?_
 refine s_end ?_
 have hnx : rep l ((ordL l).drop (j + 1)) m1 (lastK l (j + 1)) = rep l (ordL l) [] 0 := by rw [← hs_.2.2.2, hrp, if_neg hne, if_neg (fun h => by have h_ := h.1; rw [h50_] at h_; cases h_), lastK_succ]; unfold doE; rw [hD]
 exact q_again (j + 1, m1, A45_, c46_) [1, 7, 8] ⟨by omega, hDf.1, by have := hDf.2.1; omega, hnx⟩ (by dsimp only; omega) (subF_spec ⟨rfl, rfl, rfl, rfl, trivial⟩) rfl (by decide)
 have h43_d := of_decide_eq_false h43_
 have hne : ¬ keyA l (rd (ordL l) (j : Int)) = lastK l j := by unfold lastK; rw [if_pos (by omega)]; omega
 refine a_no 3 rfl (by kernel_rfl) (by kernel_rfl) (by kernel_rfl) rfl rfl rfl ?_
 refine a_no 4 rfl (by kernel_rfl) (by kernel_rfl) (by kernel_rfl) rfl rfl rfl ?_
 refine a_no 5 rfl (by kernel_rfl) (by kernel_rfl) (by kernel_rfl) rfl rfl rfl ?_
 refine a_no 6 rfl (by kernel_rfl) (by kernel_rfl) (by kernel_rfl) rfl rfl rfl ?_
 refine a_no 7 rfl (by kernel_rfl) (by kernel_rfl) (by kernel_rfl) rfl rfl rfl ?_
 refine a_no 8 rfl (by kernel_rfl) (by kernel_rfl) (by kernel_rfl) rfl rfl rfl ?_
 refine a_no 9 rfl (by kernel_rfl) (by kernel_rfl) (by kernel_rfl) rfl rfl rfl ?_
 refine a_no 10 rfl (by kernel_rfl) (by kernel_rfl) (by kernel_rfl) rfl rfl rfl ?_
 refine a_no 11 rfl (by kernel_rfl) (by kernel_rfl) (by kernel_rfl) rfl rfl rfl ?_
 refine a_no 12 rfl (by kernel_rfl) (by kernel_rfl) (by kernel_rfl) rfl rfl rfl ?_
 refine a_no 13 rfl (by kernel_rfl) (by kernel_rfl) (by kernel_rfl) rfl rfl rfl ?_
 refine a_no 14 rfl (by kernel_rfl) (by kernel_rfl) (by kernel_rfl) rfl rfl rfl ?_
 refine a_v 15 rfl (by kernel_rfl) (by kernel_rfl) (by kernel_rfl) rfl rfl rfl (v_pick rfl rfl rfl rfl) ?_
 refine a_end (by kernel_rfl) ?_
 refine q_seq ?_
 refine c_cond0 rfl rfl ?_
 refine c_skip rfl ?_
 refine q_seq ?_
 refine c_seq rfl ?_
 refine r_ord (l := [0, 1, 2, 3, 4, 5, 6, 7, 8, 9]) rfl (by kernel_rfl) (by kernel_rfl) ?_
 refine s_v rfl rfl rfl rfl (v_move rfl rfl) ?_
 refine s_v rfl rfl rfl rfl (v_fa rfl Try.underlying48 rfl SZ43 rfl) ?_
 refine s_v rfl rfl rfl rfl (v_ldA [.int .i64 ((rd_T48 l (rd (ordL l) ((j : Nat) : Int))).f1.f0), .int .u64 ((rd_T48 l (rd (ordL l) ((j : Nat) : Int))).f1.f1), .int .u64 ((rd_T48 l (rd (ordL l) ((j : Nat) : Int))).f1.f2), .int .i64 ((rd_T48 l (rd (ordL l) ((j : Nat) : Int))).f1.f3), .int .i64 ((rd_T48 l (rd (ordL l) ((j : Nat) : Int))).f1.f4)] 0 rfl Try.underlying43 rfl SZ43 rfl rfl rfl rfl) ?_
 obtain ⟨m1, q0, q1, q2, q3, hD⟩ : ∃ m1 q0 q1 q2 q3, Dm m ((rd_T48 l (rd (ordL l) ((j : Nat) : Int))).f1.f0) ((rd_T48 l (rd (ordL l) ((j : Nat) : Int))).f1.f1) ((rd_T48 l (rd (ordL l) ((j : Nat) : Int))).f1.f2) ((rd_T48 l (rd (ordL l) ((j : Nat) : Int))).f1.f3) = (m1, q0, q1, q2, q3) := ⟨_, _, _, _, _, rfl⟩
 have hDf := Dm_facts hs_.2.1 hD
 refine s_e rfl rfl (e_callF [3] #[.slice B ((m.map old).length) d, .agg #[.int .i64 ((rd_T48 l (rd (ordL l) ((j : Nat) : Int))).f1.f0), .int .u64 ((rd_T48 l (rd (ordL l) ((j : Nat) : Int))).f1.f1), .int .u64 ((rd_T48 l (rd (ordL l) ((j : Nat) : Int))).f1.f2), .int .i64 ((rd_T48 l (rd (ordL l) ((j : Nat) : Int))).f1.f3), .int .i64 ((rd_T48 l (rd (ordL l) ((j : Nat) : Int))).f1.f4)]] rfl rfl rfl rfl rfl Try.func31 rfl (by decide) rfl rfl rfl rfl (fun w ht => rdo_conr B d m ((rd_T48 l (rd (ordL l) ((j : Nat) : Int))).f1.f0) ((rd_T48 l (rd (ordL l) ((j : Nat) : Int))).f1.f1) ((rd_T48 l (rd (ordL l) ((j : Nat) : Int))).f1.f2) ((rd_T48 l (rd (ordL l) ((j : Nat) : Int))).f1.f3) ((rd_T48 l (rd (ordL l) ((j : Nat) : Int))).f1.f4) hs_.2.1 hml m1 q0 q1 q2 q3 hD w _)) ?_
 intro A53_ c54_ A55_ c56_
 refine s_v rfl rfl rfl rfl (v_move rfl rfl) ?_
 refine s_v rfl rfl rfl rfl (v_ext rfl rfl rfl) ?_
 refine s_v rfl rfl rfl rfl (v_ext rfl rfl rfl) ?_
 refine s_e rfl rfl (e_alloc rfl rfl rfl ZR46) ?_
 intro b57_
 refine s_v rfl rfl rfl rfl (v_assign rfl rfl) ?_
 refine s_e rfl rfl (e_stA 0 rfl rfl SZ46 rfl rfl rfl rfl rfl rfl) ?_
 refine s_end ?_
 refine q_seq ?_
 refine c_seq rfl ?_
 refine c_seq rfl ?_
 refine r_ord (l := [0, 1, 2, 3, 4, 5, 6, 7, 8]) rfl (by kernel_rfl) (by kernel_rfl) ?_
 refine s_v rfl rfl rfl rfl (v_fa rfl Try.underlying48 rfl SZ4 rfl) ?_
 refine s_v rfl rfl rfl rfl (v_ld 3 rfl Try.underlying4 rfl rfl rfl rfl) ?_
 refine s_v rfl rfl rfl rfl (v_move rfl rfl) ?_
 refine s_splitv (d := 119) (t := (rd_T48 l (rd (ordL l) ((j : Nat) : Int))).f5) rfl (fun h58_ => ?_) (fun h58_ => ?_)
 refine s_vg rfl rfl rfl rfl (v_fa rfl Try.underlying48 rfl SZ46 rfl) ?_
 refine s_vg rfl rfl rfl rfl (v_ldA [.bool ((rd_T48 l (rd (ordL l) ((j : Nat) : Int))).f6.f0), .bool ((rd_T48 l (rd (ordL l) ((j : Nat) : Int))).f6.f1), .int .u64 ((rd_T48 l (rd (ordL l) ((j : Nat) : Int))).f6.f2), .slice A40_ ((rd_T48 l (rd (ordL l) ((j : Nat) : Int))).f6.f3.length) c41_] 3 rfl Try.underlying46 rfl SZ46 rfl rfl rfl rfl) ?_
 refine s_vg rfl rfl rfl rfl (v_ldA [.bool q0, .bool q1, .int .u64 q2, .slice A55_ q3.length c56_] 0 rfl Try.underlying46 rfl SZ46 rfl rfl rfl rfl) ?_
 refine s_eg rfl rfl (e_callK (fun z : Unit => .bool (sameB ((rd_T48 l (rd (ordL l) ((j : Nat) : Int))).f6.f0) ((rd_T48 l (rd (ordL l) ((j : Nat) : Int))).f6.f1) ((rd_T48 l (rd (ordL l) ((j : Nat) : Int))).f6.f2) ((rd_T48 l (rd (ordL l) ((j : Nat) : Int))).f6.f3) q0 q1 q2 q3)) (fun z => []) #[.agg #[.bool ((rd_T48 l (rd (ordL l) ((j : Nat) : Int))).f6.f0), .bool ((rd_T48 l (rd (ordL l) ((j : Nat) : Int))).f6.f1), .int .u64 ((rd_T48 l (rd (ordL l) ((j : Nat) : Int))).f6.f2), .slice A40_ ((rd_T48 l (rd (ordL l) ((j : Nat) : Int))).f6.f3.length) c41_], .agg #[.bool q0, .bool q1, .int .u64 q2, .slice A55_ q3.length c56_]] rfl rfl rfl rfl rfl Try.func34 rfl (by decide) rfl rfl (fun w ht => stepstoneref07_Same.con 5000 _ _ _ _ _ _ _ _ _ _ _ _ _ (refSame_f ((rd_T48 l (rd (ordL l) ((j : Nat) : Int))).f6.f0) ((rd_T48 l (rd (ordL l) ((j : Nat) : Int))).f6.f1) ((rd_T48 l (rd (ordL l) ((j : Nat) : Int))).f6.f2) ((rd_T48 l (rd (ordL l) ((j : Nat) : Int))).f6.f3) q0 q1 q2 q3 (by have := hK _ (el_mem2 hat); omega) 5000 (by omega)) w (Tri.fact ht 4 rfl) (Tri.fact ht 2 rfl))) ?_
 intro z59_
 refine s_vg rfl rfl rfl rfl (v_not rfl rfl) ?_
 refine s_v rfl rfl rfl rfl (v_pick rfl rfl rfl rfl) ?_
 refine s_end ?_
 refine q_seq ?_
 refine c_cond (t := !(sameB ((rd_T48 l (rd (ordL l) ((j : Nat) : Int))).f6.f0) ((rd_T48 l (rd (ordL l) ((j : Nat) : Int))).f6.f1) ((rd_T48 l (rd (ordL l) ((j : Nat) : Int))).f6.f2) ((rd_T48 l (rd (ordL l) ((j : Nat) : Int))).f6.f3) q0 q1 q2 q3)) rfl rfl (fun h60_ => ?_) (fun h60_ => ?_)
 have hend : rep l (ordL l) [] 0 = false := by rw [← hs_.2.2.2, hrp, if_neg hne, if_pos ⟨h58_, by unfold told sameT; rw [hD]; simpa using h60_⟩]
 refine c_seq rfl ?_
 refine r_ord (l := [0]) rfl (by kernel_rfl) (by kernel_rfl) ?_
 refine s_v rfl rfl rfl rfl (v_assign rfl rfl) ?_
 refine s_end ?_
 refine q_seq ?_
 refine c_ret rfl ?_
 refine q_then_ret ?_
 refine q_block_ret ?_
 refine q_then_ret ?_
 refine q_then_ret ?_
 refine q_block_ret ?_
 refine q_then_ret ?_
 refine q_take [] rfl (by decide) ?_
 have hlg : legalM l = false := (by rw [legalM, hall, hend]; rfl)
 rw [hlg] at hX
 exact q_post rfl (.cons rfl (.nil)) hX
 refine c_skip rfl ?_
 refine q_seq ?_
 refine r_ord (l := [0, 1]) rfl (by kernel_rfl) (by kernel_rfl) ?_
 refine s_v rfl rfl rfl rfl (v_move rfl rfl) ?_
 refine s_v rfl rfl rfl rfl (v_assign rfl rfl) ?_
 refine s_end ?_
 refine q_block ?_
 refine q_seq ?_
 refine r_ord (l := [0, 1, 2]) rfl (by kernel_rfl) (by kernel_rfl) ?_
 refine s_v rfl rfl rfl rfl (v_move rfl rfl) ?_
 refine s_v rfl rfl rfl rfl (OpV.cast (v := .int .i64 ((j + 1 : Nat) : Int)) (v_arith rfl rfl rfl rfl) (addN (a := j) (b := 1) (by first | omega | (simp only [List.length_set, swr_len, swp_len]; omega)))) ?_
 refine s_v rfl rfl rfl rfl (v_assign rfl rfl) ?_
 refine s_end ?_
 have hnx : rep l ((ordL l).drop (j + 1)) m1 (lastK l (j + 1)) = rep l (ordL l) [] 0 := by rw [← hs_.2.2.2, hrp, if_neg hne, if_neg (fun h => by have h_ := h.2; unfold told sameT at h_; rw [hD] at h_; simp_all), lastK_succ]; unfold doE; rw [hD]
 exact q_again (j + 1, m1, A53_, c54_) [1, 7, 8] ⟨by omega, hDf.1, by have := hDf.2.1; omega, hnx⟩ (by dsimp only; omega) (subF_spec ⟨rfl, rfl, rfl, rfl, trivial⟩) rfl (by decide)
 refine s_no rfl rfl rfl rfl ?_
 refine s_no rfl rfl rfl rfl ?_
 refine s_no rfl rfl rfl rfl ?_
 refine s_no rfl rfl rfl rfl ?_
 refine s_no rfl rfl rfl rfl ?_
 refine s_v rfl rfl rfl rfl (v_pick rfl rfl rfl rfl) ?_
 refine s_end ?_
 refine q_seq ?_
 refine c_cond0 rfl rfl ?_
 refine c_skip rfl ?_
 refine q_seq ?_
 refine r_ord (l := [0, 1]) rfl (by kernel_rfl) (by kernel_rfl) ?_
 refine s_v rfl rfl rfl rfl (v_move rfl rfl) ?_
 refine s_v rfl rfl rfl rfl (v_assign rfl rfl) ?_
 refine s_end ?_
 refine q_block ?_
 refine q_seq ?_
 refine r_ord (l := [0, 1, 2]) rfl (by kernel_rfl) (by kernel_rfl) ?_
 refine s_v rfl rfl rfl rfl (v_move rfl rfl) ?_
 refine s_v rfl rfl rfl rfl (OpV.cast (v := .int .i64 ((j + 1 : Nat) : Int)) (v_arith rfl rfl rfl rfl) (addN (a := j) (b := 1) (by first | omega | (simp only [List.length_set, swr_len, swp_len]; omega)))) ?_
 refine s_v rfl rfl rfl rfl (v_assign rfl rfl) ?_
 refine s_end ?_
 have hnx : rep l ((ordL l).drop (j + 1)) m1 (lastK l (j + 1)) = rep l (ordL l) [] 0 := by rw [← hs_.2.2.2, hrp, if_neg hne, if_neg (fun h => by have h_ := h.1; rw [h58_] at h_; cases h_), lastK_succ]; unfold doE; rw [hD]
 exact q_again (j + 1, m1, A53_, c54_) [1, 7, 8] ⟨by omega, hDf.1, by have := hDf.2.1; omega, hnx⟩ (by dsimp only; omega) (subF_spec ⟨rfl, rfl, rfl, rfl, trivial⟩) rfl (by decide)
 have h36_d := of_decide_eq_false h36_
 have hend : rep l (ordL l) [] 0 = true := by rw [← hs_.2.2.2, List.drop_of_length_le (by omega)]; rfl
 refine c_exit (i := 2) rfl rfl ?_
 refine q_then_exit ?_
 refine q_then_exit ?_
 refine q_block_here rfl ?_
 refine q_seq ?_
 refine c_seq rfl ?_
 refine r_ord (l := [0]) rfl (by kernel_rfl) (by kernel_rfl) ?_
 refine s_v rfl rfl rfl rfl (v_assign rfl rfl) ?_
 refine s_end ?_
 refine q_seq ?_
 refine c_ret rfl ?_
 refine q_take [] rfl (by decide) ?_
 have hlg : legalM l = true := (by rw [legalM, hall, hend]; rfl)
 rw [hlg] at hX
 exact q_post rfl (.cons rfl (.nil)) hX
end Go.Eng
namespace Go.Eng
open Go.Proofs Go.RowKit Go.Proofs.YtiihjijmmephlaaW.PrintWords Go.Proofs.Ytiihjijmmephlaa.GHist
set_option linter.unusedVariables false
set_option linter.unusedSimpArgs false
theorem hasD (l : List S56) (k : Int) : Dm l 1 k 0 0 = (l, false, (getM l k).2.1, (getM l k).2.2.1, []) := by
  have h1 : (getM l k).1 = false := by unfold getM; split <;> rfl
  have h2 := getM_keys l k
  show (l, getM l k) = _
  rw [← h1, ← h2]
set_option maxRecDepth 100000 in
set_option maxHeartbeats 4000000 in
theorem has_con (A : Option Addr) (c : Nat) (l : List S56) (k : Int) (hs : Srt l) (hl : l.length ≤ 1000) (w0 : World) (H : List Nat) : Con Try.prog 39 #[.agg #[.slice A l.length c], .int .u64 k] w0 H [.f (KC k56 A c l)] (fun X => X (.bool (getM l k).2.1) []) := by
  refine con_enter (c := bodyOf Try.f39) Try.func39 rfl (m := 16) rfl rfl rfl ?_
  intro X hX _
  refine c_seq rfl ?_
  refine r_ord (l := [0, 1]) rfl (by kernel_rfl) (by kernel_rfl) ?_
  refine s_e rfl rfl (e_box rfl rfl rfl rfl) ?_
  intro b1_
  refine s_v rfl rfl rfl rfl (v_assign rfl rfl) ?_
  refine s_end ?_
  refine q_seq ?_
  refine c_seq rfl ?_
  refine r_ord (l := [0, 1, 2, 3, 4, 5, 6, 7, 8, 9, 10]) rfl (by kernel_rfl) (by kernel_rfl) ?_
  refine s_v rfl rfl rfl rfl (v_ldA [.slice A l.length c] 0 rfl Try.underlying35 rfl SZ35 rfl rfl rfl rfl) ?_
  refine s_v rfl rfl rfl rfl (v_move rfl rfl) ?_
  refine s_v rfl rfl rfl rfl (v_build (places := #[(0, 1), (1, 1), (2, 1), (3, 1), (4, 1)]) #[.int .i64 1, .int .u64 k, .int .u64 0, .int .i64 0, .int .i64 0] rfl ZR43 Try.underlying43 (by kernel_rfl) rfl rfl) ?_
  refine s_e rfl rfl (e_callF [1] #[.agg #[.slice A l.length c], .agg #[.int .i64 1, .int .u64 k, .int .u64 0, .int .i64 0, .int .i64 0]] rfl rfl rfl rfl rfl Try.func23 rfl (by decide) rfl rfl rfl rfl (fun w ht => do_conr A c l 1 k 0 0 0 hs hl l false ((getM l k).2.1) ((getM l k).2.2.1) ([] : List Int) (hasD l k) w _)) ?_
  intro A2_ c3_ A4_ c5_
  refine s_v rfl rfl rfl rfl (v_move rfl rfl) ?_
  refine s_v rfl rfl rfl rfl (v_ext rfl rfl rfl) ?_
  refine s_v rfl rfl rfl rfl (v_ext rfl rfl rfl) ?_
  refine s_e rfl rfl (e_alloc rfl rfl rfl ZR35) ?_
  intro b6_
  refine s_e rfl rfl (e_alloc rfl rfl rfl ZR46) ?_
  intro b7_
  refine s_e rfl rfl (e_stA 1 rfl rfl SZ35 rfl rfl rfl rfl rfl rfl) ?_
  refine s_e rfl rfl (e_stA 0 rfl rfl SZ46 rfl rfl rfl rfl rfl rfl) ?_
  refine s_end ?_
  refine q_seq ?_
  refine c_seq rfl ?_
  refine r_ord (l := [0, 1, 2]) rfl (by kernel_rfl) (by kernel_rfl) ?_
  refine s_v rfl rfl rfl rfl (v_fa rfl Try.underlying46 rfl SZ4 rfl) ?_
  refine s_v rfl rfl rfl rfl (v_ld 0 rfl Try.underlying4 rfl rfl rfl rfl) ?_
  refine s_v rfl rfl rfl rfl (v_assign rfl rfl) ?_
  refine s_end ?_
  refine q_seq ?_
  refine c_ret rfl ?_
  refine q_take [] rfl (by decide) ?_
  exact q_post rfl (.cons rfl (.nil)) hX
end Go.Eng
namespace Go.Eng
open Go.Proofs Go.RowKit Go.Proofs.YtiihjijmmephlaaW.PrintWords Go.Proofs.Ytiihjijmmephlaa.GHist
set_option linter.unusedVariables false
set_option linter.unusedSimpArgs false
def amid (l : List S48) (x : S48) (k : Int) : Bool := decide (keyA l k > x.f2) && decide (keyA l k ≤ x.f4)
def mapsL (l : List S48) (x : S48) (j : Nat) : List S35 := ⟨mapF l x.f2 (ordL l)⟩ :: (((ordL l).take j).filter (amid l x)).map (fun k => (⟨mapF l (keyA l k) (ordL l)⟩ : S35))
theorem maps_yes {l : List S48} {x : S48} {j : Nat} (h : j < (ordL l).length) (ha : amid l x (rd (ordL l) (j : Int)) = true) : mapsL l x (j + 1) = mapsL l x j ++ [⟨mapF l (keyA l (rd (ordL l) (j : Int))) (ordL l)⟩] := by
  have e : rd (ordL l) (j : Int) = (ordL l)[j] := by simp [rd, List.getD_eq_getElem?_getD, h]
  rw [e] at ha ⊢
  unfold mapsL
  rw [List.take_succ_eq_append_getElem h, List.filter_append, List.map_append]
  simp [List.filter_cons, ha]
theorem maps_no {l : List S48} {x : S48} {j : Nat} (h : j < (ordL l).length) (ha : amid l x (rd (ordL l) (j : Int)) = false) : mapsL l x (j + 1) = mapsL l x j := by
  have e : rd (ordL l) (j : Int) = (ordL l)[j] := by simp [rd, List.getD_eq_getElem?_getD, h]
  rw [e] at ha
  unfold mapsL
  rw [List.take_succ_eq_append_getElem h, List.filter_append, List.map_append]
  simp [List.filter_cons, ha]
theorem maps_len (l : List S48) (x : S48) (j : Nat) : (mapsL l x j).length ≤ (ordL l).length + 1 := by
  unfold mapsL
  rw [List.length_cons, List.length_map]
  have h1 := List.length_filter_le (amid l x) ((ordL l).take j)
  rw [List.length_take] at h1
  omega
theorem K35 {w : World} {A : Option Addr} {c : Nat} {m : List S56} (h : KC k56 A c m w) : k35.K w ⟨m⟩ [.slice A m.length c] := k35_mk w ⟨m⟩ h.2 h.1
theorem reps35_one {w : World} {A : Option Addr} {c : Nat} {m : List S56} (h : KC k56 A c m w) : Reps (k35.K w) 1 [⟨m⟩] [.slice A m.length c] := by
  have := (Reps.none (k35.K w) 1).snoc (K35 h) rfl
  simpa using this
theorem reps35_next {w : World} {A : Option Addr} {c : Nat} {m : List S56} {xs : List S35} {inner : List Value} (hr : Reps (k35.K w) 1 xs inner) (h : KC k56 A c m w) : Reps (k35.K w) 1 (xs ++ [⟨m⟩]) (inner ++ [.slice A m.length c]) := hr.snoc (K35 h) rfl
end Go.Eng
namespace Go.Eng
open Go.Proofs Go.RowKit Go.Proofs.YtiihjijmmephlaaW.PrintWords Go.Proofs.Ytiihjijmmephlaa.GHist
set_option linter.unusedVariables false
set_option linter.unusedSimpArgs false
set_option maxRecDepth 100000 in
set_option maxHeartbeats 4000000 in
theorem maps_con (A : Option Addr) (c : Nat) (l : List S48) (x : S48) (AE : Option Addr) (cE : Nat) (hl : l.length ≤ 80) (hn : (hapTo l l.length).length ≤ 40) (w0 : World) (H : List Nat) : Con Try.prog 35 #[.slice A l.length c, .agg #[.int .i64 x.f0, .int .i64 x.f1.f0, .int .u64 x.f1.f1, .int .u64 x.f1.f2, .int .i64 x.f1.f3, .int .i64 x.f1.f4, .int .i64 x.f2, .int .i64 x.f3, .int .i64 x.f4, .bool x.f5, .bool x.f6.f0, .bool x.f6.f1, .int .u64 x.f6.f2, .slice AE x.f6.f3.length cE]] w0 H [.f (KC k48 A c l)] (fun X => ∀ A1 c1, X (.slice A1 (mapsL l x (ordL l).length).length c1) [.f (KC k35 A1 c1 (mapsL l x (ordL l).length))]) := by
 refine con_enter (c := bodyOf Try.f35) Try.func35 rfl (m := 44) rfl rfl rfl ?_
 intro X hX _
 refine c_seq rfl ?_
 refine r_ord (l := [0, 1]) rfl (by kernel_rfl) (by kernel_rfl) ?_
 refine s_e rfl rfl (e_box rfl rfl rfl rfl) ?_
 intro b1_
 refine s_v rfl rfl rfl rfl (v_assign rfl rfl) ?_
 refine s_end ?_
 refine q_seq ?_
 refine c_seq rfl ?_
 refine r_ord (l := [0, 1, 2, 3, 4, 5]) rfl (by kernel_rfl) (by kernel_rfl) ?_
 refine s_v rfl rfl rfl rfl (v_move rfl rfl) ?_
 refine s_v rfl rfl rfl rfl (v_fa rfl Try.underlying53 rfl SZ3 rfl) ?_
 refine s_v rfl rfl rfl rfl (v_ld 0 rfl Try.underlying3 rfl rfl rfl rfl) ?_
 refine s_e rfl rfl (e_callF [1] #[.slice A l.length c, .int .i64 x.f2] rfl rfl rfl rfl rfl Try.func16 rfl (by decide) rfl rfl rfl rfl (fun w ht => hmap_con A c l x.f2 hl hn w _)) ?_
 intro A2_ c3_
 refine s_e rfl rfl (e_bslice #[.slice A2_ ((mapF l x.f2 (ordL l)).length) c3_] (.agg #[.slice none 0 0]) rfl rfl rfl Try.underlying67 SZ35 ZR35 (by decide) rfl (by kernel_rfl)) ?_
 intro b4_
 refine s_v rfl rfl rfl rfl (v_assign rfl rfl) ?_
 refine s_end ?_
 refine q_seq ?_
 refine c_seq rfl ?_
 refine c_seq rfl ?_
 refine r_ord (l := [0, 1, 2, 3]) rfl (by kernel_rfl) (by kernel_rfl) ?_
 refine s_v rfl rfl rfl rfl (v_move rfl rfl) ?_
 refine s_e rfl rfl (e_callF [3] #[.slice A l.length c] rfl rfl rfl rfl rfl Try.func11 rfl (by decide) rfl rfl rfl rfl (fun w ht => order_con' A c l (by omega) hn w _)) ?_
 intro A5_ c6_
 refine s_v rfl rfl rfl rfl (v_len rfl rfl rfl Try.underlying25 rfl rfl) ?_
 refine s_v rfl rfl rfl rfl (v_move rfl rfl) ?_
 refine s_end ?_
 refine q_seq ?_
 refine c_block rfl ?_
 refine c_weak 2 rfl (fun w h => reps35_one h) ?_
 refine c_loop (σ := (Nat × Nat × Nat × Nat × Array Value × List Value)) (fun s : (Nat × Nat × Nat × Nat × Array Value × List Value) => match s with | (j, n, g, cap, cur, inner) => j ≤ (ordL l).length ∧ n = (mapsL l x j).length ∧ 0 < n ∧ n ≤ cap ∧ cap ≤ maxLen ∧ cur.size = cap * 1 ∧ cur.toList.take (n * 1) = inner) (fun s : (Nat × Nat × Nat × Nat × Array Value × List Value) => match s with | (j, n, g, cap, cur, inner) => (ordL l).length - j) (fun s : (Nat × Nat × Nat × Nat × Array Value × List Value) => match s with | (j, n, g, cap, cur, inner) => [(0, .slice A l.length c), (3, .pointer (some ⟨b1_, 0, none⟩)), (15, .slice A5_ ((ordL l).length) c6_), (16, .int .i64 ((ordL l).length : Nat)), (17, .int .i64 ((j : Nat) : Int)), (5, .slice (some ⟨g, 0, none⟩) n cap)]) (fun s : (Nat × Nat × Nat × Nat × Array Value × List Value) => match s with | (j, n, g, cap, cur, inner) => [.b b1_ (.cells #[.int .i64 x.f0, .int .i64 x.f1.f0, .int .u64 x.f1.f1, .int .u64 x.f1.f2, .int .i64 x.f1.f3, .int .i64 x.f1.f4, .int .i64 x.f2, .int .i64 x.f3, .int .i64 x.f4, .bool x.f5, .bool x.f6.f0, .bool x.f6.f1, .int .u64 x.f6.f2, .slice AE x.f6.f3.length cE] 53 (0, 0)), .b g (.cells cur 35 (0, 0)), .f (fun w => Reps (k35.K w) 1 (mapsL l x j) inner), .f (KC k48 A c l), .f (KC (Kd.int .i64) A5_ c6_ (ordL l))]) (0, 1, b4_, 1, #[.slice A2_ ((mapF l x.f2 (ordL l)).length) c3_], [.slice A2_ ((mapF l x.f2 (ordL l)).length) c3_]) [4, 2, 0, 5, 1] rfl ⟨Nat.zero_le _, rfl, by omega, by omega, by decide, rfl, rfl⟩ (subF_spec ⟨rfl, rfl, rfl, rfl, rfl, rfl, trivial⟩) rfl (by decide) ?_
 rintro ⟨j, n, g, cap, cur, inner⟩ hs
 obtain ⟨hj_, hn0, hn1, hr1_, hr2_, hr3_, hr4_⟩ : j ≤ (ordL l).length ∧ n = (mapsL l x j).length ∧ 0 < n ∧ n ≤ cap ∧ cap ≤ maxLen ∧ cur.size = cap * 1 ∧ cur.toList.take (n * 1) = inner := hs
 have hol := ordL_len l
 refine c_seq rfl ?_
 refine r_ord (l := [0]) rfl (by kernel_rfl) (by kernel_rfl) ?_
 refine s_v rfl rfl rfl rfl (v_arith rfl rfl rfl rfl) ?_
 refine s_end ?_
 refine q_seq ?_
 refine c_seq rfl ?_
 refine c_cond (t := decide ((((j : Nat) : Int) : Int) < ((ordL l).length : Nat))) rfl rfl (fun h7_ => ?_) (fun h7_ => ?_)
 have h7_d := of_decide_eq_true h7_
 have hjl : j < (ordL l).length := by omega
 have hat := ord_at hjl
 have hml := maps_len l x j
 refine c_skip rfl ?_
 refine q_seq ?_
 refine c_seq rfl ?_
 refine c_block rfl ?_
 refine c_seq rfl ?_
 refine r_ord (l := [0, 1, 2]) rfl (by kernel_rfl) (by kernel_rfl) ?_
 refine s_v rfl rfl rfl rfl (v_iaK (i := 4) rfl Try.underlying25 SZ3 rfl rfl rfl rfl (by omega) (by omega)) ?_
 refine s_v rfl rfl rfl rfl (v_ldK (v := .int .i64 (rd (ordL l) ((j : Nat) : Int))) 0 4 rfl Try.underlying3 rfl rfl rfl rfl (by omega) (by omega) (fun w K h => h)) ?_
 refine s_v rfl rfl rfl rfl (v_assign rfl rfl) ?_
 refine s_end ?_
 refine q_seq ?_
 refine c_seq rfl ?_
 refine r_ord (l := [0, 1, 2, 3, 4, 5]) rfl (by kernel_rfl) (by kernel_rfl) ?_
 refine s_v rfl rfl rfl rfl (v_move rfl rfl) ?_
 refine s_v rfl rfl rfl rfl (v_move rfl rfl) ?_
 refine s_v rfl rfl rfl rfl (v_iaK (i := 3) rfl Try.underlying27 SZ53 rfl rfl rfl rfl (by omega) (by omega)) ?_
 refine s_v rfl rfl rfl rfl (v_fax rfl Try.underlying53 rfl SZ3 rfl) ?_
 refine s_v rfl rfl rfl rfl (v_ldKq (v := .int .i64 (rd_T48 l (rd (ordL l) ((j : Nat) : Int))).f3) z48 3 rfl Try.underlying3 rfl rfl rfl rfl (by omega) (by omega) (fun w K h => k48_at7 h)) ?_
 refine s_v rfl rfl rfl rfl (v_assign rfl rfl) ?_
 refine s_end ?_
 refine q_seq ?_
 refine c_seq rfl ?_
 refine r_ord (l := [0, 1, 2, 3, 4, 5, 6, 7, 8, 9]) rfl (by kernel_rfl) (by kernel_rfl) ?_
 refine s_v rfl rfl rfl rfl (v_move rfl rfl) ?_
 refine s_v rfl rfl rfl rfl (v_fa rfl Try.underlying53 rfl SZ3 rfl) ?_
 refine s_v rfl rfl rfl rfl (v_ld 0 rfl Try.underlying3 rfl rfl rfl rfl) ?_
 refine s_v rfl rfl rfl rfl (v_arith rfl rfl rfl rfl) ?_
 refine s_v rfl rfl rfl rfl (v_move rfl rfl) ?_
 refine s_splitv (d := 30) (t := decide (((rd_T48 l (rd (ordL l) ((j : Nat) : Int))).f3 : Int) > x.f2)) rfl (fun h8_ => ?_) (fun h8_ => ?_)
 have h8_d := of_decide_eq_true h8_
 refine s_vg rfl rfl rfl rfl (v_move rfl rfl) ?_
 refine s_vg rfl rfl rfl rfl (v_fa rfl Try.underlying53 rfl SZ3 rfl) ?_
 refine s_vg rfl rfl rfl rfl (v_ld 0 rfl Try.underlying3 rfl rfl rfl rfl) ?_
 refine s_vg rfl rfl rfl rfl (v_arith rfl rfl rfl rfl) ?_
 refine s_v rfl rfl rfl rfl (v_pick rfl rfl rfl rfl) ?_
 refine s_end ?_
 refine q_seq ?_
 refine c_cond (t := decide (((rd_T48 l (rd (ordL l) ((j : Nat) : Int))).f3 : Int) ≤ x.f4)) rfl rfl (fun h9_ => ?_) (fun h9_ => ?_)
 have h9_d := of_decide_eq_true h9_
 refine r_ord (l := [0, 1, 2, 3, 4, 5, 6]) rfl (by kernel_rfl) (by kernel_rfl) ?_
 refine s_v rfl rfl rfl rfl (v_move rfl rfl) ?_
 refine s_v rfl rfl rfl rfl (v_move rfl rfl) ?_
 refine s_v rfl rfl rfl rfl (v_move rfl rfl) ?_
 refine s_e rfl rfl (e_callF [3] #[.slice A l.length c, .int .i64 ((rd_T48 l (rd (ordL l) ((j : Nat) : Int))).f3)] rfl rfl rfl rfl rfl Try.func16 rfl (by decide) rfl rfl rfl rfl (fun w ht => hmap_con A c l ((rd_T48 l (rd (ordL l) ((j : Nat) : Int))).f3) hl hn w _)) ?_
 intro A10_ c11_
 refine s_e rfl rfl (e_bslice #[.slice A10_ ((mapF l ((rd_T48 l (rd (ordL l) ((j : Nat) : Int))).f3) (ordL l)).length) c11_] (.agg #[.slice none 0 0]) rfl rfl rfl Try.underlying67 SZ35 ZR35 (by decide) rfl (by kernel_rfl)) ?_
 intro b12_
 refine s_e rfl rfl (e_app (z := (.agg #[.slice none 0 0])) (m := 1) (bytes := 24) (k := 1) (news := [.slice A10_ ((mapF l ((rd_T48 l (rd (ordL l) ((j : Nat) : Int))).f3) (ordL l)).length) c11_]) (i := 0) (j := 3) rfl rfl rfl rfl rfl rfl Try.underlying67 (by kernel_rfl) rfl (by decide) rfl rfl hr1_ hr2_ hr3_ hr4_ rfl rfl rfl rfl (by simp [Value.oneCell']) (by omega) (by simp only [maxLen]; omega)) ?_
 intro g13_ cap14_ cur15_ h16_ h17_ h18_ h19_
 refine s_v rfl rfl rfl rfl (v_assign rfl rfl) ?_
 refine s_end ?_
 refine q_block ?_
 refine q_seq ?_
 refine r_ord (l := [0, 1]) rfl (by kernel_rfl) (by kernel_rfl) ?_
 refine s_v rfl rfl rfl rfl (OpV.cast (v := .int .i64 ((j + 1 : Nat) : Int)) (v_arith rfl rfl rfl rfl) (addN (a := j) (b := 1) (by first | omega | (simp only [List.length_set, swr_len, swp_len]; omega)))) ?_
 refine s_v rfl rfl rfl rfl (v_move rfl rfl) ?_
 refine s_end ?_
 have he := maps_yes (x := x) hjl (by unfold amid keyA; simp_all)
 refine q_both 4 1 rfl rfl ?_
 refine q_weak 0 rfl (fun w h => (show Reps (k35.K w) 1 (mapsL l x (j + 1)) _ from by rw [he]; exact reps35_next h.1 h.2)) ?_
 exact q_again (j + 1, n + 1, g13_, cap14_, cur15_, (inner ++ [.slice A10_ (mapF l ((rd_T48 l (rd (ordL l) ((j : Nat) : Int))).f3) (ordL l)).length c11_])) [4, 5, 0, 7, 8] ⟨by omega, by rw [he, List.length_append, ← hn0]; rfl, by omega, h16_, h17_, h18_, h19_⟩ (by dsimp only; omega) (subF_spec ⟨rfl, rfl, rfl, rfl, rfl, rfl, trivial⟩) rfl (by decide)
 have h9_d := of_decide_eq_false h9_
 refine c_skip rfl ?_
 refine q_block ?_
 refine q_seq ?_
 refine r_ord (l := [0, 1]) rfl (by kernel_rfl) (by kernel_rfl) ?_
 refine s_v rfl rfl rfl rfl (OpV.cast (v := .int .i64 ((j + 1 : Nat) : Int)) (v_arith rfl rfl rfl rfl) (addN (a := j) (b := 1) (by first | omega | (simp only [List.length_set, swr_len, swp_len]; omega)))) ?_
 refine s_v rfl rfl rfl rfl (v_move rfl rfl) ?_
 refine s_end ?_
 have he := maps_no (x := x) hjl (by unfold amid keyA; simp_all <;> omega)
 exact q_again (j + 1, n, g, cap, cur, inner) [0, 1, 2, 3, 4] (by dsimp only; rw [he]; exact ⟨by omega, hn0, hn1, hr1_, hr2_, hr3_, hr4_⟩) (by dsimp only; omega) (subF_spec ⟨rfl, rfl, rfl, rfl, rfl, rfl, trivial⟩) (by dsimp only; rw [he]; rfl) (by decide)
 have h8_d := of_decide_eq_false h8_
 refine s_no rfl rfl rfl rfl ?_
 refine s_no rfl rfl rfl rfl ?_
 refine s_no rfl rfl rfl rfl ?_
 refine s_no rfl rfl rfl rfl ?_
 refine s_v rfl rfl rfl rfl (v_pick rfl rfl rfl rfl) ?_
 refine s_end ?_
 refine q_seq ?_
 refine c_cond0 rfl rfl ?_
 refine c_skip rfl ?_
 refine q_block ?_
 refine q_seq ?_
 refine r_ord (l := [0, 1]) rfl (by kernel_rfl) (by kernel_rfl) ?_
 refine s_v rfl rfl rfl rfl (OpV.cast (v := .int .i64 ((j + 1 : Nat) : Int)) (v_arith rfl rfl rfl rfl) (addN (a := j) (b := 1) (by first | omega | (simp only [List.length_set, swr_len, swp_len]; omega)))) ?_
 refine s_v rfl rfl rfl rfl (v_move rfl rfl) ?_
 refine s_end ?_
 have he := maps_no (x := x) hjl (by unfold amid keyA; simp_all <;> omega)
 exact q_again (j + 1, n, g, cap, cur, inner) [0, 1, 2, 3, 4] (by dsimp only; rw [he]; exact ⟨by omega, hn0, hn1, hr1_, hr2_, hr3_, hr4_⟩) (by dsimp only; omega) (subF_spec ⟨rfl, rfl, rfl, rfl, rfl, rfl, trivial⟩) (by dsimp only; rw [he]; rfl) (by decide)
 have h7_d := of_decide_eq_false h7_
 obtain rfl : j = (ordL l).length := by omega
 refine c_exit (i := 0) rfl rfl ?_
 refine q_then_exit ?_
 refine q_then_exit ?_
 refine q_block_here rfl ?_
 refine q_seq ?_
 refine c_seq rfl ?_
 refine r_ord (l := [0, 1]) rfl (by kernel_rfl) (by kernel_rfl) ?_
 refine s_v rfl rfl rfl rfl (v_move rfl rfl) ?_
 refine s_v rfl rfl rfl rfl (v_assign rfl rfl) ?_
 refine s_end ?_
 refine q_seq ?_
 refine c_ret rfl ?_
 subst hn0
 refine q_give [1, 0, 2, 3, 4] rfl (by decide) (by simp [ids, Ent.id?]) (fun w h => h) ?_
 refine q_both 0 2 rfl rfl ?_
 refine q_weak 0 rfl (fun w h => KC_ofReps (d := k35) (cap := cap) (xs := mapsL l x (ordL l).length) h.1 h.2 hr4_ hr1_ hr2_) ?_
 refine q_take [0] rfl (by decide) ?_
 exact q_post rfl (.cons rfl (.nil)) (hX (some ⟨g, 0, none⟩) cap)
end Go.Eng
namespace Go.Eng
open Go.Proofs Go.RowKit Go.Proofs.YtiihjijmmephlaaW.PrintWords Go.Proofs.Ytiihjijmmephlaa.GHist
set_option linter.unusedVariables false
set_option linter.unusedSimpArgs false
set_option maxRecDepth 100000 in
set_option maxHeartbeats 4000000 in
theorem once1_con (bk : Nat) (A : Option Addr) (c : Nat) (m : List S56) (k : Int) (hs : Srt m) (hl : m.length ≤ 1000) (w0 : World) (H : List Nat) : Con Try.prog 38 #[.agg #[.slice A m.length c], .pointer (some ⟨bk, 0, none⟩)] w0 H [.f (KC k56 A c m), .f (fun w => w.heap[bk]? = some (.cells #[.int .u64 k] 41 (0, 0)))] (fun X => X (.bool ((getM m k).2.1)) []) := by
  refine con_enter (c := bodyOf Try.f38) Try.func38 rfl (m := 7) rfl rfl rfl ?_
  intro X hX _
  refine c_seq rfl ?_
  refine r_ord (l := [0, 1]) rfl (by kernel_rfl) (by kernel_rfl) ?_
  refine s_e rfl rfl (e_box rfl rfl rfl rfl) ?_
  intro b1_
  refine s_v rfl rfl rfl rfl (v_assign rfl rfl) ?_
  refine s_end ?_
  refine q_seq ?_
  refine c_seq rfl ?_
  refine r_ord (l := [0, 1, 2, 3]) rfl (by kernel_rfl) (by kernel_rfl) ?_
  refine s_v rfl rfl rfl rfl (v_ldA [.slice A m.length c] 0 rfl Try.underlying35 rfl SZ35 rfl rfl rfl rfl) ?_
  refine s_v rfl rfl rfl rfl (v_ldr 2 rfl Try.underlying41 rfl rfl rfl rfl) ?_
  refine s_e rfl rfl (e_callF [1] #[.agg #[.slice A m.length c], .int .u64 k] rfl rfl rfl rfl rfl Try.func39 rfl (by decide) rfl rfl rfl rfl (fun w ht => has_con A c m k hs hl w _)) ?_
  refine s_v rfl rfl rfl rfl (v_assign rfl rfl) ?_
  refine s_end ?_
  refine q_seq ?_
  refine c_ret rfl ?_
  refine q_take [] rfl (by decide) ?_
  exact q_post rfl (.cons rfl (.nil)) hX
set_option maxRecDepth 100000 in
set_option maxHeartbeats 4000000 in
theorem always1_con (bk : Nat) (A : Option Addr) (c : Nat) (m : List S56) (k : Int) (hs : Srt m) (hl : m.length ≤ 1000) (w0 : World) (H : List Nat) : Con Try.prog 41 #[.agg #[.slice A m.length c], .pointer (some ⟨bk, 0, none⟩)] w0 H [.f (KC k56 A c m), .f (fun w => w.heap[bk]? = some (.cells #[.int .u64 k] 41 (0, 0)))] (fun X => X (.bool (!(getM m k).2.1)) []) := by
  refine con_enter (c := bodyOf Try.f41) Try.func41 rfl (m := 8) rfl rfl rfl ?_
  intro X hX _
  refine c_seq rfl ?_
  refine r_ord (l := [0, 1]) rfl (by kernel_rfl) (by kernel_rfl) ?_
  refine s_e rfl rfl (e_box rfl rfl rfl rfl) ?_
  intro b1_
  refine s_v rfl rfl rfl rfl (v_assign rfl rfl) ?_
  refine s_end ?_
  refine q_seq ?_
  refine c_seq rfl ?_
  refine r_ord (l := [0, 1, 2, 3, 4]) rfl (by kernel_rfl) (by kernel_rfl) ?_
  refine s_v rfl rfl rfl rfl (v_ldA [.slice A m.length c] 0 rfl Try.underlying35 rfl SZ35 rfl rfl rfl rfl) ?_
  refine s_v rfl rfl rfl rfl (v_ldr 2 rfl Try.underlying41 rfl rfl rfl rfl) ?_
  refine s_e rfl rfl (e_callF [1] #[.agg #[.slice A m.length c], .int .u64 k] rfl rfl rfl rfl rfl Try.func39 rfl (by decide) rfl rfl rfl rfl (fun w ht => has_con A c m k hs hl w _)) ?_
  refine s_v rfl rfl rfl rfl (v_not rfl rfl) ?_
  refine s_v rfl rfl rfl rfl (v_assign rfl rfl) ?_
  refine s_end ?_
  refine q_seq ?_
  refine c_ret rfl ?_
  refine q_take [] rfl (by decide) ?_
  exact q_post rfl (.cons rfl (.nil)) hX
end Go.Eng
namespace Go.Eng
open Go.Proofs Go.RowKit Go.Proofs.YtiihjijmmephlaaW.PrintWords Go.Proofs.Ytiihjijmmephlaa.GHist
set_option linter.unusedVariables false
set_option linter.unusedSimpArgs false
theorem k35_sh {w : World} {x : S35} {cs : List Value} (h : k35.K w x cs) : ∃ A c, cs = [.slice A x.f0.length c] := by
  obtain ⟨A, c, e, _⟩ := k35_open h
  exact ⟨A, c, e⟩
theorem k35_row {w : World} {x : S35} {A : Option Addr} {c : Nat} (h : k35.K w x [.slice A x.f0.length c]) : KC k56 A c x.f0 w := by
  obtain ⟨A', c', e, hl, hC⟩ := k35_open h
  simp only [List.cons.injEq, Value.slice.injEq, and_true, true_and] at e
  obtain ⟨rfl, rfl⟩ := e
  exact ⟨hC, hl⟩
theorem rd35 {l : List S35} {i : Nat} (h : i < l.length) : rd_T35 l (i : Int) = l[i] := by simp [rd_T35, List.getD_eq_getElem?_getD, h]
theorem any_next {l : List S35} {i : Nat} {p : S35 → Bool} (h : i < l.length) (ha : (l.take i).any p = false) (ht : p (rd_T35 l (i : Int)) = false) : (l.take (i + 1)).any p = false := by
  rw [List.take_succ_eq_append_getElem h, List.any_append, ha, ← rd35 h]; simp [ht]
theorem any_hit {l : List S35} {i : Nat} {p : S35 → Bool} (h : i < l.length) (ht : p (rd_T35 l (i : Int)) = true) : l.any p = true := by
  rw [List.any_eq_true]; exact ⟨_, by rw [rd35 h]; exact List.getElem_mem h, ht⟩
end Go.Eng
namespace Go.Eng
open Go.Proofs Go.RowKit Go.Proofs.YtiihjijmmephlaaW.PrintWords Go.Proofs.Ytiihjijmmephlaa.GHist
set_option linter.unusedVariables false
set_option linter.unusedSimpArgs false
set_option maxRecDepth 100000 in
set_option maxHeartbeats 4000000 in
theorem once2_idx (bk : Nat) (A : Option Addr) (c : Nat) (l : List S35) (k : Int) (hl : l.length ≤ 1000) (hS : ∀ x ∈ l, Srt x.f0 ∧ x.f0.length ≤ 1000) (w0 : World) (H : List Nat) : Con Try.prog 57 #[.slice A l.length c, .func (.func 38) #[] #[.pointer (some ⟨bk, 0, none⟩)]] w0 H [.f (KC k35 A c l), .f (fun w => w.heap[bk]? = some (.cells #[.int .u64 k] 41 (0, 0)))] (fun X => ∀ r : Int, decide (r ≥ 0) = l.any (fun x : S35 => (getM x.f0 k).2.1) → X (.int .i64 r) []) := by
 refine con_enter (c := bodyOf Try.f57) Try.func57 rfl (m := 19) rfl rfl rfl ?_
 intro X hX _
 refine c_seq rfl ?_
 refine r_ord (l := [0]) rfl (by kernel_rfl) (by kernel_rfl) ?_
 refine s_v rfl rfl rfl rfl (v_assign rfl rfl) ?_
 refine s_end ?_
 refine q_seq ?_
 refine c_seq rfl ?_
 refine c_seq rfl ?_
 refine r_ord (l := [0, 1, 2]) rfl (by kernel_rfl) (by kernel_rfl) ?_
 refine s_v rfl rfl rfl rfl (v_move rfl rfl) ?_
 refine s_v rfl rfl rfl rfl (v_len rfl rfl rfl Try.underlying67 rfl rfl) ?_
 refine s_v rfl rfl rfl rfl (v_move rfl rfl) ?_
 refine s_end ?_
 refine q_seq ?_
 refine c_block rfl ?_
 refine c_loop (σ := Nat) (fun i => i ≤ l.length ∧ (l.take i).any (fun x : S35 => (getM x.f0 k).2.1) = false) (fun i => l.length - i) (fun i => [(1, .func (.func 38) #[] #[.pointer (some ⟨bk, 0, none⟩)]), (0, .slice A l.length c), (6, .slice A l.length c), (7, .int .i64 (l.length : Nat)), (8, .int .i64 ((i : Nat) : Int))]) (fun i => [.f (KC k35 A c l), .f (fun w => w.heap[bk]? = some (.cells #[.int .u64 k] 41 (0, 0)))]) 0 [0, 1] rfl ⟨Nat.zero_le _, rfl⟩ (subF_spec ⟨rfl, rfl, rfl, rfl, rfl, trivial⟩) rfl (by decide) ?_
 rintro i hs
 have hi_ : i ≤ l.length := hs.1
 refine c_seq rfl ?_
 refine r_ord (l := [0]) rfl (by kernel_rfl) (by kernel_rfl) ?_
 refine s_v rfl rfl rfl rfl (v_arith rfl rfl rfl rfl) ?_
 refine s_end ?_
 refine q_seq ?_
 refine c_seq rfl ?_
 refine c_cond (t := decide ((((i : Nat) : Int) : Int) < (l.length : Nat))) rfl rfl (fun h1_ => ?_) (fun h1_ => ?_)
 have h1_d := of_decide_eq_true h1_
 have hil : i < l.length := by omega
 refine c_skip rfl ?_
 refine q_seq ?_
 refine c_seq rfl ?_
 refine c_block rfl ?_
 refine c_seq rfl ?_
 refine r_ord (l := [0, 1]) rfl (by kernel_rfl) (by kernel_rfl) ?_
 refine s_v rfl rfl rfl rfl (v_move rfl rfl) ?_
 refine s_v rfl rfl rfl rfl (v_assign rfl rfl) ?_
 refine s_end ?_
 refine q_seq ?_
 refine c_seq rfl ?_
 refine r_ord (l := [0, 1, 2, 3, 4, 5]) rfl (by kernel_rfl) (by kernel_rfl) ?_
 refine s_v rfl rfl rfl rfl (v_move rfl rfl) ?_
 refine s_v rfl rfl rfl rfl (v_move rfl rfl) ?_
 refine s_v rfl rfl rfl rfl (v_move rfl rfl) ?_
 refine s_v rfl rfl rfl rfl (v_iaK (i := 0) rfl Try.underlying67 SZ35 rfl rfl rfl rfl (by omega) (by omega)) ?_
 refine s_e rfl rfl (e_ldKX z35 0 rfl rfl rfl Try.underlying35 rfl SZ35 rfl rfl rfl (by omega) (by omega)) ?_
 intro cs2_ h3_
 refine s_know 0 rfl (fun w h => k35_sh h) (fun h4_ => ?_)
 obtain ⟨A5_, c6_, rfl⟩ := h4_
 refine s_weak 0 rfl (fun w h => k35_row h) ?_
 refine s_e rfl rfl (e_callF [0, 3] #[.agg #[.slice A5_ ((rd_T35 l ((i : Nat) : Int)).f0.length) c6_], .pointer (some ⟨bk, 0, none⟩)] rfl rfl rfl rfl rfl Try.func38 rfl (by decide) rfl rfl rfl rfl (fun w ht => once1_con bk _ _ (rd_T35 l (i : Int)).f0 k (hS _ (by rw [rd35 hil]; exact List.getElem_mem hil)).1 (hS _ (by rw [rd35 hil]; exact List.getElem_mem hil)).2 w _)) ?_
 refine s_end ?_
 refine q_seq ?_
 refine c_cond (t := (getM (rd_T35 l (i : Int)).f0 k).2.1) rfl rfl (fun h7_ => ?_) (fun h7_ => ?_)
 have hpx : (fun x : S35 => (getM x.f0 k).2.1) (rd_T35 l (i : Int)) = true := by simpa using h7_
 refine c_seq rfl ?_
 refine r_ord (l := [0, 1]) rfl (by kernel_rfl) (by kernel_rfl) ?_
 refine s_v rfl rfl rfl rfl (v_move rfl rfl) ?_
 refine s_v rfl rfl rfl rfl (v_assign rfl rfl) ?_
 refine s_end ?_
 refine q_seq ?_
 refine c_ret rfl ?_
 refine q_block_ret ?_
 refine q_then_ret ?_
 refine q_then_ret ?_
 refine q_block_ret ?_
 refine q_then_ret ?_
 refine q_take [] rfl (by decide) ?_
 exact q_post rfl (.cons rfl (.nil)) (hX _ (by rw [any_hit hil hpx]; simp))
 have hpx : (fun x : S35 => (getM x.f0 k).2.1) (rd_T35 l (i : Int)) = false := by simpa using h7_
 refine c_skip rfl ?_
 refine q_block ?_
 refine q_seq ?_
 refine r_ord (l := [0, 1]) rfl (by kernel_rfl) (by kernel_rfl) ?_
 refine s_v rfl rfl rfl rfl (OpV.cast (v := .int .i64 ((i + 1 : Nat) : Int)) (v_arith rfl rfl rfl rfl) (addN (a := i) (b := 1) (by first | omega | (simp only [List.length_set, swr_len, swp_len]; omega)))) ?_
 refine s_v rfl rfl rfl rfl (v_move rfl rfl) ?_
 refine s_end ?_
 exact q_again (i + 1) [2, 3] ⟨by omega, any_next hil hs.2 hpx⟩ (by show l.length - (i + 1) < l.length - i; omega) (subF_spec ⟨rfl, rfl, rfl, rfl, rfl, trivial⟩) rfl (by decide)
 have h1_d := of_decide_eq_false h1_
 have hend : l.any (fun x : S35 => (getM x.f0 k).2.1) = false := by have h_ := hs.2; rwa [List.take_of_length_le (by omega)] at h_
 refine c_exit (i := 0) rfl rfl ?_
 refine q_then_exit ?_
 refine q_then_exit ?_
 refine q_block_here rfl ?_
 refine q_seq ?_
 refine c_seq rfl ?_
 refine r_ord (l := [0]) rfl (by kernel_rfl) (by kernel_rfl) ?_
 refine s_v rfl rfl rfl rfl (v_assign rfl rfl) ?_
 refine s_end ?_
 refine q_seq ?_
 refine c_ret rfl ?_
 refine q_take [] rfl (by decide) ?_
 exact q_post rfl (.cons rfl (.nil)) (hX _ (by rw [hend]; decide))
set_option maxRecDepth 100000 in
set_option maxHeartbeats 4000000 in
theorem once2_con (bk : Nat) (A : Option Addr) (c : Nat) (l : List S35) (k : Int) (hl : l.length ≤ 1000) (hS : ∀ x ∈ l, Srt x.f0 ∧ x.f0.length ≤ 1000) (w0 : World) (H : List Nat) : Con Try.prog 37 #[.slice A l.length c, .func (.func 38) #[] #[.pointer (some ⟨bk, 0, none⟩)]] w0 H [.f (KC k35 A c l), .f (fun w => w.heap[bk]? = some (.cells #[.int .u64 k] 41 (0, 0)))] (fun X => X (.bool (l.any (fun x : S35 => (getM x.f0 k).2.1))) []) := by
  refine con_enter (c := bodyOf Try.f37) Try.func37 rfl (m := 9) rfl rfl rfl ?_
  intro X hX _
  refine c_seq rfl ?_
  refine r_ord (l := [0]) rfl (by kernel_rfl) (by kernel_rfl) ?_
  refine s_v rfl rfl rfl rfl (v_assign rfl rfl) ?_
  refine s_end ?_
  refine q_seq ?_
  refine c_seq rfl ?_
  refine r_ord (l := [0, 1, 2, 3, 4]) rfl (by kernel_rfl) (by kernel_rfl) ?_
  refine s_v rfl rfl rfl rfl (v_move rfl rfl) ?_
  refine s_v rfl rfl rfl rfl (v_move rfl rfl) ?_
  refine s_e rfl rfl (e_callF [0, 1] #[.slice A l.length c, .func (.func 38) #[] #[.pointer (some ⟨bk, 0, none⟩)]] rfl rfl rfl rfl rfl Try.func57 rfl (by decide) rfl rfl rfl rfl (fun w ht => once2_idx bk A c l k hl hS w _)) ?_
  intro r hr
  refine s_v rfl rfl rfl rfl (v_arith rfl rfl rfl rfl) ?_
  refine s_v rfl rfl rfl rfl (v_assign rfl rfl) ?_
  refine s_end ?_
  refine q_seq ?_
  refine c_ret rfl ?_
  refine q_take [] rfl (by decide) ?_
  rw [← hr] at hX
  exact q_post rfl (.cons rfl (.nil)) hX
set_option maxRecDepth 100000 in
set_option maxHeartbeats 4000000 in
theorem always2_idx (bk : Nat) (A : Option Addr) (c : Nat) (l : List S35) (k : Int) (hl : l.length ≤ 1000) (hS : ∀ x ∈ l, Srt x.f0 ∧ x.f0.length ≤ 1000) (w0 : World) (H : List Nat) : Con Try.prog 57 #[.slice A l.length c, .func (.func 41) #[] #[.pointer (some ⟨bk, 0, none⟩)]] w0 H [.f (KC k35 A c l), .f (fun w => w.heap[bk]? = some (.cells #[.int .u64 k] 41 (0, 0)))] (fun X => ∀ r : Int, decide (r ≥ 0) = l.any (fun x : S35 => !(getM x.f0 k).2.1) → X (.int .i64 r) []) := by
 refine con_enter (c := bodyOf Try.f57) Try.func57 rfl (m := 19) rfl rfl rfl ?_
 intro X hX _
 refine c_seq rfl ?_
 refine r_ord (l := [0]) rfl (by kernel_rfl) (by kernel_rfl) ?_
 refine s_v rfl rfl rfl rfl (v_assign rfl rfl) ?_
 refine s_end ?_
 refine q_seq ?_
 refine c_seq rfl ?_
 refine c_seq rfl ?_
 refine r_ord (l := [0, 1, 2]) rfl (by kernel_rfl) (by kernel_rfl) ?_
 refine s_v rfl rfl rfl rfl (v_move rfl rfl) ?_
 refine s_v rfl rfl rfl rfl (v_len rfl rfl rfl Try.underlying67 rfl rfl) ?_
 refine s_v rfl rfl rfl rfl (v_move rfl rfl) ?_
 refine s_end ?_
 refine q_seq ?_
 refine c_block rfl ?_
 refine c_loop (σ := Nat) (fun i => i ≤ l.length ∧ (l.take i).any (fun x : S35 => !(getM x.f0 k).2.1) = false) (fun i => l.length - i) (fun i => [(1, .func (.func 41) #[] #[.pointer (some ⟨bk, 0, none⟩)]), (0, .slice A l.length c), (6, .slice A l.length c), (7, .int .i64 (l.length : Nat)), (8, .int .i64 ((i : Nat) : Int))]) (fun i => [.f (KC k35 A c l), .f (fun w => w.heap[bk]? = some (.cells #[.int .u64 k] 41 (0, 0)))]) 0 [0, 1] rfl ⟨Nat.zero_le _, rfl⟩ (subF_spec ⟨rfl, rfl, rfl, rfl, rfl, trivial⟩) rfl (by decide) ?_
 rintro i hs
 have hi_ : i ≤ l.length := hs.1
 refine c_seq rfl ?_
 refine r_ord (l := [0]) rfl (by kernel_rfl) (by kernel_rfl) ?_
 refine s_v rfl rfl rfl rfl (v_arith rfl rfl rfl rfl) ?_
 refine s_end ?_
 refine q_seq ?_
 refine c_seq rfl ?_
 refine c_cond (t := decide ((((i : Nat) : Int) : Int) < (l.length : Nat))) rfl rfl (fun h1_ => ?_) (fun h1_ => ?_)
 have h1_d := of_decide_eq_true h1_
 have hil : i < l.length := by omega
 refine c_skip rfl ?_
 refine q_seq ?_
 refine c_seq rfl ?_
 refine c_block rfl ?_
 refine c_seq rfl ?_
 refine r_ord (l := [0, 1]) rfl (by kernel_rfl) (by kernel_rfl) ?_
 refine s_v rfl rfl rfl rfl (v_move rfl rfl) ?_
 refine s_v rfl rfl rfl rfl (v_assign rfl rfl) ?_
 refine s_end ?_
 refine q_seq ?_
 refine c_seq rfl ?_
 refine r_ord (l := [0, 1, 2, 3, 4, 5]) rfl (by kernel_rfl) (by kernel_rfl) ?_
 refine s_v rfl rfl rfl rfl (v_move rfl rfl) ?_
 refine s_v rfl rfl rfl rfl (v_move rfl rfl) ?_
 refine s_v rfl rfl rfl rfl (v_move rfl rfl) ?_
 refine s_v rfl rfl rfl rfl (v_iaK (i := 0) rfl Try.underlying67 SZ35 rfl rfl rfl rfl (by omega) (by omega)) ?_
 refine s_e rfl rfl (e_ldKX z35 0 rfl rfl rfl Try.underlying35 rfl SZ35 rfl rfl rfl (by omega) (by omega)) ?_
 intro cs2_ h3_
 refine s_know 0 rfl (fun w h => k35_sh h) (fun h4_ => ?_)
 obtain ⟨A5_, c6_, rfl⟩ := h4_
 refine s_weak 0 rfl (fun w h => k35_row h) ?_
 refine s_e rfl rfl (e_callF [0, 3] #[.agg #[.slice A5_ ((rd_T35 l ((i : Nat) : Int)).f0.length) c6_], .pointer (some ⟨bk, 0, none⟩)] rfl rfl rfl rfl rfl Try.func41 rfl (by decide) rfl rfl rfl rfl (fun w ht => always1_con bk _ _ (rd_T35 l (i : Int)).f0 k (hS _ (by rw [rd35 hil]; exact List.getElem_mem hil)).1 (hS _ (by rw [rd35 hil]; exact List.getElem_mem hil)).2 w _)) ?_
 refine s_end ?_
 refine q_seq ?_
 refine c_cond (t := !(getM (rd_T35 l (i : Int)).f0 k).2.1) rfl rfl (fun h7_ => ?_) (fun h7_ => ?_)
 have hpx : (fun x : S35 => !(getM x.f0 k).2.1) (rd_T35 l (i : Int)) = true := by simpa using h7_
 refine c_seq rfl ?_
 refine r_ord (l := [0, 1]) rfl (by kernel_rfl) (by kernel_rfl) ?_
 refine s_v rfl rfl rfl rfl (v_move rfl rfl) ?_
 refine s_v rfl rfl rfl rfl (v_assign rfl rfl) ?_
 refine s_end ?_
 refine q_seq ?_
 refine c_ret rfl ?_
 refine q_block_ret ?_
 refine q_then_ret ?_
 refine q_then_ret ?_
 refine q_block_ret ?_
 refine q_then_ret ?_
 refine q_take [] rfl (by decide) ?_
 exact q_post rfl (.cons rfl (.nil)) (hX _ (by rw [any_hit hil hpx]; simp))
 have hpx : (fun x : S35 => !(getM x.f0 k).2.1) (rd_T35 l (i : Int)) = false := by simpa using h7_
 refine c_skip rfl ?_
 refine q_block ?_
 refine q_seq ?_
 refine r_ord (l := [0, 1]) rfl (by kernel_rfl) (by kernel_rfl) ?_
 refine s_v rfl rfl rfl rfl (OpV.cast (v := .int .i64 ((i + 1 : Nat) : Int)) (v_arith rfl rfl rfl rfl) (addN (a := i) (b := 1) (by first | omega | (simp only [List.length_set, swr_len, swp_len]; omega)))) ?_
 refine s_v rfl rfl rfl rfl (v_move rfl rfl) ?_
 refine s_end ?_
 exact q_again (i + 1) [2, 3] ⟨by omega, any_next hil hs.2 hpx⟩ (by show l.length - (i + 1) < l.length - i; omega) (subF_spec ⟨rfl, rfl, rfl, rfl, rfl, trivial⟩) rfl (by decide)
 have h1_d := of_decide_eq_false h1_
 have hend : l.any (fun x : S35 => !(getM x.f0 k).2.1) = false := by have h_ := hs.2; rwa [List.take_of_length_le (by omega)] at h_
 refine c_exit (i := 0) rfl rfl ?_
 refine q_then_exit ?_
 refine q_then_exit ?_
 refine q_block_here rfl ?_
 refine q_seq ?_
 refine c_seq rfl ?_
 refine r_ord (l := [0]) rfl (by kernel_rfl) (by kernel_rfl) ?_
 refine s_v rfl rfl rfl rfl (v_assign rfl rfl) ?_
 refine s_end ?_
 refine q_seq ?_
 refine c_ret rfl ?_
 refine q_take [] rfl (by decide) ?_
 exact q_post rfl (.cons rfl (.nil)) (hX _ (by rw [hend]; decide))
set_option maxRecDepth 100000 in
set_option maxHeartbeats 4000000 in
theorem always2_con (bk : Nat) (A : Option Addr) (c : Nat) (l : List S35) (k : Int) (hl : l.length ≤ 1000) (hS : ∀ x ∈ l, Srt x.f0 ∧ x.f0.length ≤ 1000) (w0 : World) (H : List Nat) : Con Try.prog 37 #[.slice A l.length c, .func (.func 41) #[] #[.pointer (some ⟨bk, 0, none⟩)]] w0 H [.f (KC k35 A c l), .f (fun w => w.heap[bk]? = some (.cells #[.int .u64 k] 41 (0, 0)))] (fun X => X (.bool (l.any (fun x : S35 => !(getM x.f0 k).2.1))) []) := by
  refine con_enter (c := bodyOf Try.f37) Try.func37 rfl (m := 9) rfl rfl rfl ?_
  intro X hX _
  refine c_seq rfl ?_
  refine r_ord (l := [0]) rfl (by kernel_rfl) (by kernel_rfl) ?_
  refine s_v rfl rfl rfl rfl (v_assign rfl rfl) ?_
  refine s_end ?_
  refine q_seq ?_
  refine c_seq rfl ?_
  refine r_ord (l := [0, 1, 2, 3, 4]) rfl (by kernel_rfl) (by kernel_rfl) ?_
  refine s_v rfl rfl rfl rfl (v_move rfl rfl) ?_
  refine s_v rfl rfl rfl rfl (v_move rfl rfl) ?_
  refine s_e rfl rfl (e_callF [0, 1] #[.slice A l.length c, .func (.func 41) #[] #[.pointer (some ⟨bk, 0, none⟩)]] rfl rfl rfl rfl rfl Try.func57 rfl (by decide) rfl rfl rfl rfl (fun w ht => always2_idx bk A c l k hl hS w _)) ?_
  intro r hr
  refine s_v rfl rfl rfl rfl (v_arith rfl rfl rfl rfl) ?_
  refine s_v rfl rfl rfl rfl (v_assign rfl rfl) ?_
  refine s_end ?_
  refine q_seq ?_
  refine c_ret rfl ?_
  refine q_take [] rfl (by decide) ?_
  rw [← hr] at hX
  exact q_post rfl (.cons rfl (.nil)) hX
end Go.Eng
namespace Go.Eng
open Go.Proofs Go.RowKit Go.Proofs.YtiihjijmmephlaaW.PrintWords Go.Proofs.Ytiihjijmmephlaa.GHist
set_option linter.unusedVariables false
set_option linter.unusedSimpArgs false
set_option maxRecDepth 100000 in
set_option maxHeartbeats 4000000 in
theorem once_con (ba : Nat) (A : Option Addr) (c : Nat) (l : List S35) (k : Int) (hl : l.length ≤ 1000) (hS : ∀ x ∈ l, Srt x.f0 ∧ x.f0.length ≤ 1000) (w0 : World) (H : List Nat) : Con Try.prog 36 #[.int .u64 k, .pointer (some ⟨ba, 0, none⟩)] w0 H [.f (KC k35 A c l), .f (fun w => w.heap[ba]? = some (.cells #[.slice A l.length c] 67 (0, 0)))] (fun X => X (.bool (l.any (fun x : S35 => (getM x.f0 k).2.1))) []) := by
  refine con_enter (c := bodyOf Try.f36) Try.func36 rfl (m := 7) rfl rfl rfl ?_
  intro X hX _
  refine c_seq rfl ?_
  refine r_ord (l := [0, 1]) rfl (by kernel_rfl) (by kernel_rfl) ?_
  refine s_e rfl rfl (e_box rfl rfl rfl rfl) ?_
  intro b1_
  refine s_v rfl rfl rfl rfl (v_assign rfl rfl) ?_
  refine s_end ?_
  refine q_seq ?_
  refine c_seq rfl ?_
  refine r_ord (l := [0, 1, 2, 3]) rfl (by kernel_rfl) (by kernel_rfl) ?_
  refine s_v rfl rfl rfl rfl (v_ldr 2 rfl Try.underlying67 rfl rfl rfl rfl) ?_
  refine s_v rfl rfl rfl rfl (v_mf rfl rfl rfl) ?_
  refine s_give [0, 1, 2] rfl (by decide) (by simp [ids, Ent.id?]) (fun w h => h) ?_
  refine s_e rfl rfl (e_callF [1, 0] #[.slice A l.length c, .func (.func 38) #[] #[.pointer (some ⟨b1_, 0, none⟩)]] rfl rfl rfl rfl rfl Try.func37 rfl (by decide) rfl rfl rfl rfl (fun w ht => once2_con b1_ A c l k hl hS w _)) ?_
  refine s_v rfl rfl rfl rfl (v_assign rfl rfl) ?_
  refine s_end ?_
  refine q_seq ?_
  refine c_ret rfl ?_
  refine q_take [] rfl (by decide) ?_
  exact q_post rfl (.cons rfl (.nil)) hX
set_option maxRecDepth 100000 in
set_option maxHeartbeats 4000000 in
theorem always_con (ba : Nat) (A : Option Addr) (c : Nat) (l : List S35) (k : Int) (hl : l.length ≤ 1000) (hS : ∀ x ∈ l, Srt x.f0 ∧ x.f0.length ≤ 1000) (w0 : World) (H : List Nat) : Con Try.prog 40 #[.int .u64 k, .pointer (some ⟨ba, 0, none⟩)] w0 H [.f (KC k35 A c l), .f (fun w => w.heap[ba]? = some (.cells #[.slice A l.length c] 67 (0, 0)))] (fun X => X (.bool (!(l.any (fun x : S35 => !(getM x.f0 k).2.1)))) []) := by
  refine con_enter (c := bodyOf Try.f40) Try.func40 rfl (m := 8) rfl rfl rfl ?_
  intro X hX _
  refine c_seq rfl ?_
  refine r_ord (l := [0, 1]) rfl (by kernel_rfl) (by kernel_rfl) ?_
  refine s_e rfl rfl (e_box rfl rfl rfl rfl) ?_
  intro b1_
  refine s_v rfl rfl rfl rfl (v_assign rfl rfl) ?_
  refine s_end ?_
  refine q_seq ?_
  refine c_seq rfl ?_
  refine r_ord (l := [0, 1, 2, 3, 4]) rfl (by kernel_rfl) (by kernel_rfl) ?_
  refine s_v rfl rfl rfl rfl (v_ldr 2 rfl Try.underlying67 rfl rfl rfl rfl) ?_
  refine s_v rfl rfl rfl rfl (v_mf rfl rfl rfl) ?_
  refine s_give [0, 1, 2] rfl (by decide) (by simp [ids, Ent.id?]) (fun w h => h) ?_
  refine s_e rfl rfl (e_callF [1, 0] #[.slice A l.length c, .func (.func 41) #[] #[.pointer (some ⟨b1_, 0, none⟩)]] rfl rfl rfl rfl rfl Try.func37 rfl (by decide) rfl rfl rfl rfl (fun w ht => always2_con b1_ A c l k hl hS w _)) ?_
  refine s_v rfl rfl rfl rfl (v_not rfl rfl) ?_
  refine s_v rfl rfl rfl rfl (v_assign rfl rfl) ?_
  refine s_end ?_
  refine q_seq ?_
  refine c_ret rfl ?_
  refine q_take [] rfl (by decide) ?_
  exact q_post rfl (.cons rfl (.nil)) hX
end Go.Eng
namespace Go.Eng
open Go.Proofs Go.RowKit Go.Proofs.YtiihjijmmephlaaW.PrintWords Go.Proofs.Ytiihjijmmephlaa.GHist
set_option linter.unusedVariables false
set_option linter.unusedSimpArgs false
theorem rdI {l : List Int} {i : Nat} (h : i < l.length) : rd l (i : Int) = l[i] := by simp [rd, List.getD_eq_getElem?_getD, h]
theorem anyI_next {l : List Int} {i : Nat} {p : Int → Bool} (h : i < l.length) (ha : (l.take i).any p = false) (ht : p (rd l (i : Int)) = false) : (l.take (i + 1)).any p = false := by
  rw [List.take_succ_eq_append_getElem h, List.any_append, ha, ← rdI h]; simp [ht]
theorem anyI_hit {l : List Int} {i : Nat} {p : Int → Bool} (h : i < l.length) (ht : p (rd l (i : Int)) = true) : l.any p = true := by
  rw [List.any_eq_true]; exact ⟨_, by rw [rdI h]; exact List.getElem_mem h, ht⟩
set_option maxRecDepth 100000 in
set_option maxHeartbeats 4000000 in
theorem miss_con (ba bo : Nat) (A : Option Addr) (c : Nat) (l : List S35) (k : Int) (hl : l.length ≤ 1000) (hS : ∀ x ∈ l, Srt x.f0 ∧ x.f0.length ≤ 1000) (w0 : World) (H : List Nat) : Con Try.prog 44 #[.int .u64 k, .pointer (some ⟨bo, 0, none⟩)] w0 H [.f (KC k35 A c l), .f (fun w => w.heap[ba]? = some (.cells #[.slice A l.length c] 67 (0, 0))), .f (fun w => w.heap[bo]? = some (.cells #[.func (.func 36) #[] #[.pointer (some ⟨ba, 0, none⟩)]] 72 (0, 0)))] (fun X => X (.bool ((fun k : Int => !(l.any (fun x : S35 => (getM x.f0 k).2.1))) k)) []) := by
  refine con_enter (c := bodyOf Try.f44) Try.func44 rfl (m := 8) rfl rfl rfl ?_
  intro X hX _
  refine c_seq rfl ?_
  refine r_ord (l := [0]) rfl (by kernel_rfl) (by kernel_rfl) ?_
  refine s_v rfl rfl rfl rfl (v_assign rfl rfl) ?_
  refine s_end ?_
  refine q_seq ?_
  refine c_seq rfl ?_
  refine r_ord (l := [0, 1, 2, 3, 4]) rfl (by kernel_rfl) (by kernel_rfl) ?_
  refine s_v rfl rfl rfl rfl (v_ldr 2 rfl Try.underlying72 rfl rfl rfl rfl) ?_
  refine s_v rfl rfl rfl rfl (v_move rfl rfl) ?_
  refine s_e rfl rfl (e_callF [0, 1] #[.int .u64 k, .pointer (some ⟨ba, 0, none⟩)] rfl rfl rfl rfl rfl Try.func36 rfl (by decide) rfl rfl rfl rfl (fun w ht => once_con ba A c l k hl hS w _)) ?_
  refine s_v rfl rfl rfl rfl (v_not rfl rfl) ?_
  refine s_v rfl rfl rfl rfl (v_assign rfl rfl) ?_
  refine s_end ?_
  refine q_seq ?_
  refine c_ret rfl ?_
  refine q_take [] rfl (by decide) ?_
  exact q_post rfl (.cons rfl (.nil)) hX
set_option maxRecDepth 100000 in
set_option maxHeartbeats 4000000 in
theorem miss_idx (ba bo : Nat) (A : Option Addr) (c : Nat) (l : List S35) (B : Option Addr) (d : Nat) (ks : List Int) (hks : ks.length ≤ 1000) (hl : l.length ≤ 1000) (hS : ∀ x ∈ l, Srt x.f0 ∧ x.f0.length ≤ 1000) (w0 : World) (H : List Nat) : Con Try.prog 58 #[.slice B ks.length d, .func (.func 44) #[] #[.pointer (some ⟨bo, 0, none⟩)]] w0 H [.f (KC (Kd.int .u64) B d ks), .f (KC k35 A c l), .f (fun w => w.heap[ba]? = some (.cells #[.slice A l.length c] 67 (0, 0))), .f (fun w => w.heap[bo]? = some (.cells #[.func (.func 36) #[] #[.pointer (some ⟨ba, 0, none⟩)]] 72 (0, 0)))] (fun X => ∀ r : Int, decide (r ≥ 0) = ks.any (fun k : Int => !(l.any (fun x : S35 => (getM x.f0 k).2.1))) → X (.int .i64 r) []) := by
 refine con_enter (c := bodyOf Try.f58) Try.func58 rfl (m := 19) rfl rfl rfl ?_
 intro X hX _
 refine c_seq rfl ?_
 refine r_ord (l := [0]) rfl (by kernel_rfl) (by kernel_rfl) ?_
 refine s_v rfl rfl rfl rfl (v_assign rfl rfl) ?_
 refine s_end ?_
 refine q_seq ?_
 refine c_seq rfl ?_
 refine c_seq rfl ?_
 refine r_ord (l := [0, 1, 2]) rfl (by kernel_rfl) (by kernel_rfl) ?_
 refine s_v rfl rfl rfl rfl (v_move rfl rfl) ?_
 refine s_v rfl rfl rfl rfl (v_len rfl rfl rfl Try.underlying44 rfl rfl) ?_
 refine s_v rfl rfl rfl rfl (v_move rfl rfl) ?_
 refine s_end ?_
 refine q_seq ?_
 refine c_block rfl ?_
 refine c_loop (σ := Nat) (fun i => i ≤ ks.length ∧ (ks.take i).any (fun k : Int => !(l.any (fun x : S35 => (getM x.f0 k).2.1))) = false) (fun i => ks.length - i) (fun i => [(1, .func (.func 44) #[] #[.pointer (some ⟨bo, 0, none⟩)]), (0, .slice B ks.length d), (6, .slice B ks.length d), (7, .int .i64 (ks.length : Nat)), (8, .int .i64 ((i : Nat) : Int))]) (fun i => [.f (KC (Kd.int .u64) B d ks), .f (KC k35 A c l), .f (fun w => w.heap[ba]? = some (.cells #[.slice A l.length c] 67 (0, 0))), .f (fun w => w.heap[bo]? = some (.cells #[.func (.func 36) #[] #[.pointer (some ⟨ba, 0, none⟩)]] 72 (0, 0)))]) 0 [0, 1, 2, 3] rfl ⟨Nat.zero_le _, rfl⟩ (subF_spec ⟨rfl, rfl, rfl, rfl, rfl, trivial⟩) rfl (by decide) ?_
 rintro i hs
 have hi_ : i ≤ ks.length := hs.1
 refine c_seq rfl ?_
 refine r_ord (l := [0]) rfl (by kernel_rfl) (by kernel_rfl) ?_
 refine s_v rfl rfl rfl rfl (v_arith rfl rfl rfl rfl) ?_
 refine s_end ?_
 refine q_seq ?_
 refine c_seq rfl ?_
 refine c_cond (t := decide ((((i : Nat) : Int) : Int) < (ks.length : Nat))) rfl rfl (fun h1_ => ?_) (fun h1_ => ?_)
 have h1_d := of_decide_eq_true h1_
 have hil : i < ks.length := by omega
 refine c_skip rfl ?_
 refine q_seq ?_
 refine c_seq rfl ?_
 refine c_block rfl ?_
 refine c_seq rfl ?_
 refine r_ord (l := [0, 1]) rfl (by kernel_rfl) (by kernel_rfl) ?_
 refine s_v rfl rfl rfl rfl (v_move rfl rfl) ?_
 refine s_v rfl rfl rfl rfl (v_assign rfl rfl) ?_
 refine s_end ?_
 refine q_seq ?_
 refine c_seq rfl ?_
 refine r_ord (l := [0, 1, 2, 3, 4, 5]) rfl (by kernel_rfl) (by kernel_rfl) ?_
 refine s_v rfl rfl rfl rfl (v_move rfl rfl) ?_
 refine s_v rfl rfl rfl rfl (v_move rfl rfl) ?_
 refine s_v rfl rfl rfl rfl (v_move rfl rfl) ?_
 refine s_v rfl rfl rfl rfl (v_iaK (i := 0) rfl Try.underlying44 SZ41 rfl rfl rfl rfl (by omega) (by omega)) ?_
 refine s_v rfl rfl rfl rfl (v_ldK (v := .int .u64 (rd ks ((i : Nat) : Int))) 0 0 rfl Try.underlying41 rfl rfl rfl rfl (by omega) (by omega) (fun w K h => h)) ?_
 refine s_e rfl rfl (e_callF [1, 2, 3] #[.int .u64 (rd ks ((i : Nat) : Int)), .pointer (some ⟨bo, 0, none⟩)] rfl rfl rfl rfl rfl Try.func44 rfl (by decide) rfl rfl rfl rfl (fun w ht => miss_con ba bo A c l _ hl hS w _)) ?_
 refine s_end ?_
 refine q_seq ?_
 refine c_cond (t := (fun k : Int => !(l.any (fun x : S35 => (getM x.f0 k).2.1))) (rd ks ((i : Nat) : Int))) rfl rfl (fun h2_ => ?_) (fun h2_ => ?_)
 have hpx : (fun k : Int => !(l.any (fun x : S35 => (getM x.f0 k).2.1))) (rd ks (i : Int)) = true := h2_
 refine c_seq rfl ?_
 refine r_ord (l := [0, 1]) rfl (by kernel_rfl) (by kernel_rfl) ?_
 refine s_v rfl rfl rfl rfl (v_move rfl rfl) ?_
 refine s_v rfl rfl rfl rfl (v_assign rfl rfl) ?_
 refine s_end ?_
 refine q_seq ?_
 refine c_ret rfl ?_
 refine q_block_ret ?_
 refine q_then_ret ?_
 refine q_then_ret ?_
 refine q_block_ret ?_
 refine q_then_ret ?_
 refine q_take [] rfl (by decide) ?_
 exact q_post rfl (.cons rfl (.nil)) (hX _ (by rw [anyI_hit hil hpx]; simp))
 have hpx : (fun k : Int => !(l.any (fun x : S35 => (getM x.f0 k).2.1))) (rd ks (i : Int)) = false := h2_
 refine c_skip rfl ?_
 refine q_block ?_
 refine q_seq ?_
 refine r_ord (l := [0, 1]) rfl (by kernel_rfl) (by kernel_rfl) ?_
 refine s_v rfl rfl rfl rfl (OpV.cast (v := .int .i64 ((i + 1 : Nat) : Int)) (v_arith rfl rfl rfl rfl) (addN (a := i) (b := 1) (by first | omega | (simp only [List.length_set, swr_len, swp_len]; omega)))) ?_
 refine s_v rfl rfl rfl rfl (v_move rfl rfl) ?_
 refine s_end ?_
 exact q_again (i + 1) [0, 1, 2, 3] ⟨by omega, anyI_next hil hs.2 hpx⟩ (by show ks.length - (i + 1) < ks.length - i; omega) (subF_spec ⟨rfl, rfl, rfl, rfl, rfl, trivial⟩) rfl (by decide)
 have h1_d := of_decide_eq_false h1_
 have hend : ks.any (fun k : Int => !(l.any (fun x : S35 => (getM x.f0 k).2.1))) = false := by have h_ := hs.2; rwa [List.take_of_length_le (by omega)] at h_
 refine c_exit (i := 0) rfl rfl ?_
 refine q_then_exit ?_
 refine q_then_exit ?_
 refine q_block_here rfl ?_
 refine q_seq ?_
 refine c_seq rfl ?_
 refine r_ord (l := [0]) rfl (by kernel_rfl) (by kernel_rfl) ?_
 refine s_v rfl rfl rfl rfl (v_assign rfl rfl) ?_
 refine s_end ?_
 refine q_seq ?_
 refine c_ret rfl ?_
 refine q_take [] rfl (by decide) ?_
 exact q_post rfl (.cons rfl (.nil)) (hX _ (by rw [hend]; decide))
set_option maxRecDepth 100000 in
set_option maxHeartbeats 4000000 in
theorem miss_any (ba bo : Nat) (A : Option Addr) (c : Nat) (l : List S35) (B : Option Addr) (d : Nat) (ks : List Int) (hks : ks.length ≤ 1000) (hl : l.length ≤ 1000) (hS : ∀ x ∈ l, Srt x.f0 ∧ x.f0.length ≤ 1000) (w0 : World) (H : List Nat) : Con Try.prog 43 #[.slice B ks.length d, .func (.func 44) #[] #[.pointer (some ⟨bo, 0, none⟩)]] w0 H [.f (KC (Kd.int .u64) B d ks), .f (KC k35 A c l), .f (fun w => w.heap[ba]? = some (.cells #[.slice A l.length c] 67 (0, 0))), .f (fun w => w.heap[bo]? = some (.cells #[.func (.func 36) #[] #[.pointer (some ⟨ba, 0, none⟩)]] 72 (0, 0)))] (fun X => X (.bool (ks.any (fun k : Int => !(l.any (fun x : S35 => (getM x.f0 k).2.1))))) []) := by
  refine con_enter (c := bodyOf Try.f43) Try.func43 rfl (m := 9) rfl rfl rfl ?_
  intro X hX _
  refine c_seq rfl ?_
  refine r_ord (l := [0]) rfl (by kernel_rfl) (by kernel_rfl) ?_
  refine s_v rfl rfl rfl rfl (v_assign rfl rfl) ?_
  refine s_end ?_
  refine q_seq ?_
  refine c_seq rfl ?_
  refine r_ord (l := [0, 1, 2, 3, 4]) rfl (by kernel_rfl) (by kernel_rfl) ?_
  refine s_v rfl rfl rfl rfl (v_move rfl rfl) ?_
  refine s_v rfl rfl rfl rfl (v_move rfl rfl) ?_
  refine s_e rfl rfl (e_callF [0, 1, 2, 3] #[.slice B ks.length d, .func (.func 44) #[] #[.pointer (some ⟨bo, 0, none⟩)]] rfl rfl rfl rfl rfl Try.func58 rfl (by decide) rfl rfl rfl rfl (fun w ht => miss_idx ba bo A c l B d ks hks hl hS w _)) ?_
  intro r hr
  refine s_v rfl rfl rfl rfl (v_arith rfl rfl rfl rfl) ?_
  refine s_v rfl rfl rfl rfl (v_assign rfl rfl) ?_
  refine s_end ?_
  refine q_seq ?_
  refine c_ret rfl ?_
  refine q_take [] rfl (by decide) ?_
  rw [← hr] at hX
  exact q_post rfl (.cons rfl (.nil)) hX
end Go.Eng
namespace Go.Eng
open Go.Proofs Go.RowKit Go.Proofs.YtiihjijmmephlaaW.PrintWords Go.Proofs.Ytiihjijmmephlaa.GHist
set_option linter.unusedVariables false
set_option linter.unusedSimpArgs false
theorem index_l (l : List Int) (a : Int) (hl : l.length ≤ 1000) : ∀ (d k i : Nat), i ≤ l.length → l.length - i = d → d < k → ∃ r, slices_Index_uint64_uint64.l0 k l a (l.length : Int) (i : Int) = some r ∧ decide (r ≥ 0) = (l.drop i).contains a := by
  intro d
  induction d with
  | zero =>
    intro k i h1 h2 h3
    obtain ⟨k, rfl⟩ : ∃ m, k = m + 1 := ⟨k - 1, by omega⟩
    simp only [slices_Index_uint64_uint64.l0]
    rw [if_neg (by omega), List.drop_of_length_le (by omega)]
    exact ⟨-1, rfl, by simp⟩
  | succ d ih =>
    intro k i h1 h2 h3
    obtain ⟨k, rfl⟩ : ∃ m, k = m + 1 := ⟨k - 1, by omega⟩
    have e1 : wrap64 ((i : Int) + 1) = ((i + 1 : Nat) : Int) := by rw [w64 (by omega) (by omega)]; omega
    simp only [slices_Index_uint64_uint64.l0, e1]
    rw [if_pos (by omega), if_pos (by omega), if_pos (by omega), List.drop_eq_getElem_cons (show i < l.length by omega)]
    have e : rd l (i : Int) = l[i]'(by omega) := rdI (by omega)
    by_cases h : a = rd l (i : Int)
    · rw [if_pos h]
      rw [e] at h
      exact ⟨i, rfl, by rw [List.contains_cons, show (a == l[i]'(by omega)) = true by simp [h], Bool.true_or]; simp⟩
    · rw [if_neg h]
      obtain ⟨r, hr, hc⟩ := ih k (i + 1) (by omega) (by omega) (by omega)
      rw [e] at h
      exact ⟨r, hr, by rw [hc, List.contains_cons, show (a == l[i]'(by omega)) = false by simp [h], Bool.false_or]⟩
theorem contains_f (l : List Int) (a : Int) (hl : l.length ≤ 1000) : slices_Contains_uint64_uint64.f 5000 l a = some (l.contains a) := by
  obtain ⟨r, hr, hc⟩ := index_l l a hl l.length 5000 0 (Nat.zero_le _) (by omega) (by omega)
  have hr' : slices_Index_uint64_uint64.f 5000 l a = some r := hr
  unfold slices_Contains_uint64_uint64.f
  rw [hr', Option.bind_some, hc, List.drop_zero]
def onceL (l : List S48) (x : S48) (k : Int) : Bool := (mapsL l x (ordL l).length).any (fun y : S35 => (getM y.f0 k).2.1)
def alwaysL (l : List S48) (x : S48) (k : Int) : Bool := !((mapsL l x (ordL l).length).any (fun y : S35 => !(getM y.f0 k).2.1))
def beyondB (x : S48) (k : Int) : Bool := decide ((x.f6.f3.length : Int) ≥ mx 0 x.f1.f3) && (((x.f6.f3.length : Int) == 0) || decide (k > rd x.f6.f3 ((x.f6.f3.length : Int) - 1)))
def pairBad (l : List S48) (x : S48) (k : Int) : Bool := decide (k ≥ x.f1.f1) && (decide (k ≤ x.f1.f2) && (alwaysL l x k && (!(beyondB x k) && !(x.f6.f3.contains k))))
def okR (l : List S48) (x : S48) : Bool := risingB x && (!(x.f6.f3.any (fun k => !(onceL l x k))) && (mapF l x.f2 (ordL l)).all (fun p => !(pairBad l x p.f0)))
def okB (l : List S48) (x : S48) : Bool := !(x.f1.f0 == 5) || (!x.f5 || okR l x)
def rangesM (l : List S48) : Bool := l.all (okB l)
theorem all_nextG {α : Type} {l : List α} {i : Nat} {p : α → Bool} (h : i < l.length) (ha : (l.take i).all p = true) (ht : p l[i] = true) : (l.take (i + 1)).all p = true := by
  rw [List.take_succ_eq_append_getElem h, List.all_append, ha]; simp [ht]
theorem all_badG {α : Type} {l : List α} {i : Nat} {p : α → Bool} (h : i < l.length) (ht : p l[i] = false) : l.all p = false := by
  rw [List.all_eq_false]; exact ⟨l[i], List.getElem_mem h, by simp [ht]⟩
theorem all_endG {α : Type} {l : List α} {i : Nat} {p : α → Bool} (h : l.length ≤ i) (ha : (l.take i).all p = true) : l.all p = true := by
  rwa [List.take_of_length_le h] at ha
theorem rd48 {l : List S48} {i : Nat} (h : i < l.length) : rd_T48 l (i : Int) = l[i] := by simp [rd_T48, List.getD_eq_getElem?_getD, h]
theorem rd56' {l : List S56} {i : Nat} (h : i < l.length) : rd_T56 l (i : Int) = l[i] := by simp [rd_T56, List.getD_eq_getElem?_getD, h]
theorem mapsL_len (l : List S48) (x : S48) (j : Nat) : 0 < (mapsL l x j).length := by simp [mapsL]
theorem mapsL_S {l : List S48} {x : S48} {j : Nat} (hl : l.length ≤ 80) : ∀ y ∈ mapsL l x j, Srt y.f0 ∧ y.f0.length ≤ 1000 := by
  have h : ∀ t, Srt (mapF l t (ordL l)) ∧ (mapF l t (ordL l)).length ≤ 1000 := fun t => by
    have h1 := mapF_facts l t (ordL l)
    have h2 := ordL_len l
    exact ⟨h1.1, by omega⟩
  intro y hy
  unfold mapsL at hy
  rcases List.mem_cons.1 hy with rfl | hy
  · exact h _
  · obtain ⟨k, _, rfl⟩ := List.mem_map.1 hy
    exact h _
theorem okR_bad5 {l : List S48} {x : S48} {i : Nat} (h : i < (mapF l x.f2 (ordL l)).length) (hb : pairBad l x ((mapF l x.f2 (ordL l))[i]).f0 = true) : okR l x = false := by
  have : (mapF l x.f2 (ordL l)).all (fun p => !(pairBad l x p.f0)) = false := all_badG h (by simp [hb])
  simp [okR, this]
end Go.Eng
namespace Go.Eng
open Go.Proofs Go.RowKit Go.Proofs.YtiihjijmmephlaaW.PrintWords Go.Proofs.Ytiihjijmmephlaa.GHist
set_option linter.unusedVariables false
set_option linter.unusedSimpArgs false
set_option maxRecDepth 100000 in
set_option maxHeartbeats 4000000 in
theorem ranges_con (A : Option Addr) (c : Nat) (l : List S48) (hl : l.length ≤ 80) (hn : (hapTo l l.length).length ≤ 40) (hK : ∀ x ∈ l, x.f6.f3.length ≤ 40) (w0 : World) (H : List Nat) : Con Try.prog 21 #[.slice A l.length c] w0 H [.f (KC k48 A c l)] (fun X => X (.bool (rangesM l)) []) := by
 refine con_enter (c := bodyOf Try.f21) Try.func21 rfl (m := 109) rfl rfl rfl ?_
 intro X hX _
 refine c_seq rfl ?_
 refine r_ord (l := [0]) rfl (by kernel_rfl) (by kernel_rfl) ?_
 refine s_v rfl rfl rfl rfl (v_assign rfl rfl) ?_
 refine s_end ?_
 refine q_seq ?_
 refine c_seq rfl ?_
 refine c_seq rfl ?_
 refine r_ord (l := [0, 1, 2]) rfl (by kernel_rfl) (by kernel_rfl) ?_
 refine s_v rfl rfl rfl rfl (v_move rfl rfl) ?_
 refine s_v rfl rfl rfl rfl (v_len rfl rfl rfl Try.underlying27 rfl rfl) ?_
 refine s_v rfl rfl rfl rfl (v_move rfl rfl) ?_
 refine s_end ?_
 refine q_seq ?_
 refine c_block rfl ?_
 refine c_loop (σ := Nat) (fun i => i ≤ l.length ∧ (l.take i).all (okB l) = true) (fun i => l.length - i) (fun i => [(0, .slice A l.length c), (13, .slice A l.length c), (14, .int .i64 (l.length : Nat)), (15, .int .i64 ((i : Nat) : Int))]) (fun i => [.f (KC k48 A c l)]) 0 [0] rfl ⟨Nat.zero_le _, rfl⟩ (subF_spec ⟨rfl, rfl, rfl, rfl, trivial⟩) rfl (by decide) ?_
 rintro i hs
 have hi_ : i ≤ l.length := hs.1
 have hso := hs.2
 refine c_seq rfl ?_
 refine r_ord (l := [0]) rfl (by kernel_rfl) (by kernel_rfl) ?_
 refine s_v rfl rfl rfl rfl (v_arith rfl rfl rfl rfl) ?_
 refine s_end ?_
 refine q_seq ?_
 refine c_seq rfl ?_
 refine c_cond (t := decide ((((i : Nat) : Int) : Int) < (l.length : Nat))) rfl rfl (fun h1_ => ?_) (fun h1_ => ?_)
 have h1_d := of_decide_eq_true h1_
 have hil : i < l.length := by omega
 have hkl : (rd_T48 l (i : Int)).f6.f3.length ≤ 40 := hK _ (el_mem hil)
 have hml : (mapF l (rd_T48 l (i : Int)).f2 (ordL l)).length ≤ 1000 := by have h_ := mapF_facts l (rd_T48 l (i : Int)).f2 (ordL l); have := ordL_len l; omega
 have hMl : (mapsL l (rd_T48 l (i : Int)) (ordL l).length).length ≤ 1000 := by have := maps_len l (rd_T48 l (i : Int)) (ordL l).length; have := ordL_len l; omega
 have hMS : ∀ x ∈ (mapsL l (rd_T48 l (i : Int)) (ordL l).length), Srt x.f0 ∧ x.f0.length ≤ 1000 := mapsL_S hl
 refine c_skip rfl ?_
 refine q_seq ?_
 refine c_seq rfl ?_
 refine c_block rfl ?_
 refine c_seq rfl ?_
 refine r_ord (l := [0, 1, 2, 3]) rfl (by kernel_rfl) (by kernel_rfl) ?_
 refine s_v rfl rfl rfl rfl (v_iaK (i := 0) rfl Try.underlying27 SZ53 rfl rfl rfl rfl (by omega) (by omega)) ?_
 refine s_e rfl rfl (e_ldKX z48 0 rfl rfl rfl Try.underlying53 rfl SZ53 rfl rfl rfl (by omega) (by omega)) ?_
 intro cs2_ h3_
 refine s_know 0 rfl (fun w h => k48_sh h) (fun h4_ => ?_)
 obtain ⟨A5_, c6_, rfl⟩ := h4_
 refine s_weak 0 rfl (fun w h => k48_row h) ?_
 refine s_e rfl rfl (e_alloc rfl rfl rfl ZR53) ?_
 intro b7_
 refine s_e rfl rfl (e_stA 0 rfl rfl SZ53 rfl rfl rfl rfl rfl rfl) ?_
 refine s_end ?_
 refine q_seq ?_
 refine c_seq rfl ?_
 refine c_seq rfl ?_
 refine r_ord (l := [0, 1, 2, 3, 4, 5, 6, 7]) rfl (by kernel_rfl) (by kernel_rfl) ?_
 refine s_v rfl rfl rfl rfl (v_ldA [.int .i64 ((rd_T48 l ((i : Nat) : Int)).f0), .int .i64 ((rd_T48 l ((i : Nat) : Int)).f1.f0), .int .u64 ((rd_T48 l ((i : Nat) : Int)).f1.f1), .int .u64 ((rd_T48 l ((i : Nat) : Int)).f1.f2), .int .i64 ((rd_T48 l ((i : Nat) : Int)).f1.f3), .int .i64 ((rd_T48 l ((i : Nat) : Int)).f1.f4), .int .i64 ((rd_T48 l ((i : Nat) : Int)).f2), .int .i64 ((rd_T48 l ((i : Nat) : Int)).f3), .int .i64 ((rd_T48 l ((i : Nat) : Int)).f4), .bool ((rd_T48 l ((i : Nat) : Int)).f5), .bool ((rd_T48 l ((i : Nat) : Int)).f6.f0), .bool ((rd_T48 l ((i : Nat) : Int)).f6.f1), .int .u64 ((rd_T48 l ((i : Nat) : Int)).f6.f2), .slice A5_ ((rd_T48 l ((i : Nat) : Int)).f6.f3.length) c6_] 0 rfl Try.underlying53 rfl SZ53 rfl rfl rfl rfl) ?_
 refine s_e rfl rfl (e_callF [1] #[.agg #[.int .i64 ((rd_T48 l ((i : Nat) : Int)).f0), .int .i64 ((rd_T48 l ((i : Nat) : Int)).f1.f0), .int .u64 ((rd_T48 l ((i : Nat) : Int)).f1.f1), .int .u64 ((rd_T48 l ((i : Nat) : Int)).f1.f2), .int .i64 ((rd_T48 l ((i : Nat) : Int)).f1.f3), .int .i64 ((rd_T48 l ((i : Nat) : Int)).f1.f4), .int .i64 ((rd_T48 l ((i : Nat) : Int)).f2), .int .i64 ((rd_T48 l ((i : Nat) : Int)).f3), .int .i64 ((rd_T48 l ((i : Nat) : Int)).f4), .bool ((rd_T48 l ((i : Nat) : Int)).f5), .bool ((rd_T48 l ((i : Nat) : Int)).f6.f0), .bool ((rd_T48 l ((i : Nat) : Int)).f6.f1), .int .u64 ((rd_T48 l ((i : Nat) : Int)).f6.f2), .slice A5_ ((rd_T48 l ((i : Nat) : Int)).f6.f3.length) c6_]] rfl rfl rfl rfl rfl Try.func24 rfl (by decide) rfl rfl rfl rfl (fun w ht => evr_con (rd_T48 l ((i : Nat) : Int)) A5_ c6_ w _)) ?_
 refine s_v rfl rfl rfl rfl (v_not rfl rfl) ?_
 refine s_v rfl rfl rfl rfl (v_move rfl rfl) ?_
 refine s_splitv (d := 22) (t := !((rd_T48 l ((i : Nat) : Int)).f1.f0 == 5)) rfl (fun h8_ => ?_) (fun h8_ => ?_)
 refine s_no rfl rfl rfl rfl ?_
 refine s_no rfl rfl rfl rfl ?_
 refine s_no rfl rfl rfl rfl ?_
 refine s_v rfl rfl rfl rfl (v_pick rfl rfl rfl rfl) ?_
 refine s_end ?_
 refine q_seq ?_
 refine c_cond1 rfl rfl ?_
 refine c_exit (i := 1) rfl rfl ?_
 refine q_then_exit ?_
 refine q_block_here rfl ?_
 refine q_seq ?_
 refine r_ord (l := [0, 1]) rfl (by kernel_rfl) (by kernel_rfl) ?_
 refine s_v rfl rfl rfl rfl (OpV.cast (v := .int .i64 ((i + 1 : Nat) : Int)) (v_arith rfl rfl rfl rfl) (addN (a := i) (b := 1) (by first | omega | (simp only [List.length_set, swr_len, swp_len]; omega)))) ?_
 refine s_v rfl rfl rfl rfl (v_move rfl rfl) ?_
 refine s_end ?_
 have hok : okB l (rd_T48 l (i : Int)) = true := by unfold okB; rw [h8_]; rfl
 rw [rd48 hil] at hok
 exact q_again (i + 1) [3] ⟨by omega, all_nextG hil hso hok⟩ (by show l.length - (i + 1) < l.length - i; omega) (subF_spec ⟨rfl, rfl, rfl, rfl, trivial⟩) rfl (by decide)
 refine s_vg rfl rfl rfl rfl (v_fa rfl Try.underlying53 rfl SZ4 rfl) ?_
 refine s_vg rfl rfl rfl rfl (v_ld 0 rfl Try.underlying4 rfl rfl rfl rfl) ?_
 refine s_vg rfl rfl rfl rfl (v_not rfl rfl) ?_
 refine s_v rfl rfl rfl rfl (v_pick rfl rfl rfl rfl) ?_
 refine s_end ?_
 refine q_seq ?_
 refine c_cond (t := !((rd_T48 l ((i : Nat) : Int)).f5)) rfl rfl (fun h9_ => ?_) (fun h9_ => ?_)
 refine c_exit (i := 1) rfl rfl ?_
 refine q_then_exit ?_
 refine q_block_here rfl ?_
 refine q_seq ?_
 refine r_ord (l := [0, 1]) rfl (by kernel_rfl) (by kernel_rfl) ?_
 refine s_v rfl rfl rfl rfl (OpV.cast (v := .int .i64 ((i + 1 : Nat) : Int)) (v_arith rfl rfl rfl rfl) (addN (a := i) (b := 1) (by first | omega | (simp only [List.length_set, swr_len, swp_len]; omega)))) ?_
 refine s_v rfl rfl rfl rfl (v_move rfl rfl) ?_
 refine s_end ?_
 have hok : okB l (rd_T48 l (i : Int)) = true := by unfold okB; rw [h8_, h9_]; rfl
 rw [rd48 hil] at hok
 exact q_again (i + 1) [3] ⟨by omega, all_nextG hil hso hok⟩ (by show l.length - (i + 1) < l.length - i; omega) (subF_spec ⟨rfl, rfl, rfl, rfl, trivial⟩) rfl (by decide)
 refine c_skip rfl ?_
 refine q_seq ?_
 refine c_seq rfl ?_
 refine r_ord (l := [0, 1, 2, 3, 4]) rfl (by kernel_rfl) (by kernel_rfl) ?_
 refine s_v rfl rfl rfl rfl (v_move rfl rfl) ?_
 refine s_v rfl rfl rfl rfl (v_ldA [.int .i64 ((rd_T48 l ((i : Nat) : Int)).f0), .int .i64 ((rd_T48 l ((i : Nat) : Int)).f1.f0), .int .u64 ((rd_T48 l ((i : Nat) : Int)).f1.f1), .int .u64 ((rd_T48 l ((i : Nat) : Int)).f1.f2), .int .i64 ((rd_T48 l ((i : Nat) : Int)).f1.f3), .int .i64 ((rd_T48 l ((i : Nat) : Int)).f1.f4), .int .i64 ((rd_T48 l ((i : Nat) : Int)).f2), .int .i64 ((rd_T48 l ((i : Nat) : Int)).f3), .int .i64 ((rd_T48 l ((i : Nat) : Int)).f4), .bool ((rd_T48 l ((i : Nat) : Int)).f5), .bool ((rd_T48 l ((i : Nat) : Int)).f6.f0), .bool ((rd_T48 l ((i : Nat) : Int)).f6.f1), .int .u64 ((rd_T48 l ((i : Nat) : Int)).f6.f2), .slice A5_ ((rd_T48 l ((i : Nat) : Int)).f6.f3.length) c6_] 0 rfl Try.underlying53 rfl SZ53 rfl rfl rfl rfl) ?_
 refine s_e rfl rfl (e_callF [3] #[.slice A l.length c, .agg #[.int .i64 ((rd_T48 l ((i : Nat) : Int)).f0), .int .i64 ((rd_T48 l ((i : Nat) : Int)).f1.f0), .int .u64 ((rd_T48 l ((i : Nat) : Int)).f1.f1), .int .u64 ((rd_T48 l ((i : Nat) : Int)).f1.f2), .int .i64 ((rd_T48 l ((i : Nat) : Int)).f1.f3), .int .i64 ((rd_T48 l ((i : Nat) : Int)).f1.f4), .int .i64 ((rd_T48 l ((i : Nat) : Int)).f2), .int .i64 ((rd_T48 l ((i : Nat) : Int)).f3), .int .i64 ((rd_T48 l ((i : Nat) : Int)).f4), .bool ((rd_T48 l ((i : Nat) : Int)).f5), .bool ((rd_T48 l ((i : Nat) : Int)).f6.f0), .bool ((rd_T48 l ((i : Nat) : Int)).f6.f1), .int .u64 ((rd_T48 l ((i : Nat) : Int)).f6.f2), .slice A5_ ((rd_T48 l ((i : Nat) : Int)).f6.f3.length) c6_]] rfl rfl rfl rfl rfl Try.func35 rfl (by decide) rfl rfl rfl rfl (fun w ht => maps_con A c l (rd_T48 l (i : Int)) A5_ c6_ hl hn w _)) ?_
 intro A10_ c11_
 refine s_e rfl rfl (e_alloc rfl rfl rfl ZR67) ?_
 intro b12_
 refine s_e rfl rfl (e_st 0 rfl rfl SZ67 rfl rfl rfl rfl (blt_lt rfl)) ?_
 refine s_end ?_
 refine q_seq ?_
 refine c_seq rfl ?_
 refine r_ord (l := [0, 1, 2]) rfl (by kernel_rfl) (by kernel_rfl) ?_
 refine s_v rfl rfl rfl rfl (v_mf rfl rfl rfl) ?_
 refine s_e rfl rfl (e_alloc rfl rfl rfl ZR72) ?_
 intro b13_
 refine s_e rfl rfl (e_st 0 rfl rfl SZ72 rfl rfl rfl rfl (blt_lt rfl)) ?_
 refine s_end ?_
 refine q_seq ?_
 refine c_seq rfl ?_
 refine r_ord (l := [0, 1]) rfl (by kernel_rfl) (by kernel_rfl) ?_
 refine s_v rfl rfl rfl rfl (v_mf rfl rfl rfl) ?_
 refine s_v rfl rfl rfl rfl (v_assign rfl rfl) ?_
 refine s_end ?_
 refine q_seq ?_
 refine c_seq rfl ?_
 refine r_ord (l := [0, 1, 2, 3]) rfl (by kernel_rfl) (by kernel_rfl) ?_
 refine s_v rfl rfl rfl rfl (v_fa rfl Try.underlying53 rfl SZ46 rfl) ?_
 refine s_v rfl rfl rfl rfl (v_fa rfl Try.underlying46 rfl SZ44 rfl) ?_
 refine s_v rfl rfl rfl rfl (v_ld 3 rfl Try.underlying44 rfl rfl rfl rfl) ?_
 refine s_v rfl rfl rfl rfl (v_assign rfl rfl) ?_
 refine s_end ?_
 refine q_seq ?_
 refine c_seq rfl ?_
 refine c_seq rfl ?_
 refine r_ord (l := [0, 1, 2, 3, 4, 5, 6, 7]) rfl (by kernel_rfl) (by kernel_rfl) ?_
 refine s_v rfl rfl rfl rfl (v_ldA [.int .i64 ((rd_T48 l ((i : Nat) : Int)).f0), .int .i64 ((rd_T48 l ((i : Nat) : Int)).f1.f0), .int .u64 ((rd_T48 l ((i : Nat) : Int)).f1.f1), .int .u64 ((rd_T48 l ((i : Nat) : Int)).f1.f2), .int .i64 ((rd_T48 l ((i : Nat) : Int)).f1.f3), .int .i64 ((rd_T48 l ((i : Nat) : Int)).f1.f4), .int .i64 ((rd_T48 l ((i : Nat) : Int)).f2), .int .i64 ((rd_T48 l ((i : Nat) : Int)).f3), .int .i64 ((rd_T48 l ((i : Nat) : Int)).f4), .bool ((rd_T48 l ((i : Nat) : Int)).f5), .bool ((rd_T48 l ((i : Nat) : Int)).f6.f0), .bool ((rd_T48 l ((i : Nat) : Int)).f6.f1), .int .u64 ((rd_T48 l ((i : Nat) : Int)).f6.f2), .slice A5_ ((rd_T48 l ((i : Nat) : Int)).f6.f3.length) c6_] 3 rfl Try.underlying53 rfl SZ53 rfl rfl rfl rfl) ?_
 refine s_e rfl rfl (e_callF [4] #[.agg #[.int .i64 ((rd_T48 l ((i : Nat) : Int)).f0), .int .i64 ((rd_T48 l ((i : Nat) : Int)).f1.f0), .int .u64 ((rd_T48 l ((i : Nat) : Int)).f1.f1), .int .u64 ((rd_T48 l ((i : Nat) : Int)).f1.f2), .int .i64 ((rd_T48 l ((i : Nat) : Int)).f1.f3), .int .i64 ((rd_T48 l ((i : Nat) : Int)).f1.f4), .int .i64 ((rd_T48 l ((i : Nat) : Int)).f2), .int .i64 ((rd_T48 l ((i : Nat) : Int)).f3), .int .i64 ((rd_T48 l ((i : Nat) : Int)).f4), .bool ((rd_T48 l ((i : Nat) : Int)).f5), .bool ((rd_T48 l ((i : Nat) : Int)).f6.f0), .bool ((rd_T48 l ((i : Nat) : Int)).f6.f1), .int .u64 ((rd_T48 l ((i : Nat) : Int)).f6.f2), .slice A5_ ((rd_T48 l ((i : Nat) : Int)).f6.f3.length) c6_]] rfl rfl rfl rfl rfl Try.func42 rfl (by decide) rfl rfl rfl rfl (fun w ht => risingC (rd_T48 l ((i : Nat) : Int)) A5_ c6_ (by omega) w _)) ?_
 refine s_v rfl rfl rfl rfl (v_not rfl rfl) ?_
 refine s_v rfl rfl rfl rfl (v_move rfl rfl) ?_
 refine s_splitv (d := 38) (t := !(risingB (rd_T48 l ((i : Nat) : Int)))) rfl (fun h14_ => ?_) (fun h14_ => ?_)
 refine s_no rfl rfl rfl rfl ?_
 refine s_no rfl rfl rfl rfl ?_
 refine s_no rfl rfl rfl rfl ?_
 refine s_v rfl rfl rfl rfl (v_pick rfl rfl rfl rfl) ?_
 refine s_end ?_
 refine q_seq ?_
 refine c_cond1 rfl rfl ?_
 refine c_seq rfl ?_
 refine r_ord (l := [0]) rfl (by kernel_rfl) (by kernel_rfl) ?_
 refine s_v rfl rfl rfl rfl (v_assign rfl rfl) ?_
 refine s_end ?_
 refine q_seq ?_
 refine c_ret rfl ?_
 refine q_then_ret ?_
 refine q_block_ret ?_
 refine q_then_ret ?_
 refine q_then_ret ?_
 refine q_block_ret ?_
 refine q_then_ret ?_
 refine q_take [] rfl (by decide) ?_
 have hr_ : okR l (rd_T48 l (i : Int)) = false := by unfold okR; rw [show risingB (rd_T48 l (i : Int)) = false by simpa using h14_]; rfl
 have hb_ : okB l (rd_T48 l (i : Int)) = false := by unfold okB; rw [h8_, h9_, hr_]; rfl
 rw [rd48 hil] at hb_
 rw [show rangesM l = false from all_badG hil hb_] at hX
 exact q_post rfl (.cons rfl (.nil)) hX
 refine s_vg rfl rfl rfl rfl (v_move rfl rfl) ?_
 refine s_vg rfl rfl rfl rfl (v_mf rfl rfl rfl) ?_
 refine s_give [1, 0, 2, 3, 4, 5, 6] rfl (by decide) (by simp [ids, Ent.id?]) (fun w h => h) ?_
 refine s_give [1, 0, 2, 3, 4, 5, 6] rfl (by decide) (by simp [ids, Ent.id?]) (fun w h => h) ?_
 refine s_eg rfl rfl (e_callF [4, 2, 1, 0] #[.slice A5_ ((rd_T48 l ((i : Nat) : Int)).f6.f3.length) c6_, .func (.func 44) #[] #[.pointer (some ⟨b13_, 0, none⟩)]] rfl rfl rfl rfl rfl Try.func43 rfl (by decide) rfl rfl rfl rfl (fun w ht => miss_any b12_ b13_ A10_ c11_ (mapsL l (rd_T48 l (i : Int)) (ordL l).length) A5_ c6_ ((rd_T48 l ((i : Nat) : Int)).f6.f3) (by omega) hMl hMS w _)) ?_
 refine s_v rfl rfl rfl rfl (v_pick rfl rfl rfl rfl) ?_
 refine s_end ?_
 refine q_seq ?_
 refine c_cond (t := (rd_T48 l (i : Int)).f6.f3.any (fun k : Int => !((mapsL l (rd_T48 l (i : Int)) (ordL l).length).any (fun x : S35 => (getM x.f0 k).2.1)))) rfl rfl (fun h15_ => ?_) (fun h15_ => ?_)
 refine c_seq rfl ?_
 refine r_ord (l := [0]) rfl (by kernel_rfl) (by kernel_rfl) ?_
 refine s_v rfl rfl rfl rfl (v_assign rfl rfl) ?_
 refine s_end ?_
 refine q_seq ?_
 refine c_ret rfl ?_
 refine q_then_ret ?_
 refine q_block_ret ?_
 refine q_then_ret ?_
 refine q_then_ret ?_
 refine q_block_ret ?_
 refine q_then_ret ?_
 refine q_take [] rfl (by decide) ?_
 have hr_ : okR l (rd_T48 l (i : Int)) = false := by unfold okR; rw [show (rd_T48 l (i : Int)).f6.f3.any (fun k => !(onceL l (rd_T48 l (i : Int)) k)) = true from h15_]; simp
 have hb_ : okB l (rd_T48 l (i : Int)) = false := by unfold okB; rw [h8_, h9_, hr_]; rfl
 rw [rd48 hil] at hb_
 rw [show rangesM l = false from all_badG hil hb_] at hX
 exact q_post rfl (.cons rfl (.nil)) hX
 refine c_skip rfl ?_
 refine q_seq ?_
 refine c_seq rfl ?_
 refine r_ord (l := [0, 1, 2, 3, 4, 5, 6, 7]) rfl (by kernel_rfl) (by kernel_rfl) ?_
 refine s_v rfl rfl rfl rfl (v_move rfl rfl) ?_
 refine s_v rfl rfl rfl rfl (v_len rfl rfl rfl Try.underlying44 rfl rfl) ?_
 refine s_v rfl rfl rfl rfl (v_fa rfl Try.underlying53 rfl SZ43 rfl) ?_
 refine s_v rfl rfl rfl rfl (v_fa rfl Try.underlying43 rfl SZ3 rfl) ?_
 refine s_v rfl rfl rfl rfl (v_ld 3 rfl Try.underlying3 rfl rfl rfl rfl) ?_
 refine s_v rfl rfl rfl rfl (v_max (x := .tmp 0) (y := .tmp 0) rfl rfl rfl) ?_
 refine s_v rfl rfl rfl rfl (v_arith rfl rfl rfl rfl) ?_
 refine s_v rfl rfl rfl rfl (v_assign rfl rfl) ?_
 refine s_end ?_
 refine q_seq ?_
 refine c_seq rfl ?_
 refine r_ord (l := [0, 1, 2, 3, 4, 5]) rfl (by kernel_rfl) (by kernel_rfl) ?_
 refine s_v rfl rfl rfl rfl (v_ldr 1 rfl Try.underlying67 rfl rfl rfl rfl) ?_
 refine s_v rfl rfl rfl rfl (v_iaK (i := 2) rfl Try.underlying67 SZ35 rfl rfl rfl rfl (by decide) (by have := mapsL_len l (rd_T48 l (i : Int)) (ordL l).length; omega)) ?_
 refine s_e rfl rfl (e_ldKX z35 2 rfl rfl rfl Try.underlying35 rfl SZ35 rfl rfl rfl (by decide) (by have := mapsL_len l (rd_T48 l (i : Int)) (ordL l).length; omega)) ?_
 intro cs16_ h17_
 refine s_know 0 rfl (fun w h => k35_sh h) (fun h18_ => ?_)
 replace h18_ : ∃ A c, cs16_ = [.slice A (mapF l (rd_T48 l (i : Int)).f2 (ordL l)).length c] := h18_
 obtain ⟨A19_, c20_, rfl⟩ := h18_
 refine s_weak 0 rfl (fun w h => (show KC k56 A19_ c20_ (mapF l (rd_T48 l (i : Int)).f2 (ordL l)) w from k35_row h)) ?_
 refine s_e rfl rfl (e_callK (fun z : Option Addr × Nat => .slice z.1 ((mapF l (rd_T48 l (i : Int)).f2 (ordL l)).length) z.2) (fun z => [KC k56 z.1 z.2 (mapF l (rd_T48 l (i : Int)).f2 (ordL l))]) #[.agg #[.slice A19_ ((mapF l (rd_T48 l (i : Int)).f2 (ordL l)).length) c20_]] rfl rfl rfl rfl rfl Try.func17 rfl (by decide) rfl rfl (fun w ht => seq_Map_Pairs.con _ _ (mapF l (rd_T48 l (i : Int)).f2 (ordL l)) _ (pairs_f (mapF l (rd_T48 l (i : Int)).f2 (ordL l)) hml) w (Tri.fact ht 0 rfl))) ?_
 intro z21_
 refine s_v rfl rfl rfl rfl (v_len rfl rfl rfl Try.underlying33 rfl rfl) ?_
 refine s_v rfl rfl rfl rfl (v_move rfl rfl) ?_
 refine s_end ?_
 refine q_seq ?_
 refine c_block rfl ?_
 have hris : risingB (rd_T48 l (i : Int)) = true := by simpa using h14_
 have hmis : (rd_T48 l (i : Int)).f6.f3.any (fun k => !(onceL l (rd_T48 l (i : Int)) k)) = false := h15_
 refine c_loop (σ := Nat) (fun j => j ≤ (mapF l (rd_T48 l (i : Int)).f2 (ordL l)).length ∧ ((mapF l (rd_T48 l (i : Int)).f2 (ordL l)).take j).all (fun p : S56 => !(pairBad l (rd_T48 l (i : Int)) p.f0)) = true) (fun j => (mapF l (rd_T48 l (i : Int)).f2 (ordL l)).length - j) (fun j => [(0, .slice A l.length c), (4, .pointer (some ⟨b7_, 0, none⟩)), (7, .func (.func 40) #[] #[.pointer (some ⟨b12_, 0, none⟩)]), (8, .slice A5_ ((rd_T48 l ((i : Nat) : Int)).f6.f3.length) c6_), (9, .bool (decide ((((rd_T48 l ((i : Nat) : Int)).f6.f3.length : Nat) : Int) ≥ (if (0 : Int) < ((rd_T48 l ((i : Nat) : Int)).f1.f3) then (rd_T48 l ((i : Nat) : Int)).f1.f3 else 0)))), (13, .slice A l.length c), (14, .int .i64 (l.length : Nat)), (15, .int .i64 ((i : Nat) : Int)), (53, .slice z21_.1 ((mapF l (rd_T48 l (i : Int)).f2 (ordL l)).length) z21_.2), (54, .int .i64 ((mapF l (rd_T48 l (i : Int)).f2 (ordL l)).length : Nat)), (55, .int .i64 ((j : Nat) : Int))]) (fun j => [.f (KC k56 z21_.1 z21_.2 (mapF l (rd_T48 l (i : Int)).f2 (ordL l))), .f (KC k56 A19_ c20_ (mapF l (rd_T48 l (i : Int)).f2 (ordL l))), .f (fun w => w.heap[b13_]? = some (.cells #[.func (.func 36) #[] #[.pointer (some ⟨b12_, 0, none⟩)]] 72 (0, 0))), .f (fun w => w.heap[b12_]? = some (.cells #[.slice A10_ ((mapsL l (rd_T48 l (i : Int)) (ordL l).length).length) c11_] 67 (0, 0))), .f (KC k35 A10_ c11_ (mapsL l (rd_T48 l (i : Int)) (ordL l).length)), .b b7_ (.cells #[.int .i64 ((rd_T48 l ((i : Nat) : Int)).f0), .int .i64 ((rd_T48 l ((i : Nat) : Int)).f1.f0), .int .u64 ((rd_T48 l ((i : Nat) : Int)).f1.f1), .int .u64 ((rd_T48 l ((i : Nat) : Int)).f1.f2), .int .i64 ((rd_T48 l ((i : Nat) : Int)).f1.f3), .int .i64 ((rd_T48 l ((i : Nat) : Int)).f1.f4), .int .i64 ((rd_T48 l ((i : Nat) : Int)).f2), .int .i64 ((rd_T48 l ((i : Nat) : Int)).f3), .int .i64 ((rd_T48 l ((i : Nat) : Int)).f4), .bool ((rd_T48 l ((i : Nat) : Int)).f5), .bool ((rd_T48 l ((i : Nat) : Int)).f6.f0), .bool ((rd_T48 l ((i : Nat) : Int)).f6.f1), .int .u64 ((rd_T48 l ((i : Nat) : Int)).f6.f2), .slice A5_ ((rd_T48 l ((i : Nat) : Int)).f6.f3.length) c6_] 53 (0, 0)), .f (KC (Kd.int .u64) A5_ c6_ ((rd_T48 l ((i : Nat) : Int)).f6.f3)), .f (KC k48 A c l)]) 0 [0, 1, 3, 4, 5, 6, 7, 9] rfl ⟨Nat.zero_le _, rfl⟩ (subF_spec ⟨rfl, rfl, rfl, rfl, rfl, rfl, rfl, rfl, rfl, rfl, rfl, trivial⟩) rfl (by decide) ?_
 rintro j hs
 have hs2 := hs
 have hj_ : j ≤ (mapF l (rd_T48 l (i : Int)).f2 (ordL l)).length := hs.1
 refine c_seq rfl ?_
 refine r_ord (l := [0]) rfl (by kernel_rfl) (by kernel_rfl) ?_
 refine s_v rfl rfl rfl rfl (v_arith rfl rfl rfl rfl) ?_
 refine s_end ?_
 refine q_seq ?_
 refine c_seq rfl ?_
 refine c_cond (t := decide ((((j : Nat) : Int) : Int) < ((mapF l (rd_T48 l (i : Int)).f2 (ordL l)).length : Nat))) rfl rfl (fun h22_ => ?_) (fun h22_ => ?_)
 have h22_d := of_decide_eq_true h22_
 have hjl : j < (mapF l (rd_T48 l (i : Int)).f2 (ordL l)).length := by omega
 refine c_skip rfl ?_
 refine q_seq ?_
 refine c_seq rfl ?_
 refine c_block rfl ?_
 refine c_seq rfl ?_
 refine r_ord (l := [0, 1, 2, 3]) rfl (by kernel_rfl) (by kernel_rfl) ?_
 refine s_v rfl rfl rfl rfl (v_iaK (i := 0) rfl Try.underlying33 SZ56 rfl rfl rfl rfl (by omega) (by omega)) ?_
 refine s_v rfl rfl rfl rfl (v_ldKA z56 [.int .u64 ((rd_T56 (mapF l (rd_T48 l (i : Int)).f2 (ordL l)) ((j : Nat) : Int)).f0), .int .u64 ((rd_T56 (mapF l (rd_T48 l (i : Int)).f2 (ordL l)) ((j : Nat) : Int)).f1)] 0 rfl Try.underlying56 rfl SZ56 rfl rfl rfl rfl (by omega) (by omega) (fun w K h => k56_open h)) ?_
 refine s_e rfl rfl (e_alloc rfl rfl rfl ZR56) ?_
 intro b23_
 refine s_e rfl rfl (e_stA 0 rfl rfl SZ56 rfl rfl rfl rfl rfl rfl) ?_
 refine s_end ?_
 refine q_seq ?_
 refine c_seq rfl ?_
 refine r_any [.b b23_ (.cells #[.int .u64 ((rd_T56 (mapF l (rd_T48 l (i : Int)).f2 (ordL l)) ((j : Nat) : Int)).f0), .int .u64 ((rd_T56 (mapF l (rd_T48 l (i : Int)).f2 (ordL l)) ((j : Nat) : Int)).f1)] 56 (0, 0)), .f (KC k56 z21_.1 z21_.2 (mapF l (rd_T48 l (i : Int)).f2 (ordL l))), .f (KC k56 A19_ c20_ (mapF l (rd_T48 l (i : Int)).f2 (ordL l))), .f (fun w => w.heap[b13_]? = some (.cells #[.func (.func 36) #[] #[.pointer (some ⟨b12_, 0, none⟩)]] 72 (0, 0))), .f (fun w => w.heap[b12_]? = some (.cells #[.slice A10_ ((mapsL l (rd_T48 l (i : Int)) (ordL l).length).length) c11_] 67 (0, 0))), .f (KC k35 A10_ c11_ (mapsL l (rd_T48 l (i : Int)) (ordL l).length)), .b b7_ (.cells #[.int .i64 ((rd_T48 l ((i : Nat) : Int)).f0), .int .i64 ((rd_T48 l ((i : Nat) : Int)).f1.f0), .int .u64 ((rd_T48 l ((i : Nat) : Int)).f1.f1), .int .u64 ((rd_T48 l ((i : Nat) : Int)).f1.f2), .int .i64 ((rd_T48 l ((i : Nat) : Int)).f1.f3), .int .i64 ((rd_T48 l ((i : Nat) : Int)).f1.f4), .int .i64 ((rd_T48 l ((i : Nat) : Int)).f2), .int .i64 ((rd_T48 l ((i : Nat) : Int)).f3), .int .i64 ((rd_T48 l ((i : Nat) : Int)).f4), .bool ((rd_T48 l ((i : Nat) : Int)).f5), .bool ((rd_T48 l ((i : Nat) : Int)).f6.f0), .bool ((rd_T48 l ((i : Nat) : Int)).f6.f1), .int .u64 ((rd_T48 l ((i : Nat) : Int)).f6.f2), .slice A5_ ((rd_T48 l ((i : Nat) : Int)).f6.f3.length) c6_] 53 (0, 0)), .f (KC (Kd.int .u64) A5_ c6_ ((rd_T48 l ((i : Nat) : Int)).f6.f3)), .f (KC k48 A c l)] (by kernel_rfl) rfl (by kernel_rfl) (mem_pick (idx := [0, 1, 2, 3, 4, 5, 6, 7, 8]) rfl) ?_
 refine a_v 0 rfl (by kernel_rfl) (by kernel_rfl) (by kernel_rfl) rfl rfl rfl (v_move rfl rfl) ?_
 refine a_v 1 rfl (by kernel_rfl) (by kernel_rfl) (by kernel_rfl) rfl rfl rfl (v_move rfl rfl) ?_
 refine a_splitv (d := 60) (t := decide ((((rd_T48 l ((i : Nat) : Int)).f6.f3.length : Nat) : Int) ≥ (if (0 : Int) < ((rd_T48 l ((i : Nat) : Int)).f1.f3) then (rd_T48 l ((i : Nat) : Int)).f1.f3 else 0))) rfl (fun h24_ => ?_) (fun h24_ => ?_)
 have h24_d := of_decide_eq_true h24_
 have h24_f : decide (((rd_T48 l (i : Int)).f6.f3.length : Int) ≥ mx 0 (rd_T48 l (i : Int)).f1.f3) = true := h24_
 refine a_v 2 rfl (by kernel_rfl) (by kernel_rfl) (by kernel_rfl) rfl rfl rfl (v_move rfl rfl) ?_
 refine a_v 3 rfl (by kernel_rfl) (by kernel_rfl) (by kernel_rfl) rfl rfl rfl (v_len rfl rfl rfl Try.underlying44 rfl rfl) ?_
 refine a_v 4 rfl (by kernel_rfl) (by kernel_rfl) (by kernel_rfl) rfl rfl rfl (v_arith rfl rfl rfl rfl) ?_
 refine a_v 5 rfl (by kernel_rfl) (by kernel_rfl) (by kernel_rfl) rfl rfl rfl (v_move rfl rfl) ?_
 refine a_splitv (d := 64) (t := (((rd_T48 l ((i : Nat) : Int)).f6.f3.length : Nat) : Int) == 0) rfl (fun h25_ => ?_) (fun h25_ => ?_)
 have h25_f : ((((rd_T48 l (i : Int)).f6.f3.length : Int)) == 0) = true := h25_
 have h25_d : ((rd_T48 l ((i : Nat) : Int)).f6.f3.length : Nat) = 0 := by simpa using h25_
 refine a_no 6 rfl (by kernel_rfl) (by kernel_rfl) (by kernel_rfl) rfl rfl rfl ?_
 refine a_no 7 rfl (by kernel_rfl) (by kernel_rfl) (by kernel_rfl) rfl rfl rfl ?_
 refine a_no 8 rfl (by kernel_rfl) (by kernel_rfl) (by kernel_rfl) rfl rfl rfl ?_
 refine a_no 9 rfl (by kernel_rfl) (by kernel_rfl) (by kernel_rfl) rfl rfl rfl ?_
 refine a_no 10 rfl (by kernel_rfl) (by kernel_rfl) (by kernel_rfl) rfl rfl rfl ?_
 refine a_no 11 rfl (by kernel_rfl) (by kernel_rfl) (by kernel_rfl) rfl rfl rfl ?_
 refine a_no 12 rfl (by kernel_rfl) (by kernel_rfl) (by kernel_rfl) rfl rfl rfl ?_
 refine a_no 13 rfl (by kernel_rfl) (by kernel_rfl) (by kernel_rfl) rfl rfl rfl ?_
 refine a_no 14 rfl (by kernel_rfl) (by kernel_rfl) (by kernel_rfl) rfl rfl rfl ?_
 refine a_v 15 rfl (by kernel_rfl) (by kernel_rfl) (by kernel_rfl) rfl rfl rfl (v_pick rfl rfl rfl rfl) ?_
 refine a_v 16 rfl (by kernel_rfl) (by kernel_rfl) (by kernel_rfl) rfl rfl rfl (v_pick rfl rfl rfl rfl) ?_
 refine a_v 17 rfl (by kernel_rfl) (by kernel_rfl) (by kernel_rfl) rfl rfl rfl (v_assign rfl rfl) ?_
 refine a_end (by kernel_rfl) ?_
 refine q_seq ?_
 refine c_seq rfl ?_
 refine r_ord (l := [0, 1, 2, 3, 4, 5, 6, 7, 8, 9, 10, 11, 12, 13, 14, 15, 16, 17, 18, 19, 20, 21, 22, 23, 24, 25, 26, 27, 28, 29, 30]) rfl (by kernel_rfl) (by kernel_rfl) ?_
 refine s_v rfl rfl rfl rfl (v_fa rfl Try.underlying56 rfl SZ41 rfl) ?_
 refine s_v rfl rfl rfl rfl (v_ld 0 rfl Try.underlying41 rfl rfl rfl rfl) ?_
 refine s_v rfl rfl rfl rfl (v_fa rfl Try.underlying53 rfl SZ43 rfl) ?_
 refine s_v rfl rfl rfl rfl (v_fa rfl Try.underlying43 rfl SZ41 rfl) ?_
 refine s_v rfl rfl rfl rfl (v_ld 6 rfl Try.underlying41 rfl rfl rfl rfl) ?_
 refine s_v rfl rfl rfl rfl (v_arith rfl rfl rfl rfl) ?_
 refine s_v rfl rfl rfl rfl (v_move rfl rfl) ?_
 refine s_splitv (d := 82) (t := decide (((rd_T56 (mapF l (rd_T48 l (i : Int)).f2 (ordL l)) ((j : Nat) : Int)).f0 : Int) ≥ ((rd_T48 l ((i : Nat) : Int)).f1.f1))) rfl (fun h26_ => ?_) (fun h26_ => ?_)
 have h26_d := of_decide_eq_true h26_
 refine s_vg rfl rfl rfl rfl (v_fa rfl Try.underlying56 rfl SZ41 rfl) ?_
 refine s_vg rfl rfl rfl rfl (v_ld 0 rfl Try.underlying41 rfl rfl rfl rfl) ?_
 refine s_vg rfl rfl rfl rfl (v_fa rfl Try.underlying53 rfl SZ43 rfl) ?_
 refine s_vg rfl rfl rfl rfl (v_fa rfl Try.underlying43 rfl SZ41 rfl) ?_
 refine s_vg rfl rfl rfl rfl (v_ld 6 rfl Try.underlying41 rfl rfl rfl rfl) ?_
 refine s_vg rfl rfl rfl rfl (v_arith rfl rfl rfl rfl) ?_
 refine s_v rfl rfl rfl rfl (v_pick rfl rfl rfl rfl) ?_
 refine s_v rfl rfl rfl rfl (v_move rfl rfl) ?_
 refine s_splitv (d := 90) (t := decide (((rd_T56 (mapF l (rd_T48 l (i : Int)).f2 (ordL l)) ((j : Nat) : Int)).f0 : Int) ≤ ((rd_T48 l ((i : Nat) : Int)).f1.f2))) rfl (fun h27_ => ?_) (fun h27_ => ?_)
 have h27_d := of_decide_eq_true h27_
 refine s_vg rfl rfl rfl rfl (v_move rfl rfl) ?_
 refine s_vg rfl rfl rfl rfl (v_fa rfl Try.underlying56 rfl SZ41 rfl) ?_
 refine s_vg rfl rfl rfl rfl (v_ld 0 rfl Try.underlying41 rfl rfl rfl rfl) ?_
 refine s_eg rfl rfl (e_callF [5, 4] #[.int .u64 ((rd_T56 (mapF l (rd_T48 l (i : Int)).f2 (ordL l)) ((j : Nat) : Int)).f0), .pointer (some ⟨b12_, 0, none⟩)] rfl rfl rfl rfl rfl Try.func40 rfl (by decide) rfl rfl rfl rfl (fun w ht => always_con b12_ A10_ c11_ (mapsL l (rd_T48 l (i : Int)) (ordL l).length) ((rd_T56 (mapF l (rd_T48 l (i : Int)).f2 (ordL l)) ((j : Nat) : Int)).f0) hMl hMS w _)) ?_
 refine s_v rfl rfl rfl rfl (v_pick rfl rfl rfl rfl) ?_
 refine s_v rfl rfl rfl rfl (v_move rfl rfl) ?_
 refine s_splitv (d := 96) (t := !((mapsL l (rd_T48 l (i : Int)) (ordL l).length).any (fun x : S35 => !(getM x.f0 ((rd_T56 (mapF l (rd_T48 l (i : Int)).f2 (ordL l)) ((j : Nat) : Int)).f0)).2.1))) rfl (fun h28_ => ?_) (fun h28_ => ?_)
 have h28_f : alwaysL l (rd_T48 l (i : Int)) (rd_T56 (mapF l (rd_T48 l (i : Int)).f2 (ordL l)) (j : Int)).f0 = true := h28_
 refine s_vg rfl rfl rfl rfl (v_move rfl rfl) ?_
 refine s_vg rfl rfl rfl rfl (v_not rfl rfl) ?_
 refine s_v rfl rfl rfl rfl (v_pick rfl rfl rfl rfl) ?_
 refine s_v rfl rfl rfl rfl (v_move rfl rfl) ?_
 refine s_no rfl rfl rfl rfl ?_
 refine s_no rfl rfl rfl rfl ?_
 refine s_no rfl rfl rfl rfl ?_
 refine s_no rfl rfl rfl rfl ?_
 refine s_no rfl rfl rfl rfl ?_
 refine s_v rfl rfl rfl rfl (v_pick rfl rfl rfl rfl) ?_
 refine s_end ?_
 refine q_seq ?_
 refine c_cond0 rfl rfl ?_
 refine c_skip rfl ?_
 refine q_block ?_
 refine q_seq ?_
 refine r_ord (l := [0, 1]) rfl (by kernel_rfl) (by kernel_rfl) ?_
 refine s_v rfl rfl rfl rfl (OpV.cast (v := .int .i64 ((j + 1 : Nat) : Int)) (v_arith rfl rfl rfl rfl) (addN (a := j) (b := 1) (by first | omega | (simp only [List.length_set, swr_len, swp_len]; omega)))) ?_
 refine s_v rfl rfl rfl rfl (v_move rfl rfl) ?_
 refine s_end ?_
 have hbey : beyondB (rd_T48 l (i : Int)) (rd_T56 (mapF l (rd_T48 l (i : Int)).f2 (ordL l)) (j : Int)).f0 = true := by unfold beyondB; rw [h24_f, h25_f]; rfl
 have hpb : pairBad l (rd_T48 l (i : Int)) (rd_T56 (mapF l (rd_T48 l (i : Int)).f2 (ordL l)) (j : Int)).f0 = false := by unfold pairBad; rw [h26_, h27_, h28_f, hbey]; simp
 rw [rd56' hjl] at hpb
 exact q_again (j + 1) [1, 2, 3, 4, 5, 6, 7, 8] ⟨by omega, all_nextG hjl hs2.2 (by rw [hpb]; rfl)⟩ (by show (mapF l (rd_T48 l (i : Int)).f2 (ordL l)).length - (j + 1) < (mapF l (rd_T48 l (i : Int)).f2 (ordL l)).length - j; omega) (subF_spec ⟨rfl, rfl, rfl, rfl, rfl, rfl, rfl, rfl, rfl, rfl, rfl, trivial⟩) rfl (by decide)
 have h28_f : alwaysL l (rd_T48 l (i : Int)) (rd_T56 (mapF l (rd_T48 l (i : Int)).f2 (ordL l)) (j : Int)).f0 = false := h28_
 refine s_no rfl rfl rfl rfl ?_
 refine s_no rfl rfl rfl rfl ?_
 refine s_v rfl rfl rfl rfl (v_pick rfl rfl rfl rfl) ?_
 refine s_v rfl rfl rfl rfl (v_move rfl rfl) ?_
 refine s_no rfl rfl rfl rfl ?_
 refine s_no rfl rfl rfl rfl ?_
 refine s_no rfl rfl rfl rfl ?_
 refine s_no rfl rfl rfl rfl ?_
 refine s_no rfl rfl rfl rfl ?_
 refine s_v rfl rfl rfl rfl (v_pick rfl rfl rfl rfl) ?_
 refine s_end ?_
 refine q_seq ?_
 refine c_cond0 rfl rfl ?_
 refine c_skip rfl ?_
 refine q_block ?_
 refine q_seq ?_
 refine r_ord (l := [0, 1]) rfl (by kernel_rfl) (by kernel_rfl) ?_
 refine s_v rfl rfl rfl rfl (OpV.cast (v := .int .i64 ((j + 1 : Nat) : Int)) (v_arith rfl rfl rfl rfl) (addN (a := j) (b := 1) (by first | omega | (simp only [List.length_set, swr_len, swp_len]; omega)))) ?_
 refine s_v rfl rfl rfl rfl (v_move rfl rfl) ?_
 refine s_end ?_
 have hpb : pairBad l (rd_T48 l (i : Int)) (rd_T56 (mapF l (rd_T48 l (i : Int)).f2 (ordL l)) (j : Int)).f0 = false := by unfold pairBad; rw [h26_, h27_, h28_f]; simp
 rw [rd56' hjl] at hpb
 exact q_again (j + 1) [1, 2, 3, 4, 5, 6, 7, 8] ⟨by omega, all_nextG hjl hs2.2 (by rw [hpb]; rfl)⟩ (by show (mapF l (rd_T48 l (i : Int)).f2 (ordL l)).length - (j + 1) < (mapF l (rd_T48 l (i : Int)).f2 (ordL l)).length - j; omega) (subF_spec ⟨rfl, rfl, rfl, rfl, rfl, rfl, rfl, rfl, rfl, rfl, rfl, trivial⟩) rfl (by decide)
 have h27_d := of_decide_eq_false h27_
 refine s_no rfl rfl rfl rfl ?_
 refine s_no rfl rfl rfl rfl ?_
 refine s_no rfl rfl rfl rfl ?_
 refine s_no rfl rfl rfl rfl ?_
 refine s_v rfl rfl rfl rfl (v_pick rfl rfl rfl rfl) ?_
 refine s_v rfl rfl rfl rfl (v_move rfl rfl) ?_
 refine s_no rfl rfl rfl rfl ?_
 refine s_no rfl rfl rfl rfl ?_
 refine s_v rfl rfl rfl rfl (v_pick rfl rfl rfl rfl) ?_
 refine s_v rfl rfl rfl rfl (v_move rfl rfl) ?_
 refine s_no rfl rfl rfl rfl ?_
 refine s_no rfl rfl rfl rfl ?_
 refine s_no rfl rfl rfl rfl ?_
 refine s_no rfl rfl rfl rfl ?_
 refine s_no rfl rfl rfl rfl ?_
 refine s_v rfl rfl rfl rfl (v_pick rfl rfl rfl rfl) ?_
 refine s_end ?_
 refine q_seq ?_
 refine c_cond0 rfl rfl ?_
 refine c_skip rfl ?_
 refine q_block ?_
 refine q_seq ?_
 refine r_ord (l := [0, 1]) rfl (by kernel_rfl) (by kernel_rfl) ?_
 refine s_v rfl rfl rfl rfl (OpV.cast (v := .int .i64 ((j + 1 : Nat) : Int)) (v_arith rfl rfl rfl rfl) (addN (a := j) (b := 1) (by first | omega | (simp only [List.length_set, swr_len, swp_len]; omega)))) ?_
 refine s_v rfl rfl rfl rfl (v_move rfl rfl) ?_
 refine s_end ?_
 have hpb : pairBad l (rd_T48 l (i : Int)) (rd_T56 (mapF l (rd_T48 l (i : Int)).f2 (ordL l)) (j : Int)).f0 = false := by unfold pairBad; rw [h26_, h27_]; simp
 rw [rd56' hjl] at hpb
 exact q_again (j + 1) [1, 2, 3, 4, 5, 6, 7, 8] ⟨by omega, all_nextG hjl hs2.2 (by rw [hpb]; rfl)⟩ (by show (mapF l (rd_T48 l (i : Int)).f2 (ordL l)).length - (j + 1) < (mapF l (rd_T48 l (i : Int)).f2 (ordL l)).length - j; omega) (subF_spec ⟨rfl, rfl, rfl, rfl, rfl, rfl, rfl, rfl, rfl, rfl, rfl, trivial⟩) rfl (by decide)
 have h26_d := of_decide_eq_false h26_
 refine s_no rfl rfl rfl rfl ?_
 refine s_no rfl rfl rfl rfl ?_
 refine s_no rfl rfl rfl rfl ?_
 refine s_no rfl rfl rfl rfl ?_
 refine s_no rfl rfl rfl rfl ?_
 refine s_no rfl rfl rfl rfl ?_
 refine s_v rfl rfl rfl rfl (v_pick rfl rfl rfl rfl) ?_
 refine s_v rfl rfl rfl rfl (v_move rfl rfl) ?_
 refine s_no rfl rfl rfl rfl ?_
 refine s_no rfl rfl rfl rfl ?_
 refine s_no rfl rfl rfl rfl ?_
 refine s_no rfl rfl rfl rfl ?_
 refine s_v rfl rfl rfl rfl (v_pick rfl rfl rfl rfl) ?_
 refine s_v rfl rfl rfl rfl (v_move rfl rfl) ?_
 refine s_no rfl rfl rfl rfl ?_
 refine s_no rfl rfl rfl rfl ?_
 refine s_v rfl rfl rfl rfl (v_pick rfl rfl rfl rfl) ?_
 refine s_v rfl rfl rfl rfl (v_move rfl rfl) ?_
 refine s_no rfl rfl rfl rfl ?_
 refine s_no rfl rfl rfl rfl ?_
 refine s_no rfl rfl rfl rfl ?_
 refine s_no rfl rfl rfl rfl ?_
 refine s_no rfl rfl rfl rfl ?_
 refine s_v rfl rfl rfl rfl (v_pick rfl rfl rfl rfl) ?_
 refine s_end ?_
 refine q_seq ?_
 refine c_cond0 rfl rfl ?_
 refine c_skip rfl ?_
 refine q_block ?_
 refine q_seq ?_
 refine r_ord (l := [0, 1]) rfl (by kernel_rfl) (by kernel_rfl) ?_
 refine s_v rfl rfl rfl rfl (OpV.cast (v := .int .i64 ((j + 1 : Nat) : Int)) (v_arith rfl rfl rfl rfl) (addN (a := j) (b := 1) (by first | omega | (simp only [List.length_set, swr_len, swp_len]; omega)))) ?_
 refine s_v rfl rfl rfl rfl (v_move rfl rfl) ?_
 refine s_end ?_
 have hpb : pairBad l (rd_T48 l (i : Int)) (rd_T56 (mapF l (rd_T48 l (i : Int)).f2 (ordL l)) (j : Int)).f0 = false := by unfold pairBad; rw [h26_]; rfl
 rw [rd56' hjl] at hpb
 exact q_again (j + 1) [1, 2, 3, 4, 5, 6, 7, 8] ⟨by omega, all_nextG hjl hs2.2 (by rw [hpb]; rfl)⟩ (by show (mapF l (rd_T48 l (i : Int)).f2 (ordL l)).length - (j + 1) < (mapF l (rd_T48 l (i : Int)).f2 (ordL l)).length - j; omega) (subF_spec ⟨rfl, rfl, rfl, rfl, rfl, rfl, rfl, rfl, rfl, rfl, rfl, trivial⟩) rfl (by decide)
 have h25_f : ((((rd_T48 l (i : Int)).f6.f3.length : Int)) == 0) = false := h25_
 have h25_g : (rd_T48 l (i : Int)).f6.f3.length ≠ 0 := by have h_ := h25_f; simp at h_; intro h0; simp_all
 have h25_d : ((rd_T48 l ((i : Nat) : Int)).f6.f3.length : Nat) ≠ 0 := by simpa using h25_
 refine a_v 6 rfl (by kernel_rfl) (by kernel_rfl) (by kernel_rfl) rfl rfl rfl (v_fa rfl Try.underlying56 rfl SZ41 rfl) ?_
 refine a_v 7 rfl (by kernel_rfl) (by kernel_rfl) (by kernel_rfl) rfl rfl rfl (v_ld 0 rfl Try.underlying41 rfl rfl rfl rfl) ?_
 refine a_v 8 rfl (by kernel_rfl) (by kernel_rfl) (by kernel_rfl) rfl rfl rfl (v_move rfl rfl) ?_
 refine a_v 9 rfl (by kernel_rfl) (by kernel_rfl) (by kernel_rfl) rfl rfl rfl (v_move rfl rfl) ?_
 refine a_v 10 rfl (by kernel_rfl) (by kernel_rfl) (by kernel_rfl) rfl rfl rfl (v_len rfl rfl rfl Try.underlying44 rfl rfl) ?_
 refine a_v 11 rfl (by kernel_rfl) (by kernel_rfl) (by kernel_rfl) rfl rfl rfl (OpV.cast (v := .int .i64 ((((rd_T48 l ((i : Nat) : Int)).f6.f3.length) - 1 : Nat) : Int)) (v_arith rfl rfl rfl rfl) (subN (a := (rd_T48 l ((i : Nat) : Int)).f6.f3.length) (b := 1) (by first | omega | (simp only [List.length_set, swr_len, swp_len]; omega)) (by first | omega | (simp only [List.length_set, swr_len, swp_len]; omega)))) ?_
 refine a_v 12 rfl (by kernel_rfl) (by kernel_rfl) (by kernel_rfl) rfl rfl rfl (v_iaK (i := 7) rfl Try.underlying44 SZ41 rfl rfl rfl rfl (by omega) (by omega)) ?_
 refine a_v 13 rfl (by kernel_rfl) (by kernel_rfl) (by kernel_rfl) rfl rfl rfl (v_ldK (v := .int .u64 (rd ((rd_T48 l ((i : Nat) : Int)).f6.f3) ((((rd_T48 l ((i : Nat) : Int)).f6.f3.length) - 1 : Nat) : Int))) 0 7 rfl Try.underlying41 rfl rfl rfl rfl (by omega) (by omega) (fun w K h => h)) ?_
 refine a_v 14 rfl (by kernel_rfl) (by kernel_rfl) (by kernel_rfl) rfl rfl rfl (v_arith rfl rfl rfl rfl) ?_
 refine a_v 15 rfl (by kernel_rfl) (by kernel_rfl) (by kernel_rfl) rfl rfl rfl (v_pick rfl rfl rfl rfl) ?_
 refine a_v 16 rfl (by kernel_rfl) (by kernel_rfl) (by kernel_rfl) rfl rfl rfl (v_pick rfl rfl rfl rfl) ?_
 refine a_v 17 rfl (by kernel_rfl) (by kernel_rfl) (by kernel_rfl) rfl rfl rfl (v_assign rfl rfl) ?_
 refine a_end (by kernel_rfl) ?_
 refine q_seq ?_
 refine c_seq rfl ?_
 refine r_ord (l := [0, 1, 2, 3, 4, 5, 6, 7, 8, 9, 10, 11, 12, 13, 14, 15, 16, 17, 18, 19, 20, 21, 22, 23, 24, 25, 26, 27, 28, 29, 30]) rfl (by kernel_rfl) (by kernel_rfl) ?_
 refine s_v rfl rfl rfl rfl (v_fa rfl Try.underlying56 rfl SZ41 rfl) ?_
 refine s_v rfl rfl rfl rfl (v_ld 0 rfl Try.underlying41 rfl rfl rfl rfl) ?_
 refine s_v rfl rfl rfl rfl (v_fa rfl Try.underlying53 rfl SZ43 rfl) ?_
 refine s_v rfl rfl rfl rfl (v_fa rfl Try.underlying43 rfl SZ41 rfl) ?_
 refine s_v rfl rfl rfl rfl (v_ld 6 rfl Try.underlying41 rfl rfl rfl rfl) ?_
 refine s_v rfl rfl rfl rfl (v_arith rfl rfl rfl rfl) ?_
 refine s_v rfl rfl rfl rfl (v_move rfl rfl) ?_
 refine s_splitv (d := 82) (t := decide (((rd_T56 (mapF l (rd_T48 l (i : Int)).f2 (ordL l)) ((j : Nat) : Int)).f0 : Int) ≥ ((rd_T48 l ((i : Nat) : Int)).f1.f1))) rfl (fun h29_ => ?_) (fun h29_ => ?_)
 have h29_d := of_decide_eq_true h29_
 refine s_vg rfl rfl rfl rfl (v_fa rfl Try.underlying56 rfl SZ41 rfl) ?_
 refine s_vg rfl rfl rfl rfl (v_ld 0 rfl Try.underlying41 rfl rfl rfl rfl) ?_
 refine s_vg rfl rfl rfl rfl (v_fa rfl Try.underlying53 rfl SZ43 rfl) ?_
 refine s_vg rfl rfl rfl rfl (v_fa rfl Try.underlying43 rfl SZ41 rfl) ?_
 refine s_vg rfl rfl rfl rfl (v_ld 6 rfl Try.underlying41 rfl rfl rfl rfl) ?_
 refine s_vg rfl rfl rfl rfl (v_arith rfl rfl rfl rfl) ?_
 refine s_v rfl rfl rfl rfl (v_pick rfl rfl rfl rfl) ?_
 refine s_v rfl rfl rfl rfl (v_move rfl rfl) ?_
 refine s_splitv (d := 90) (t := decide (((rd_T56 (mapF l (rd_T48 l (i : Int)).f2 (ordL l)) ((j : Nat) : Int)).f0 : Int) ≤ ((rd_T48 l ((i : Nat) : Int)).f1.f2))) rfl (fun h30_ => ?_) (fun h30_ => ?_)
 have h30_d := of_decide_eq_true h30_
 refine s_vg rfl rfl rfl rfl (v_move rfl rfl) ?_
 refine s_vg rfl rfl rfl rfl (v_fa rfl Try.underlying56 rfl SZ41 rfl) ?_
 refine s_vg rfl rfl rfl rfl (v_ld 0 rfl Try.underlying41 rfl rfl rfl rfl) ?_
 refine s_eg rfl rfl (e_callF [5, 4] #[.int .u64 ((rd_T56 (mapF l (rd_T48 l (i : Int)).f2 (ordL l)) ((j : Nat) : Int)).f0), .pointer (some ⟨b12_, 0, none⟩)] rfl rfl rfl rfl rfl Try.func40 rfl (by decide) rfl rfl rfl rfl (fun w ht => always_con b12_ A10_ c11_ (mapsL l (rd_T48 l (i : Int)) (ordL l).length) ((rd_T56 (mapF l (rd_T48 l (i : Int)).f2 (ordL l)) ((j : Nat) : Int)).f0) hMl hMS w _)) ?_
 refine s_v rfl rfl rfl rfl (v_pick rfl rfl rfl rfl) ?_
 refine s_v rfl rfl rfl rfl (v_move rfl rfl) ?_
 refine s_splitv (d := 96) (t := !((mapsL l (rd_T48 l (i : Int)) (ordL l).length).any (fun x : S35 => !(getM x.f0 ((rd_T56 (mapF l (rd_T48 l (i : Int)).f2 (ordL l)) ((j : Nat) : Int)).f0)).2.1))) rfl (fun h31_ => ?_) (fun h31_ => ?_)
 have h31_f : alwaysL l (rd_T48 l (i : Int)) (rd_T56 (mapF l (rd_T48 l (i : Int)).f2 (ordL l)) (j : Int)).f0 = true := h31_
 refine s_vg rfl rfl rfl rfl (v_move rfl rfl) ?_
 refine s_vg rfl rfl rfl rfl (v_not rfl rfl) ?_
 refine s_v rfl rfl rfl rfl (v_pick rfl rfl rfl rfl) ?_
 refine s_v rfl rfl rfl rfl (v_move rfl rfl) ?_
 refine s_splitv (d := 100) (t := !(decide (((rd_T56 (mapF l (rd_T48 l (i : Int)).f2 (ordL l)) ((j : Nat) : Int)).f0 : Int) > (rd ((rd_T48 l ((i : Nat) : Int)).f6.f3) ((((rd_T48 l ((i : Nat) : Int)).f6.f3.length) - 1 : Nat) : Int))))) rfl (fun h32_ => ?_) (fun h32_ => ?_)
 have h32_f : decide ((rd_T56 (mapF l (rd_T48 l (i : Int)).f2 (ordL l)) (j : Int)).f0 > rd (rd_T48 l (i : Int)).f6.f3 (((rd_T48 l (i : Int)).f6.f3.length : Int) - 1)) = false := by have h_ := h32_; rw [show (((rd_T48 l (i : Int)).f6.f3.length - 1 : Nat) : Int) = ((rd_T48 l (i : Int)).f6.f3.length : Int) - 1 by omega] at h_; simpa using h_
 refine s_vg rfl rfl rfl rfl (v_move rfl rfl) ?_
 refine s_vg rfl rfl rfl rfl (v_fa rfl Try.underlying56 rfl SZ41 rfl) ?_
 refine s_vg rfl rfl rfl rfl (v_ld 0 rfl Try.underlying41 rfl rfl rfl rfl) ?_
 refine s_eg rfl rfl (e_callK (fun z : Unit => .bool (((rd_T48 l ((i : Nat) : Int)).f6.f3).contains ((rd_T56 (mapF l (rd_T48 l (i : Int)).f2 (ordL l)) ((j : Nat) : Int)).f0))) (fun z => []) #[.slice A5_ ((rd_T48 l ((i : Nat) : Int)).f6.f3.length) c6_, .int .u64 ((rd_T56 (mapF l (rd_T48 l (i : Int)).f2 (ordL l)) ((j : Nat) : Int)).f0)] rfl rfl rfl rfl rfl Try.func45 rfl (by decide) rfl rfl (fun w ht => slices_Contains_uint64_uint64.con 5000 _ _ ((rd_T48 l ((i : Nat) : Int)).f6.f3) ((rd_T56 (mapF l (rd_T48 l (i : Int)).f2 (ordL l)) ((j : Nat) : Int)).f0) _ (contains_f ((rd_T48 l ((i : Nat) : Int)).f6.f3) ((rd_T56 (mapF l (rd_T48 l (i : Int)).f2 (ordL l)) ((j : Nat) : Int)).f0) (by omega)) w (Tri.fact ht 7 rfl))) ?_
 intro z33_
 refine s_vg rfl rfl rfl rfl (v_not rfl rfl) ?_
 refine s_v rfl rfl rfl rfl (v_pick rfl rfl rfl rfl) ?_
 refine s_end ?_
 refine q_seq ?_
 refine c_cond (t := !(((rd_T48 l ((i : Nat) : Int)).f6.f3).contains ((rd_T56 (mapF l (rd_T48 l (i : Int)).f2 (ordL l)) ((j : Nat) : Int)).f0))) rfl rfl (fun h34_ => ?_) (fun h34_ => ?_)
 refine c_seq rfl ?_
 refine r_ord (l := [0]) rfl (by kernel_rfl) (by kernel_rfl) ?_
 refine s_v rfl rfl rfl rfl (v_assign rfl rfl) ?_
 refine s_end ?_
 refine q_seq ?_
 refine c_ret rfl ?_
 refine q_block_ret ?_
 refine q_then_ret ?_
 refine q_then_ret ?_
 refine q_block_ret ?_
 refine q_block_ret ?_
 refine q_then_ret ?_
 refine q_then_ret ?_
 refine q_block_ret ?_
 refine q_then_ret ?_
 refine q_take [] rfl (by decide) ?_
 have hbey : beyondB (rd_T48 l (i : Int)) (rd_T56 (mapF l (rd_T48 l (i : Int)).f2 (ordL l)) (j : Int)).f0 = false := by unfold beyondB; rw [h24_f, h25_f, h32_f]; rfl
 have hpb : pairBad l (rd_T48 l (i : Int)) (rd_T56 (mapF l (rd_T48 l (i : Int)).f2 (ordL l)) (j : Int)).f0 = true := by unfold pairBad; rw [h29_, h30_, h31_f, hbey, (show (rd_T48 l (i : Int)).f6.f3.contains (rd_T56 (mapF l (rd_T48 l (i : Int)).f2 (ordL l)) (j : Int)).f0 = false by simpa using h34_)]; rfl
 have hr_ : okR l (rd_T48 l (i : Int)) = false := okR_bad5 hjl (by rw [rd56' hjl] at hpb; exact hpb)
 have hb_ : okB l (rd_T48 l (i : Int)) = false := by unfold okB; rw [h8_, h9_, hr_]; rfl
 rw [rd48 hil] at hb_
 rw [show rangesM l = false from all_badG hil hb_] at hX
 exact q_post rfl (.cons rfl (.nil)) hX
 refine c_skip rfl ?_
 refine q_block ?_
 refine q_seq ?_
 refine r_ord (l := [0, 1]) rfl (by kernel_rfl) (by kernel_rfl) ?_
 refine s_v rfl rfl rfl rfl (OpV.cast (v := .int .i64 ((j + 1 : Nat) : Int)) (v_arith rfl rfl rfl rfl) (addN (a := j) (b := 1) (by first | omega | (simp only [List.length_set, swr_len, swp_len]; omega)))) ?_
 refine s_v rfl rfl rfl rfl (v_move rfl rfl) ?_
 refine s_end ?_
 have hbey : beyondB (rd_T48 l (i : Int)) (rd_T56 (mapF l (rd_T48 l (i : Int)).f2 (ordL l)) (j : Int)).f0 = false := by unfold beyondB; rw [h24_f, h25_f, h32_f]; rfl
 have hpb : pairBad l (rd_T48 l (i : Int)) (rd_T56 (mapF l (rd_T48 l (i : Int)).f2 (ordL l)) (j : Int)).f0 = false := by unfold pairBad; rw [h29_, h30_, h31_f, hbey, (show (rd_T48 l (i : Int)).f6.f3.contains (rd_T56 (mapF l (rd_T48 l (i : Int)).f2 (ordL l)) (j : Int)).f0 = true by simpa using h34_)]; simp
 rw [rd56' hjl] at hpb
 exact q_again (j + 1) [1, 2, 3, 4, 5, 6, 7, 8] ⟨by omega, all_nextG hjl hs2.2 (by rw [hpb]; rfl)⟩ (by show (mapF l (rd_T48 l (i : Int)).f2 (ordL l)).length - (j + 1) < (mapF l (rd_T48 l (i : Int)).f2 (ordL l)).length - j; omega) (subF_spec ⟨rfl, rfl, rfl, rfl, rfl, rfl, rfl, rfl, rfl, rfl, rfl, trivial⟩) rfl (by decide)
 have h32_d : ((rd_T56 (mapF l (rd_T48 l (i : Int)).f2 (ordL l)) ((j : Nat) : Int)).f0 : Int) > (rd ((rd_T48 l ((i : Nat) : Int)).f6.f3) ((((rd_T48 l ((i : Nat) : Int)).f6.f3.length) - 1 : Nat) : Int)) := by simpa using h32_
 have h32_f : decide ((rd_T56 (mapF l (rd_T48 l (i : Int)).f2 (ordL l)) (j : Int)).f0 > rd (rd_T48 l (i : Int)).f6.f3 (((rd_T48 l (i : Int)).f6.f3.length : Int) - 1)) = true := by have h_ := h32_; rw [show (((rd_T48 l (i : Int)).f6.f3.length - 1 : Nat) : Int) = ((rd_T48 l (i : Int)).f6.f3.length : Int) - 1 by omega] at h_; simpa using h_
 refine s_no rfl rfl rfl rfl ?_
 refine s_no rfl rfl rfl rfl ?_
 refine s_no rfl rfl rfl rfl ?_
 refine s_no rfl rfl rfl rfl ?_
 refine s_no rfl rfl rfl rfl ?_
 refine s_v rfl rfl rfl rfl (v_pick rfl rfl rfl rfl) ?_
 refine s_end ?_
 refine q_seq ?_
 refine c_cond0 rfl rfl ?_
 refine c_skip rfl ?_
 refine q_block ?_
 refine q_seq ?_
 refine r_ord (l := [0, 1]) rfl (by kernel_rfl) (by kernel_rfl) ?_
 refine s_v rfl rfl rfl rfl (OpV.cast (v := .int .i64 ((j + 1 : Nat) : Int)) (v_arith rfl rfl rfl rfl) (addN (a := j) (b := 1) (by first | omega | (simp only [List.length_set, swr_len, swp_len]; omega)))) ?_
 refine s_v rfl rfl rfl rfl (v_move rfl rfl) ?_
 refine s_end ?_
 have hbey : beyondB (rd_T48 l (i : Int)) (rd_T56 (mapF l (rd_T48 l (i : Int)).f2 (ordL l)) (j : Int)).f0 = true := by unfold beyondB; rw [h24_f, h25_f, h32_f]; rfl
 have hpb : pairBad l (rd_T48 l (i : Int)) (rd_T56 (mapF l (rd_T48 l (i : Int)).f2 (ordL l)) (j : Int)).f0 = false := by unfold pairBad; rw [h29_, h30_, h31_f, hbey]; simp
 rw [rd56' hjl] at hpb
 exact q_again (j + 1) [1, 2, 3, 4, 5, 6, 7, 8] ⟨by omega, all_nextG hjl hs2.2 (by rw [hpb]; rfl)⟩ (by show (mapF l (rd_T48 l (i : Int)).f2 (ordL l)).length - (j + 1) < (mapF l (rd_T48 l (i : Int)).f2 (ordL l)).length - j; omega) (subF_spec ⟨rfl, rfl, rfl, rfl, rfl, rfl, rfl, rfl, rfl, rfl, rfl, trivial⟩) rfl (by decide)
 have h31_f : alwaysL l (rd_T48 l (i : Int)) (rd_T56 (mapF l (rd_T48 l (i : Int)).f2 (ordL l)) (j : Int)).f0 = false := h31_
 refine s_no rfl rfl rfl rfl ?_
 refine s_no rfl rfl rfl rfl ?_
 refine s_v rfl rfl rfl rfl (v_pick rfl rfl rfl rfl) ?_
 refine s_v rfl rfl rfl rfl (v_move rfl rfl) ?_
 refine s_no rfl rfl rfl rfl ?_
 refine s_no rfl rfl rfl rfl ?_
 refine s_no rfl rfl rfl rfl ?_
 refine s_no rfl rfl rfl rfl ?_
 refine s_no rfl rfl rfl rfl ?_
 refine s_v rfl rfl rfl rfl (v_pick rfl rfl rfl rfl) ?_
 refine s_end ?_
 refine q_seq ?_
 refine c_cond0 rfl rfl ?_
 refine c_skip rfl ?_
 refine q_block ?_
 refine q_seq ?_
 refine r_ord (l := [0, 1]) rfl (by kernel_rfl) (by kernel_rfl) ?_
 refine s_v rfl rfl rfl rfl (OpV.cast (v := .int .i64 ((j + 1 : Nat) : Int)) (v_arith rfl rfl rfl rfl) (addN (a := j) (b := 1) (by first | omega | (simp only [List.length_set, swr_len, swp_len]; omega)))) ?_
 refine s_v rfl rfl rfl rfl (v_move rfl rfl) ?_
 refine s_end ?_
 have hpb : pairBad l (rd_T48 l (i : Int)) (rd_T56 (mapF l (rd_T48 l (i : Int)).f2 (ordL l)) (j : Int)).f0 = false := by unfold pairBad; rw [h29_, h30_, h31_f]; simp
 rw [rd56' hjl] at hpb
 exact q_again (j + 1) [1, 2, 3, 4, 5, 6, 7, 8] ⟨by omega, all_nextG hjl hs2.2 (by rw [hpb]; rfl)⟩ (by show (mapF l (rd_T48 l (i : Int)).f2 (ordL l)).length - (j + 1) < (mapF l (rd_T48 l (i : Int)).f2 (ordL l)).length - j; omega) (subF_spec ⟨rfl, rfl, rfl, rfl, rfl, rfl, rfl, rfl, rfl, rfl, rfl, trivial⟩) rfl (by decide)
 have h30_d := of_decide_eq_false h30_
 refine s_no rfl rfl rfl rfl ?_
 refine s_no rfl rfl rfl rfl ?_
 refine s_no rfl rfl rfl rfl ?_
 refine s_no rfl rfl rfl rfl ?_
 refine s_v rfl rfl rfl rfl (v_pick rfl rfl rfl rfl) ?_
 refine s_v rfl rfl rfl rfl (v_move rfl rfl) ?_
 refine s_no rfl rfl rfl rfl ?_
 refine s_no rfl rfl rfl rfl ?_
 refine s_v rfl rfl rfl rfl (v_pick rfl rfl rfl rfl) ?_
 refine s_v rfl rfl rfl rfl (v_move rfl rfl) ?_
 refine s_no rfl rfl rfl rfl ?_
 refine s_no rfl rfl rfl rfl ?_
 refine s_no rfl rfl rfl rfl ?_
 refine s_no rfl rfl rfl rfl ?_
 refine s_no rfl rfl rfl rfl ?_
 refine s_v rfl rfl rfl rfl (v_pick rfl rfl rfl rfl) ?_
 refine s_end ?_
 refine q_seq ?_
 refine c_cond0 rfl rfl ?_
 refine c_skip rfl ?_
 refine q_block ?_
 refine q_seq ?_
 refine r_ord (l := [0, 1]) rfl (by kernel_rfl) (by kernel_rfl) ?_
 refine s_v rfl rfl rfl rfl (OpV.cast (v := .int .i64 ((j + 1 : Nat) : Int)) (v_arith rfl rfl rfl rfl) (addN (a := j) (b := 1) (by first | omega | (simp only [List.length_set, swr_len, swp_len]; omega)))) ?_
 refine s_v rfl rfl rfl rfl (v_move rfl rfl) ?_
 refine s_end ?_
 have hpb : pairBad l (rd_T48 l (i : Int)) (rd_T56 (mapF l (rd_T48 l (i : Int)).f2 (ordL l)) (j : Int)).f0 = false := by unfold pairBad; rw [h29_, h30_]; simp
 rw [rd56' hjl] at hpb
 exact q_again (j + 1) [1, 2, 3, 4, 5, 6, 7, 8] ⟨by omega, all_nextG hjl hs2.2 (by rw [hpb]; rfl)⟩ (by show (mapF l (rd_T48 l (i : Int)).f2 (ordL l)).length - (j + 1) < (mapF l (rd_T48 l (i : Int)).f2 (ordL l)).length - j; omega) (subF_spec ⟨rfl, rfl, rfl, rfl, rfl, rfl, rfl, rfl, rfl, rfl, rfl, trivial⟩) rfl (by decide)
 have h29_d := of_decide_eq_false h29_
 refine s_no rfl rfl rfl rfl ?_
 refine s_no rfl rfl rfl rfl ?_
 refine s_no rfl rfl rfl rfl ?_
 refine s_no rfl rfl rfl rfl ?_
 refine s_no rfl rfl rfl rfl ?_
 refine s_no rfl rfl rfl rfl ?_
 refine s_v rfl rfl rfl rfl (v_pick rfl rfl rfl rfl) ?_
 refine s_v rfl rfl rfl rfl (v_move rfl rfl) ?_
 refine s_no rfl rfl rfl rfl ?_
 refine s_no rfl rfl rfl rfl ?_
 refine s_no rfl rfl rfl rfl ?_
 refine s_no rfl rfl rfl rfl ?_
 refine s_v rfl rfl rfl rfl (v_pick rfl rfl rfl rfl) ?_
 refine s_v rfl rfl rfl rfl (v_move rfl rfl) ?_
 refine s_no rfl rfl rfl rfl ?_
 refine s_no rfl rfl rfl rfl ?_
 refine s_v rfl rfl rfl rfl (v_pick rfl rfl rfl rfl) ?_
 refine s_v rfl rfl rfl rfl (v_move rfl rfl) ?_
 refine s_no rfl rfl rfl rfl ?_
 refine s_no rfl rfl rfl rfl ?_
 refine s_no rfl rfl rfl rfl ?_
 refine s_no rfl rfl rfl rfl ?_
 refine s_no rfl rfl rfl rfl ?_
 refine s_v rfl rfl rfl rfl (v_pick rfl rfl rfl rfl) ?_
 refine s_end ?_
 refine q_seq ?_
 refine c_cond0 rfl rfl ?_
 refine c_skip rfl ?_
 refine q_block ?_
 refine q_seq ?_
 refine r_ord (l := [0, 1]) rfl (by kernel_rfl) (by kernel_rfl) ?_
 refine s_v rfl rfl rfl rfl (OpV.cast (v := .int .i64 ((j + 1 : Nat) : Int)) (v_arith rfl rfl rfl rfl) (addN (a := j) (b := 1) (by first | omega | (simp only [List.length_set, swr_len, swp_len]; omega)))) ?_
 refine s_v rfl rfl rfl rfl (v_move rfl rfl) ?_
 refine s_end ?_
 have hpb : pairBad l (rd_T48 l (i : Int)) (rd_T56 (mapF l (rd_T48 l (i : Int)).f2 (ordL l)) (j : Int)).f0 = false := by unfold pairBad; rw [h29_]; rfl
 rw [rd56' hjl] at hpb
 exact q_again (j + 1) [1, 2, 3, 4, 5, 6, 7, 8] ⟨by omega, all_nextG hjl hs2.2 (by rw [hpb]; rfl)⟩ (by show (mapF l (rd_T48 l (i : Int)).f2 (ordL l)).length - (j + 1) < (mapF l (rd_T48 l (i : Int)).f2 (ordL l)).length - j; omega) (subF_spec ⟨rfl, rfl, rfl, rfl, rfl, rfl, rfl, rfl, rfl, rfl, rfl, trivial⟩) rfl (by decide)
 have h24_d := of_decide_eq_false h24_
 have h24_f : decide (((rd_T48 l (i : Int)).f6.f3.length : Int) ≥ mx 0 (rd_T48 l (i : Int)).f1.f3) = false := h24_
 refine a_no 2 rfl (by kernel_rfl) (by kernel_rfl) (by kernel_rfl) rfl rfl rfl ?_
 refine a_no 3 rfl (by kernel_rfl) (by kernel_rfl) (by kernel_rfl) rfl rfl rfl ?_
 refine a_no 4 rfl (by kernel_rfl) (by kernel_rfl) (by kernel_rfl) rfl rfl rfl ?_
 refine a_no 5 rfl (by kernel_rfl) (by kernel_rfl) (by kernel_rfl) rfl rfl rfl ?_
 refine a_no 6 rfl (by kernel_rfl) (by kernel_rfl) (by kernel_rfl) rfl rfl rfl ?_
 refine a_no 7 rfl (by kernel_rfl) (by kernel_rfl) (by kernel_rfl) rfl rfl rfl ?_
 refine a_no 8 rfl (by kernel_rfl) (by kernel_rfl) (by kernel_rfl) rfl rfl rfl ?_
 refine a_no 9 rfl (by kernel_rfl) (by kernel_rfl) (by kernel_rfl) rfl rfl rfl ?_
 refine a_no 10 rfl (by kernel_rfl) (by kernel_rfl) (by kernel_rfl) rfl rfl rfl ?_
 refine a_no 11 rfl (by kernel_rfl) (by kernel_rfl) (by kernel_rfl) rfl rfl rfl ?_
 refine a_no 12 rfl (by kernel_rfl) (by kernel_rfl) (by kernel_rfl) rfl rfl rfl ?_
 refine a_no 13 rfl (by kernel_rfl) (by kernel_rfl) (by kernel_rfl) rfl rfl rfl ?_
 refine a_no 14 rfl (by kernel_rfl) (by kernel_rfl) (by kernel_rfl) rfl rfl rfl ?_
 refine a_no 15 rfl (by kernel_rfl) (by kernel_rfl) (by kernel_rfl) rfl rfl rfl ?_
 refine a_v 16 rfl (by kernel_rfl) (by kernel_rfl) (by kernel_rfl) rfl rfl rfl (v_pick rfl rfl rfl rfl) ?_
 refine a_v 17 rfl (by kernel_rfl) (by kernel_rfl) (by kernel_rfl) rfl rfl rfl (v_assign rfl rfl) ?_
 refine a_end (by kernel_rfl) ?_
 refine q_seq ?_
 refine c_seq rfl ?_
 refine r_ord (l := [0, 1, 2, 3, 4, 5, 6, 7, 8, 9, 10, 11, 12, 13, 14, 15, 16, 17, 18, 19, 20, 21, 22, 23, 24, 25, 26, 27, 28, 29, 30]) rfl (by kernel_rfl) (by kernel_rfl) ?_
 refine s_v rfl rfl rfl rfl (v_fa rfl Try.underlying56 rfl SZ41 rfl) ?_
 refine s_v rfl rfl rfl rfl (v_ld 0 rfl Try.underlying41 rfl rfl rfl rfl) ?_
 refine s_v rfl rfl rfl rfl (v_fa rfl Try.underlying53 rfl SZ43 rfl) ?_
 refine s_v rfl rfl rfl rfl (v_fa rfl Try.underlying43 rfl SZ41 rfl) ?_
 refine s_v rfl rfl rfl rfl (v_ld 6 rfl Try.underlying41 rfl rfl rfl rfl) ?_
 refine s_v rfl rfl rfl rfl (v_arith rfl rfl rfl rfl) ?_
 refine s_v rfl rfl rfl rfl (v_move rfl rfl) ?_
 refine s_splitv (d := 82) (t := decide (((rd_T56 (mapF l (rd_T48 l (i : Int)).f2 (ordL l)) ((j : Nat) : Int)).f0 : Int) ≥ ((rd_T48 l ((i : Nat) : Int)).f1.f1))) rfl (fun h35_ => ?_) (fun h35_ => ?_)
 have h35_d := of_decide_eq_true h35_
 refine s_vg rfl rfl rfl rfl (v_fa rfl Try.underlying56 rfl SZ41 rfl) ?_
 refine s_vg rfl rfl rfl rfl (v_ld 0 rfl Try.underlying41 rfl rfl rfl rfl) ?_
 refine s_vg rfl rfl rfl rfl (v_fa rfl Try.underlying53 rfl SZ43 rfl) ?_
 refine s_vg rfl rfl rfl rfl (v_fa rfl Try.underlying43 rfl SZ41 rfl) ?_
 refine s_vg rfl rfl rfl rfl (v_ld 6 rfl Try.underlying41 rfl rfl rfl rfl) ?_
 refine s_vg rfl rfl rfl rfl (v_arith rfl rfl rfl rfl) ?_
 refine s_v rfl rfl rfl rfl (v_pick rfl rfl rfl rfl) ?_
 refine s_v rfl rfl rfl rfl (v_move rfl rfl) ?_
 refine s_splitv (d := 90) (t := decide (((rd_T56 (mapF l (rd_T48 l (i : Int)).f2 (ordL l)) ((j : Nat) : Int)).f0 : Int) ≤ ((rd_T48 l ((i : Nat) : Int)).f1.f2))) rfl (fun h36_ => ?_) (fun h36_ => ?_)
 have h36_d := of_decide_eq_true h36_
 refine s_vg rfl rfl rfl rfl (v_move rfl rfl) ?_
 refine s_vg rfl rfl rfl rfl (v_fa rfl Try.underlying56 rfl SZ41 rfl) ?_
 refine s_vg rfl rfl rfl rfl (v_ld 0 rfl Try.underlying41 rfl rfl rfl rfl) ?_
 refine s_eg rfl rfl (e_callF [5, 4] #[.int .u64 ((rd_T56 (mapF l (rd_T48 l (i : Int)).f2 (ordL l)) ((j : Nat) : Int)).f0), .pointer (some ⟨b12_, 0, none⟩)] rfl rfl rfl rfl rfl Try.func40 rfl (by decide) rfl rfl rfl rfl (fun w ht => always_con b12_ A10_ c11_ (mapsL l (rd_T48 l (i : Int)) (ordL l).length) ((rd_T56 (mapF l (rd_T48 l (i : Int)).f2 (ordL l)) ((j : Nat) : Int)).f0) hMl hMS w _)) ?_
 refine s_v rfl rfl rfl rfl (v_pick rfl rfl rfl rfl) ?_
 refine s_v rfl rfl rfl rfl (v_move rfl rfl) ?_
 refine s_splitv (d := 96) (t := !((mapsL l (rd_T48 l (i : Int)) (ordL l).length).any (fun x : S35 => !(getM x.f0 ((rd_T56 (mapF l (rd_T48 l (i : Int)).f2 (ordL l)) ((j : Nat) : Int)).f0)).2.1))) rfl (fun h37_ => ?_) (fun h37_ => ?_)
 have h37_f : alwaysL l (rd_T48 l (i : Int)) (rd_T56 (mapF l (rd_T48 l (i : Int)).f2 (ordL l)) (j : Int)).f0 = true := h37_
 refine s_vg rfl rfl rfl rfl (v_move rfl rfl) ?_
 refine s_vg rfl rfl rfl rfl (v_not rfl rfl) ?_
 refine s_v rfl rfl rfl rfl (v_pick rfl rfl rfl rfl) ?_
 refine s_v rfl rfl rfl rfl (v_move rfl rfl) ?_
 refine s_vg rfl rfl rfl rfl (v_move rfl rfl) ?_
 refine s_vg rfl rfl rfl rfl (v_fa rfl Try.underlying56 rfl SZ41 rfl) ?_
 refine s_vg rfl rfl rfl rfl (v_ld 0 rfl Try.underlying41 rfl rfl rfl rfl) ?_
 refine s_eg rfl rfl (e_callK (fun z : Unit => .bool (((rd_T48 l ((i : Nat) : Int)).f6.f3).contains ((rd_T56 (mapF l (rd_T48 l (i : Int)).f2 (ordL l)) ((j : Nat) : Int)).f0))) (fun z => []) #[.slice A5_ ((rd_T48 l ((i : Nat) : Int)).f6.f3.length) c6_, .int .u64 ((rd_T56 (mapF l (rd_T48 l (i : Int)).f2 (ordL l)) ((j : Nat) : Int)).f0)] rfl rfl rfl rfl rfl Try.func45 rfl (by decide) rfl rfl (fun w ht => slices_Contains_uint64_uint64.con 5000 _ _ ((rd_T48 l ((i : Nat) : Int)).f6.f3) ((rd_T56 (mapF l (rd_T48 l (i : Int)).f2 (ordL l)) ((j : Nat) : Int)).f0) _ (contains_f ((rd_T48 l ((i : Nat) : Int)).f6.f3) ((rd_T56 (mapF l (rd_T48 l (i : Int)).f2 (ordL l)) ((j : Nat) : Int)).f0) (by omega)) w (Tri.fact ht 7 rfl))) ?_
 intro z38_
 refine s_vg rfl rfl rfl rfl (v_not rfl rfl) ?_
 refine s_v rfl rfl rfl rfl (v_pick rfl rfl rfl rfl) ?_
 refine s_end ?_
 refine q_seq ?_
 refine c_cond (t := !(((rd_T48 l ((i : Nat) : Int)).f6.f3).contains ((rd_T56 (mapF l (rd_T48 l (i : Int)).f2 (ordL l)) ((j : Nat) : Int)).f0))) rfl rfl (fun h39_ => ?_) (fun h39_ => ?_)
 refine c_seq rfl ?_
 refine r_ord (l := [0]) rfl (by kernel_rfl) (by kernel_rfl) ?_
 refine s_v rfl rfl rfl rfl (v_assign rfl rfl) ?_
 refine s_end ?_
 refine q_seq ?_
 refine c_ret rfl ?_
 refine q_block_ret ?_
 refine q_then_ret ?_
 refine q_then_ret ?_
 refine q_block_ret ?_
 refine q_block_ret ?_
 refine q_then_ret ?_
 refine q_then_ret ?_
 refine q_block_ret ?_
 refine q_then_ret ?_
 refine q_take [] rfl (by decide) ?_
 have hbey : beyondB (rd_T48 l (i : Int)) (rd_T56 (mapF l (rd_T48 l (i : Int)).f2 (ordL l)) (j : Int)).f0 = false := by unfold beyondB; rw [h24_f]; rfl
 have hpb : pairBad l (rd_T48 l (i : Int)) (rd_T56 (mapF l (rd_T48 l (i : Int)).f2 (ordL l)) (j : Int)).f0 = true := by unfold pairBad; rw [h35_, h36_, h37_f, hbey, (show (rd_T48 l (i : Int)).f6.f3.contains (rd_T56 (mapF l (rd_T48 l (i : Int)).f2 (ordL l)) (j : Int)).f0 = false by simpa using h39_)]; rfl
 have hr_ : okR l (rd_T48 l (i : Int)) = false := okR_bad5 hjl (by rw [rd56' hjl] at hpb; exact hpb)
 have hb_ : okB l (rd_T48 l (i : Int)) = false := by unfold okB; rw [h8_, h9_, hr_]; rfl
 rw [rd48 hil] at hb_
 rw [show rangesM l = false from all_badG hil hb_] at hX
 exact q_post rfl (.cons rfl (.nil)) hX
 refine c_skip rfl ?_
 refine q_block ?_
 refine q_seq ?_
 refine r_ord (l := [0, 1]) rfl (by kernel_rfl) (by kernel_rfl) ?_
 refine s_v rfl rfl rfl rfl (OpV.cast (v := .int .i64 ((j + 1 : Nat) : Int)) (v_arith rfl rfl rfl rfl) (addN (a := j) (b := 1) (by first | omega | (simp only [List.length_set, swr_len, swp_len]; omega)))) ?_
 refine s_v rfl rfl rfl rfl (v_move rfl rfl) ?_
 refine s_end ?_
 have hbey : beyondB (rd_T48 l (i : Int)) (rd_T56 (mapF l (rd_T48 l (i : Int)).f2 (ordL l)) (j : Int)).f0 = false := by unfold beyondB; rw [h24_f]; rfl
 have hpb : pairBad l (rd_T48 l (i : Int)) (rd_T56 (mapF l (rd_T48 l (i : Int)).f2 (ordL l)) (j : Int)).f0 = false := by unfold pairBad; rw [h35_, h36_, h37_f, hbey, (show (rd_T48 l (i : Int)).f6.f3.contains (rd_T56 (mapF l (rd_T48 l (i : Int)).f2 (ordL l)) (j : Int)).f0 = true by simpa using h39_)]; simp
 rw [rd56' hjl] at hpb
 exact q_again (j + 1) [1, 2, 3, 4, 5, 6, 7, 8] ⟨by omega, all_nextG hjl hs2.2 (by rw [hpb]; rfl)⟩ (by show (mapF l (rd_T48 l (i : Int)).f2 (ordL l)).length - (j + 1) < (mapF l (rd_T48 l (i : Int)).f2 (ordL l)).length - j; omega) (subF_spec ⟨rfl, rfl, rfl, rfl, rfl, rfl, rfl, rfl, rfl, rfl, rfl, trivial⟩) rfl (by decide)
 have h37_f : alwaysL l (rd_T48 l (i : Int)) (rd_T56 (mapF l (rd_T48 l (i : Int)).f2 (ordL l)) (j : Int)).f0 = false := h37_
 refine s_no rfl rfl rfl rfl ?_
 refine s_no rfl rfl rfl rfl ?_
 refine s_v rfl rfl rfl rfl (v_pick rfl rfl rfl rfl) ?_
 refine s_v rfl rfl rfl rfl (v_move rfl rfl) ?_
 refine s_no rfl rfl rfl rfl ?_
 refine s_no rfl rfl rfl rfl ?_
 refine s_no rfl rfl rfl rfl ?_
 refine s_no rfl rfl rfl rfl ?_
 refine s_no rfl rfl rfl rfl ?_
 refine s_v rfl rfl rfl rfl (v_pick rfl rfl rfl rfl) ?_
 refine s_end ?_
 refine q_seq ?_
 refine c_cond0 rfl rfl ?_
 refine c_skip rfl ?_
 refine q_block ?_
 refine q_seq ?_
 refine r_ord (l := [0, 1]) rfl (by kernel_rfl) (by kernel_rfl) ?_
 refine s_v rfl rfl rfl rfl (OpV.cast (v := .int .i64 ((j + 1 : Nat) : Int)) (v_arith rfl rfl rfl rfl) (addN (a := j) (b := 1) (by first | omega | (simp only [List.length_set, swr_len, swp_len]; omega)))) ?_
 refine s_v rfl rfl rfl rfl (v_move rfl rfl) ?_
 refine s_end ?_
 have hpb : pairBad l (rd_T48 l (i : Int)) (rd_T56 (mapF l (rd_T48 l (i : Int)).f2 (ordL l)) (j : Int)).f0 = false := by unfold pairBad; rw [h35_, h36_, h37_f]; simp
 rw [rd56' hjl] at hpb
 exact q_again (j + 1) [1, 2, 3, 4, 5, 6, 7, 8] ⟨by omega, all_nextG hjl hs2.2 (by rw [hpb]; rfl)⟩ (by show (mapF l (rd_T48 l (i : Int)).f2 (ordL l)).length - (j + 1) < (mapF l (rd_T48 l (i : Int)).f2 (ordL l)).length - j; omega) (subF_spec ⟨rfl, rfl, rfl, rfl, rfl, rfl, rfl, rfl, rfl, rfl, rfl, trivial⟩) rfl (by decide)
 have h36_d := of_decide_eq_false h36_
 refine s_no rfl rfl rfl rfl ?_
 refine s_no rfl rfl rfl rfl ?_
 refine s_no rfl rfl rfl rfl ?_
 refine s_no rfl rfl rfl rfl ?_
 refine s_v rfl rfl rfl rfl (v_pick rfl rfl rfl rfl) ?_
 refine s_v rfl rfl rfl rfl (v_move rfl rfl) ?_
 refine s_no rfl rfl rfl rfl ?_
 refine s_no rfl rfl rfl rfl ?_
 refine s_v rfl rfl rfl rfl (v_pick rfl rfl rfl rfl) ?_
 refine s_v rfl rfl rfl rfl (v_move rfl rfl) ?_
 refine s_no rfl rfl rfl rfl ?_
 refine s_no rfl rfl rfl rfl ?_
 refine s_no rfl rfl rfl rfl ?_
 refine s_no rfl rfl rfl rfl ?_
 refine s_no rfl rfl rfl rfl ?_
 refine s_v rfl rfl rfl rfl (v_pick rfl rfl rfl rfl) ?_
 refine s_end ?_
 refine q_seq ?_
 refine c_cond0 rfl rfl ?_
 refine c_skip rfl ?_
 refine q_block ?_
 refine q_seq ?_
 refine r_ord (l := [0, 1]) rfl (by kernel_rfl) (by kernel_rfl) ?_
 refine s_v rfl rfl rfl rfl (OpV.cast (v := .int .i64 ((j + 1 : Nat) : Int)) (v_arith rfl rfl rfl rfl) (addN (a := j) (b := 1) (by first | omega | (simp only [List.length_set, swr_len, swp_len]; omega)))) ?_
 refine s_v rfl rfl rfl rfl (v_move rfl rfl) ?_
 refine s_end ?_
 have hpb : pairBad l (rd_T48 l (i : Int)) (rd_T56 (mapF l (rd_T48 l (i : Int)).f2 (ordL l)) (j : Int)).f0 = false := by unfold pairBad; rw [h35_, h36_]; simp
 rw [rd56' hjl] at hpb
 exact q_again (j + 1) [1, 2, 3, 4, 5, 6, 7, 8] ⟨by omega, all_nextG hjl hs2.2 (by rw [hpb]; rfl)⟩ (by show (mapF l (rd_T48 l (i : Int)).f2 (ordL l)).length - (j + 1) < (mapF l (rd_T48 l (i : Int)).f2 (ordL l)).length - j; omega) (subF_spec ⟨rfl, rfl, rfl, rfl, rfl, rfl, rfl, rfl, rfl, rfl, rfl, trivial⟩) rfl (by decide)
 have h35_d := of_decide_eq_false h35_
 refine s_no rfl rfl rfl rfl ?_
 refine s_no rfl rfl rfl rfl ?_
 refine s_no rfl rfl rfl rfl ?_
 refine s_no rfl rfl rfl rfl ?_
 refine s_no rfl rfl rfl rfl ?_
 refine s_no rfl rfl rfl rfl ?_
 refine s_v rfl rfl rfl rfl (v_pick rfl rfl rfl rfl) ?_
 refine s_v rfl rfl rfl rfl (v_move rfl rfl) ?_
 refine s_no rfl rfl rfl rfl ?_
 refine s_no rfl rfl rfl rfl ?_
 refine s_no rfl rfl rfl rfl ?_
 refine s_no rfl rfl rfl rfl ?_
 refine s_v rfl rfl rfl rfl (v_pick rfl rfl rfl rfl) ?_
 refine s_v rfl rfl rfl rfl (v_move rfl rfl) ?_
 refine s_no rfl rfl rfl rfl ?_
 refine s_no rfl rfl rfl rfl ?_
 refine s_v rfl rfl rfl rfl (v_pick rfl rfl rfl rfl) ?_
 refine s_v rfl rfl rfl rfl (v_move rfl rfl) ?_
 refine s_no rfl rfl rfl rfl ?_
 refine s_no rfl rfl rfl rfl ?_
 refine s_no rfl rfl rfl rfl ?_
 refine s_no rfl rfl rfl rfl ?_
 refine s_no rfl rfl rfl rfl ?_
 refine s_v rfl rfl rfl rfl (v_pick rfl rfl rfl rfl) ?_
 refine s_end ?_
 refine q_seq ?_
 refine c_cond0 rfl rfl ?_
 refine c_skip rfl ?_
 refine q_block ?_
 refine q_seq ?_
 refine r_ord (l := [0, 1]) rfl (by kernel_rfl) (by kernel_rfl) ?_
 refine s_v rfl rfl rfl rfl (OpV.cast (v := .int .i64 ((j + 1 : Nat) : Int)) (v_arith rfl rfl rfl rfl) (addN (a := j) (b := 1) (by first | omega | (simp only [List.length_set, swr_len, swp_len]; omega)))) ?_
 refine s_v rfl rfl rfl rfl (v_move rfl rfl) ?_
 refine s_end ?_
 have hpb : pairBad l (rd_T48 l (i : Int)) (rd_T56 (mapF l (rd_T48 l (i : Int)).f2 (ordL l)) (j : Int)).f0 = false := by unfold pairBad; rw [h35_]; rfl
 rw [rd56' hjl] at hpb
 exact q_again (j + 1) [1, 2, 3, 4, 5, 6, 7, 8] ⟨by omega, all_nextG hjl hs2.2 (by rw [hpb]; rfl)⟩ (by show (mapF l (rd_T48 l (i : Int)).f2 (ordL l)).length - (j + 1) < (mapF l (rd_T48 l (i : Int)).f2 (ordL l)).length - j; omega) (subF_spec ⟨rfl, rfl, rfl, rfl, rfl, rfl, rfl, rfl, rfl, rfl, rfl, trivial⟩) rfl (by decide)
 have h22_d := of_decide_eq_false h22_
 have hokR : okR l (rd_T48 l (i : Int)) = true := by unfold okR; rw [hris, hmis, all_endG (i := j) (by omega) hs2.2]; rfl
 refine c_exit (i := 2) rfl rfl ?_
 refine q_then_exit ?_
 refine q_then_exit ?_
 refine q_block_here rfl ?_
 refine q_block ?_
 refine q_seq ?_
 refine r_ord (l := [0, 1]) rfl (by kernel_rfl) (by kernel_rfl) ?_
 refine s_v rfl rfl rfl rfl (OpV.cast (v := .int .i64 ((i + 1 : Nat) : Int)) (v_arith rfl rfl rfl rfl) (addN (a := i) (b := 1) (by first | omega | (simp only [List.length_set, swr_len, swp_len]; omega)))) ?_
 refine s_v rfl rfl rfl rfl (v_move rfl rfl) ?_
 refine s_end ?_
 have hok : okB l (rd_T48 l (i : Int)) = true := by unfold okB; rw [h8_, h9_, hokR]; rfl
 rw [rd48 hil] at hok
 exact q_again (i + 1) [7] ⟨by omega, all_nextG hil hso hok⟩ (by show l.length - (i + 1) < l.length - i; omega) (subF_spec ⟨rfl, rfl, rfl, rfl, trivial⟩) rfl (by decide)
 have h1_d := of_decide_eq_false h1_
 have hend : rangesM l = true := all_endG (i := i) (by omega) hso
 refine c_exit (i := 0) rfl rfl ?_
 refine q_then_exit ?_
 refine q_then_exit ?_
 refine q_block_here rfl ?_
 refine q_seq ?_
 refine c_seq rfl ?_
 refine r_ord (l := [0]) rfl (by kernel_rfl) (by kernel_rfl) ?_
 refine s_v rfl rfl rfl rfl (v_assign rfl rfl) ?_
 refine s_end ?_
 refine q_seq ?_
 refine c_ret rfl ?_
 refine q_take [] rfl (by decide) ?_
 rw [hend] at hX
 exact q_post rfl (.cons rfl (.nil)) hX
end Go.Eng
namespace Go.Eng
open Go.Proofs Go.RowKit Go.Proofs.YtiihjijmmephlaaW.PrintWords Go.Proofs.Ytiihjijmmephlaa.GHist
set_option linter.unusedVariables false
set_option linter.unusedSimpArgs false
def fewB (l : List S48) : Bool := l.all (fun x => decide (l.length ≤ 40) && decide (x.f6.f3.length ≤ 40))
theorem few_l (l : List S48) (hl : l.length ≤ 40) : ∀ (d k i : Nat), i ≤ l.length → l.length - i = d → d < k → stepstonelaw08_few.l0 k l l (l.length : Int) (i : Int) = some ((l.drop i).all (fun x => decide (l.length ≤ 40) && decide (x.f6.f3.length ≤ 40))) := by
  intro d
  induction d with
  | zero =>
    intro k i h1 h2 h3
    obtain ⟨k, rfl⟩ : ∃ m, k = m + 1 := ⟨k - 1, by omega⟩
    simp only [stepstonelaw08_few.l0]
    rw [if_neg (by omega), List.drop_of_length_le (by omega)]
    rfl
  | succ d ih =>
    intro k i h1 h2 h3
    obtain ⟨k, rfl⟩ : ∃ m, k = m + 1 := ⟨k - 1, by omega⟩
    have e1 : wrap64 ((i : Int) + 1) = ((i + 1 : Nat) : Int) := by rw [w64 (by omega) (by omega)]; omega
    have e : rd_T48 l (i : Int) = l[i]'(by omega) := rd48 (by omega)
    simp only [stepstonelaw08_few.l0, e1, ih k (i + 1) (by omega) (by omega) (by omega)]
    rw [if_pos (by omega), if_pos (by omega), if_pos (by omega), if_neg (by omega), List.drop_eq_getElem_cons (show i < l.length by omega), List.all_cons, e, decide_eq_true hl, Bool.true_and]
    by_cases h : (l[i]'(by omega)).f6.f3.length ≤ 40
    · rw [if_neg (by omega), decide_eq_true h, Bool.true_and]
    · rw [if_pos (by omega), decide_eq_false h, Bool.false_and]
theorem few_f (l : List S48) : stepstonelaw08_few.f 5000 l = some (fewB l) := by
  by_cases hl : l.length ≤ 40
  · have := few_l l hl l.length 5000 0 (Nat.zero_le _) (by omega) (by omega)
    rwa [List.drop_zero] at this
  · unfold stepstonelaw08_few.f
    obtain ⟨k, hk⟩ : ∃ k, 5000 = k + 1 := ⟨4999, rfl⟩
    rw [hk]
    simp only [stepstonelaw08_few.l0]
    rw [if_pos (by omega), if_pos (by omega), if_pos (by omega), if_pos (by omega)]
    cases l with
    | nil => simp at hl
    | cons x r => unfold fewB; rw [List.all_cons, decide_eq_false hl]; rfl
theorem few_len {l : List S48} (h : fewB l = true) : l.length ≤ 40 := by
  cases l with
  | nil => simp
  | cons x r => unfold fewB at h; rw [List.all_cons] at h; simp at h; have h1 := h.1.1; rw [List.length_cons]; omega
theorem few_keys {l : List S48} (h : fewB l = true) : ∀ x ∈ l, x.f6.f3.length ≤ 40 := by
  intro x hx
  unfold fewB at h
  rw [List.all_eq_true] at h
  have := h x hx
  simp at this
  exact this.2
theorem K48 {w : World} {x : S48} {A : Option Addr} {c : Nat} (h : KC (Kd.int .u64) A c x.f6.f3 w) : k48.K w x (cellsE x A c) := k48_mk w x h.2 h.1
theorem KI_nil (w : World) : KC (Kd.int .u64) none 0 [] w := KC_nil _ w
end Go.Eng
namespace Go.Eng
open Go.Proofs Go.RowKit Go.Proofs.YtiihjijmmephlaaW.PrintWords Go.Proofs.Ytiihjijmmephlaa.GHist
set_option linter.unusedVariables false
set_option linter.unusedSimpArgs false
set_option maxRecDepth 100000 in
set_option maxHeartbeats 4000000 in
theorem alive_con (w0 : World) (H : List Nat) : Con Try.prog 10 #[] w0 H [] (fun X => X (.bool true) []) := by
 refine con_enter (c := bodyOf Try.f10) Try.func10 rfl (m := 87) rfl rfl rfl ?_
 intro X hX _
 refine c_seq rfl ?_
 refine r_ord (l := [0]) rfl (by kernel_rfl) (by kernel_rfl) ?_
 refine s_v rfl rfl rfl rfl (v_assign rfl rfl) ?_
 refine s_end ?_
 refine q_seq ?_
 refine c_seq rfl ?_
 refine r_ord (l := [0, 1, 2, 3]) rfl (by kernel_rfl) (by kernel_rfl) ?_
 refine s_v rfl rfl rfl rfl (v_build (places := #[(0, 1), (1, 1), (2, 1), (3, 1), (4, 1)]) #[.int .i64 2, .int .u64 5, .int .u64 7, .int .i64 0, .int .i64 0] rfl ZR43 Try.underlying43 (by kernel_rfl) rfl rfl) ?_
 refine s_v rfl rfl rfl rfl (v_build (places := #[(0, 1), (1, 5), (6, 1), (7, 1), (8, 1), (9, 1), (10, 4)]) #[.int .i64 0, .int .i64 2, .int .u64 5, .int .u64 7, .int .i64 0, .int .i64 0, .int .i64 1, .int .i64 3, .int .i64 4, .bool true, .bool false, .bool false, .int .u64 0, .slice none 0 0] rfl ZR53 Try.underlying53 (by kernel_rfl) rfl rfl) ?_
 refine s_e rfl rfl (e_alloc rfl rfl rfl ZR53) ?_
 intro b1_
 refine s_e rfl rfl (e_stA 0 rfl rfl SZ53 rfl rfl rfl rfl rfl rfl) ?_
 refine s_end ?_
 refine q_seq ?_
 refine c_seq rfl ?_
 refine r_ord (l := [0, 1, 2, 3, 4]) rfl (by kernel_rfl) (by kernel_rfl) ?_
 refine s_v rfl rfl rfl rfl (v_build (places := #[(0, 1), (1, 1), (2, 1), (3, 1), (4, 1)]) #[.int .i64 1, .int .u64 5, .int .u64 0, .int .i64 0, .int .i64 0] rfl ZR43 Try.underlying43 (by kernel_rfl) rfl rfl) ?_
 refine s_v rfl rfl rfl rfl (v_build (places := #[(0, 1), (1, 1), (2, 1), (3, 1)]) #[.bool false, .bool true, .int .u64 7, .slice none 0 0] rfl ZR46 Try.underlying46 (by kernel_rfl) rfl rfl) ?_
 refine s_v rfl rfl rfl rfl (v_build (places := #[(0, 1), (1, 5), (6, 1), (7, 1), (8, 1), (9, 1), (10, 4)]) #[.int .i64 0, .int .i64 1, .int .u64 5, .int .u64 0, .int .i64 0, .int .i64 0, .int .i64 2, .int .i64 5, .int .i64 6, .bool true, .bool false, .bool true, .int .u64 7, .slice none 0 0] rfl ZR53 Try.underlying53 (by kernel_rfl) rfl rfl) ?_
 refine s_e rfl rfl (e_alloc rfl rfl rfl ZR53) ?_
 intro b2_
 refine s_e rfl rfl (e_stA 0 rfl rfl SZ53 rfl rfl rfl rfl rfl rfl) ?_
 refine s_end ?_
 refine q_seq ?_
 refine c_seq rfl ?_
 refine r_ord (l := [0, 1, 2]) rfl (by kernel_rfl) (by kernel_rfl) ?_
 refine s_v rfl rfl rfl rfl (v_ldA [.int .i64 0, .int .i64 1, .int .u64 5, .int .u64 0, .int .i64 0, .int .i64 0, .int .i64 2, .int .i64 5, .int .i64 6, .bool true, .bool false, .bool true, .int .u64 7, .slice none 0 0] 0 rfl Try.underlying53 rfl SZ53 rfl rfl rfl rfl) ?_
 refine s_e rfl rfl (e_alloc rfl rfl rfl ZR53) ?_
 intro b3_
 refine s_e rfl rfl (e_stA 0 rfl rfl SZ53 rfl rfl rfl rfl rfl rfl) ?_
 refine s_end ?_
 refine q_seq ?_
 refine c_seq rfl ?_
 refine r_ord (l := [0, 1]) rfl (by kernel_rfl) (by kernel_rfl) ?_
 refine s_v rfl rfl rfl rfl (v_fa rfl Try.underlying53 rfl SZ3 rfl) ?_
 refine s_e rfl rfl (e_st 0 rfl rfl SZ3 rfl rfl rfl rfl (blt_lt rfl)) ?_
 refine s_end ?_
 refine q_seq ?_
 refine c_seq rfl ?_
 refine r_ord (l := [0, 1, 2, 3, 4, 5]) rfl (by kernel_rfl) (by kernel_rfl) ?_
 refine s_v rfl rfl rfl rfl (v_build (places := #[(0, 1), (1, 1), (2, 1), (3, 1), (4, 1)]) #[.int .i64 5, .int .u64 0, .int .u64 9, .int .i64 1, .int .i64 0] rfl ZR43 Try.underlying43 (by kernel_rfl) rfl rfl) ?_
 refine s_e rfl rfl (e_bslice #[.int .u64 5] (.int .u64 0) rfl rfl rfl Try.underlying44 SZ41 ZR41 (by decide) rfl (by kernel_rfl)) ?_
 intro b4_
 refine s_v rfl rfl rfl rfl (v_build (places := #[(0, 1), (1, 1), (2, 1), (3, 1)]) #[.bool false, .bool false, .int .u64 0, .slice (some ⟨b4_, 0, none⟩) 1 1] rfl ZR46 Try.underlying46 (by kernel_rfl) rfl rfl) ?_
 refine s_v rfl rfl rfl rfl (v_build (places := #[(0, 1), (1, 5), (6, 1), (7, 1), (8, 1), (9, 1), (10, 4)]) #[.int .i64 0, .int .i64 5, .int .u64 0, .int .u64 9, .int .i64 1, .int .i64 0, .int .i64 3, .int .i64 0, .int .i64 4, .bool true, .bool false, .bool false, .int .u64 0, .slice (some ⟨b4_, 0, none⟩) 1 1] rfl ZR53 Try.underlying53 (by kernel_rfl) rfl rfl) ?_
 refine s_e rfl rfl (e_alloc rfl rfl rfl ZR53) ?_
 intro b5_
 refine s_e rfl rfl (e_stA 0 rfl rfl SZ53 rfl rfl rfl rfl rfl rfl) ?_
 refine s_end ?_
 refine q_seq ?_
 refine c_seq rfl ?_
 refine r_ord (l := [0, 1, 2]) rfl (by kernel_rfl) (by kernel_rfl) ?_
 refine s_v rfl rfl rfl rfl (v_ldA [.int .i64 0, .int .i64 5, .int .u64 0, .int .u64 9, .int .i64 1, .int .i64 0, .int .i64 3, .int .i64 0, .int .i64 4, .bool true, .bool false, .bool false, .int .u64 0, .slice (some ⟨b4_, 0, none⟩) 1 1] 0 rfl Try.underlying53 rfl SZ53 rfl rfl rfl rfl) ?_
 refine s_e rfl rfl (e_alloc rfl rfl rfl ZR53) ?_
 intro b6_
 refine s_e rfl rfl (e_stA 0 rfl rfl SZ53 rfl rfl rfl rfl rfl rfl) ?_
 refine s_end ?_
 refine q_seq ?_
 refine c_seq rfl ?_
 refine r_ord (l := [0, 1, 2]) rfl (by kernel_rfl) (by kernel_rfl) ?_
 refine s_v rfl rfl rfl rfl (v_build (places := #[(0, 1), (1, 1), (2, 1), (3, 1)]) #[.bool false, .bool false, .int .u64 0, .slice none 0 0] rfl ZR46 Try.underlying46 (by kernel_rfl) rfl rfl) ?_
 refine s_v rfl rfl rfl rfl (v_fa rfl Try.underlying53 rfl SZ46 rfl) ?_
 refine s_e rfl rfl (e_stA 0 rfl rfl SZ46 rfl rfl rfl rfl rfl rfl) ?_
 refine s_end ?_
 refine q_seq ?_
 refine c_seq rfl ?_
 refine r_ord (l := [0, 1, 2, 3, 4, 5]) rfl (by kernel_rfl) (by kernel_rfl) ?_
 refine s_v rfl rfl rfl rfl (v_ldA [.int .i64 0, .int .i64 1, .int .u64 5, .int .u64 0, .int .i64 0, .int .i64 0, .int .i64 2, .int .i64 5, .int .i64 6, .bool true, .bool false, .bool true, .int .u64 7, .slice none 0 0] 4 rfl Try.underlying53 rfl SZ53 rfl rfl rfl rfl) ?_
 refine s_v rfl rfl rfl rfl (v_ldA [.int .i64 0, .int .i64 2, .int .u64 5, .int .u64 7, .int .i64 0, .int .i64 0, .int .i64 1, .int .i64 3, .int .i64 4, .bool true, .bool false, .bool false, .int .u64 0, .slice none 0 0] 5 rfl Try.underlying53 rfl SZ53 rfl rfl rfl rfl) ?_
 refine s_v rfl rfl rfl rfl (v_ldA [.int .i64 0, .int .i64 5, .int .u64 0, .int .u64 9, .int .i64 1, .int .i64 0, .int .i64 3, .int .i64 0, .int .i64 4, .bool true, .bool false, .bool false, .int .u64 0, .slice (some ⟨b4_, 0, none⟩) 1 1] 1 rfl Try.underlying53 rfl SZ53 rfl rfl rfl rfl) ?_
 refine s_e rfl rfl (e_bslice #[.int .i64 0, .int .i64 1, .int .u64 5, .int .u64 0, .int .i64 0, .int .i64 0, .int .i64 2, .int .i64 5, .int .i64 6, .bool true, .bool false, .bool true, .int .u64 7, .slice none 0 0, .int .i64 0, .int .i64 2, .int .u64 5, .int .u64 7, .int .i64 0, .int .i64 0, .int .i64 1, .int .i64 3, .int .i64 4, .bool true, .bool false, .bool false, .int .u64 0, .slice none 0 0, .int .i64 0, .int .i64 5, .int .u64 0, .int .u64 9, .int .i64 1, .int .i64 0, .int .i64 3, .int .i64 0, .int .i64 4, .bool true, .bool false, .bool false, .int .u64 0, .slice (some ⟨b4_, 0, none⟩) 1 1] (.agg #[.int .i64 0, .int .i64 0, .int .u64 0, .int .u64 0, .int .i64 0, .int .i64 0, .int .i64 0, .int .i64 0, .int .i64 0, .bool false, .bool false, .bool false, .int .u64 0, .slice none 0 0]) rfl rfl rfl Try.underlying27 SZ53 ZR53 (by decide) rfl (by kernel_rfl)) ?_
 intro b7_
 refine s_give [3, 0, 1, 2, 4, 5, 6] rfl (by decide) (by simp [ids, Ent.id?]) (KC_own (k := .u64) (cap := 1) (xs := [5]) rfl (by decide) (by decide)) ?_
 refine s_give [1, 0, 2, 3, 4, 5, 6] rfl (by decide) (by simp [ids, Ent.id?]) (fun w h => h) ?_
 refine s_both 0 1 rfl rfl ?_
 refine s_weak 0 rfl (fun w h => (show KC k48 (some ⟨b7_, 0, none⟩) 3 [(⟨0, ⟨1, 5, 0, 0, 0⟩, 2, 5, 6, true, ⟨false, true, 7, []⟩⟩ : S48), (⟨0, ⟨2, 5, 7, 0, 0⟩, 1, 3, 4, true, ⟨false, false, 0, []⟩⟩ : S48), (⟨0, ⟨5, 0, 9, 1, 0⟩, 3, 0, 4, true, ⟨false, false, 0, ([5] : List Int)⟩⟩ : S48)] w from KC_ofReps (cap := 3) h.1 ((((Reps.none (k48.K w) 14).snoc (K48 (x := (⟨0, ⟨1, 5, 0, 0, 0⟩, 2, 5, 6, true, ⟨false, true, 7, []⟩⟩ : S48)) (KI_nil w)) rfl).snoc (K48 (x := (⟨0, ⟨2, 5, 7, 0, 0⟩, 1, 3, 4, true, ⟨false, false, 0, []⟩⟩ : S48)) (KI_nil w)) rfl).snoc (K48 (x := (⟨0, ⟨5, 0, 9, 1, 0⟩, 3, 0, 4, true, ⟨false, false, 0, ([5] : List Int)⟩⟩ : S48)) (h.2)) rfl) rfl (by decide) (by decide))) ?_
 refine s_e rfl rfl (e_callF [0] #[.slice (some ⟨b7_, 0, none⟩) (([(⟨0, ⟨1, 5, 0, 0, 0⟩, 2, 5, 6, true, ⟨false, true, 7, []⟩⟩ : S48), (⟨0, ⟨2, 5, 7, 0, 0⟩, 1, 3, 4, true, ⟨false, false, 0, []⟩⟩ : S48), (⟨0, ⟨5, 0, 9, 1, 0⟩, 3, 0, 4, true, ⟨false, false, 0, ([5] : List Int)⟩⟩ : S48)] : List S48).length) 3] rfl rfl rfl rfl rfl Try.func11 rfl (by decide) rfl rfl rfl rfl (fun w ht => Con.of (C' := fun X => ∀ A1 c1, X (.slice A1 (([1, 0] : List Int).length) c1) [.f (KC (Kd.int .i64) A1 c1 ([1, 0] : List Int))]) (order_con' (some ⟨b7_, 0, none⟩) 3 ([(⟨0, ⟨1, 5, 0, 0, 0⟩, 2, 5, 6, true, ⟨false, true, 7, []⟩⟩ : S48), (⟨0, ⟨2, 5, 7, 0, 0⟩, 1, 3, 4, true, ⟨false, false, 0, []⟩⟩ : S48), (⟨0, ⟨5, 0, 9, 1, 0⟩, 3, 0, 4, true, ⟨false, false, 0, ([5] : List Int)⟩⟩ : S48)] : List S48) (by decide) (by decide +kernel) w _) (fun X hX A1 c1 => by rw [show ordL ([(⟨0, ⟨1, 5, 0, 0, 0⟩, 2, 5, 6, true, ⟨false, true, 7, []⟩⟩ : S48), (⟨0, ⟨2, 5, 7, 0, 0⟩, 1, 3, 4, true, ⟨false, false, 0, []⟩⟩ : S48), (⟨0, ⟨5, 0, 9, 1, 0⟩, 3, 0, 4, true, ⟨false, false, 0, ([5] : List Int)⟩⟩ : S48)] : List S48) = ([1, 0] : List Int) from (by decide +kernel)]; exact hX A1 c1))) ?_
 intro A8_ c9_
 refine s_v rfl rfl rfl rfl (v_assign rfl rfl) ?_
 refine s_end ?_
 refine q_seq ?_
 refine c_seq rfl ?_
 refine r_ord (l := [0, 1, 2, 3, 4, 5]) rfl (by kernel_rfl) (by kernel_rfl) ?_
 refine s_v rfl rfl rfl rfl (v_ldA [.int .i64 0, .int .i64 1, .int .u64 5, .int .u64 0, .int .i64 0, .int .i64 0, .int .i64 2, .int .i64 5, .int .i64 6, .bool true, .bool false, .bool true, .int .u64 7, .slice none 0 0] 8 rfl Try.underlying53 rfl SZ53 rfl rfl rfl rfl) ?_
 refine s_v rfl rfl rfl rfl (v_ldA [.int .i64 0, .int .i64 2, .int .u64 5, .int .u64 7, .int .i64 0, .int .i64 0, .int .i64 1, .int .i64 3, .int .i64 4, .bool true, .bool false, .bool false, .int .u64 0, .slice none 0 0] 9 rfl Try.underlying53 rfl SZ53 rfl rfl rfl rfl) ?_
 refine s_e rfl rfl (e_bslice #[.int .i64 0, .int .i64 1, .int .u64 5, .int .u64 0, .int .i64 0, .int .i64 0, .int .i64 2, .int .i64 5, .int .i64 6, .bool true, .bool false, .bool true, .int .u64 7, .slice none 0 0, .int .i64 0, .int .i64 2, .int .u64 5, .int .u64 7, .int .i64 0, .int .i64 0, .int .i64 1, .int .i64 3, .int .i64 4, .bool true, .bool false, .bool false, .int .u64 0, .slice none 0 0] (.agg #[.int .i64 0, .int .i64 0, .int .u64 0, .int .u64 0, .int .i64 0, .int .i64 0, .int .i64 0, .int .i64 0, .int .i64 0, .bool false, .bool false, .bool false, .int .u64 0, .slice none 0 0]) rfl rfl rfl Try.underlying27 SZ53 ZR53 (by decide) rfl (by kernel_rfl)) ?_
 intro b10_
 refine s_give [0, 1, 2, 3, 4, 5, 6, 7, 8, 9, 10] rfl (by decide) (by simp [ids, Ent.id?]) (fun w h => h) ?_
 refine s_weak 0 rfl (fun w h => (show KC k48 (some ⟨b10_, 0, none⟩) 2 [(⟨0, ⟨1, 5, 0, 0, 0⟩, 2, 5, 6, true, ⟨false, true, 7, []⟩⟩ : S48), (⟨0, ⟨2, 5, 7, 0, 0⟩, 1, 3, 4, true, ⟨false, false, 0, []⟩⟩ : S48)] w from KC_ofReps (cap := 2) h (((Reps.none (k48.K w) 14).snoc (K48 (x := (⟨0, ⟨1, 5, 0, 0, 0⟩, 2, 5, 6, true, ⟨false, true, 7, []⟩⟩ : S48)) (KI_nil w)) rfl).snoc (K48 (x := (⟨0, ⟨2, 5, 7, 0, 0⟩, 1, 3, 4, true, ⟨false, false, 0, []⟩⟩ : S48)) (KI_nil w)) rfl) rfl (by decide) (by decide))) ?_
 refine s_e rfl rfl (e_callF [0] #[.slice (some ⟨b10_, 0, none⟩) (([(⟨0, ⟨1, 5, 0, 0, 0⟩, 2, 5, 6, true, ⟨false, true, 7, []⟩⟩ : S48), (⟨0, ⟨2, 5, 7, 0, 0⟩, 1, 3, 4, true, ⟨false, false, 0, []⟩⟩ : S48)] : List S48).length) 2, .int .i64 3] rfl rfl rfl rfl rfl Try.func16 rfl (by decide) rfl rfl rfl rfl (fun w ht => Con.of (C' := fun X => ∀ A1 c1, X (.agg #[.slice A1 (([⟨5, 7⟩] : List S56).length) c1]) [.f (KC k56 A1 c1 ([⟨5, 7⟩] : List S56))]) (hmap_con (some ⟨b10_, 0, none⟩) 2 ([(⟨0, ⟨1, 5, 0, 0, 0⟩, 2, 5, 6, true, ⟨false, true, 7, []⟩⟩ : S48), (⟨0, ⟨2, 5, 7, 0, 0⟩, 1, 3, 4, true, ⟨false, false, 0, []⟩⟩ : S48)] : List S48) 3 (by decide) (by decide +kernel) w _) (fun X hX A1 c1 => by rw [show (mapF ([(⟨0, ⟨1, 5, 0, 0, 0⟩, 2, 5, 6, true, ⟨false, true, 7, []⟩⟩ : S48), (⟨0, ⟨2, 5, 7, 0, 0⟩, 1, 3, 4, true, ⟨false, false, 0, []⟩⟩ : S48)] : List S48) 3 (ordL ([(⟨0, ⟨1, 5, 0, 0, 0⟩, 2, 5, 6, true, ⟨false, true, 7, []⟩⟩ : S48), (⟨0, ⟨2, 5, 7, 0, 0⟩, 1, 3, 4, true, ⟨false, false, 0, []⟩⟩ : S48)] : List S48))) = ([⟨5, 7⟩] : List S56) from (by decide +kernel)]; exact hX A1 c1))) ?_
 intro A11_ c12_
 refine s_e rfl rfl (e_callK (fun z : Option Addr × Nat => .slice z.1 (([⟨5, 7⟩] : List S56).length) z.2) (fun z => [KC k56 z.1 z.2 ([⟨5, 7⟩] : List S56)]) #[.agg #[.slice A11_ (([⟨5, 7⟩] : List S56).length) c12_]] rfl rfl rfl rfl rfl Try.func17 rfl (by decide) rfl rfl (fun w ht => seq_Map_Pairs.con _ _ ([⟨5, 7⟩] : List S56) _ (pairs_f ([⟨5, 7⟩] : List S56) (by decide)) w (Tri.fact ht 0 rfl))) ?_
 intro z13_
 refine s_v rfl rfl rfl rfl (v_assign rfl rfl) ?_
 refine s_end ?_
 refine q_seq ?_
 refine c_seq rfl ?_
 refine r_ord (l := [0, 1, 2, 3, 4, 5, 6, 7, 8, 9, 10, 11, 12, 13, 14, 15, 16, 17, 18, 19, 20, 21, 22, 23, 24, 25, 26, 27, 28, 29, 30, 31, 32, 33, 34, 35, 36, 37, 38, 39, 40, 41, 42, 43, 44, 45, 46, 47, 48, 49, 50, 51, 52, 53, 54, 55]) rfl (by kernel_rfl) (by kernel_rfl) ?_
 refine s_v rfl rfl rfl rfl (v_ldA [.int .i64 0, .int .i64 1, .int .u64 5, .int .u64 0, .int .i64 0, .int .i64 0, .int .i64 2, .int .i64 5, .int .i64 6, .bool true, .bool false, .bool true, .int .u64 7, .slice none 0 0] 12 rfl Try.underlying53 rfl SZ53 rfl rfl rfl rfl) ?_
 refine s_v rfl rfl rfl rfl (v_ldA [.int .i64 0, .int .i64 2, .int .u64 5, .int .u64 7, .int .i64 0, .int .i64 0, .int .i64 1, .int .i64 3, .int .i64 4, .bool true, .bool false, .bool false, .int .u64 0, .slice none 0 0] 13 rfl Try.underlying53 rfl SZ53 rfl rfl rfl rfl) ?_
 refine s_e rfl rfl (e_bslice #[.int .i64 0, .int .i64 1, .int .u64 5, .int .u64 0, .int .i64 0, .int .i64 0, .int .i64 2, .int .i64 5, .int .i64 6, .bool true, .bool false, .bool true, .int .u64 7, .slice none 0 0, .int .i64 0, .int .i64 2, .int .u64 5, .int .u64 7, .int .i64 0, .int .i64 0, .int .i64 1, .int .i64 3, .int .i64 4, .bool true, .bool false, .bool false, .int .u64 0, .slice none 0 0] (.agg #[.int .i64 0, .int .i64 0, .int .u64 0, .int .u64 0, .int .i64 0, .int .i64 0, .int .i64 0, .int .i64 0, .int .i64 0, .bool false, .bool false, .bool false, .int .u64 0, .slice none 0 0]) rfl rfl rfl Try.underlying27 SZ53 ZR53 (by decide) rfl (by kernel_rfl)) ?_
 intro b14_
 refine s_give [0, 1, 2, 3, 4, 5, 6, 7, 8, 9, 10, 11, 12, 13, 14] rfl (by decide) (by simp [ids, Ent.id?]) (fun w h => h) ?_
 refine s_weak 0 rfl (fun w h => (show KC k48 (some ⟨b14_, 0, none⟩) 2 [(⟨0, ⟨1, 5, 0, 0, 0⟩, 2, 5, 6, true, ⟨false, true, 7, []⟩⟩ : S48), (⟨0, ⟨2, 5, 7, 0, 0⟩, 1, 3, 4, true, ⟨false, false, 0, []⟩⟩ : S48)] w from KC_ofReps (cap := 2) h (((Reps.none (k48.K w) 14).snoc (K48 (x := (⟨0, ⟨1, 5, 0, 0, 0⟩, 2, 5, 6, true, ⟨false, true, 7, []⟩⟩ : S48)) (KI_nil w)) rfl).snoc (K48 (x := (⟨0, ⟨2, 5, 7, 0, 0⟩, 1, 3, 4, true, ⟨false, false, 0, []⟩⟩ : S48)) (KI_nil w)) rfl) rfl (by decide) (by decide))) ?_
 refine s_e rfl rfl (e_callF [0] #[.slice (some ⟨b14_, 0, none⟩) (([(⟨0, ⟨1, 5, 0, 0, 0⟩, 2, 5, 6, true, ⟨false, true, 7, []⟩⟩ : S48), (⟨0, ⟨2, 5, 7, 0, 0⟩, 1, 3, 4, true, ⟨false, false, 0, []⟩⟩ : S48)] : List S48).length) 2] rfl rfl rfl rfl rfl Try.func19 rfl (by decide) rfl rfl rfl rfl (fun w ht => Con.of (C' := fun X => X (.bool true) []) (legal_con (some ⟨b14_, 0, none⟩) 2 ([(⟨0, ⟨1, 5, 0, 0, 0⟩, 2, 5, 6, true, ⟨false, true, 7, []⟩⟩ : S48), (⟨0, ⟨2, 5, 7, 0, 0⟩, 1, 3, 4, true, ⟨false, false, 0, []⟩⟩ : S48)] : List S48) (by decide) (by decide +kernel) (by decide) w _) (fun X hX => by have h_ : legalM ([(⟨0, ⟨1, 5, 0, 0, 0⟩, 2, 5, 6, true, ⟨false, true, 7, []⟩⟩ : S48), (⟨0, ⟨2, 5, 7, 0, 0⟩, 1, 3, 4, true, ⟨false, false, 0, []⟩⟩ : S48)] : List S48) = true := (by decide +kernel); rw [h_]; exact hX))) ?_
 refine s_v rfl rfl rfl rfl (v_move rfl rfl) ?_
 refine s_vg rfl rfl rfl rfl (v_ldA [.int .i64 0, .int .i64 1, .int .u64 5, .int .u64 0, .int .i64 0, .int .i64 0, .int .i64 2, .int .i64 2, .int .i64 6, .bool true, .bool false, .bool true, .int .u64 7, .slice none 0 0] 13 rfl Try.underlying53 rfl SZ53 rfl rfl rfl rfl) ?_
 refine s_vg rfl rfl rfl rfl (v_ldA [.int .i64 0, .int .i64 2, .int .u64 5, .int .u64 7, .int .i64 0, .int .i64 0, .int .i64 1, .int .i64 3, .int .i64 4, .bool true, .bool false, .bool false, .int .u64 0, .slice none 0 0] 15 rfl Try.underlying53 rfl SZ53 rfl rfl rfl rfl) ?_
 refine s_eg rfl rfl (e_bslice #[.int .i64 0, .int .i64 1, .int .u64 5, .int .u64 0, .int .i64 0, .int .i64 0, .int .i64 2, .int .i64 2, .int .i64 6, .bool true, .bool false, .bool true, .int .u64 7, .slice none 0 0, .int .i64 0, .int .i64 2, .int .u64 5, .int .u64 7, .int .i64 0, .int .i64 0, .int .i64 1, .int .i64 3, .int .i64 4, .bool true, .bool false, .bool false, .int .u64 0, .slice none 0 0] (.agg #[.int .i64 0, .int .i64 0, .int .u64 0, .int .u64 0, .int .i64 0, .int .i64 0, .int .i64 0, .int .i64 0, .int .i64 0, .bool false, .bool false, .bool false, .int .u64 0, .slice none 0 0]) rfl rfl rfl Try.underlying27 SZ53 ZR53 (by decide) rfl (by kernel_rfl)) ?_
 intro b15_
 refine s_give [0, 1, 2, 3, 4, 5, 6, 7, 8, 9, 10, 11, 12, 13, 14, 15, 16] rfl (by decide) (by simp [ids, Ent.id?]) (fun w h => h) ?_
 refine s_weak 0 rfl (fun w h => (show KC k48 (some ⟨b15_, 0, none⟩) 2 [(⟨0, ⟨1, 5, 0, 0, 0⟩, 2, 2, 6, true, ⟨false, true, 7, []⟩⟩ : S48), (⟨0, ⟨2, 5, 7, 0, 0⟩, 1, 3, 4, true, ⟨false, false, 0, []⟩⟩ : S48)] w from KC_ofReps (cap := 2) h (((Reps.none (k48.K w) 14).snoc (K48 (x := (⟨0, ⟨1, 5, 0, 0, 0⟩, 2, 2, 6, true, ⟨false, true, 7, []⟩⟩ : S48)) (KI_nil w)) rfl).snoc (K48 (x := (⟨0, ⟨2, 5, 7, 0, 0⟩, 1, 3, 4, true, ⟨false, false, 0, []⟩⟩ : S48)) (KI_nil w)) rfl) rfl (by decide) (by decide))) ?_
 refine s_eg rfl rfl (e_callF [0] #[.slice (some ⟨b15_, 0, none⟩) (([(⟨0, ⟨1, 5, 0, 0, 0⟩, 2, 2, 6, true, ⟨false, true, 7, []⟩⟩ : S48), (⟨0, ⟨2, 5, 7, 0, 0⟩, 1, 3, 4, true, ⟨false, false, 0, []⟩⟩ : S48)] : List S48).length) 2] rfl rfl rfl rfl rfl Try.func19 rfl (by decide) rfl rfl rfl rfl (fun w ht => Con.of (C' := fun X => X (.bool false) []) (legal_con (some ⟨b15_, 0, none⟩) 2 ([(⟨0, ⟨1, 5, 0, 0, 0⟩, 2, 2, 6, true, ⟨false, true, 7, []⟩⟩ : S48), (⟨0, ⟨2, 5, 7, 0, 0⟩, 1, 3, 4, true, ⟨false, false, 0, []⟩⟩ : S48)] : List S48) (by decide) (by decide +kernel) (by decide) w _) (fun X hX => by have h_ : legalM ([(⟨0, ⟨1, 5, 0, 0, 0⟩, 2, 2, 6, true, ⟨false, true, 7, []⟩⟩ : S48), (⟨0, ⟨2, 5, 7, 0, 0⟩, 1, 3, 4, true, ⟨false, false, 0, []⟩⟩ : S48)] : List S48) = false := (by decide +kernel); rw [h_]; exact hX))) ?_
 refine s_vg rfl rfl rfl rfl (v_not rfl rfl) ?_
 refine s_v rfl rfl rfl rfl (v_pick rfl rfl rfl rfl) ?_
 refine s_v rfl rfl rfl rfl (v_move rfl rfl) ?_
 refine s_vg rfl rfl rfl rfl (v_ldA [.int .i64 0, .int .i64 2, .int .u64 5, .int .u64 7, .int .i64 0, .int .i64 0, .int .i64 1, .int .i64 3, .int .i64 4, .bool true, .bool false, .bool false, .int .u64 0, .slice none 0 0] 17 rfl Try.underlying53 rfl SZ53 rfl rfl rfl rfl) ?_
 refine s_vg rfl rfl rfl rfl (v_ldA [.int .i64 0, .int .i64 5, .int .u64 0, .int .u64 9, .int .i64 1, .int .i64 0, .int .i64 3, .int .i64 0, .int .i64 4, .bool true, .bool false, .bool false, .int .u64 0, .slice (some ⟨b4_, 0, none⟩) (([5] : List Int).length) 1] 14 rfl Try.underlying53 rfl SZ53 rfl rfl rfl rfl) ?_
 refine s_eg rfl rfl (e_bslice #[.int .i64 0, .int .i64 2, .int .u64 5, .int .u64 7, .int .i64 0, .int .i64 0, .int .i64 1, .int .i64 3, .int .i64 4, .bool true, .bool false, .bool false, .int .u64 0, .slice none 0 0, .int .i64 0, .int .i64 5, .int .u64 0, .int .u64 9, .int .i64 1, .int .i64 0, .int .i64 3, .int .i64 0, .int .i64 4, .bool true, .bool false, .bool false, .int .u64 0, .slice (some ⟨b4_, 0, none⟩) (([5] : List Int).length) 1] (.agg #[.int .i64 0, .int .i64 0, .int .u64 0, .int .u64 0, .int .i64 0, .int .i64 0, .int .i64 0, .int .i64 0, .int .i64 0, .bool false, .bool false, .bool false, .int .u64 0, .slice none 0 0]) rfl rfl rfl Try.underlying27 SZ53 ZR53 (by decide) rfl (by kernel_rfl)) ?_
 intro b16_
 refine s_give [0, 1, 2, 3, 4, 5, 6, 7, 8, 9, 10, 11, 12, 13, 14, 15, 16, 17, 18] rfl (by decide) (by simp [ids, Ent.id?]) (fun w h => h) ?_
 refine s_both 0 13 rfl rfl ?_
 refine s_weak 0 rfl (fun w h => (show KC k48 (some ⟨b16_, 0, none⟩) 2 [(⟨0, ⟨2, 5, 7, 0, 0⟩, 1, 3, 4, true, ⟨false, false, 0, []⟩⟩ : S48), (⟨0, ⟨5, 0, 9, 1, 0⟩, 3, 0, 4, true, ⟨false, false, 0, ([5] : List Int)⟩⟩ : S48)] w from KC_ofReps (cap := 2) h.1 (((Reps.none (k48.K w) 14).snoc (K48 (x := (⟨0, ⟨2, 5, 7, 0, 0⟩, 1, 3, 4, true, ⟨false, false, 0, []⟩⟩ : S48)) (KI_nil w)) rfl).snoc (K48 (x := (⟨0, ⟨5, 0, 9, 1, 0⟩, 3, 0, 4, true, ⟨false, false, 0, ([5] : List Int)⟩⟩ : S48)) (h.2)) rfl) rfl (by decide) (by decide))) ?_
 refine s_eg rfl rfl (e_callF [0] #[.slice (some ⟨b16_, 0, none⟩) (([(⟨0, ⟨2, 5, 7, 0, 0⟩, 1, 3, 4, true, ⟨false, false, 0, []⟩⟩ : S48), (⟨0, ⟨5, 0, 9, 1, 0⟩, 3, 0, 4, true, ⟨false, false, 0, ([5] : List Int)⟩⟩ : S48)] : List S48).length) 2] rfl rfl rfl rfl rfl Try.func21 rfl (by decide) rfl rfl rfl rfl (fun w ht => Con.of (C' := fun X => X (.bool true) []) (ranges_con (some ⟨b16_, 0, none⟩) 2 ([(⟨0, ⟨2, 5, 7, 0, 0⟩, 1, 3, 4, true, ⟨false, false, 0, []⟩⟩ : S48), (⟨0, ⟨5, 0, 9, 1, 0⟩, 3, 0, 4, true, ⟨false, false, 0, ([5] : List Int)⟩⟩ : S48)] : List S48) (by decide) (by decide +kernel) (by decide) w _) (fun X hX => by have h_ : rangesM ([(⟨0, ⟨2, 5, 7, 0, 0⟩, 1, 3, 4, true, ⟨false, false, 0, []⟩⟩ : S48), (⟨0, ⟨5, 0, 9, 1, 0⟩, 3, 0, 4, true, ⟨false, false, 0, ([5] : List Int)⟩⟩ : S48)] : List S48) = true := (by decide +kernel); rw [h_]; exact hX))) ?_
 refine s_v rfl rfl rfl rfl (v_pick rfl rfl rfl rfl) ?_
 refine s_v rfl rfl rfl rfl (v_move rfl rfl) ?_
 refine s_vg rfl rfl rfl rfl (v_ldA [.int .i64 0, .int .i64 2, .int .u64 5, .int .u64 7, .int .i64 0, .int .i64 0, .int .i64 1, .int .i64 3, .int .i64 4, .bool true, .bool false, .bool false, .int .u64 0, .slice none 0 0] 20 rfl Try.underlying53 rfl SZ53 rfl rfl rfl rfl) ?_
 refine s_vg rfl rfl rfl rfl (v_ldA [.int .i64 0, .int .i64 5, .int .u64 0, .int .u64 9, .int .i64 1, .int .i64 0, .int .i64 3, .int .i64 0, .int .i64 4, .bool true, .bool false, .bool false, .int .u64 0, .slice none 0 0] 16 rfl Try.underlying53 rfl SZ53 rfl rfl rfl rfl) ?_
 refine s_eg rfl rfl (e_bslice #[.int .i64 0, .int .i64 2, .int .u64 5, .int .u64 7, .int .i64 0, .int .i64 0, .int .i64 1, .int .i64 3, .int .i64 4, .bool true, .bool false, .bool false, .int .u64 0, .slice none 0 0, .int .i64 0, .int .i64 5, .int .u64 0, .int .u64 9, .int .i64 1, .int .i64 0, .int .i64 3, .int .i64 0, .int .i64 4, .bool true, .bool false, .bool false, .int .u64 0, .slice none 0 0] (.agg #[.int .i64 0, .int .i64 0, .int .u64 0, .int .u64 0, .int .i64 0, .int .i64 0, .int .i64 0, .int .i64 0, .int .i64 0, .bool false, .bool false, .bool false, .int .u64 0, .slice none 0 0]) rfl rfl rfl Try.underlying27 SZ53 ZR53 (by decide) rfl (by kernel_rfl)) ?_
 intro b17_
 refine s_give [0, 1, 2, 3, 4, 5, 6, 7, 8, 9, 10, 11, 12, 13, 14, 15, 16, 17, 18, 19, 20, 21] rfl (by decide) (by simp [ids, Ent.id?]) (fun w h => h) ?_
 refine s_weak 0 rfl (fun w h => (show KC k48 (some ⟨b17_, 0, none⟩) 2 [(⟨0, ⟨2, 5, 7, 0, 0⟩, 1, 3, 4, true, ⟨false, false, 0, []⟩⟩ : S48), (⟨0, ⟨5, 0, 9, 1, 0⟩, 3, 0, 4, true, ⟨false, false, 0, []⟩⟩ : S48)] w from KC_ofReps (cap := 2) h (((Reps.none (k48.K w) 14).snoc (K48 (x := (⟨0, ⟨2, 5, 7, 0, 0⟩, 1, 3, 4, true, ⟨false, false, 0, []⟩⟩ : S48)) (KI_nil w)) rfl).snoc (K48 (x := (⟨0, ⟨5, 0, 9, 1, 0⟩, 3, 0, 4, true, ⟨false, false, 0, []⟩⟩ : S48)) (KI_nil w)) rfl) rfl (by decide) (by decide))) ?_
 refine s_eg rfl rfl (e_callF [0] #[.slice (some ⟨b17_, 0, none⟩) (([(⟨0, ⟨2, 5, 7, 0, 0⟩, 1, 3, 4, true, ⟨false, false, 0, []⟩⟩ : S48), (⟨0, ⟨5, 0, 9, 1, 0⟩, 3, 0, 4, true, ⟨false, false, 0, []⟩⟩ : S48)] : List S48).length) 2] rfl rfl rfl rfl rfl Try.func21 rfl (by decide) rfl rfl rfl rfl (fun w ht => Con.of (C' := fun X => X (.bool false) []) (ranges_con (some ⟨b17_, 0, none⟩) 2 ([(⟨0, ⟨2, 5, 7, 0, 0⟩, 1, 3, 4, true, ⟨false, false, 0, []⟩⟩ : S48), (⟨0, ⟨5, 0, 9, 1, 0⟩, 3, 0, 4, true, ⟨false, false, 0, []⟩⟩ : S48)] : List S48) (by decide) (by decide +kernel) (by decide) w _) (fun X hX => by have h_ : rangesM ([(⟨0, ⟨2, 5, 7, 0, 0⟩, 1, 3, 4, true, ⟨false, false, 0, []⟩⟩ : S48), (⟨0, ⟨5, 0, 9, 1, 0⟩, 3, 0, 4, true, ⟨false, false, 0, []⟩⟩ : S48)] : List S48) = false := (by decide +kernel); rw [h_]; exact hX))) ?_
 refine s_vg rfl rfl rfl rfl (v_not rfl rfl) ?_
 refine s_v rfl rfl rfl rfl (v_pick rfl rfl rfl rfl) ?_
 refine s_v rfl rfl rfl rfl (v_move rfl rfl) ?_
 refine s_vg rfl rfl rfl rfl (v_move rfl rfl) ?_
 refine s_vg rfl rfl rfl rfl (v_len rfl rfl rfl Try.underlying25 rfl rfl) ?_
 refine s_vg rfl rfl rfl rfl (v_arith rfl rfl rfl rfl) ?_
 refine s_v rfl rfl rfl rfl (v_pick rfl rfl rfl rfl) ?_
 refine s_v rfl rfl rfl rfl (v_move rfl rfl) ?_
 refine s_splitv (d := 61) (t := ((([1, 0] : List Int).length : Nat) : Int) == 2) rfl (fun h18_ => ?_) (fun h18_ => ?_)
 refine s_vg rfl rfl rfl rfl (v_move rfl rfl) ?_
 refine s_vg rfl rfl rfl rfl (v_iaK (i := 13) rfl Try.underlying25 SZ3 rfl rfl rfl rfl (by decide) (by decide)) ?_
 refine s_vg rfl rfl rfl rfl (v_ldK (v := .int .i64 (rd ([1, 0] : List Int) 0)) 0 13 rfl Try.underlying3 rfl rfl rfl rfl (by decide) (by decide) (fun w K h => h)) ?_
 refine s_vg rfl rfl rfl rfl (v_arith rfl rfl rfl rfl) ?_
 refine s_v rfl rfl rfl rfl (v_pick rfl rfl rfl rfl) ?_
 refine s_v rfl rfl rfl rfl (v_move rfl rfl) ?_
 refine s_splitv (d := 67) (t := (rd ([1, 0] : List Int) 0 : Int) == 1) rfl (fun h19_ => ?_) (fun h19_ => ?_)
 refine s_vg rfl rfl rfl rfl (v_move rfl rfl) ?_
 refine s_vg rfl rfl rfl rfl (v_len rfl rfl rfl Try.underlying33 rfl rfl) ?_
 refine s_vg rfl rfl rfl rfl (v_arith rfl rfl rfl rfl) ?_
 refine s_v rfl rfl rfl rfl (v_pick rfl rfl rfl rfl) ?_
 refine s_v rfl rfl rfl rfl (v_move rfl rfl) ?_
 refine s_splitv (d := 72) (t := ((([⟨5, 7⟩] : List S56).length : Nat) : Int) == 1) rfl (fun h20_ => ?_) (fun h20_ => ?_)
 refine s_vg rfl rfl rfl rfl (v_move rfl rfl) ?_
 refine s_vg rfl rfl rfl rfl (v_iaK (i := 9) rfl Try.underlying33 SZ56 rfl rfl rfl rfl (by decide) (by decide)) ?_
 refine s_vg rfl rfl rfl rfl (v_ldKA z56 [.int .u64 ((rd_T56 ([⟨5, 7⟩] : List S56) 0).f0), .int .u64 ((rd_T56 ([⟨5, 7⟩] : List S56) 0).f1)] 9 rfl Try.underlying56 rfl SZ56 rfl rfl rfl rfl (by decide) (by decide) (fun w K h => k56_open h)) ?_
 refine s_vg rfl rfl rfl rfl (v_build (places := #[(0, 1), (1, 1)]) #[.int .u64 5, .int .u64 7] rfl ZR56 Try.underlying56 (by kernel_rfl) rfl rfl) ?_
 refine s_vg rfl rfl rfl rfl (v_eqA rfl rfl rfl (by kernel_rfl) (eqS56 ((rd_T56 ([⟨5, 7⟩] : List S56) 0).f0) ((rd_T56 ([⟨5, 7⟩] : List S56) 0).f1) 5 7)) ?_
 refine s_v rfl rfl rfl rfl (v_pick rfl rfl rfl rfl) ?_
 refine s_v rfl rfl rfl rfl (v_move rfl rfl) ?_
 refine s_splitv (d := 79) (t := (((rd_T56 ([⟨5, 7⟩] : List S56) 0).f0 : Int) == 5) && (((rd_T56 ([⟨5, 7⟩] : List S56) 0).f1 : Int) == 7)) rfl (fun h21_ => ?_) (fun h21_ => ?_)
 refine s_vg rfl rfl rfl rfl (v_ldA [.int .i64 0, .int .i64 2, .int .u64 5, .int .u64 7, .int .i64 0, .int .i64 0, .int .i64 1, .int .i64 3, .int .i64 4, .bool true, .bool false, .bool false, .int .u64 0, .slice none 0 0] 22 rfl Try.underlying53 rfl SZ53 rfl rfl rfl rfl) ?_
 refine s_eg rfl rfl (e_bslice #[.int .i64 0, .int .i64 2, .int .u64 5, .int .u64 7, .int .i64 0, .int .i64 0, .int .i64 1, .int .i64 3, .int .i64 4, .bool true, .bool false, .bool false, .int .u64 0, .slice none 0 0] (.agg #[.int .i64 0, .int .i64 0, .int .u64 0, .int .u64 0, .int .i64 0, .int .i64 0, .int .i64 0, .int .i64 0, .int .i64 0, .bool false, .bool false, .bool false, .int .u64 0, .slice none 0 0]) rfl rfl rfl Try.underlying27 SZ53 ZR53 (by decide) rfl (by kernel_rfl)) ?_
 intro b22_
 refine s_give [0, 1, 2, 3, 4, 5, 6, 7, 8, 9, 10, 11, 12, 13, 14, 15, 16, 17, 18, 19, 20, 21, 22, 23] rfl (by decide) (by simp [ids, Ent.id?]) (fun w h => h) ?_
 refine s_weak 0 rfl (fun w h => (show KC k48 (some ⟨b22_, 0, none⟩) 1 [(⟨0, ⟨2, 5, 7, 0, 0⟩, 1, 3, 4, true, ⟨false, false, 0, []⟩⟩ : S48)] w from KC_ofReps (cap := 1) h ((Reps.none (k48.K w) 14).snoc (K48 (x := (⟨0, ⟨2, 5, 7, 0, 0⟩, 1, 3, 4, true, ⟨false, false, 0, []⟩⟩ : S48)) (KI_nil w)) rfl) rfl (by decide) (by decide))) ?_
 refine s_eg rfl rfl (e_callF [0] #[.slice (some ⟨b22_, 0, none⟩) (([(⟨0, ⟨2, 5, 7, 0, 0⟩, 1, 3, 4, true, ⟨false, false, 0, []⟩⟩ : S48)] : List S48).length) 1, .int .i64 2] rfl rfl rfl rfl rfl Try.func16 rfl (by decide) rfl rfl rfl rfl (fun w ht => Con.of (C' := fun X => ∀ A1 c1, X (.agg #[.slice A1 (([] : List S56).length) c1]) [.f (KC k56 A1 c1 ([] : List S56))]) (hmap_con (some ⟨b22_, 0, none⟩) 1 ([(⟨0, ⟨2, 5, 7, 0, 0⟩, 1, 3, 4, true, ⟨false, false, 0, []⟩⟩ : S48)] : List S48) 2 (by decide) (by decide +kernel) w _) (fun X hX A1 c1 => by rw [show (mapF ([(⟨0, ⟨2, 5, 7, 0, 0⟩, 1, 3, 4, true, ⟨false, false, 0, []⟩⟩ : S48)] : List S48) 2 (ordL ([(⟨0, ⟨2, 5, 7, 0, 0⟩, 1, 3, 4, true, ⟨false, false, 0, []⟩⟩ : S48)] : List S48))) = ([] : List S56) from (by decide +kernel)]; exact hX A1 c1))) ?_
 intro A23_ c24_
 refine s_eg rfl rfl (e_callK (fun z : Option Addr × Nat => .slice z.1 (([] : List S56).length) z.2) (fun z => [KC k56 z.1 z.2 ([] : List S56)]) #[.agg #[.slice A23_ (([] : List S56).length) c24_]] rfl rfl rfl rfl rfl Try.func17 rfl (by decide) rfl rfl (fun w ht => seq_Map_Pairs.con _ _ ([] : List S56) _ (pairs_f ([] : List S56) (by decide)) w (Tri.fact ht 0 rfl))) ?_
 intro z25_
 refine s_vg rfl rfl rfl rfl (v_len rfl rfl rfl Try.underlying33 rfl rfl) ?_
 refine s_vg rfl rfl rfl rfl (v_arith rfl rfl rfl rfl) ?_
 refine s_v rfl rfl rfl rfl (v_pick rfl rfl rfl rfl) ?_
 refine s_v rfl rfl rfl rfl (v_assign rfl rfl) ?_
 refine s_end ?_
 refine q_seq ?_
 refine c_ret rfl ?_
 refine q_take [] rfl (by decide) ?_
 exact q_post rfl (.cons rfl (.nil)) hX
 exact absurd h21_ (by decide +kernel)
 exact absurd h20_ (by decide +kernel)
 exact absurd h19_ (by decide +kernel)
 exact absurd h18_ (by decide +kernel)
theorem alive_calls (w : World) : Calls Try.prog 10 #[] w fun e w' => ∃ z : Unit, e = .returned (.bool true) ∧ (∀ φ ∈ ([] : List (World → Prop)), FreshF w.heap.size w' φ) ∧ Below w.heap.size w w' := by
  refine (calls_of_con (R := fun v L => v = .bool true) (alive_con w []) (Tri.nil w) rfl).mono ?_
  rintro e w' ⟨v, L', rfl, rfl, ht⟩
  exact ⟨(), rfl, fun _ h => (by cases h), ht.below⟩
end Go.Eng
namespace Go.Eng
open Go.Proofs Go.RowKit Go.Proofs.YtiihjijmmephlaaW.PrintWords Go.Proofs.Ytiihjijmmephlaa.GHist
set_option linter.unusedVariables false
set_option linter.unusedSimpArgs false
set_option maxRecDepth 100000 in
set_option maxHeartbeats 4000000 in
theorem legal_law (A : Option Addr) (c : Nat) (l : List S48) (w0 : World) (H : List Nat) : Con Try.prog 5 #[.slice A l.length c] w0 H [.f (KC k48 A c l)] (fun X => X (.bool true) []) := by
 refine con_enter (c := bodyOf Try.f5) Try.func5 rfl (m := 16) rfl rfl rfl ?_
 intro X hX _
 refine c_seq rfl ?_
 refine r_ord (l := [0]) rfl (by kernel_rfl) (by kernel_rfl) ?_
 refine s_v rfl rfl rfl rfl (v_assign rfl rfl) ?_
 refine s_end ?_
 refine q_seq ?_
 refine c_seq rfl ?_
 refine c_seq rfl ?_
 refine r_ord (l := [0, 1, 2]) rfl (by kernel_rfl) (by kernel_rfl) ?_
 refine s_v rfl rfl rfl rfl (v_move rfl rfl) ?_
 refine s_e rfl rfl (e_callK (fun z : Unit => .bool (fewB l)) (fun z => []) #[.slice A l.length c] rfl rfl rfl rfl rfl Try.func9 rfl (by decide) rfl rfl (fun w ht => stepstonelaw08_few.con 5000 _ _ l _ (few_f _) w (Tri.fact ht 0 rfl))) ?_
 intro z1_
 refine s_v rfl rfl rfl rfl (v_not rfl rfl) ?_
 refine s_end ?_
 refine q_seq ?_
 refine c_cond (t := !(fewB l)) rfl rfl (fun h2_ => ?_) (fun h2_ => ?_)
 refine c_seq rfl ?_
 refine r_ord (l := [0, 1]) rfl (by kernel_rfl) (by kernel_rfl) ?_
 refine s_e rfl rfl (e_callK (fun z : Unit => .bool true) (fun z => []) #[] rfl rfl rfl rfl rfl Try.func10 rfl (by decide) rfl rfl (fun w ht => alive_calls w)) ?_
 intro z3_
 refine s_v rfl rfl rfl rfl (v_assign rfl rfl) ?_
 refine s_end ?_
 refine q_seq ?_
 refine c_ret rfl ?_
 refine q_then_ret ?_
 refine q_take [] rfl (by decide) ?_
 exact q_post rfl (.cons rfl (.nil)) hX
 have hfw : fewB l = true := by simpa using h2_
 have hl := few_len hfw
 have hK := few_keys hfw
 have hn : (hapTo l l.length).length ≤ 40 := by have := hap_len l l.length; omega
 refine c_skip rfl ?_
 refine q_seq ?_
 refine c_seq rfl ?_
 refine r_ord (l := [0, 1, 2, 3, 4, 5, 6, 7, 8, 9]) rfl (by kernel_rfl) (by kernel_rfl) ?_
 refine s_e rfl rfl (e_callK (fun z : Unit => .bool true) (fun z => []) #[] rfl rfl rfl rfl rfl Try.func10 rfl (by decide) rfl rfl (fun w ht => alive_calls w)) ?_
 intro z4_
 refine s_v rfl rfl rfl rfl (v_move rfl rfl) ?_
 refine s_vg rfl rfl rfl rfl (v_move rfl rfl) ?_
 refine s_eg rfl rfl (e_callF [0] #[.slice A l.length c] rfl rfl rfl rfl rfl Try.func12 rfl (by decide) rfl rfl rfl rfl (fun w ht => news_con A c l (by omega) w _)) ?_
 intro A5_ c6_
 refine s_eg rfl rfl (e_callF [0] #[.slice A5_ l.length c6_] rfl rfl rfl rfl rfl Try.func19 rfl (by decide) rfl rfl rfl rfl (fun w ht => legal_con A5_ c6_ l (by omega) hn hK w _)) ?_
 refine s_vg rfl rfl rfl rfl (v_move rfl rfl) ?_
 refine s_eg rfl rfl (e_callF [1] #[.slice A l.length c] rfl rfl rfl rfl rfl Try.func20 rfl (by decide) rfl rfl rfl rfl (fun w ht => rlegal_con A c l (by omega) hK w _)) ?_
 refine s_vg rfl rfl rfl rfl (v_eqB rfl Try.underlying4 rfl rfl) ?_
 refine s_v rfl rfl rfl rfl (v_pick rfl rfl rfl rfl) ?_
 refine s_v rfl rfl rfl rfl (v_assign rfl rfl) ?_
 refine s_end ?_
 refine q_seq ?_
 refine c_ret rfl ?_
 refine q_take [] rfl (by decide) ?_
 exact q_post rfl (.cons rfl (.nil)) (show X (.bool (((legalM l) == (legalM l)))) [] by simpa using hX)
end Go.Eng
