/-
Own text, put together by an own program (shake.py) out of this claim's texts: what its theorem needs of them.
-/
import Derived.Test.YtiihjijmmephlaaA6
namespace Go.Eng
open Go.Proofs Go.RowKit Go.Proofs.YtiihjijmmephlaaW.PrintWords Go.Proofs.Ytiihjijmmephlaa.GHist
set_option linter.unusedVariables false
set_option linter.unusedSimpArgs false
set_option maxRecDepth 100000 in
set_option maxHeartbeats 4000000 in
theorem alive_con (w0 : World) (H : List Nat) : Con Try.prog 10 #[] w0 H [] (fun X => X (.bool true) []) := by
 refine con_enter (c := bodyOf Try.f10) Try.func10 rfl (m := 87) rfl rfl rfl ?_
 intro X hX _
 refine c_seq rfl ?_
 refine r_ord (l := [0]) rfl (by kernel_rfl) (by kernel_rfl) ?_
 refine s_v rfl rfl rfl rfl (v_as rfl rfl) ?_
 refine s_end ?_
 refine q_seq ?_
 refine c_seq rfl ?_
 refine r_ord (l := [0, 1, 2, 3]) rfl (by kernel_rfl) (by kernel_rfl) ?_
 refine s_v rfl rfl rfl rfl (v_build (places := #[(0, 1), (1, 1), (2, 1), (3, 1), (4, 1)]) #[.int .i64 2, .int .u64 5, .int .u64 7, .int .i64 0, .int .i64 0] rfl ZR43 Try.underlying43 (by kernel_rfl) rfl rfl) ?_
 refine s_v rfl rfl rfl rfl (v_build (places := #[(0, 1), (1, 5), (6, 1), (7, 1), (8, 1), (9, 1), (10, 4)]) #[.int .i64 0, .int .i64 2, .int .u64 5, .int .u64 7, .int .i64 0, .int .i64 0, .int .i64 1, .int .i64 3, .int .i64 4, .bool true, .bool false, .bool false, .int .u64 0, .slice none 0 0] rfl ZR53 Try.underlying53 (by kernel_rfl) rfl rfl) ?_
 refine s_e rfl rfl (e_alloc rfl rfl rfl ZR53) ?_
 intro b1_
 refine s_e rfl rfl (e_stA 0 rfl rfl SZ53 rfl rfl rfl rfl rfl rfl) ?_
 refine s_end ?_
 refine q_seq ?_
 refine c_seq rfl ?_
 refine r_ord (l := [0, 1, 2, 3, 4]) rfl (by kernel_rfl) (by kernel_rfl) ?_
 refine s_v rfl rfl rfl rfl (v_build (places := #[(0, 1), (1, 1), (2, 1), (3, 1), (4, 1)]) #[.int .i64 1, .int .u64 5, .int .u64 0, .int .i64 0, .int .i64 0] rfl ZR43 Try.underlying43 (by kernel_rfl) rfl rfl) ?_
 refine s_v rfl rfl rfl rfl (v_build (places := #[(0, 1), (1, 1), (2, 1), (3, 1)]) #[.bool false, .bool true, .int .u64 7, .slice none 0 0] rfl ZR46 Try.underlying46 (by kernel_rfl) rfl rfl) ?_
 refine s_v rfl rfl rfl rfl (v_build (places := #[(0, 1), (1, 5), (6, 1), (7, 1), (8, 1), (9, 1), (10, 4)]) #[.int .i64 0, .int .i64 1, .int .u64 5, .int .u64 0, .int .i64 0, .int .i64 0, .int .i64 2, .int .i64 5, .int .i64 6, .bool true, .bool false, .bool true, .int .u64 7, .slice none 0 0] rfl ZR53 Try.underlying53 (by kernel_rfl) rfl rfl) ?_
 refine s_e rfl rfl (e_alloc rfl rfl rfl ZR53) ?_
 intro b2_
 refine s_e rfl rfl (e_stA 0 rfl rfl SZ53 rfl rfl rfl rfl rfl rfl) ?_
 refine s_end ?_
 refine q_seq ?_
 refine c_seq rfl ?_
 refine r_ord (l := [0, 1, 2]) rfl (by kernel_rfl) (by kernel_rfl) ?_
 refine s_v rfl rfl rfl rfl (v_ldA [.int .i64 0, .int .i64 1, .int .u64 5, .int .u64 0, .int .i64 0, .int .i64 0, .int .i64 2, .int .i64 5, .int .i64 6, .bool true, .bool false, .bool true, .int .u64 7, .slice none 0 0] 0 rfl Try.underlying53 rfl SZ53 rfl rfl rfl rfl) ?_
 refine s_e rfl rfl (e_alloc rfl rfl rfl ZR53) ?_
 intro b3_
 refine s_e rfl rfl (e_stA 0 rfl rfl SZ53 rfl rfl rfl rfl rfl rfl) ?_
 refine s_end ?_
 refine q_seq ?_
 refine c_seq rfl ?_
 refine r_ord (l := [0, 1]) rfl (by kernel_rfl) (by kernel_rfl) ?_
 refine s_v rfl rfl rfl rfl (v_fa rfl Try.underlying53 rfl SZ3 rfl) ?_
 refine s_e rfl rfl (e_st 0 rfl rfl SZ3 rfl rfl rfl rfl (blt_lt rfl)) ?_
 refine s_end ?_
 refine q_seq ?_
 refine c_seq rfl ?_
 refine r_ord (l := [0, 1, 2, 3, 4, 5]) rfl (by kernel_rfl) (by kernel_rfl) ?_
 refine s_v rfl rfl rfl rfl (v_build (places := #[(0, 1), (1, 1), (2, 1), (3, 1), (4, 1)]) #[.int .i64 5, .int .u64 0, .int .u64 9, .int .i64 1, .int .i64 0] rfl ZR43 Try.underlying43 (by kernel_rfl) rfl rfl) ?_
 refine s_e rfl rfl (e_bslice #[.int .u64 5] (.int .u64 0) rfl rfl rfl Try.underlying44 SZ41 ZR41 (by decide) rfl (by kernel_rfl)) ?_
 intro b4_
 refine s_v rfl rfl rfl rfl (v_build (places := #[(0, 1), (1, 1), (2, 1), (3, 1)]) #[.bool false, .bool false, .int .u64 0, .slice (some ⟨b4_, 0, none⟩) 1 1] rfl ZR46 Try.underlying46 (by kernel_rfl) rfl rfl) ?_
 refine s_v rfl rfl rfl rfl (v_build (places := #[(0, 1), (1, 5), (6, 1), (7, 1), (8, 1), (9, 1), (10, 4)]) #[.int .i64 0, .int .i64 5, .int .u64 0, .int .u64 9, .int .i64 1, .int .i64 0, .int .i64 3, .int .i64 0, .int .i64 4, .bool true, .bool false, .bool false, .int .u64 0, .slice (some ⟨b4_, 0, none⟩) 1 1] rfl ZR53 Try.underlying53 (by kernel_rfl) rfl rfl) ?_
 refine s_e rfl rfl (e_alloc rfl rfl rfl ZR53) ?_
 intro b5_
 refine s_e rfl rfl (e_stA 0 rfl rfl SZ53 rfl rfl rfl rfl rfl rfl) ?_
 refine s_end ?_
 refine q_seq ?_
 refine c_seq rfl ?_
 refine r_ord (l := [0, 1, 2]) rfl (by kernel_rfl) (by kernel_rfl) ?_
 refine s_v rfl rfl rfl rfl (v_ldA [.int .i64 0, .int .i64 5, .int .u64 0, .int .u64 9, .int .i64 1, .int .i64 0, .int .i64 3, .int .i64 0, .int .i64 4, .bool true, .bool false, .bool false, .int .u64 0, .slice (some ⟨b4_, 0, none⟩) 1 1] 0 rfl Try.underlying53 rfl SZ53 rfl rfl rfl rfl) ?_
 refine s_e rfl rfl (e_alloc rfl rfl rfl ZR53) ?_
 intro b6_
 refine s_e rfl rfl (e_stA 0 rfl rfl SZ53 rfl rfl rfl rfl rfl rfl) ?_
 refine s_end ?_
 refine q_seq ?_
 refine c_seq rfl ?_
 refine r_ord (l := [0, 1, 2]) rfl (by kernel_rfl) (by kernel_rfl) ?_
 refine s_v rfl rfl rfl rfl (v_build (places := #[(0, 1), (1, 1), (2, 1), (3, 1)]) #[.bool false, .bool false, .int .u64 0, .slice none 0 0] rfl ZR46 Try.underlying46 (by kernel_rfl) rfl rfl) ?_
 refine s_v rfl rfl rfl rfl (v_fa rfl Try.underlying53 rfl SZ46 rfl) ?_
 refine s_e rfl rfl (e_stA 0 rfl rfl SZ46 rfl rfl rfl rfl rfl rfl) ?_
 refine s_end ?_
 refine q_seq ?_
 refine c_seq rfl ?_
 refine r_ord (l := [0, 1, 2, 3, 4, 5]) rfl (by kernel_rfl) (by kernel_rfl) ?_
 refine s_v rfl rfl rfl rfl (v_ldA [.int .i64 0, .int .i64 1, .int .u64 5, .int .u64 0, .int .i64 0, .int .i64 0, .int .i64 2, .int .i64 5, .int .i64 6, .bool true, .bool false, .bool true, .int .u64 7, .slice none 0 0] 4 rfl Try.underlying53 rfl SZ53 rfl rfl rfl rfl) ?_
 refine s_v rfl rfl rfl rfl (v_ldA [.int .i64 0, .int .i64 2, .int .u64 5, .int .u64 7, .int .i64 0, .int .i64 0, .int .i64 1, .int .i64 3, .int .i64 4, .bool true, .bool false, .bool false, .int .u64 0, .slice none 0 0] 5 rfl Try.underlying53 rfl SZ53 rfl rfl rfl rfl) ?_
 refine s_v rfl rfl rfl rfl (v_ldA [.int .i64 0, .int .i64 5, .int .u64 0, .int .u64 9, .int .i64 1, .int .i64 0, .int .i64 3, .int .i64 0, .int .i64 4, .bool true, .bool false, .bool false, .int .u64 0, .slice (some ⟨b4_, 0, none⟩) 1 1] 1 rfl Try.underlying53 rfl SZ53 rfl rfl rfl rfl) ?_
 refine s_e rfl rfl (e_bslice #[.int .i64 0, .int .i64 1, .int .u64 5, .int .u64 0, .int .i64 0, .int .i64 0, .int .i64 2, .int .i64 5, .int .i64 6, .bool true, .bool false, .bool true, .int .u64 7, .slice none 0 0, .int .i64 0, .int .i64 2, .int .u64 5, .int .u64 7, .int .i64 0, .int .i64 0, .int .i64 1, .int .i64 3, .int .i64 4, .bool true, .bool false, .bool false, .int .u64 0, .slice none 0 0, .int .i64 0, .int .i64 5, .int .u64 0, .int .u64 9, .int .i64 1, .int .i64 0, .int .i64 3, .int .i64 0, .int .i64 4, .bool true, .bool false, .bool false, .int .u64 0, .slice (some ⟨b4_, 0, none⟩) 1 1] (.agg #[.int .i64 0, .int .i64 0, .int .u64 0, .int .u64 0, .int .i64 0, .int .i64 0, .int .i64 0, .int .i64 0, .int .i64 0, .bool false, .bool false, .bool false, .int .u64 0, .slice none 0 0]) rfl rfl rfl Try.underlying27 SZ53 ZR53 (by decide) rfl (by kernel_rfl)) ?_
 intro b7_
 refine s_give [3, 0, 1, 2, 4, 5, 6] rfl (by decide) (by simp [ids, Ent.id?]) (KC_own (k := .u64) (cap := 1) (xs := [5]) rfl (by decide) (by decide)) ?_
 refine s_give [1, 0, 2, 3, 4, 5, 6] rfl (by decide) (by simp [ids, Ent.id?]) (fun w h => h) ?_
 refine s_both 0 1 rfl rfl ?_
 refine s_weak 0 rfl (fun w h => (show KC k48 (some ⟨b7_, 0, none⟩) 3 [(⟨0, ⟨1, 5, 0, 0, 0⟩, 2, 5, 6, true, ⟨false, true, 7, []⟩⟩ : S48), (⟨0, ⟨2, 5, 7, 0, 0⟩, 1, 3, 4, true, ⟨false, false, 0, []⟩⟩ : S48), (⟨0, ⟨5, 0, 9, 1, 0⟩, 3, 0, 4, true, ⟨false, false, 0, ([5] : List Int)⟩⟩ : S48)] w from KC_ofReps (cap := 3) h.1 ((((Reps.none (k48.K w) 14).snoc (K48 (x := (⟨0, ⟨1, 5, 0, 0, 0⟩, 2, 5, 6, true, ⟨false, true, 7, []⟩⟩ : S48)) (KI_nil w)) rfl).snoc (K48 (x := (⟨0, ⟨2, 5, 7, 0, 0⟩, 1, 3, 4, true, ⟨false, false, 0, []⟩⟩ : S48)) (KI_nil w)) rfl).snoc (K48 (x := (⟨0, ⟨5, 0, 9, 1, 0⟩, 3, 0, 4, true, ⟨false, false, 0, ([5] : List Int)⟩⟩ : S48)) (h.2)) rfl) rfl (by decide) (by decide))) ?_
 refine s_e rfl rfl (e_callF [0] #[.slice (some ⟨b7_, 0, none⟩) (([(⟨0, ⟨1, 5, 0, 0, 0⟩, 2, 5, 6, true, ⟨false, true, 7, []⟩⟩ : S48), (⟨0, ⟨2, 5, 7, 0, 0⟩, 1, 3, 4, true, ⟨false, false, 0, []⟩⟩ : S48), (⟨0, ⟨5, 0, 9, 1, 0⟩, 3, 0, 4, true, ⟨false, false, 0, ([5] : List Int)⟩⟩ : S48)] : List S48).length) 3] rfl rfl rfl rfl rfl Try.func11 rfl (by decide) rfl rfl rfl rfl (fun w ht => Con.of (C' := fun X => ∀ A1 c1, X (.slice A1 (([1, 0] : List Int).length) c1) [.f (KC (Kd.int .i64) A1 c1 ([1, 0] : List Int))]) (order_con' (some ⟨b7_, 0, none⟩) 3 ([(⟨0, ⟨1, 5, 0, 0, 0⟩, 2, 5, 6, true, ⟨false, true, 7, []⟩⟩ : S48), (⟨0, ⟨2, 5, 7, 0, 0⟩, 1, 3, 4, true, ⟨false, false, 0, []⟩⟩ : S48), (⟨0, ⟨5, 0, 9, 1, 0⟩, 3, 0, 4, true, ⟨false, false, 0, ([5] : List Int)⟩⟩ : S48)] : List S48) (by decide) (by decide +kernel) w _) (fun X hX A1 c1 => by rw [show ordL ([(⟨0, ⟨1, 5, 0, 0, 0⟩, 2, 5, 6, true, ⟨false, true, 7, []⟩⟩ : S48), (⟨0, ⟨2, 5, 7, 0, 0⟩, 1, 3, 4, true, ⟨false, false, 0, []⟩⟩ : S48), (⟨0, ⟨5, 0, 9, 1, 0⟩, 3, 0, 4, true, ⟨false, false, 0, ([5] : List Int)⟩⟩ : S48)] : List S48) = ([1, 0] : List Int) from (by decide +kernel)]; exact hX A1 c1))) ?_
 intro A8_ c9_
 refine s_v rfl rfl rfl rfl (v_as rfl rfl) ?_
 refine s_end ?_
 refine q_seq ?_
 refine c_seq rfl ?_
 refine r_ord (l := [0, 1, 2, 3, 4, 5]) rfl (by kernel_rfl) (by kernel_rfl) ?_
 refine s_v rfl rfl rfl rfl (v_ldA [.int .i64 0, .int .i64 1, .int .u64 5, .int .u64 0, .int .i64 0, .int .i64 0, .int .i64 2, .int .i64 5, .int .i64 6, .bool true, .bool false, .bool true, .int .u64 7, .slice none 0 0] 8 rfl Try.underlying53 rfl SZ53 rfl rfl rfl rfl) ?_
 refine s_v rfl rfl rfl rfl (v_ldA [.int .i64 0, .int .i64 2, .int .u64 5, .int .u64 7, .int .i64 0, .int .i64 0, .int .i64 1, .int .i64 3, .int .i64 4, .bool true, .bool false, .bool false, .int .u64 0, .slice none 0 0] 9 rfl Try.underlying53 rfl SZ53 rfl rfl rfl rfl) ?_
 refine s_e rfl rfl (e_bslice #[.int .i64 0, .int .i64 1, .int .u64 5, .int .u64 0, .int .i64 0, .int .i64 0, .int .i64 2, .int .i64 5, .int .i64 6, .bool true, .bool false, .bool true, .int .u64 7, .slice none 0 0, .int .i64 0, .int .i64 2, .int .u64 5, .int .u64 7, .int .i64 0, .int .i64 0, .int .i64 1, .int .i64 3, .int .i64 4, .bool true, .bool false, .bool false, .int .u64 0, .slice none 0 0] (.agg #[.int .i64 0, .int .i64 0, .int .u64 0, .int .u64 0, .int .i64 0, .int .i64 0, .int .i64 0, .int .i64 0, .int .i64 0, .bool false, .bool false, .bool false, .int .u64 0, .slice none 0 0]) rfl rfl rfl Try.underlying27 SZ53 ZR53 (by decide) rfl (by kernel_rfl)) ?_
 intro b10_
 refine s_give [0, 1, 2, 3, 4, 5, 6, 7, 8, 9, 10] rfl (by decide) (by simp [ids, Ent.id?]) (fun w h => h) ?_
 refine s_weak 0 rfl (fun w h => (show KC k48 (some ⟨b10_, 0, none⟩) 2 [(⟨0, ⟨1, 5, 0, 0, 0⟩, 2, 5, 6, true, ⟨false, true, 7, []⟩⟩ : S48), (⟨0, ⟨2, 5, 7, 0, 0⟩, 1, 3, 4, true, ⟨false, false, 0, []⟩⟩ : S48)] w from KC_ofReps (cap := 2) h (((Reps.none (k48.K w) 14).snoc (K48 (x := (⟨0, ⟨1, 5, 0, 0, 0⟩, 2, 5, 6, true, ⟨false, true, 7, []⟩⟩ : S48)) (KI_nil w)) rfl).snoc (K48 (x := (⟨0, ⟨2, 5, 7, 0, 0⟩, 1, 3, 4, true, ⟨false, false, 0, []⟩⟩ : S48)) (KI_nil w)) rfl) rfl (by decide) (by decide))) ?_
 refine s_e rfl rfl (e_callF [0] #[.slice (some ⟨b10_, 0, none⟩) (([(⟨0, ⟨1, 5, 0, 0, 0⟩, 2, 5, 6, true, ⟨false, true, 7, []⟩⟩ : S48), (⟨0, ⟨2, 5, 7, 0, 0⟩, 1, 3, 4, true, ⟨false, false, 0, []⟩⟩ : S48)] : List S48).length) 2, .int .i64 3] rfl rfl rfl rfl rfl Try.func16 rfl (by decide) rfl rfl rfl rfl (fun w ht => Con.of (C' := fun X => ∀ A1 c1, X (.agg #[.slice A1 (([⟨5, 7⟩] : List S56).length) c1]) [.f (KC k56 A1 c1 ([⟨5, 7⟩] : List S56))]) (hmap_con (some ⟨b10_, 0, none⟩) 2 ([(⟨0, ⟨1, 5, 0, 0, 0⟩, 2, 5, 6, true, ⟨false, true, 7, []⟩⟩ : S48), (⟨0, ⟨2, 5, 7, 0, 0⟩, 1, 3, 4, true, ⟨false, false, 0, []⟩⟩ : S48)] : List S48) 3 (by decide) (by decide +kernel) w _) (fun X hX A1 c1 => by rw [show (mapF ([(⟨0, ⟨1, 5, 0, 0, 0⟩, 2, 5, 6, true, ⟨false, true, 7, []⟩⟩ : S48), (⟨0, ⟨2, 5, 7, 0, 0⟩, 1, 3, 4, true, ⟨false, false, 0, []⟩⟩ : S48)] : List S48) 3 (ordL ([(⟨0, ⟨1, 5, 0, 0, 0⟩, 2, 5, 6, true, ⟨false, true, 7, []⟩⟩ : S48), (⟨0, ⟨2, 5, 7, 0, 0⟩, 1, 3, 4, true, ⟨false, false, 0, []⟩⟩ : S48)] : List S48))) = ([⟨5, 7⟩] : List S56) from (by decide +kernel)]; exact hX A1 c1))) ?_
 intro A11_ c12_
 refine s_e rfl rfl (e_callK (fun z : Option Addr × Nat => .slice z.1 (([⟨5, 7⟩] : List S56).length) z.2) (fun z => [KC k56 z.1 z.2 ([⟨5, 7⟩] : List S56)]) #[.agg #[.slice A11_ (([⟨5, 7⟩] : List S56).length) c12_]] rfl rfl rfl rfl rfl Try.func17 rfl (by decide) rfl rfl (fun w ht => seq_Map_Pairs.con _ _ ([⟨5, 7⟩] : List S56) _ (pairs_f ([⟨5, 7⟩] : List S56) (by decide)) w (Tri.fact ht 0 rfl))) ?_
 intro z13_
 refine s_v rfl rfl rfl rfl (v_as rfl rfl) ?_
 refine s_end ?_
 refine q_seq ?_
 refine c_seq rfl ?_
 refine r_ord (l := [0, 1, 2, 3, 4, 5, 6, 7, 8, 9, 10, 11, 12, 13, 14, 15, 16, 17, 18, 19, 20, 21, 22, 23, 24, 25, 26, 27, 28, 29, 30, 31, 32, 33, 34, 35, 36, 37, 38, 39, 40, 41, 42, 43, 44, 45, 46, 47, 48, 49, 50, 51, 52, 53, 54, 55]) rfl (by kernel_rfl) (by kernel_rfl) ?_
 refine s_v rfl rfl rfl rfl (v_ldA [.int .i64 0, .int .i64 1, .int .u64 5, .int .u64 0, .int .i64 0, .int .i64 0, .int .i64 2, .int .i64 5, .int .i64 6, .bool true, .bool false, .bool true, .int .u64 7, .slice none 0 0] 12 rfl Try.underlying53 rfl SZ53 rfl rfl rfl rfl) ?_
 refine s_v rfl rfl rfl rfl (v_ldA [.int .i64 0, .int .i64 2, .int .u64 5, .int .u64 7, .int .i64 0, .int .i64 0, .int .i64 1, .int .i64 3, .int .i64 4, .bool true, .bool false, .bool false, .int .u64 0, .slice none 0 0] 13 rfl Try.underlying53 rfl SZ53 rfl rfl rfl rfl) ?_
 refine s_e rfl rfl (e_bslice #[.int .i64 0, .int .i64 1, .int .u64 5, .int .u64 0, .int .i64 0, .int .i64 0, .int .i64 2, .int .i64 5, .int .i64 6, .bool true, .bool false, .bool true, .int .u64 7, .slice none 0 0, .int .i64 0, .int .i64 2, .int .u64 5, .int .u64 7, .int .i64 0, .int .i64 0, .int .i64 1, .int .i64 3, .int .i64 4, .bool true, .bool false, .bool false, .int .u64 0, .slice none 0 0] (.agg #[.int .i64 0, .int .i64 0, .int .u64 0, .int .u64 0, .int .i64 0, .int .i64 0, .int .i64 0, .int .i64 0, .int .i64 0, .bool false, .bool false, .bool false, .int .u64 0, .slice none 0 0]) rfl rfl rfl Try.underlying27 SZ53 ZR53 (by decide) rfl (by kernel_rfl)) ?_
 intro b14_
 refine s_give [0, 1, 2, 3, 4, 5, 6, 7, 8, 9, 10, 11, 12, 13, 14] rfl (by decide) (by simp [ids, Ent.id?]) (fun w h => h) ?_
 refine s_weak 0 rfl (fun w h => (show KC k48 (some ⟨b14_, 0, none⟩) 2 [(⟨0, ⟨1, 5, 0, 0, 0⟩, 2, 5, 6, true, ⟨false, true, 7, []⟩⟩ : S48), (⟨0, ⟨2, 5, 7, 0, 0⟩, 1, 3, 4, true, ⟨false, false, 0, []⟩⟩ : S48)] w from KC_ofReps (cap := 2) h (((Reps.none (k48.K w) 14).snoc (K48 (x := (⟨0, ⟨1, 5, 0, 0, 0⟩, 2, 5, 6, true, ⟨false, true, 7, []⟩⟩ : S48)) (KI_nil w)) rfl).snoc (K48 (x := (⟨0, ⟨2, 5, 7, 0, 0⟩, 1, 3, 4, true, ⟨false, false, 0, []⟩⟩ : S48)) (KI_nil w)) rfl) rfl (by decide) (by decide))) ?_
 refine s_e rfl rfl (e_callF [0] #[.slice (some ⟨b14_, 0, none⟩) (([(⟨0, ⟨1, 5, 0, 0, 0⟩, 2, 5, 6, true, ⟨false, true, 7, []⟩⟩ : S48), (⟨0, ⟨2, 5, 7, 0, 0⟩, 1, 3, 4, true, ⟨false, false, 0, []⟩⟩ : S48)] : List S48).length) 2] rfl rfl rfl rfl rfl Try.func19 rfl (by decide) rfl rfl rfl rfl (fun w ht => Con.of (C' := fun X => X (.bool true) []) (legal_con (some ⟨b14_, 0, none⟩) 2 ([(⟨0, ⟨1, 5, 0, 0, 0⟩, 2, 5, 6, true, ⟨false, true, 7, []⟩⟩ : S48), (⟨0, ⟨2, 5, 7, 0, 0⟩, 1, 3, 4, true, ⟨false, false, 0, []⟩⟩ : S48)] : List S48) (by decide) (by decide +kernel) (by decide) w _) (fun X hX => by have h_ : legalM ([(⟨0, ⟨1, 5, 0, 0, 0⟩, 2, 5, 6, true, ⟨false, true, 7, []⟩⟩ : S48), (⟨0, ⟨2, 5, 7, 0, 0⟩, 1, 3, 4, true, ⟨false, false, 0, []⟩⟩ : S48)] : List S48) = true := (by decide +kernel); rw [h_]; exact hX))) ?_
 refine s_v rfl rfl rfl rfl (v_mv rfl rfl) ?_
 refine s_vg rfl rfl rfl rfl (v_ldA [.int .i64 0, .int .i64 1, .int .u64 5, .int .u64 0, .int .i64 0, .int .i64 0, .int .i64 2, .int .i64 2, .int .i64 6, .bool true, .bool false, .bool true, .int .u64 7, .slice none 0 0] 13 rfl Try.underlying53 rfl SZ53 rfl rfl rfl rfl) ?_
 refine s_vg rfl rfl rfl rfl (v_ldA [.int .i64 0, .int .i64 2, .int .u64 5, .int .u64 7, .int .i64 0, .int .i64 0, .int .i64 1, .int .i64 3, .int .i64 4, .bool true, .bool false, .bool false, .int .u64 0, .slice none 0 0] 15 rfl Try.underlying53 rfl SZ53 rfl rfl rfl rfl) ?_
 refine s_eg rfl rfl (e_bslice #[.int .i64 0, .int .i64 1, .int .u64 5, .int .u64 0, .int .i64 0, .int .i64 0, .int .i64 2, .int .i64 2, .int .i64 6, .bool true, .bool false, .bool true, .int .u64 7, .slice none 0 0, .int .i64 0, .int .i64 2, .int .u64 5, .int .u64 7, .int .i64 0, .int .i64 0, .int .i64 1, .int .i64 3, .int .i64 4, .bool true, .bool false, .bool false, .int .u64 0, .slice none 0 0] (.agg #[.int .i64 0, .int .i64 0, .int .u64 0, .int .u64 0, .int .i64 0, .int .i64 0, .int .i64 0, .int .i64 0, .int .i64 0, .bool false, .bool false, .bool false, .int .u64 0, .slice none 0 0]) rfl rfl rfl Try.underlying27 SZ53 ZR53 (by decide) rfl (by kernel_rfl)) ?_
 intro b15_
 refine s_give [0, 1, 2, 3, 4, 5, 6, 7, 8, 9, 10, 11, 12, 13, 14, 15, 16] rfl (by decide) (by simp [ids, Ent.id?]) (fun w h => h) ?_
 refine s_weak 0 rfl (fun w h => (show KC k48 (some ⟨b15_, 0, none⟩) 2 [(⟨0, ⟨1, 5, 0, 0, 0⟩, 2, 2, 6, true, ⟨false, true, 7, []⟩⟩ : S48), (⟨0, ⟨2, 5, 7, 0, 0⟩, 1, 3, 4, true, ⟨false, false, 0, []⟩⟩ : S48)] w from KC_ofReps (cap := 2) h (((Reps.none (k48.K w) 14).snoc (K48 (x := (⟨0, ⟨1, 5, 0, 0, 0⟩, 2, 2, 6, true, ⟨false, true, 7, []⟩⟩ : S48)) (KI_nil w)) rfl).snoc (K48 (x := (⟨0, ⟨2, 5, 7, 0, 0⟩, 1, 3, 4, true, ⟨false, false, 0, []⟩⟩ : S48)) (KI_nil w)) rfl) rfl (by decide) (by decide))) ?_
 refine s_eg rfl rfl (e_callF [0] #[.slice (some ⟨b15_, 0, none⟩) (([(⟨0, ⟨1, 5, 0, 0, 0⟩, 2, 2, 6, true, ⟨false, true, 7, []⟩⟩ : S48), (⟨0, ⟨2, 5, 7, 0, 0⟩, 1, 3, 4, true, ⟨false, false, 0, []⟩⟩ : S48)] : List S48).length) 2] rfl rfl rfl rfl rfl Try.func19 rfl (by decide) rfl rfl rfl rfl (fun w ht => Con.of (C' := fun X => X (.bool false) []) (legal_con (some ⟨b15_, 0, none⟩) 2 ([(⟨0, ⟨1, 5, 0, 0, 0⟩, 2, 2, 6, true, ⟨false, true, 7, []⟩⟩ : S48), (⟨0, ⟨2, 5, 7, 0, 0⟩, 1, 3, 4, true, ⟨false, false, 0, []⟩⟩ : S48)] : List S48) (by decide) (by decide +kernel) (by decide) w _) (fun X hX => by have h_ : legalM ([(⟨0, ⟨1, 5, 0, 0, 0⟩, 2, 2, 6, true, ⟨false, true, 7, []⟩⟩ : S48), (⟨0, ⟨2, 5, 7, 0, 0⟩, 1, 3, 4, true, ⟨false, false, 0, []⟩⟩ : S48)] : List S48) = false := (by decide +kernel); rw [h_]; exact hX))) ?_
 refine s_vg rfl rfl rfl rfl (v_not rfl rfl) ?_
 refine s_v rfl rfl rfl rfl (v_pick rfl rfl rfl rfl) ?_
 refine s_v rfl rfl rfl rfl (v_mv rfl rfl) ?_
 refine s_vg rfl rfl rfl rfl (v_ldA [.int .i64 0, .int .i64 2, .int .u64 5, .int .u64 7, .int .i64 0, .int .i64 0, .int .i64 1, .int .i64 3, .int .i64 4, .bool true, .bool false, .bool false, .int .u64 0, .slice none 0 0] 17 rfl Try.underlying53 rfl SZ53 rfl rfl rfl rfl) ?_
 refine s_vg rfl rfl rfl rfl (v_ldA [.int .i64 0, .int .i64 5, .int .u64 0, .int .u64 9, .int .i64 1, .int .i64 0, .int .i64 3, .int .i64 0, .int .i64 4, .bool true, .bool false, .bool false, .int .u64 0, .slice (some ⟨b4_, 0, none⟩) (([5] : List Int).length) 1] 14 rfl Try.underlying53 rfl SZ53 rfl rfl rfl rfl) ?_
 refine s_eg rfl rfl (e_bslice #[.int .i64 0, .int .i64 2, .int .u64 5, .int .u64 7, .int .i64 0, .int .i64 0, .int .i64 1, .int .i64 3, .int .i64 4, .bool true, .bool false, .bool false, .int .u64 0, .slice none 0 0, .int .i64 0, .int .i64 5, .int .u64 0, .int .u64 9, .int .i64 1, .int .i64 0, .int .i64 3, .int .i64 0, .int .i64 4, .bool true, .bool false, .bool false, .int .u64 0, .slice (some ⟨b4_, 0, none⟩) (([5] : List Int).length) 1] (.agg #[.int .i64 0, .int .i64 0, .int .u64 0, .int .u64 0, .int .i64 0, .int .i64 0, .int .i64 0, .int .i64 0, .int .i64 0, .bool false, .bool false, .bool false, .int .u64 0, .slice none 0 0]) rfl rfl rfl Try.underlying27 SZ53 ZR53 (by decide) rfl (by kernel_rfl)) ?_
 intro b16_
 refine s_give [0, 1, 2, 3, 4, 5, 6, 7, 8, 9, 10, 11, 12, 13, 14, 15, 16, 17, 18] rfl (by decide) (by simp [ids, Ent.id?]) (fun w h => h) ?_
 refine s_both 0 13 rfl rfl ?_
 refine s_weak 0 rfl (fun w h => (show KC k48 (some ⟨b16_, 0, none⟩) 2 [(⟨0, ⟨2, 5, 7, 0, 0⟩, 1, 3, 4, true, ⟨false, false, 0, []⟩⟩ : S48), (⟨0, ⟨5, 0, 9, 1, 0⟩, 3, 0, 4, true, ⟨false, false, 0, ([5] : List Int)⟩⟩ : S48)] w from KC_ofReps (cap := 2) h.1 (((Reps.none (k48.K w) 14).snoc (K48 (x := (⟨0, ⟨2, 5, 7, 0, 0⟩, 1, 3, 4, true, ⟨false, false, 0, []⟩⟩ : S48)) (KI_nil w)) rfl).snoc (K48 (x := (⟨0, ⟨5, 0, 9, 1, 0⟩, 3, 0, 4, true, ⟨false, false, 0, ([5] : List Int)⟩⟩ : S48)) (h.2)) rfl) rfl (by decide) (by decide))) ?_
 refine s_eg rfl rfl (e_callF [0] #[.slice (some ⟨b16_, 0, none⟩) (([(⟨0, ⟨2, 5, 7, 0, 0⟩, 1, 3, 4, true, ⟨false, false, 0, []⟩⟩ : S48), (⟨0, ⟨5, 0, 9, 1, 0⟩, 3, 0, 4, true, ⟨false, false, 0, ([5] : List Int)⟩⟩ : S48)] : List S48).length) 2] rfl rfl rfl rfl rfl Try.func21 rfl (by decide) rfl rfl rfl rfl (fun w ht => Con.of (C' := fun X => X (.bool true) []) (ranges_con (some ⟨b16_, 0, none⟩) 2 ([(⟨0, ⟨2, 5, 7, 0, 0⟩, 1, 3, 4, true, ⟨false, false, 0, []⟩⟩ : S48), (⟨0, ⟨5, 0, 9, 1, 0⟩, 3, 0, 4, true, ⟨false, false, 0, ([5] : List Int)⟩⟩ : S48)] : List S48) (by decide) (by decide +kernel) (by decide) w _) (fun X hX => by have h_ : rangesM ([(⟨0, ⟨2, 5, 7, 0, 0⟩, 1, 3, 4, true, ⟨false, false, 0, []⟩⟩ : S48), (⟨0, ⟨5, 0, 9, 1, 0⟩, 3, 0, 4, true, ⟨false, false, 0, ([5] : List Int)⟩⟩ : S48)] : List S48) = true := (by decide +kernel); rw [h_]; exact hX))) ?_
 refine s_v rfl rfl rfl rfl (v_pick rfl rfl rfl rfl) ?_
 refine s_v rfl rfl rfl rfl (v_mv rfl rfl) ?_
 refine s_vg rfl rfl rfl rfl (v_ldA [.int .i64 0, .int .i64 2, .int .u64 5, .int .u64 7, .int .i64 0, .int .i64 0, .int .i64 1, .int .i64 3, .int .i64 4, .bool true, .bool false, .bool false, .int .u64 0, .slice none 0 0] 20 rfl Try.underlying53 rfl SZ53 rfl rfl rfl rfl) ?_
 refine s_vg rfl rfl rfl rfl (v_ldA [.int .i64 0, .int .i64 5, .int .u64 0, .int .u64 9, .int .i64 1, .int .i64 0, .int .i64 3, .int .i64 0, .int .i64 4, .bool true, .bool false, .bool false, .int .u64 0, .slice none 0 0] 16 rfl Try.underlying53 rfl SZ53 rfl rfl rfl rfl) ?_
 refine s_eg rfl rfl (e_bslice #[.int .i64 0, .int .i64 2, .int .u64 5, .int .u64 7, .int .i64 0, .int .i64 0, .int .i64 1, .int .i64 3, .int .i64 4, .bool true, .bool false, .bool false, .int .u64 0, .slice none 0 0, .int .i64 0, .int .i64 5, .int .u64 0, .int .u64 9, .int .i64 1, .int .i64 0, .int .i64 3, .int .i64 0, .int .i64 4, .bool true, .bool false, .bool false, .int .u64 0, .slice none 0 0] (.agg #[.int .i64 0, .int .i64 0, .int .u64 0, .int .u64 0, .int .i64 0, .int .i64 0, .int .i64 0, .int .i64 0, .int .i64 0, .bool false, .bool false, .bool false, .int .u64 0, .slice none 0 0]) rfl rfl rfl Try.underlying27 SZ53 ZR53 (by decide) rfl (by kernel_rfl)) ?_
 intro b17_
 refine s_give [0, 1, 2, 3, 4, 5, 6, 7, 8, 9, 10, 11, 12, 13, 14, 15, 16, 17, 18, 19, 20, 21] rfl (by decide) (by simp [ids, Ent.id?]) (fun w h => h) ?_
 refine s_weak 0 rfl (fun w h => (show KC k48 (some ⟨b17_, 0, none⟩) 2 [(⟨0, ⟨2, 5, 7, 0, 0⟩, 1, 3, 4, true, ⟨false, false, 0, []⟩⟩ : S48), (⟨0, ⟨5, 0, 9, 1, 0⟩, 3, 0, 4, true, ⟨false, false, 0, []⟩⟩ : S48)] w from KC_ofReps (cap := 2) h (((Reps.none (k48.K w) 14).snoc (K48 (x := (⟨0, ⟨2, 5, 7, 0, 0⟩, 1, 3, 4, true, ⟨false, false, 0, []⟩⟩ : S48)) (KI_nil w)) rfl).snoc (K48 (x := (⟨0, ⟨5, 0, 9, 1, 0⟩, 3, 0, 4, true, ⟨false, false, 0, []⟩⟩ : S48)) (KI_nil w)) rfl) rfl (by decide) (by decide))) ?_
 refine s_eg rfl rfl (e_callF [0] #[.slice (some ⟨b17_, 0, none⟩) (([(⟨0, ⟨2, 5, 7, 0, 0⟩, 1, 3, 4, true, ⟨false, false, 0, []⟩⟩ : S48), (⟨0, ⟨5, 0, 9, 1, 0⟩, 3, 0, 4, true, ⟨false, false, 0, []⟩⟩ : S48)] : List S48).length) 2] rfl rfl rfl rfl rfl Try.func21 rfl (by decide) rfl rfl rfl rfl (fun w ht => Con.of (C' := fun X => X (.bool false) []) (ranges_con (some ⟨b17_, 0, none⟩) 2 ([(⟨0, ⟨2, 5, 7, 0, 0⟩, 1, 3, 4, true, ⟨false, false, 0, []⟩⟩ : S48), (⟨0, ⟨5, 0, 9, 1, 0⟩, 3, 0, 4, true, ⟨false, false, 0, []⟩⟩ : S48)] : List S48) (by decide) (by decide +kernel) (by decide) w _) (fun X hX => by have h_ : rangesM ([(⟨0, ⟨2, 5, 7, 0, 0⟩, 1, 3, 4, true, ⟨false, false, 0, []⟩⟩ : S48), (⟨0, ⟨5, 0, 9, 1, 0⟩, 3, 0, 4, true, ⟨false, false, 0, []⟩⟩ : S48)] : List S48) = false := (by decide +kernel); rw [h_]; exact hX))) ?_
 refine s_vg rfl rfl rfl rfl (v_not rfl rfl) ?_
 refine s_v rfl rfl rfl rfl (v_pick rfl rfl rfl rfl) ?_
 refine s_v rfl rfl rfl rfl (v_mv rfl rfl) ?_
 refine s_vg rfl rfl rfl rfl (v_mv rfl rfl) ?_
 refine s_vg rfl rfl rfl rfl (v_len rfl rfl rfl Try.underlying25 rfl rfl) ?_
 refine s_vg rfl rfl rfl rfl (v_ar rfl rfl rfl rfl) ?_
 refine s_v rfl rfl rfl rfl (v_pick rfl rfl rfl rfl) ?_
 refine s_v rfl rfl rfl rfl (v_mv rfl rfl) ?_
 refine s_splitv (d := 61) (t := ((([1, 0] : List Int).length : Nat) : Int) == 2) rfl (fun h18_ => ?_) (fun h18_ => ?_)
 refine s_vg rfl rfl rfl rfl (v_mv rfl rfl) ?_
 refine s_vg rfl rfl rfl rfl (v_iaK (i := 13) rfl Try.underlying25 SZ3 rfl rfl rfl rfl (by decide) (by decide)) ?_
 refine s_vg rfl rfl rfl rfl (v_ldK (v := .int .i64 (rd ([1, 0] : List Int) 0)) 0 13 rfl Try.underlying3 rfl rfl rfl rfl (by decide) (by decide) (fun w K h => h)) ?_
 refine s_vg rfl rfl rfl rfl (v_ar rfl rfl rfl rfl) ?_
 refine s_v rfl rfl rfl rfl (v_pick rfl rfl rfl rfl) ?_
 refine s_v rfl rfl rfl rfl (v_mv rfl rfl) ?_
 refine s_splitv (d := 67) (t := (rd ([1, 0] : List Int) 0 : Int) == 1) rfl (fun h19_ => ?_) (fun h19_ => ?_)
 refine s_vg rfl rfl rfl rfl (v_mv rfl rfl) ?_
 refine s_vg rfl rfl rfl rfl (v_len rfl rfl rfl Try.underlying33 rfl rfl) ?_
 refine s_vg rfl rfl rfl rfl (v_ar rfl rfl rfl rfl) ?_
 refine s_v rfl rfl rfl rfl (v_pick rfl rfl rfl rfl) ?_
 refine s_v rfl rfl rfl rfl (v_mv rfl rfl) ?_
 refine s_splitv (d := 72) (t := ((([⟨5, 7⟩] : List S56).length : Nat) : Int) == 1) rfl (fun h20_ => ?_) (fun h20_ => ?_)
 refine s_vg rfl rfl rfl rfl (v_mv rfl rfl) ?_
 refine s_vg rfl rfl rfl rfl (v_iaK (i := 9) rfl Try.underlying33 SZ56 rfl rfl rfl rfl (by decide) (by decide)) ?_
 refine s_vg rfl rfl rfl rfl (v_ldKA z56 [.int .u64 ((rd_T56 ([⟨5, 7⟩] : List S56) 0).f0), .int .u64 ((rd_T56 ([⟨5, 7⟩] : List S56) 0).f1)] 9 rfl Try.underlying56 rfl SZ56 rfl rfl rfl rfl (by decide) (by decide) (fun w K h => k56_open h)) ?_
 refine s_vg rfl rfl rfl rfl (v_build (places := #[(0, 1), (1, 1)]) #[.int .u64 5, .int .u64 7] rfl ZR56 Try.underlying56 (by kernel_rfl) rfl rfl) ?_
 refine s_vg rfl rfl rfl rfl (v_eqA rfl rfl rfl (by kernel_rfl) (eqS56 ((rd_T56 ([⟨5, 7⟩] : List S56) 0).f0) ((rd_T56 ([⟨5, 7⟩] : List S56) 0).f1) 5 7)) ?_
 refine s_v rfl rfl rfl rfl (v_pick rfl rfl rfl rfl) ?_
 refine s_v rfl rfl rfl rfl (v_mv rfl rfl) ?_
 refine s_splitv (d := 79) (t := (((rd_T56 ([⟨5, 7⟩] : List S56) 0).f0 : Int) == 5) && (((rd_T56 ([⟨5, 7⟩] : List S56) 0).f1 : Int) == 7)) rfl (fun h21_ => ?_) (fun h21_ => ?_)
 refine s_vg rfl rfl rfl rfl (v_ldA [.int .i64 0, .int .i64 2, .int .u64 5, .int .u64 7, .int .i64 0, .int .i64 0, .int .i64 1, .int .i64 3, .int .i64 4, .bool true, .bool false, .bool false, .int .u64 0, .slice none 0 0] 22 rfl Try.underlying53 rfl SZ53 rfl rfl rfl rfl) ?_
 refine s_eg rfl rfl (e_bslice #[.int .i64 0, .int .i64 2, .int .u64 5, .int .u64 7, .int .i64 0, .int .i64 0, .int .i64 1, .int .i64 3, .int .i64 4, .bool true, .bool false, .bool false, .int .u64 0, .slice none 0 0] (.agg #[.int .i64 0, .int .i64 0, .int .u64 0, .int .u64 0, .int .i64 0, .int .i64 0, .int .i64 0, .int .i64 0, .int .i64 0, .bool false, .bool false, .bool false, .int .u64 0, .slice none 0 0]) rfl rfl rfl Try.underlying27 SZ53 ZR53 (by decide) rfl (by kernel_rfl)) ?_
 intro b22_
 refine s_give [0, 1, 2, 3, 4, 5, 6, 7, 8, 9, 10, 11, 12, 13, 14, 15, 16, 17, 18, 19, 20, 21, 22, 23] rfl (by decide) (by simp [ids, Ent.id?]) (fun w h => h) ?_
 refine s_weak 0 rfl (fun w h => (show KC k48 (some ⟨b22_, 0, none⟩) 1 [(⟨0, ⟨2, 5, 7, 0, 0⟩, 1, 3, 4, true, ⟨false, false, 0, []⟩⟩ : S48)] w from KC_ofReps (cap := 1) h ((Reps.none (k48.K w) 14).snoc (K48 (x := (⟨0, ⟨2, 5, 7, 0, 0⟩, 1, 3, 4, true, ⟨false, false, 0, []⟩⟩ : S48)) (KI_nil w)) rfl) rfl (by decide) (by decide))) ?_
 refine s_eg rfl rfl (e_callF [0] #[.slice (some ⟨b22_, 0, none⟩) (([(⟨0, ⟨2, 5, 7, 0, 0⟩, 1, 3, 4, true, ⟨false, false, 0, []⟩⟩ : S48)] : List S48).length) 1, .int .i64 2] rfl rfl rfl rfl rfl Try.func16 rfl (by decide) rfl rfl rfl rfl (fun w ht => Con.of (C' := fun X => ∀ A1 c1, X (.agg #[.slice A1 (([] : List S56).length) c1]) [.f (KC k56 A1 c1 ([] : List S56))]) (hmap_con (some ⟨b22_, 0, none⟩) 1 ([(⟨0, ⟨2, 5, 7, 0, 0⟩, 1, 3, 4, true, ⟨false, false, 0, []⟩⟩ : S48)] : List S48) 2 (by decide) (by decide +kernel) w _) (fun X hX A1 c1 => by rw [show (mapF ([(⟨0, ⟨2, 5, 7, 0, 0⟩, 1, 3, 4, true, ⟨false, false, 0, []⟩⟩ : S48)] : List S48) 2 (ordL ([(⟨0, ⟨2, 5, 7, 0, 0⟩, 1, 3, 4, true, ⟨false, false, 0, []⟩⟩ : S48)] : List S48))) = ([] : List S56) from (by decide +kernel)]; exact hX A1 c1))) ?_
 intro A23_ c24_
 refine s_eg rfl rfl (e_callK (fun z : Option Addr × Nat => .slice z.1 (([] : List S56).length) z.2) (fun z => [KC k56 z.1 z.2 ([] : List S56)]) #[.agg #[.slice A23_ (([] : List S56).length) c24_]] rfl rfl rfl rfl rfl Try.func17 rfl (by decide) rfl rfl (fun w ht => seq_Map_Pairs.con _ _ ([] : List S56) _ (pairs_f ([] : List S56) (by decide)) w (Tri.fact ht 0 rfl))) ?_
 intro z25_
 refine s_vg rfl rfl rfl rfl (v_len rfl rfl rfl Try.underlying33 rfl rfl) ?_
 refine s_vg rfl rfl rfl rfl (v_ar rfl rfl rfl rfl) ?_
 refine s_v rfl rfl rfl rfl (v_pick rfl rfl rfl rfl) ?_
 refine s_v rfl rfl rfl rfl (v_as rfl rfl) ?_
 refine s_end ?_
 refine q_seq ?_
 refine c_ret rfl ?_
 refine q_take [] rfl (by decide) ?_
 exact q_post rfl (.cons rfl (.nil)) hX
 exact absurd h21_ (by decide +kernel)
 exact absurd h20_ (by decide +kernel)
 exact absurd h19_ (by decide +kernel)
 exact absurd h18_ (by decide +kernel)
theorem alive_calls (w : World) : Calls Try.prog 10 #[] w fun e w' => ∃ z : Unit, e = .returned (.bool true) ∧ (∀ φ ∈ ([] : List (World → Prop)), FreshF w.heap.size w' φ) ∧ Below w.heap.size w w' := by
  refine (calls_of_con (R := fun v L => v = .bool true) (alive_con w []) (Tri.nil w) rfl).mono ?_
  rintro e w' ⟨v, L', rfl, rfl, ht⟩
  exact ⟨(), rfl, fun _ h => (by cases h), ht.below⟩
end Go.Eng
namespace Go.Eng
open Go.Proofs Go.RowKit Go.Proofs.YtiihjijmmephlaaW.PrintWords Go.Proofs.Ytiihjijmmephlaa.GHist
set_option linter.unusedVariables false
set_option linter.unusedSimpArgs false
set_option maxRecDepth 100000 in
set_option maxHeartbeats 4000000 in
theorem ranges_law (A : Option Addr) (c : Nat) (l : List S48) (w0 : World) (H : List Nat) : Con Try.prog 6 #[.slice A l.length c] w0 H [.f (KC k48 A c l)] (fun X => X (.bool true) []) := by
 refine con_enter (c := bodyOf Try.f6) Try.func6 rfl (m := 16) rfl rfl rfl ?_
 intro X hX _
 refine c_seq rfl ?_
 refine r_ord (l := [0]) rfl (by kernel_rfl) (by kernel_rfl) ?_
 refine s_v rfl rfl rfl rfl (v_as rfl rfl) ?_
 refine s_end ?_
 refine q_seq ?_
 refine c_seq rfl ?_
 refine c_seq rfl ?_
 refine r_ord (l := [0, 1, 2]) rfl (by kernel_rfl) (by kernel_rfl) ?_
 refine s_v rfl rfl rfl rfl (v_mv rfl rfl) ?_
 refine s_e rfl rfl (e_callK (fun z : Unit => .bool (fewB l)) (fun z => []) #[.slice A l.length c] rfl rfl rfl rfl rfl Try.func9 rfl (by decide) rfl rfl (fun w ht => stepstonelaw08_few.con 5000 _ _ l _ (few_f _) w (Tri.fact ht 0 rfl))) ?_
 intro z1_
 refine s_v rfl rfl rfl rfl (v_not rfl rfl) ?_
 refine s_end ?_
 refine q_seq ?_
 refine c_cond (t := !(fewB l)) rfl rfl (fun h2_ => ?_) (fun h2_ => ?_)
 refine c_seq rfl ?_
 refine r_ord (l := [0, 1]) rfl (by kernel_rfl) (by kernel_rfl) ?_
 refine s_e rfl rfl (e_callK (fun z : Unit => .bool true) (fun z => []) #[] rfl rfl rfl rfl rfl Try.func10 rfl (by decide) rfl rfl (fun w ht => alive_calls w)) ?_
 intro z3_
 refine s_v rfl rfl rfl rfl (v_as rfl rfl) ?_
 refine s_end ?_
 refine q_seq ?_
 refine c_ret rfl ?_
 refine q_then_ret ?_
 refine q_take [] rfl (by decide) ?_
 exact q_post rfl (.cons rfl (.nil)) hX
 have hfw : fewB l = true := by simpa using h2_
 have hl := few_len hfw
 have hK := few_keys hfw
 have hn : (hapTo l l.length).length ≤ 40 := by have := hap_len l l.length; omega
 refine c_skip rfl ?_
 refine q_seq ?_
 refine c_seq rfl ?_
 refine r_ord (l := [0, 1, 2, 3, 4, 5, 6, 7, 8, 9]) rfl (by kernel_rfl) (by kernel_rfl) ?_
 refine s_e rfl rfl (e_callK (fun z : Unit => .bool true) (fun z => []) #[] rfl rfl rfl rfl rfl Try.func10 rfl (by decide) rfl rfl (fun w ht => alive_calls w)) ?_
 intro z4_
 refine s_v rfl rfl rfl rfl (v_mv rfl rfl) ?_
 refine s_vg rfl rfl rfl rfl (v_mv rfl rfl) ?_
 refine s_eg rfl rfl (e_callF [0] #[.slice A l.length c] rfl rfl rfl rfl rfl Try.func12 rfl (by decide) rfl rfl rfl rfl (fun w ht => news_con A c l (by omega) w _)) ?_
 intro A5_ c6_
 refine s_eg rfl rfl (e_callF [0] #[.slice A5_ l.length c6_] rfl rfl rfl rfl rfl Try.func21 rfl (by decide) rfl rfl rfl rfl (fun w ht => ranges_con A5_ c6_ l (by omega) hn hK w _)) ?_
 refine s_vg rfl rfl rfl rfl (v_mv rfl rfl) ?_
 refine s_eg rfl rfl (e_callF [1] #[.slice A l.length c] rfl rfl rfl rfl rfl Try.func22 rfl (by decide) rfl rfl rfl rfl (fun w ht => rranges_con A c l (by omega) hK w _)) ?_
 refine s_vg rfl rfl rfl rfl (v_eqB rfl Try.underlying4 rfl rfl) ?_
 refine s_v rfl rfl rfl rfl (v_pick rfl rfl rfl rfl) ?_
 refine s_v rfl rfl rfl rfl (v_as rfl rfl) ?_
 refine s_end ?_
 refine q_seq ?_
 refine c_ret rfl ?_
 refine q_take [] rfl (by decide) ?_
 exact q_post rfl (.cons rfl (.nil)) (show X (.bool (((rangesM l) == (rangesM l)))) [] by simpa using hX)
end Go.Eng
