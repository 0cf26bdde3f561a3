/-
Own text, put together by an own program (shake.py) out of this claim's texts: what its theorem needs of them.
-/
import Derived.Test.YtbonlagecjealaaA14
namespace Go.Eng
open Go.Proofs Go.RowKit Go.Proofs.YtbonlagecjealaaW.PrintWords Go.Proofs.Ytbonlagecjealaa.GSeq
set_option linter.unusedVariables false
set_option linter.unusedSimpArgs false
def stepstonelaw21_alive.f (k : Nat) : Option Bool := (stepstoneref05_New.f 1 1 2 2 1 1 9).bind fun (t21_, t22_, t23_, t24_, t25_, t26_, t27_, t28_, t29_, t30_, t31_, t32_, t33_, t34_, t35_) => (stepstoneref11_Lay.f k 1 1 2 2 1 1 9 ([(⟨3, 7, 2, 0, false⟩ : S46), (⟨5, 0, 1, 1, true⟩ : S46)] : List S46)).bind fun t45_ => (shape_Map.f k 1 1 2 2 1 1 9 t45_).bind fun t56_ => (seq_Map_Pairs.f t56_).bind fun t60_ => ((shape_Right.f k 1 1 2 2 1 1 9 t28_).bind fun t147_ => (if t147_ = true then (shape_Rest.f k 1 1 2 2 1 1 9 t28_ ([] : List (List S81))).bind fun t150_ => (if t150_ = true then (shape_Level.f k 1 1 2 2 1 1 9 t45_ 0).bind fun t153_ => (if ((t153_.length : Int) : Int) = 2 then (shape_Level.f k 1 1 2 2 1 1 9 t45_ 1).bind fun t158_ => (if ((t158_.length : Int) : Int) = 1 then (shape_Level.f k 1 1 2 2 1 1 9 t45_ 2).bind fun t163_ => (if ((t163_.length : Int) : Int) = 0 then (if ((t60_.length : Int) : Int) = 1 then (if (0 : Int) < (t60_.length : Int) then (if ((rd_T61 t60_ 0).f0 : Int) = 3 then (if ((rd_T61 t60_ 0).f1 : Int) = 7 then (shape_Right.f k 1 1 2 2 1 1 9 t45_).bind fun t172_ => (if t172_ = true then (shape_Rest.f k 1 1 2 2 1 1 9 t45_ ([] : List (List S81))).bind fun t175_ => (if t175_ = true then some false else (if (1 : Int) ≤ (t45_.length : Int) then (shape_Right.f k 1 1 2 2 1 1 9 (t45_.drop (Int.toNat 1))).bind fun t179_ => some (!t179_) else none)) else some false) else some false) else some false) else none) else some false) else some false) else some false) else some false) else some false) else some false) : Option Bool).bind fun j145_ => some j145_
set_option maxRecDepth 100000 in
set_option maxHeartbeats 4000000 in
theorem stepstonelaw21_alive_con (k : Nat)  (r0 : Bool) (h : stepstonelaw21_alive.f k = some r0) (w0 : World) (Hs : List Nat) : Con Try.prog 7 #[] w0 Hs [] (fun X => X (.bool r0) []) := by
 refine con_enter (c := bodyOf Try.f7) Try.func7 rfl (m := 85) rfl rfl rfl ?_
 intro X hX _
 have H := h
 unfold stepstonelaw21_alive.f at H
 clear h
 refine c_seq rfl ?_
 refine r_ord (l := [0]) rfl (by kernel_rfl) (by kernel_rfl) ?_
 refine s_v rfl rfl rfl rfl (v_assign rfl rfl) ?_
 refine s_end ?_
 refine q_seq ?_
 refine c_seq rfl ?_
 refine r_ord (l := [0, 1, 2]) rfl (by kernel_rfl) (by kernel_rfl) ?_
 refine s_v rfl rfl rfl rfl (v_build (places := #[(0, 1), (1, 1), (2, 1), (3, 1), (4, 1), (5, 1), (6, 1)]) #[.int .i64 1, .int .i64 1, .int .i64 2, .int .i64 2, .int .i64 1, .int .i64 1, .int .i64 9] rfl ZR23 Try.underlying23 (by kernel_rfl) rfl (by kernel_rfl)) ?_
 refine s_e rfl rfl (e_alloc rfl rfl rfl ZR23) ?_
 intro b2_
 refine s_e rfl rfl (e_stA 0 rfl rfl SZ23 rfl rfl rfl rfl rfl rfl) ?_
 refine s_end ?_
 refine q_seq ?_
 refine c_seq rfl ?_
 refine r_ord (l := [0, 1, 2, 3, 4]) rfl (by kernel_rfl) (by kernel_rfl) ?_
 refine s_v rfl rfl rfl rfl (v_ldA [.int .i64 1, .int .i64 1, .int .i64 2, .int .i64 2, .int .i64 1, .int .i64 1, .int .i64 9] 0 rfl Try.underlying23 rfl SZ23 rfl rfl rfl rfl) ?_
 obtain ⟨⟨t21_, t22_, t23_, t24_, t25_, t26_, t27_, t28_, t29_, t30_, t31_, t32_, t33_, t34_, t35_⟩, e36_, H⟩ := bind_s H
 refine s_e rfl rfl (e_callF [] #[.agg #[.int .i64 1, .int .i64 1, .int .i64 2, .int .i64 2, .int .i64 1, .int .i64 1, .int .i64 9]] rfl rfl rfl rfl rfl Try.func24 rfl (by decide) rfl rfl rfl rfl (fun w ht => stepstoneref05_New_con 1 1 2 2 1 1 9 t21_ t22_ t23_ t24_ t25_ t26_ t27_ t28_ t29_ t30_ t31_ t32_ t33_ t34_ t35_ e36_ w _)) ?_
 intro A37_ c38_
 refine s_v rfl rfl rfl rfl (v_fldA #[.slice A37_ t28_.length c38_, .int .i64 t29_, .int .i64 t30_, .int .i64 t31_, .int .u64 t32_, .int .u64 t33_, .int .u64 t34_, .bool t35_] rfl Try.underlying59 rfl Try.underlying57 rfl SZ57 rfl rfl) ?_
 refine s_v rfl rfl rfl rfl (v_fld rfl Try.underlying57 rfl Try.underlying24 rfl rfl rfl) ?_
 refine s_v rfl rfl rfl rfl (v_assign rfl rfl) ?_
 refine s_end ?_
 refine q_seq ?_
 refine c_seq rfl ?_
 refine r_ord (l := [0, 1, 2, 3, 4, 5]) rfl (by kernel_rfl) (by kernel_rfl) ?_
 refine s_v rfl rfl rfl rfl (v_ldA [.int .i64 1, .int .i64 1, .int .i64 2, .int .i64 2, .int .i64 1, .int .i64 1, .int .i64 9] 1 rfl Try.underlying23 rfl SZ23 rfl rfl rfl rfl) ?_
 refine s_v rfl rfl rfl rfl (v_build (places := #[(0, 1), (1, 1), (2, 1), (3, 1), (4, 1)]) #[.int .u64 3, .int .u64 7, .int .i64 2, .int .i64 0, .bool false] rfl ZR46 Try.underlying46 (by kernel_rfl) rfl (by kernel_rfl)) ?_
 refine s_v rfl rfl rfl rfl (v_build (places := #[(0, 1), (1, 1), (2, 1), (3, 1), (4, 1)]) #[.int .u64 5, .int .u64 0, .int .i64 1, .int .i64 1, .bool true] rfl ZR46 Try.underlying46 (by kernel_rfl) rfl (by kernel_rfl)) ?_
 refine s_e rfl rfl (e_bslice #[.int .u64 3, .int .u64 7, .int .i64 2, .int .i64 0, .bool false, .int .u64 5, .int .u64 0, .int .i64 1, .int .i64 1, .bool true] (.agg #[.int .u64 0, .int .u64 0, .int .i64 0, .int .i64 0, .bool false]) rfl rfl rfl Try.underlying42 SZ46 ZR46 (by decide) rfl (by kernel_rfl)) ?_
 intro b44_
 refine s_give [0, 1, 2] rfl (by decide) (by simp [ids, Ent.id?]) (fun w_ h_ => KC_ofReps0 (xs := ([(⟨3, 7, 2, 0, false⟩ : S46), (⟨5, 0, 1, 1, true⟩ : S46)] : List S46)) (cap := 2) h_ ((reps_flat flat46).2 rfl) (by rfl) (by decide) (by decide)) ?_
 obtain ⟨t45_, e46_, H⟩ := bind_s H
 refine s_e rfl rfl (e_callF [0] #[.agg #[.int .i64 1, .int .i64 1, .int .i64 2, .int .i64 2, .int .i64 1, .int .i64 1, .int .i64 9], .slice (some ⟨b44_, 0, none⟩) 2 2] rfl rfl rfl rfl rfl Try.func16 rfl (by decide) rfl rfl rfl rfl (fun w ht => stepstoneref11_Lay_con _ 1 1 2 2 1 1 9 (some ⟨b44_, 0, none⟩) 2 ([(⟨3, 7, 2, 0, false⟩ : S46), (⟨5, 0, 1, 1, true⟩ : S46)] : List S46) t45_ e46_ w _)) ?_
 intro A47_ c48_
 refine s_v rfl rfl rfl rfl (v_assign rfl rfl) ?_
 refine s_end ?_
 refine q_seq ?_
 refine c_seq rfl ?_
 refine r_ord (l := [0, 1, 2, 3, 4]) rfl (by kernel_rfl) (by kernel_rfl) ?_
 refine s_v rfl rfl rfl rfl (v_ldA [.int .i64 1, .int .i64 1, .int .i64 2, .int .i64 2, .int .i64 1, .int .i64 1, .int .i64 9] 3 rfl Try.underlying23 rfl SZ23 rfl rfl rfl rfl) ?_
 refine s_v rfl rfl rfl rfl (v_move rfl rfl) ?_
 obtain ⟨t56_, e57_, H⟩ := bind_s H
 refine s_e rfl rfl (e_callF [0] #[.agg #[.int .i64 1, .int .i64 1, .int .i64 2, .int .i64 2, .int .i64 1, .int .i64 1, .int .i64 9], .slice A47_ t45_.length c48_] rfl rfl rfl rfl rfl Try.func12 rfl (by decide) rfl rfl rfl rfl (fun w ht => shape_Map_con _ 1 1 2 2 1 1 9 A47_ c48_ t45_ t56_ e57_ w _)) ?_
 intro A58_ c59_
 obtain ⟨t60_, e61_, H⟩ := bind_s H
 refine s_e rfl rfl (e_callK (fun z : (Option Addr × Nat) => .slice z.1 t60_.length z.2) (fun z => [KC k61 z.1 z.2 t60_]) #[.agg #[.slice A58_ t56_.length c59_]] rfl rfl rfl rfl rfl Try.func13 rfl (by decide) rfl rfl (fun w ht => seq_Map_Pairs.con A58_ c59_ t56_ t60_ e61_ w (Tri.fact ht 0 rfl))) ?_
 intro z62_
 refine s_v rfl rfl rfl rfl (v_assign rfl rfl) ?_
 refine s_end ?_
 refine q_seq ?_
 obtain ⟨j145_, e146_, H⟩ := bind_s H
 refine c_join (β := Unit) (fun _ => True) (fun _ => [(0, .bool j145_)]) (fun _ => [.f (KC k61 z62_.1 z62_.2 t60_), .f (KC k61 A58_ c59_ t56_), .f (KC (Kd.int .u64) A47_ c48_ t45_), .f (KC k46 (some ⟨b44_, 0, none⟩) 2 ([(⟨3, 7, 2, 0, false⟩ : S46), (⟨5, 0, 1, 1, true⟩ : S46)] : List S46)), .f (KC (Kd.int .u64) A37_ c38_ t28_), .b b2_ (.cells #[.int .i64 1, .int .i64 1, .int .i64 2, .int .i64 2, .int .i64 1, .int .i64 1, .int .i64 9] 23 (0, 0))]) rfl (fun _ _ => ?_) (fun J_ => ?_)
 refine c_ret rfl ?_
 have e_ := Option.some.inj H
 subst e_
 exact q_ret (vs := [.bool j145_]) rfl (.tmp rfl .nil) [] rfl (by decide) (hX)
 clear H
 have H := e146_
 clear e146_
 obtain ⟨t147_, e148_, H⟩ := bind_s H
 rcases Bool.eq_false_or_eq_true t147_ with h149_ | h149_
 subst h149_
 replace H := ite_y rfl H
 obtain ⟨t150_, e151_, H⟩ := bind_s H
 rcases Bool.eq_false_or_eq_true t150_ with h152_ | h152_
 subst h152_
 replace H := ite_y rfl H
 obtain ⟨t153_, e154_, H⟩ := bind_s H
 rcases Bool.eq_false_or_eq_true (((t153_.length : Int) : Int) == 2) with h157_ | h157_
 replace H := ite_y (ibeq_t h157_) H
 obtain ⟨t158_, e159_, H⟩ := bind_s H
 rcases Bool.eq_false_or_eq_true (((t158_.length : Int) : Int) == 1) with h162_ | h162_
 replace H := ite_y (ibeq_t h162_) H
 obtain ⟨t163_, e164_, H⟩ := bind_s H
 rcases Bool.eq_false_or_eq_true (((t163_.length : Int) : Int) == 0) with h167_ | h167_
 replace H := ite_y (ibeq_t h167_) H
 rcases Bool.eq_false_or_eq_true (((t60_.length : Int) : Int) == 1) with h168_ | h168_
 replace H := ite_y (ibeq_t h168_) H
 obtain ⟨n169_, H⟩ := ite_no H
 rcases Bool.eq_false_or_eq_true (((rd_T61 t60_ 0).f0 : Int) == 3) with h170_ | h170_
 replace H := ite_y (ibeq_t h170_) H
 rcases Bool.eq_false_or_eq_true (((rd_T61 t60_ 0).f1 : Int) == 7) with h171_ | h171_
 replace H := ite_y (ibeq_t h171_) H
 obtain ⟨t172_, e173_, H⟩ := bind_s H
 rcases Bool.eq_false_or_eq_true t172_ with h174_ | h174_
 subst h174_
 replace H := ite_y rfl H
 obtain ⟨t175_, e176_, H⟩ := bind_s H
 rcases Bool.eq_false_or_eq_true (!t175_) with h177_ | h177_
 replace H := ite_n (not_t (bnot_t h177_)) H
 obtain ⟨n178_, H⟩ := ite_no H
 obtain ⟨t179_, e180_, H⟩ := bind_s H
 refine r_any [.f (KC k61 z62_.1 z62_.2 t60_), .f (KC k61 A58_ c59_ t56_), .f (KC (Kd.int .u64) A47_ c48_ t45_), .f (KC k46 (some ⟨b44_, 0, none⟩) 2 ([(⟨3, 7, 2, 0, false⟩ : S46), (⟨5, 0, 1, 1, true⟩ : S46)] : List S46)), .f (KC (Kd.int .u64) A37_ c38_ t28_), .b b2_ (.cells #[.int .i64 1, .int .i64 1, .int .i64 2, .int .i64 2, .int .i64 1, .int .i64 1, .int .i64 9] 23 (0, 0))] (by kernel_rfl) rfl (by kernel_rfl) (mem_pick (idx := [0, 1, 2, 3, 4, 5]) rfl) ?_
 refine a_v 0 rfl (by kernel_rfl) (by kernel_rfl) (by kernel_rfl) rfl rfl rfl (v_ldA [.int .i64 1, .int .i64 1, .int .i64 2, .int .i64 2, .int .i64 1, .int .i64 1, .int .i64 9] 5 rfl Try.underlying23 rfl SZ23 rfl rfl rfl rfl) ?_
 refine a_v 1 rfl (by kernel_rfl) (by kernel_rfl) (by kernel_rfl) rfl rfl rfl (v_move rfl rfl) ?_
 refine a_1 (i := 2) (by kernel_rfl) ?_
 refine i_e rfl rfl (e_callF [4] #[.agg #[.int .i64 1, .int .i64 1, .int .i64 2, .int .i64 2, .int .i64 1, .int .i64 1, .int .i64 9], .slice A37_ t28_.length c38_] rfl rfl rfl rfl rfl Try.func17 rfl (by decide) rfl rfl rfl rfl (fun w ht => shape_Right_con _ 1 1 2 2 1 1 9 A37_ c38_ t28_ true e148_ w _)) ?_
 refine ⟨(mem_pick (idx := [0, 1, 2, 3, 4, 5]) rfl), ?_⟩
 refine a_v 3 rfl (by kernel_rfl) (by kernel_rfl) (by kernel_rfl) rfl rfl rfl (v_move rfl rfl) ?_
 refine a_v 4 rfl (by kernel_rfl) (by kernel_rfl) (by kernel_rfl) rfl rfl rfl (v_ldA [.int .i64 1, .int .i64 1, .int .i64 2, .int .i64 2, .int .i64 1, .int .i64 1, .int .i64 9] 5 rfl Try.underlying23 rfl SZ23 rfl rfl rfl rfl) ?_
 refine a_v 5 rfl (by kernel_rfl) (by kernel_rfl) (by kernel_rfl) rfl rfl rfl (v_move rfl rfl) ?_
 refine a_1 (i := 6) (by kernel_rfl) ?_
 refine i_knowT (KC_nil (Kd.slice 81 k81)) ?_
 refine i_e rfl rfl (e_callF [5, 0] #[.agg #[.int .i64 1, .int .i64 1, .int .i64 2, .int .i64 2, .int .i64 1, .int .i64 1, .int .i64 9], .slice A37_ t28_.length c38_, .slice none 0 0] rfl rfl rfl rfl rfl Try.func18 rfl (by decide) rfl rfl rfl rfl (fun w ht => shape_Rest_con _ 1 1 2 2 1 1 9 A37_ c38_ t28_ none 0 ([] : List (List S81)) true e151_ w _)) ?_
 refine ⟨(mem_pick (idx := [1, 2, 3, 4, 5, 6]) rfl), ?_⟩
 refine a_v 7 rfl (by kernel_rfl) (by kernel_rfl) (by kernel_rfl) rfl rfl rfl (v_pick rfl rfl rfl rfl) ?_
 refine a_v 8 rfl (by kernel_rfl) (by kernel_rfl) (by kernel_rfl) rfl rfl rfl (v_move rfl rfl) ?_
 refine a_v 9 rfl (by kernel_rfl) (by kernel_rfl) (by kernel_rfl) rfl rfl rfl (v_ldA [.int .i64 1, .int .i64 1, .int .i64 2, .int .i64 2, .int .i64 1, .int .i64 1, .int .i64 9] 5 rfl Try.underlying23 rfl SZ23 rfl rfl rfl rfl) ?_
 refine a_v 10 rfl (by kernel_rfl) (by kernel_rfl) (by kernel_rfl) rfl rfl rfl (v_move rfl rfl) ?_
 refine a_1 (i := 11) (by kernel_rfl) ?_
 refine i_e rfl rfl (e_callF [3] #[.agg #[.int .i64 1, .int .i64 1, .int .i64 2, .int .i64 2, .int .i64 1, .int .i64 1, .int .i64 9], .slice A47_ t45_.length c48_, .int .i64 0] rfl rfl rfl rfl rfl Try.func9 rfl (by decide) rfl rfl rfl rfl (fun w ht => shape_Level_con _ 1 1 2 2 1 1 9 A47_ c48_ t45_ 0 t153_ e154_ w _)) ?_
 intro A181_ c182_
 refine ⟨(mem_pick (idx := [2, 3, 4, 5, 6, 7]) rfl), ?_⟩
 refine a_v 12 rfl (by kernel_rfl) (by kernel_rfl) (by kernel_rfl) rfl rfl rfl (v_len rfl rfl rfl Try.underlying24 rfl rfl) ?_
 refine a_v 13 rfl (by kernel_rfl) (by kernel_rfl) (by kernel_rfl) rfl rfl rfl (OpV.cast (v := .bool true) (v_arith rfl rfl rfl rfl) (congrArg Value.bool h157_)) ?_
 refine a_v 14 rfl (by kernel_rfl) (by kernel_rfl) (by kernel_rfl) rfl rfl rfl (v_pick rfl rfl rfl rfl) ?_
 refine a_v 15 rfl (by kernel_rfl) (by kernel_rfl) (by kernel_rfl) rfl rfl rfl (v_move rfl rfl) ?_
 refine a_v 16 rfl (by kernel_rfl) (by kernel_rfl) (by kernel_rfl) rfl rfl rfl (v_ldA [.int .i64 1, .int .i64 1, .int .i64 2, .int .i64 2, .int .i64 1, .int .i64 1, .int .i64 9] 5 rfl Try.underlying23 rfl SZ23 rfl rfl rfl rfl) ?_
 refine a_v 17 rfl (by kernel_rfl) (by kernel_rfl) (by kernel_rfl) rfl rfl rfl (v_move rfl rfl) ?_
 refine a_1 (i := 18) (by kernel_rfl) ?_
 refine i_e rfl rfl (e_callF [4] #[.agg #[.int .i64 1, .int .i64 1, .int .i64 2, .int .i64 2, .int .i64 1, .int .i64 1, .int .i64 9], .slice A47_ t45_.length c48_, .int .i64 1] rfl rfl rfl rfl rfl Try.func9 rfl (by decide) rfl rfl rfl rfl (fun w ht => shape_Level_con _ 1 1 2 2 1 1 9 A47_ c48_ t45_ 1 t158_ e159_ w _)) ?_
 intro A183_ c184_
 refine ⟨(mem_pick (idx := [3, 4, 5, 6, 7, 8]) rfl), ?_⟩
 refine a_v 19 rfl (by kernel_rfl) (by kernel_rfl) (by kernel_rfl) rfl rfl rfl (v_len rfl rfl rfl Try.underlying24 rfl rfl) ?_
 refine a_v 20 rfl (by kernel_rfl) (by kernel_rfl) (by kernel_rfl) rfl rfl rfl (OpV.cast (v := .bool true) (v_arith rfl rfl rfl rfl) (congrArg Value.bool h162_)) ?_
 refine a_v 21 rfl (by kernel_rfl) (by kernel_rfl) (by kernel_rfl) rfl rfl rfl (v_pick rfl rfl rfl rfl) ?_
 refine a_v 22 rfl (by kernel_rfl) (by kernel_rfl) (by kernel_rfl) rfl rfl rfl (v_move rfl rfl) ?_
 refine a_v 23 rfl (by kernel_rfl) (by kernel_rfl) (by kernel_rfl) rfl rfl rfl (v_ldA [.int .i64 1, .int .i64 1, .int .i64 2, .int .i64 2, .int .i64 1, .int .i64 1, .int .i64 9] 5 rfl Try.underlying23 rfl SZ23 rfl rfl rfl rfl) ?_
 refine a_v 24 rfl (by kernel_rfl) (by kernel_rfl) (by kernel_rfl) rfl rfl rfl (v_move rfl rfl) ?_
 refine a_1 (i := 25) (by kernel_rfl) ?_
 refine i_e rfl rfl (e_callF [5] #[.agg #[.int .i64 1, .int .i64 1, .int .i64 2, .int .i64 2, .int .i64 1, .int .i64 1, .int .i64 9], .slice A47_ t45_.length c48_, .int .i64 2] rfl rfl rfl rfl rfl Try.func9 rfl (by decide) rfl rfl rfl rfl (fun w ht => shape_Level_con _ 1 1 2 2 1 1 9 A47_ c48_ t45_ 2 t163_ e164_ w _)) ?_
 intro A185_ c186_
 refine ⟨(mem_pick (idx := [4, 5, 6, 7, 8, 9]) rfl), ?_⟩
 refine a_v 26 rfl (by kernel_rfl) (by kernel_rfl) (by kernel_rfl) rfl rfl rfl (v_len rfl rfl rfl Try.underlying24 rfl rfl) ?_
 refine a_v 27 rfl (by kernel_rfl) (by kernel_rfl) (by kernel_rfl) rfl rfl rfl (OpV.cast (v := .bool true) (v_arith rfl rfl rfl rfl) (congrArg Value.bool h167_)) ?_
 refine a_v 28 rfl (by kernel_rfl) (by kernel_rfl) (by kernel_rfl) rfl rfl rfl (v_pick rfl rfl rfl rfl) ?_
 refine a_v 29 rfl (by kernel_rfl) (by kernel_rfl) (by kernel_rfl) rfl rfl rfl (v_move rfl rfl) ?_
 refine a_v 30 rfl (by kernel_rfl) (by kernel_rfl) (by kernel_rfl) rfl rfl rfl (v_move rfl rfl) ?_
 refine a_v 31 rfl (by kernel_rfl) (by kernel_rfl) (by kernel_rfl) rfl rfl rfl (v_len rfl rfl rfl Try.underlying35 rfl rfl) ?_
 refine a_v 32 rfl (by kernel_rfl) (by kernel_rfl) (by kernel_rfl) rfl rfl rfl (OpV.cast (v := .bool true) (v_arith rfl rfl rfl rfl) (congrArg Value.bool h168_)) ?_
 refine a_v 33 rfl (by kernel_rfl) (by kernel_rfl) (by kernel_rfl) rfl rfl rfl (v_pick rfl rfl rfl rfl) ?_
 refine a_v 34 rfl (by kernel_rfl) (by kernel_rfl) (by kernel_rfl) rfl rfl rfl (v_move rfl rfl) ?_
 refine a_v 35 rfl (by kernel_rfl) (by kernel_rfl) (by kernel_rfl) rfl rfl rfl (v_move rfl rfl) ?_
 refine a_v 36 rfl (by kernel_rfl) (by kernel_rfl) (by kernel_rfl) rfl rfl rfl (v_iaK (i := 0) rfl Try.underlying35 SZ61 rfl rfl rfl rfl (by decide) n169_) ?_
 refine a_v 37 rfl (by kernel_rfl) (by kernel_rfl) (by kernel_rfl) rfl rfl rfl (v_fax rfl Try.underlying61 rfl SZ25 rfl) ?_
 refine a_v 38 rfl (by kernel_rfl) (by kernel_rfl) (by kernel_rfl) rfl rfl rfl (v_ldKf (v := .int .u64 ((rd_T61 t60_ 0).f0)) z61 [.int .u64 ((rd_T61 t60_ 0).f0), .int .u64 ((rd_T61 t60_ 0).f1)] 0 rfl Try.underlying25 rfl rfl rfl rfl (by decide) n169_ (fun w K h => k61_open h) rfl) ?_
 refine a_v 39 rfl (by kernel_rfl) (by kernel_rfl) (by kernel_rfl) rfl rfl rfl (OpV.cast (v := .bool true) (v_arith rfl rfl rfl rfl) (congrArg Value.bool h170_)) ?_
 refine a_v 40 rfl (by kernel_rfl) (by kernel_rfl) (by kernel_rfl) rfl rfl rfl (v_pick rfl rfl rfl rfl) ?_
 refine a_v 41 rfl (by kernel_rfl) (by kernel_rfl) (by kernel_rfl) rfl rfl rfl (v_move rfl rfl) ?_
 refine a_v 42 rfl (by kernel_rfl) (by kernel_rfl) (by kernel_rfl) rfl rfl rfl (v_move rfl rfl) ?_
 refine a_v 43 rfl (by kernel_rfl) (by kernel_rfl) (by kernel_rfl) rfl rfl rfl (v_iaK (i := 0) rfl Try.underlying35 SZ61 rfl rfl rfl rfl (by decide) n169_) ?_
 refine a_v 44 rfl (by kernel_rfl) (by kernel_rfl) (by kernel_rfl) rfl rfl rfl (v_fax rfl Try.underlying61 rfl SZ25 rfl) ?_
 refine a_v 45 rfl (by kernel_rfl) (by kernel_rfl) (by kernel_rfl) rfl rfl rfl (v_ldKf (v := .int .u64 ((rd_T61 t60_ 0).f1)) z61 [.int .u64 ((rd_T61 t60_ 0).f0), .int .u64 ((rd_T61 t60_ 0).f1)] 0 rfl Try.underlying25 rfl rfl rfl rfl (by decide) n169_ (fun w K h => k61_open h) rfl) ?_
 refine a_v 46 rfl (by kernel_rfl) (by kernel_rfl) (by kernel_rfl) rfl rfl rfl (OpV.cast (v := .bool true) (v_arith rfl rfl rfl rfl) (congrArg Value.bool h171_)) ?_
 refine a_v 47 rfl (by kernel_rfl) (by kernel_rfl) (by kernel_rfl) rfl rfl rfl (v_pick rfl rfl rfl rfl) ?_
 refine a_v 48 rfl (by kernel_rfl) (by kernel_rfl) (by kernel_rfl) rfl rfl rfl (v_move rfl rfl) ?_
 refine a_v 49 rfl (by kernel_rfl) (by kernel_rfl) (by kernel_rfl) rfl rfl rfl (v_ldA [.int .i64 1, .int .i64 1, .int .i64 2, .int .i64 2, .int .i64 1, .int .i64 1, .int .i64 9] 5 rfl Try.underlying23 rfl SZ23 rfl rfl rfl rfl) ?_
 refine a_v 50 rfl (by kernel_rfl) (by kernel_rfl) (by kernel_rfl) rfl rfl rfl (v_move rfl rfl) ?_
 refine a_1 (i := 51) (by kernel_rfl) ?_
 refine i_e rfl rfl (e_callF [6] #[.agg #[.int .i64 1, .int .i64 1, .int .i64 2, .int .i64 2, .int .i64 1, .int .i64 1, .int .i64 9], .slice A47_ t45_.length c48_] rfl rfl rfl rfl rfl Try.func17 rfl (by decide) rfl rfl rfl rfl (fun w ht => shape_Right_con _ 1 1 2 2 1 1 9 A47_ c48_ t45_ true e173_ w _)) ?_
 refine ⟨(mem_pick (idx := [4, 5, 6, 7, 8, 9]) rfl), ?_⟩
 refine a_v 52 rfl (by kernel_rfl) (by kernel_rfl) (by kernel_rfl) rfl rfl rfl (v_pick rfl rfl rfl rfl) ?_
 refine a_v 53 rfl (by kernel_rfl) (by kernel_rfl) (by kernel_rfl) rfl rfl rfl (v_move rfl rfl) ?_
 refine a_v 54 rfl (by kernel_rfl) (by kernel_rfl) (by kernel_rfl) rfl rfl rfl (v_ldA [.int .i64 1, .int .i64 1, .int .i64 2, .int .i64 2, .int .i64 1, .int .i64 1, .int .i64 9] 5 rfl Try.underlying23 rfl SZ23 rfl rfl rfl rfl) ?_
 refine a_v 55 rfl (by kernel_rfl) (by kernel_rfl) (by kernel_rfl) rfl rfl rfl (v_move rfl rfl) ?_
 refine a_1 (i := 56) (by kernel_rfl) ?_
 refine i_e rfl rfl (e_callF [6, 3] #[.agg #[.int .i64 1, .int .i64 1, .int .i64 2, .int .i64 2, .int .i64 1, .int .i64 1, .int .i64 9], .slice A47_ t45_.length c48_, .slice none 0 0] rfl rfl rfl rfl rfl Try.func18 rfl (by decide) rfl rfl rfl rfl (fun w ht => shape_Rest_con _ 1 1 2 2 1 1 9 A47_ c48_ t45_ none 0 ([] : List (List S81)) t175_ e176_ w _)) ?_
 refine ⟨(mem_pick (idx := [4, 5, 6, 7, 8, 9]) rfl), ?_⟩
 refine a_v 57 rfl (by kernel_rfl) (by kernel_rfl) (by kernel_rfl) rfl rfl rfl (OpV.cast (v := .bool true) (v_not rfl rfl) (congrArg Value.bool h177_)) ?_
 refine a_v 58 rfl (by kernel_rfl) (by kernel_rfl) (by kernel_rfl) rfl rfl rfl (v_pick rfl rfl rfl rfl) ?_
 refine a_v 59 rfl (by kernel_rfl) (by kernel_rfl) (by kernel_rfl) rfl rfl rfl (v_move rfl rfl) ?_
 refine a_v 60 rfl (by kernel_rfl) (by kernel_rfl) (by kernel_rfl) rfl rfl rfl (v_ldA [.int .i64 1, .int .i64 1, .int .i64 2, .int .i64 2, .int .i64 1, .int .i64 1, .int .i64 9] 5 rfl Try.underlying23 rfl SZ23 rfl rfl rfl rfl) ?_
 refine a_v 61 rfl (by kernel_rfl) (by kernel_rfl) (by kernel_rfl) rfl rfl rfl (v_move rfl rfl) ?_
 refine a_1 (i := 62) (by kernel_rfl) ?_
 refine i_weak 6 rfl (fun w h => KC_drop (Int.toNat 1) 1 rfl (by omega) h) ?_
 refine i_v rfl rfl rfl rfl (OpV.cast (v := .slice (dropA A47_ c48_ (Int.toNat 1) 1) (t45_.drop (Int.toNat 1)).length (c48_ - (Int.toNat 1))) (v_slLo rfl Try.underlying24 SZ25 rfl rfl (by decide) n178_) (by rw [List.length_drop])) ?_
 refine a_1 (i := 63) (by kernel_rfl) ?_
 refine i_e rfl rfl (e_callF [0] #[.agg #[.int .i64 1, .int .i64 1, .int .i64 2, .int .i64 2, .int .i64 1, .int .i64 1, .int .i64 9], .slice (dropA A47_ c48_ (Int.toNat 1) 1) ((t45_.drop (Int.toNat 1)).length) (c48_ - (Int.toNat 1))] rfl rfl rfl rfl rfl Try.func17 rfl (by decide) rfl rfl rfl rfl (fun w ht => shape_Right_con _ 1 1 2 2 1 1 9 (dropA A47_ c48_ (Int.toNat 1) 1) (c48_ - (Int.toNat 1)) (t45_.drop (Int.toNat 1)) t179_ e180_ w _)) ?_
 refine ⟨(mem_pick (idx := [5, 6, 7, 8, 9, 10]) rfl), ?_⟩
 refine a_v 64 rfl (by kernel_rfl) (by kernel_rfl) (by kernel_rfl) rfl rfl rfl (v_not rfl rfl) ?_
 refine a_v 65 rfl (by kernel_rfl) (by kernel_rfl) (by kernel_rfl) rfl rfl rfl (v_pick rfl rfl rfl rfl) ?_
 refine a_v 66 rfl (by kernel_rfl) (by kernel_rfl) (by kernel_rfl) rfl rfl rfl (v_assign rfl rfl) ?_
 refine a_end (by kernel_rfl) ?_
 have hq_0 := Option.some.inj H
 subst hq_0
 exact q_seq (c_frame (subF_spec (by exact ⟨rfl, trivial⟩)) (c_take [5, 6, 7, 8, 9, 10] rfl (by decide) (J_ () trivial)))
 replace H := ite_y (bnot_f h177_) H
 refine r_any [.f (KC k61 z62_.1 z62_.2 t60_), .f (KC k61 A58_ c59_ t56_), .f (KC (Kd.int .u64) A47_ c48_ t45_), .f (KC k46 (some ⟨b44_, 0, none⟩) 2 ([(⟨3, 7, 2, 0, false⟩ : S46), (⟨5, 0, 1, 1, true⟩ : S46)] : List S46)), .f (KC (Kd.int .u64) A37_ c38_ t28_), .b b2_ (.cells #[.int .i64 1, .int .i64 1, .int .i64 2, .int .i64 2, .int .i64 1, .int .i64 1, .int .i64 9] 23 (0, 0))] (by kernel_rfl) rfl (by kernel_rfl) (mem_pick (idx := [0, 1, 2, 3, 4, 5]) rfl) ?_
 refine a_v 0 rfl (by kernel_rfl) (by kernel_rfl) (by kernel_rfl) rfl rfl rfl (v_ldA [.int .i64 1, .int .i64 1, .int .i64 2, .int .i64 2, .int .i64 1, .int .i64 1, .int .i64 9] 5 rfl Try.underlying23 rfl SZ23 rfl rfl rfl rfl) ?_
 refine a_v 1 rfl (by kernel_rfl) (by kernel_rfl) (by kernel_rfl) rfl rfl rfl (v_move rfl rfl) ?_
 refine a_1 (i := 2) (by kernel_rfl) ?_
 refine i_e rfl rfl (e_callF [4] #[.agg #[.int .i64 1, .int .i64 1, .int .i64 2, .int .i64 2, .int .i64 1, .int .i64 1, .int .i64 9], .slice A37_ t28_.length c38_] rfl rfl rfl rfl rfl Try.func17 rfl (by decide) rfl rfl rfl rfl (fun w ht => shape_Right_con _ 1 1 2 2 1 1 9 A37_ c38_ t28_ true e148_ w _)) ?_
 refine ⟨(mem_pick (idx := [0, 1, 2, 3, 4, 5]) rfl), ?_⟩
 refine a_v 3 rfl (by kernel_rfl) (by kernel_rfl) (by kernel_rfl) rfl rfl rfl (v_move rfl rfl) ?_
 refine a_v 4 rfl (by kernel_rfl) (by kernel_rfl) (by kernel_rfl) rfl rfl rfl (v_ldA [.int .i64 1, .int .i64 1, .int .i64 2, .int .i64 2, .int .i64 1, .int .i64 1, .int .i64 9] 5 rfl Try.underlying23 rfl SZ23 rfl rfl rfl rfl) ?_
 refine a_v 5 rfl (by kernel_rfl) (by kernel_rfl) (by kernel_rfl) rfl rfl rfl (v_move rfl rfl) ?_
 refine a_1 (i := 6) (by kernel_rfl) ?_
 refine i_knowT (KC_nil (Kd.slice 81 k81)) ?_
 refine i_e rfl rfl (e_callF [5, 0] #[.agg #[.int .i64 1, .int .i64 1, .int .i64 2, .int .i64 2, .int .i64 1, .int .i64 1, .int .i64 9], .slice A37_ t28_.length c38_, .slice none 0 0] rfl rfl rfl rfl rfl Try.func18 rfl (by decide) rfl rfl rfl rfl (fun w ht => shape_Rest_con _ 1 1 2 2 1 1 9 A37_ c38_ t28_ none 0 ([] : List (List S81)) true e151_ w _)) ?_
 refine ⟨(mem_pick (idx := [1, 2, 3, 4, 5, 6]) rfl), ?_⟩
 refine a_v 7 rfl (by kernel_rfl) (by kernel_rfl) (by kernel_rfl) rfl rfl rfl (v_pick rfl rfl rfl rfl) ?_
 refine a_v 8 rfl (by kernel_rfl) (by kernel_rfl) (by kernel_rfl) rfl rfl rfl (v_move rfl rfl) ?_
 refine a_v 9 rfl (by kernel_rfl) (by kernel_rfl) (by kernel_rfl) rfl rfl rfl (v_ldA [.int .i64 1, .int .i64 1, .int .i64 2, .int .i64 2, .int .i64 1, .int .i64 1, .int .i64 9] 5 rfl Try.underlying23 rfl SZ23 rfl rfl rfl rfl) ?_
 refine a_v 10 rfl (by kernel_rfl) (by kernel_rfl) (by kernel_rfl) rfl rfl rfl (v_move rfl rfl) ?_
 refine a_1 (i := 11) (by kernel_rfl) ?_
 refine i_e rfl rfl (e_callF [3] #[.agg #[.int .i64 1, .int .i64 1, .int .i64 2, .int .i64 2, .int .i64 1, .int .i64 1, .int .i64 9], .slice A47_ t45_.length c48_, .int .i64 0] rfl rfl rfl rfl rfl Try.func9 rfl (by decide) rfl rfl rfl rfl (fun w ht => shape_Level_con _ 1 1 2 2 1 1 9 A47_ c48_ t45_ 0 t153_ e154_ w _)) ?_
 intro A187_ c188_
 refine ⟨(mem_pick (idx := [2, 3, 4, 5, 6, 7]) rfl), ?_⟩
 refine a_v 12 rfl (by kernel_rfl) (by kernel_rfl) (by kernel_rfl) rfl rfl rfl (v_len rfl rfl rfl Try.underlying24 rfl rfl) ?_
 refine a_v 13 rfl (by kernel_rfl) (by kernel_rfl) (by kernel_rfl) rfl rfl rfl (OpV.cast (v := .bool true) (v_arith rfl rfl rfl rfl) (congrArg Value.bool h157_)) ?_
 refine a_v 14 rfl (by kernel_rfl) (by kernel_rfl) (by kernel_rfl) rfl rfl rfl (v_pick rfl rfl rfl rfl) ?_
 refine a_v 15 rfl (by kernel_rfl) (by kernel_rfl) (by kernel_rfl) rfl rfl rfl (v_move rfl rfl) ?_
 refine a_v 16 rfl (by kernel_rfl) (by kernel_rfl) (by kernel_rfl) rfl rfl rfl (v_ldA [.int .i64 1, .int .i64 1, .int .i64 2, .int .i64 2, .int .i64 1, .int .i64 1, .int .i64 9] 5 rfl Try.underlying23 rfl SZ23 rfl rfl rfl rfl) ?_
 refine a_v 17 rfl (by kernel_rfl) (by kernel_rfl) (by kernel_rfl) rfl rfl rfl (v_move rfl rfl) ?_
 refine a_1 (i := 18) (by kernel_rfl) ?_
 refine i_e rfl rfl (e_callF [4] #[.agg #[.int .i64 1, .int .i64 1, .int .i64 2, .int .i64 2, .int .i64 1, .int .i64 1, .int .i64 9], .slice A47_ t45_.length c48_, .int .i64 1] rfl rfl rfl rfl rfl Try.func9 rfl (by decide) rfl rfl rfl rfl (fun w ht => shape_Level_con _ 1 1 2 2 1 1 9 A47_ c48_ t45_ 1 t158_ e159_ w _)) ?_
 intro A189_ c190_
 refine ⟨(mem_pick (idx := [3, 4, 5, 6, 7, 8]) rfl), ?_⟩
 refine a_v 19 rfl (by kernel_rfl) (by kernel_rfl) (by kernel_rfl) rfl rfl rfl (v_len rfl rfl rfl Try.underlying24 rfl rfl) ?_
 refine a_v 20 rfl (by kernel_rfl) (by kernel_rfl) (by kernel_rfl) rfl rfl rfl (OpV.cast (v := .bool true) (v_arith rfl rfl rfl rfl) (congrArg Value.bool h162_)) ?_
 refine a_v 21 rfl (by kernel_rfl) (by kernel_rfl) (by kernel_rfl) rfl rfl rfl (v_pick rfl rfl rfl rfl) ?_
 refine a_v 22 rfl (by kernel_rfl) (by kernel_rfl) (by kernel_rfl) rfl rfl rfl (v_move rfl rfl) ?_
 refine a_v 23 rfl (by kernel_rfl) (by kernel_rfl) (by kernel_rfl) rfl rfl rfl (v_ldA [.int .i64 1, .int .i64 1, .int .i64 2, .int .i64 2, .int .i64 1, .int .i64 1, .int .i64 9] 5 rfl Try.underlying23 rfl SZ23 rfl rfl rfl rfl) ?_
 refine a_v 24 rfl (by kernel_rfl) (by kernel_rfl) (by kernel_rfl) rfl rfl rfl (v_move rfl rfl) ?_
 refine a_1 (i := 25) (by kernel_rfl) ?_
 refine i_e rfl rfl (e_callF [5] #[.agg #[.int .i64 1, .int .i64 1, .int .i64 2, .int .i64 2, .int .i64 1, .int .i64 1, .int .i64 9], .slice A47_ t45_.length c48_, .int .i64 2] rfl rfl rfl rfl rfl Try.func9 rfl (by decide) rfl rfl rfl rfl (fun w ht => shape_Level_con _ 1 1 2 2 1 1 9 A47_ c48_ t45_ 2 t163_ e164_ w _)) ?_
 intro A191_ c192_
 refine ⟨(mem_pick (idx := [4, 5, 6, 7, 8, 9]) rfl), ?_⟩
 refine a_v 26 rfl (by kernel_rfl) (by kernel_rfl) (by kernel_rfl) rfl rfl rfl (v_len rfl rfl rfl Try.underlying24 rfl rfl) ?_
 refine a_v 27 rfl (by kernel_rfl) (by kernel_rfl) (by kernel_rfl) rfl rfl rfl (OpV.cast (v := .bool true) (v_arith rfl rfl rfl rfl) (congrArg Value.bool h167_)) ?_
 refine a_v 28 rfl (by kernel_rfl) (by kernel_rfl) (by kernel_rfl) rfl rfl rfl (v_pick rfl rfl rfl rfl) ?_
 refine a_v 29 rfl (by kernel_rfl) (by kernel_rfl) (by kernel_rfl) rfl rfl rfl (v_move rfl rfl) ?_
 refine a_v 30 rfl (by kernel_rfl) (by kernel_rfl) (by kernel_rfl) rfl rfl rfl (v_move rfl rfl) ?_
 refine a_v 31 rfl (by kernel_rfl) (by kernel_rfl) (by kernel_rfl) rfl rfl rfl (v_len rfl rfl rfl Try.underlying35 rfl rfl) ?_
 refine a_v 32 rfl (by kernel_rfl) (by kernel_rfl) (by kernel_rfl) rfl rfl rfl (OpV.cast (v := .bool true) (v_arith rfl rfl rfl rfl) (congrArg Value.bool h168_)) ?_
 refine a_v 33 rfl (by kernel_rfl) (by kernel_rfl) (by kernel_rfl) rfl rfl rfl (v_pick rfl rfl rfl rfl) ?_
 refine a_v 34 rfl (by kernel_rfl) (by kernel_rfl) (by kernel_rfl) rfl rfl rfl (v_move rfl rfl) ?_
 refine a_v 35 rfl (by kernel_rfl) (by kernel_rfl) (by kernel_rfl) rfl rfl rfl (v_move rfl rfl) ?_
 refine a_v 36 rfl (by kernel_rfl) (by kernel_rfl) (by kernel_rfl) rfl rfl rfl (v_iaK (i := 0) rfl Try.underlying35 SZ61 rfl rfl rfl rfl (by decide) n169_) ?_
 refine a_v 37 rfl (by kernel_rfl) (by kernel_rfl) (by kernel_rfl) rfl rfl rfl (v_fax rfl Try.underlying61 rfl SZ25 rfl) ?_
 refine a_v 38 rfl (by kernel_rfl) (by kernel_rfl) (by kernel_rfl) rfl rfl rfl (v_ldKf (v := .int .u64 ((rd_T61 t60_ 0).f0)) z61 [.int .u64 ((rd_T61 t60_ 0).f0), .int .u64 ((rd_T61 t60_ 0).f1)] 0 rfl Try.underlying25 rfl rfl rfl rfl (by decide) n169_ (fun w K h => k61_open h) rfl) ?_
 refine a_v 39 rfl (by kernel_rfl) (by kernel_rfl) (by kernel_rfl) rfl rfl rfl (OpV.cast (v := .bool true) (v_arith rfl rfl rfl rfl) (congrArg Value.bool h170_)) ?_
 refine a_v 40 rfl (by kernel_rfl) (by kernel_rfl) (by kernel_rfl) rfl rfl rfl (v_pick rfl rfl rfl rfl) ?_
 refine a_v 41 rfl (by kernel_rfl) (by kernel_rfl) (by kernel_rfl) rfl rfl rfl (v_move rfl rfl) ?_
 refine a_v 42 rfl (by kernel_rfl) (by kernel_rfl) (by kernel_rfl) rfl rfl rfl (v_move rfl rfl) ?_
 refine a_v 43 rfl (by kernel_rfl) (by kernel_rfl) (by kernel_rfl) rfl rfl rfl (v_iaK (i := 0) rfl Try.underlying35 SZ61 rfl rfl rfl rfl (by decide) n169_) ?_
 refine a_v 44 rfl (by kernel_rfl) (by kernel_rfl) (by kernel_rfl) rfl rfl rfl (v_fax rfl Try.underlying61 rfl SZ25 rfl) ?_
 refine a_v 45 rfl (by kernel_rfl) (by kernel_rfl) (by kernel_rfl) rfl rfl rfl (v_ldKf (v := .int .u64 ((rd_T61 t60_ 0).f1)) z61 [.int .u64 ((rd_T61 t60_ 0).f0), .int .u64 ((rd_T61 t60_ 0).f1)] 0 rfl Try.underlying25 rfl rfl rfl rfl (by decide) n169_ (fun w K h => k61_open h) rfl) ?_
 refine a_v 46 rfl (by kernel_rfl) (by kernel_rfl) (by kernel_rfl) rfl rfl rfl (OpV.cast (v := .bool true) (v_arith rfl rfl rfl rfl) (congrArg Value.bool h171_)) ?_
 refine a_v 47 rfl (by kernel_rfl) (by kernel_rfl) (by kernel_rfl) rfl rfl rfl (v_pick rfl rfl rfl rfl) ?_
 refine a_v 48 rfl (by kernel_rfl) (by kernel_rfl) (by kernel_rfl) rfl rfl rfl (v_move rfl rfl) ?_
 refine a_v 49 rfl (by kernel_rfl) (by kernel_rfl) (by kernel_rfl) rfl rfl rfl (v_ldA [.int .i64 1, .int .i64 1, .int .i64 2, .int .i64 2, .int .i64 1, .int .i64 1, .int .i64 9] 5 rfl Try.underlying23 rfl SZ23 rfl rfl rfl rfl) ?_
 refine a_v 50 rfl (by kernel_rfl) (by kernel_rfl) (by kernel_rfl) rfl rfl rfl (v_move rfl rfl) ?_
 refine a_1 (i := 51) (by kernel_rfl) ?_
 refine i_e rfl rfl (e_callF [6] #[.agg #[.int .i64 1, .int .i64 1, .int .i64 2, .int .i64 2, .int .i64 1, .int .i64 1, .int .i64 9], .slice A47_ t45_.length c48_] rfl rfl rfl rfl rfl Try.func17 rfl (by decide) rfl rfl rfl rfl (fun w ht => shape_Right_con _ 1 1 2 2 1 1 9 A47_ c48_ t45_ true e173_ w _)) ?_
 refine ⟨(mem_pick (idx := [4, 5, 6, 7, 8, 9]) rfl), ?_⟩
 refine a_v 52 rfl (by kernel_rfl) (by kernel_rfl) (by kernel_rfl) rfl rfl rfl (v_pick rfl rfl rfl rfl) ?_
 refine a_v 53 rfl (by kernel_rfl) (by kernel_rfl) (by kernel_rfl) rfl rfl rfl (v_move rfl rfl) ?_
 refine a_v 54 rfl (by kernel_rfl) (by kernel_rfl) (by kernel_rfl) rfl rfl rfl (v_ldA [.int .i64 1, .int .i64 1, .int .i64 2, .int .i64 2, .int .i64 1, .int .i64 1, .int .i64 9] 5 rfl Try.underlying23 rfl SZ23 rfl rfl rfl rfl) ?_
 refine a_v 55 rfl (by kernel_rfl) (by kernel_rfl) (by kernel_rfl) rfl rfl rfl (v_move rfl rfl) ?_
 refine a_1 (i := 56) (by kernel_rfl) ?_
 refine i_e rfl rfl (e_callF [6, 3] #[.agg #[.int .i64 1, .int .i64 1, .int .i64 2, .int .i64 2, .int .i64 1, .int .i64 1, .int .i64 9], .slice A47_ t45_.length c48_, .slice none 0 0] rfl rfl rfl rfl rfl Try.func18 rfl (by decide) rfl rfl rfl rfl (fun w ht => shape_Rest_con _ 1 1 2 2 1 1 9 A47_ c48_ t45_ none 0 ([] : List (List S81)) t175_ e176_ w _)) ?_
 refine ⟨(mem_pick (idx := [4, 5, 6, 7, 8, 9]) rfl), ?_⟩
 refine a_v 57 rfl (by kernel_rfl) (by kernel_rfl) (by kernel_rfl) rfl rfl rfl (OpV.cast (v := .bool false) (v_not rfl rfl) (congrArg Value.bool h177_)) ?_
 refine a_v 58 rfl (by kernel_rfl) (by kernel_rfl) (by kernel_rfl) rfl rfl rfl (v_pick rfl rfl rfl rfl) ?_
 refine a_v 59 rfl (by kernel_rfl) (by kernel_rfl) (by kernel_rfl) rfl rfl rfl (v_move rfl rfl) ?_
 refine a_no 60 rfl (by kernel_rfl) (by kernel_rfl) (by kernel_rfl) rfl rfl rfl ?_
 refine a_no 61 rfl (by kernel_rfl) (by kernel_rfl) (by kernel_rfl) rfl rfl rfl ?_
 refine a_no 62 rfl (by kernel_rfl) (by kernel_rfl) (by kernel_rfl) rfl rfl rfl ?_
 refine a_no 63 rfl (by kernel_rfl) (by kernel_rfl) (by kernel_rfl) rfl rfl rfl ?_
 refine a_no 64 rfl (by kernel_rfl) (by kernel_rfl) (by kernel_rfl) rfl rfl rfl ?_
 refine a_v 65 rfl (by kernel_rfl) (by kernel_rfl) (by kernel_rfl) rfl rfl rfl (v_pick rfl rfl rfl rfl) ?_
 refine a_v 66 rfl (by kernel_rfl) (by kernel_rfl) (by kernel_rfl) rfl rfl rfl (v_assign rfl rfl) ?_
 refine a_end (by kernel_rfl) ?_
 have hq_0 := Option.some.inj H
 subst hq_0
 exact q_seq (c_frame (subF_spec (by exact ⟨rfl, trivial⟩)) (c_take [4, 5, 6, 7, 8, 9] rfl (by decide) (J_ () trivial)))
 subst h174_
 replace H := ite_n (by decide) H
 refine r_any [.f (KC k61 z62_.1 z62_.2 t60_), .f (KC k61 A58_ c59_ t56_), .f (KC (Kd.int .u64) A47_ c48_ t45_), .f (KC k46 (some ⟨b44_, 0, none⟩) 2 ([(⟨3, 7, 2, 0, false⟩ : S46), (⟨5, 0, 1, 1, true⟩ : S46)] : List S46)), .f (KC (Kd.int .u64) A37_ c38_ t28_), .b b2_ (.cells #[.int .i64 1, .int .i64 1, .int .i64 2, .int .i64 2, .int .i64 1, .int .i64 1, .int .i64 9] 23 (0, 0))] (by kernel_rfl) rfl (by kernel_rfl) (mem_pick (idx := [0, 1, 2, 3, 4, 5]) rfl) ?_
 refine a_v 0 rfl (by kernel_rfl) (by kernel_rfl) (by kernel_rfl) rfl rfl rfl (v_ldA [.int .i64 1, .int .i64 1, .int .i64 2, .int .i64 2, .int .i64 1, .int .i64 1, .int .i64 9] 5 rfl Try.underlying23 rfl SZ23 rfl rfl rfl rfl) ?_
 refine a_v 1 rfl (by kernel_rfl) (by kernel_rfl) (by kernel_rfl) rfl rfl rfl (v_move rfl rfl) ?_
 refine a_1 (i := 2) (by kernel_rfl) ?_
 refine i_e rfl rfl (e_callF [4] #[.agg #[.int .i64 1, .int .i64 1, .int .i64 2, .int .i64 2, .int .i64 1, .int .i64 1, .int .i64 9], .slice A37_ t28_.length c38_] rfl rfl rfl rfl rfl Try.func17 rfl (by decide) rfl rfl rfl rfl (fun w ht => shape_Right_con _ 1 1 2 2 1 1 9 A37_ c38_ t28_ true e148_ w _)) ?_
 refine ⟨(mem_pick (idx := [0, 1, 2, 3, 4, 5]) rfl), ?_⟩
 refine a_v 3 rfl (by kernel_rfl) (by kernel_rfl) (by kernel_rfl) rfl rfl rfl (v_move rfl rfl) ?_
 refine a_v 4 rfl (by kernel_rfl) (by kernel_rfl) (by kernel_rfl) rfl rfl rfl (v_ldA [.int .i64 1, .int .i64 1, .int .i64 2, .int .i64 2, .int .i64 1, .int .i64 1, .int .i64 9] 5 rfl Try.underlying23 rfl SZ23 rfl rfl rfl rfl) ?_
 refine a_v 5 rfl (by kernel_rfl) (by kernel_rfl) (by kernel_rfl) rfl rfl rfl (v_move rfl rfl) ?_
 refine a_1 (i := 6) (by kernel_rfl) ?_
 refine i_knowT (KC_nil (Kd.slice 81 k81)) ?_
 refine i_e rfl rfl (e_callF [5, 0] #[.agg #[.int .i64 1, .int .i64 1, .int .i64 2, .int .i64 2, .int .i64 1, .int .i64 1, .int .i64 9], .slice A37_ t28_.length c38_, .slice none 0 0] rfl rfl rfl rfl rfl Try.func18 rfl (by decide) rfl rfl rfl rfl (fun w ht => shape_Rest_con _ 1 1 2 2 1 1 9 A37_ c38_ t28_ none 0 ([] : List (List S81)) true e151_ w _)) ?_
 refine ⟨(mem_pick (idx := [1, 2, 3, 4, 5, 6]) rfl), ?_⟩
 refine a_v 7 rfl (by kernel_rfl) (by kernel_rfl) (by kernel_rfl) rfl rfl rfl (v_pick rfl rfl rfl rfl) ?_
 refine a_v 8 rfl (by kernel_rfl) (by kernel_rfl) (by kernel_rfl) rfl rfl rfl (v_move rfl rfl) ?_
 refine a_v 9 rfl (by kernel_rfl) (by kernel_rfl) (by kernel_rfl) rfl rfl rfl (v_ldA [.int .i64 1, .int .i64 1, .int .i64 2, .int .i64 2, .int .i64 1, .int .i64 1, .int .i64 9] 5 rfl Try.underlying23 rfl SZ23 rfl rfl rfl rfl) ?_
 refine a_v 10 rfl (by kernel_rfl) (by kernel_rfl) (by kernel_rfl) rfl rfl rfl (v_move rfl rfl) ?_
 refine a_1 (i := 11) (by kernel_rfl) ?_
 refine i_e rfl rfl (e_callF [3] #[.agg #[.int .i64 1, .int .i64 1, .int .i64 2, .int .i64 2, .int .i64 1, .int .i64 1, .int .i64 9], .slice A47_ t45_.length c48_, .int .i64 0] rfl rfl rfl rfl rfl Try.func9 rfl (by decide) rfl rfl rfl rfl (fun w ht => shape_Level_con _ 1 1 2 2 1 1 9 A47_ c48_ t45_ 0 t153_ e154_ w _)) ?_
 intro A193_ c194_
 refine ⟨(mem_pick (idx := [2, 3, 4, 5, 6, 7]) rfl), ?_⟩
 refine a_v 12 rfl (by kernel_rfl) (by kernel_rfl) (by kernel_rfl) rfl rfl rfl (v_len rfl rfl rfl Try.underlying24 rfl rfl) ?_
 refine a_v 13 rfl (by kernel_rfl) (by kernel_rfl) (by kernel_rfl) rfl rfl rfl (OpV.cast (v := .bool true) (v_arith rfl rfl rfl rfl) (congrArg Value.bool h157_)) ?_
 refine a_v 14 rfl (by kernel_rfl) (by kernel_rfl) (by kernel_rfl) rfl rfl rfl (v_pick rfl rfl rfl rfl) ?_
 refine a_v 15 rfl (by kernel_rfl) (by kernel_rfl) (by kernel_rfl) rfl rfl rfl (v_move rfl rfl) ?_
 refine a_v 16 rfl (by kernel_rfl) (by kernel_rfl) (by kernel_rfl) rfl rfl rfl (v_ldA [.int .i64 1, .int .i64 1, .int .i64 2, .int .i64 2, .int .i64 1, .int .i64 1, .int .i64 9] 5 rfl Try.underlying23 rfl SZ23 rfl rfl rfl rfl) ?_
 refine a_v 17 rfl (by kernel_rfl) (by kernel_rfl) (by kernel_rfl) rfl rfl rfl (v_move rfl rfl) ?_
 refine a_1 (i := 18) (by kernel_rfl) ?_
 refine i_e rfl rfl (e_callF [4] #[.agg #[.int .i64 1, .int .i64 1, .int .i64 2, .int .i64 2, .int .i64 1, .int .i64 1, .int .i64 9], .slice A47_ t45_.length c48_, .int .i64 1] rfl rfl rfl rfl rfl Try.func9 rfl (by decide) rfl rfl rfl rfl (fun w ht => shape_Level_con _ 1 1 2 2 1 1 9 A47_ c48_ t45_ 1 t158_ e159_ w _)) ?_
 intro A195_ c196_
 refine ⟨(mem_pick (idx := [3, 4, 5, 6, 7, 8]) rfl), ?_⟩
 refine a_v 19 rfl (by kernel_rfl) (by kernel_rfl) (by kernel_rfl) rfl rfl rfl (v_len rfl rfl rfl Try.underlying24 rfl rfl) ?_
 refine a_v 20 rfl (by kernel_rfl) (by kernel_rfl) (by kernel_rfl) rfl rfl rfl (OpV.cast (v := .bool true) (v_arith rfl rfl rfl rfl) (congrArg Value.bool h162_)) ?_
 refine a_v 21 rfl (by kernel_rfl) (by kernel_rfl) (by kernel_rfl) rfl rfl rfl (v_pick rfl rfl rfl rfl) ?_
 refine a_v 22 rfl (by kernel_rfl) (by kernel_rfl) (by kernel_rfl) rfl rfl rfl (v_move rfl rfl) ?_
 refine a_v 23 rfl (by kernel_rfl) (by kernel_rfl) (by kernel_rfl) rfl rfl rfl (v_ldA [.int .i64 1, .int .i64 1, .int .i64 2, .int .i64 2, .int .i64 1, .int .i64 1, .int .i64 9] 5 rfl Try.underlying23 rfl SZ23 rfl rfl rfl rfl) ?_
 refine a_v 24 rfl (by kernel_rfl) (by kernel_rfl) (by kernel_rfl) rfl rfl rfl (v_move rfl rfl) ?_
 refine a_1 (i := 25) (by kernel_rfl) ?_
 refine i_e rfl rfl (e_callF [5] #[.agg #[.int .i64 1, .int .i64 1, .int .i64 2, .int .i64 2, .int .i64 1, .int .i64 1, .int .i64 9], .slice A47_ t45_.length c48_, .int .i64 2] rfl rfl rfl rfl rfl Try.func9 rfl (by decide) rfl rfl rfl rfl (fun w ht => shape_Level_con _ 1 1 2 2 1 1 9 A47_ c48_ t45_ 2 t163_ e164_ w _)) ?_
 intro A197_ c198_
 refine ⟨(mem_pick (idx := [4, 5, 6, 7, 8, 9]) rfl), ?_⟩
 refine a_v 26 rfl (by kernel_rfl) (by kernel_rfl) (by kernel_rfl) rfl rfl rfl (v_len rfl rfl rfl Try.underlying24 rfl rfl) ?_
 refine a_v 27 rfl (by kernel_rfl) (by kernel_rfl) (by kernel_rfl) rfl rfl rfl (OpV.cast (v := .bool true) (v_arith rfl rfl rfl rfl) (congrArg Value.bool h167_)) ?_
 refine a_v 28 rfl (by kernel_rfl) (by kernel_rfl) (by kernel_rfl) rfl rfl rfl (v_pick rfl rfl rfl rfl) ?_
 refine a_v 29 rfl (by kernel_rfl) (by kernel_rfl) (by kernel_rfl) rfl rfl rfl (v_move rfl rfl) ?_
 refine a_v 30 rfl (by kernel_rfl) (by kernel_rfl) (by kernel_rfl) rfl rfl rfl (v_move rfl rfl) ?_
 refine a_v 31 rfl (by kernel_rfl) (by kernel_rfl) (by kernel_rfl) rfl rfl rfl (v_len rfl rfl rfl Try.underlying35 rfl rfl) ?_
 refine a_v 32 rfl (by kernel_rfl) (by kernel_rfl) (by kernel_rfl) rfl rfl rfl (OpV.cast (v := .bool true) (v_arith rfl rfl rfl rfl) (congrArg Value.bool h168_)) ?_
 refine a_v 33 rfl (by kernel_rfl) (by kernel_rfl) (by kernel_rfl) rfl rfl rfl (v_pick rfl rfl rfl rfl) ?_
 refine a_v 34 rfl (by kernel_rfl) (by kernel_rfl) (by kernel_rfl) rfl rfl rfl (v_move rfl rfl) ?_
 refine a_v 35 rfl (by kernel_rfl) (by kernel_rfl) (by kernel_rfl) rfl rfl rfl (v_move rfl rfl) ?_
 refine a_v 36 rfl (by kernel_rfl) (by kernel_rfl) (by kernel_rfl) rfl rfl rfl (v_iaK (i := 0) rfl Try.underlying35 SZ61 rfl rfl rfl rfl (by decide) n169_) ?_
 refine a_v 37 rfl (by kernel_rfl) (by kernel_rfl) (by kernel_rfl) rfl rfl rfl (v_fax rfl Try.underlying61 rfl SZ25 rfl) ?_
 refine a_v 38 rfl (by kernel_rfl) (by kernel_rfl) (by kernel_rfl) rfl rfl rfl (v_ldKf (v := .int .u64 ((rd_T61 t60_ 0).f0)) z61 [.int .u64 ((rd_T61 t60_ 0).f0), .int .u64 ((rd_T61 t60_ 0).f1)] 0 rfl Try.underlying25 rfl rfl rfl rfl (by decide) n169_ (fun w K h => k61_open h) rfl) ?_
 refine a_v 39 rfl (by kernel_rfl) (by kernel_rfl) (by kernel_rfl) rfl rfl rfl (OpV.cast (v := .bool true) (v_arith rfl rfl rfl rfl) (congrArg Value.bool h170_)) ?_
 refine a_v 40 rfl (by kernel_rfl) (by kernel_rfl) (by kernel_rfl) rfl rfl rfl (v_pick rfl rfl rfl rfl) ?_
 refine a_v 41 rfl (by kernel_rfl) (by kernel_rfl) (by kernel_rfl) rfl rfl rfl (v_move rfl rfl) ?_
 refine a_v 42 rfl (by kernel_rfl) (by kernel_rfl) (by kernel_rfl) rfl rfl rfl (v_move rfl rfl) ?_
 refine a_v 43 rfl (by kernel_rfl) (by kernel_rfl) (by kernel_rfl) rfl rfl rfl (v_iaK (i := 0) rfl Try.underlying35 SZ61 rfl rfl rfl rfl (by decide) n169_) ?_
 refine a_v 44 rfl (by kernel_rfl) (by kernel_rfl) (by kernel_rfl) rfl rfl rfl (v_fax rfl Try.underlying61 rfl SZ25 rfl) ?_
 refine a_v 45 rfl (by kernel_rfl) (by kernel_rfl) (by kernel_rfl) rfl rfl rfl (v_ldKf (v := .int .u64 ((rd_T61 t60_ 0).f1)) z61 [.int .u64 ((rd_T61 t60_ 0).f0), .int .u64 ((rd_T61 t60_ 0).f1)] 0 rfl Try.underlying25 rfl rfl rfl rfl (by decide) n169_ (fun w K h => k61_open h) rfl) ?_
 refine a_v 46 rfl (by kernel_rfl) (by kernel_rfl) (by kernel_rfl) rfl rfl rfl (OpV.cast (v := .bool true) (v_arith rfl rfl rfl rfl) (congrArg Value.bool h171_)) ?_
 refine a_v 47 rfl (by kernel_rfl) (by kernel_rfl) (by kernel_rfl) rfl rfl rfl (v_pick rfl rfl rfl rfl) ?_
 refine a_v 48 rfl (by kernel_rfl) (by kernel_rfl) (by kernel_rfl) rfl rfl rfl (v_move rfl rfl) ?_
 refine a_v 49 rfl (by kernel_rfl) (by kernel_rfl) (by kernel_rfl) rfl rfl rfl (v_ldA [.int .i64 1, .int .i64 1, .int .i64 2, .int .i64 2, .int .i64 1, .int .i64 1, .int .i64 9] 5 rfl Try.underlying23 rfl SZ23 rfl rfl rfl rfl) ?_
 refine a_v 50 rfl (by kernel_rfl) (by kernel_rfl) (by kernel_rfl) rfl rfl rfl (v_move rfl rfl) ?_
 refine a_1 (i := 51) (by kernel_rfl) ?_
 refine i_e rfl rfl (e_callF [6] #[.agg #[.int .i64 1, .int .i64 1, .int .i64 2, .int .i64 2, .int .i64 1, .int .i64 1, .int .i64 9], .slice A47_ t45_.length c48_] rfl rfl rfl rfl rfl Try.func17 rfl (by decide) rfl rfl rfl rfl (fun w ht => shape_Right_con _ 1 1 2 2 1 1 9 A47_ c48_ t45_ false e173_ w _)) ?_
 refine ⟨(mem_pick (idx := [4, 5, 6, 7, 8, 9]) rfl), ?_⟩
 refine a_v 52 rfl (by kernel_rfl) (by kernel_rfl) (by kernel_rfl) rfl rfl rfl (v_pick rfl rfl rfl rfl) ?_
 refine a_v 53 rfl (by kernel_rfl) (by kernel_rfl) (by kernel_rfl) rfl rfl rfl (v_move rfl rfl) ?_
 refine a_no 54 rfl (by kernel_rfl) (by kernel_rfl) (by kernel_rfl) rfl rfl rfl ?_
 refine a_no 55 rfl (by kernel_rfl) (by kernel_rfl) (by kernel_rfl) rfl rfl rfl ?_
 refine a_no 56 rfl (by kernel_rfl) (by kernel_rfl) (by kernel_rfl) rfl rfl rfl ?_
 refine a_no 57 rfl (by kernel_rfl) (by kernel_rfl) (by kernel_rfl) rfl rfl rfl ?_
 refine a_v 58 rfl (by kernel_rfl) (by kernel_rfl) (by kernel_rfl) rfl rfl rfl (v_pick rfl rfl rfl rfl) ?_
 refine a_v 59 rfl (by kernel_rfl) (by kernel_rfl) (by kernel_rfl) rfl rfl rfl (v_move rfl rfl) ?_
 refine a_no 60 rfl (by kernel_rfl) (by kernel_rfl) (by kernel_rfl) rfl rfl rfl ?_
 refine a_no 61 rfl (by kernel_rfl) (by kernel_rfl) (by kernel_rfl) rfl rfl rfl ?_
 refine a_no 62 rfl (by kernel_rfl) (by kernel_rfl) (by kernel_rfl) rfl rfl rfl ?_
 refine a_no 63 rfl (by kernel_rfl) (by kernel_rfl) (by kernel_rfl) rfl rfl rfl ?_
 refine a_no 64 rfl (by kernel_rfl) (by kernel_rfl) (by kernel_rfl) rfl rfl rfl ?_
 refine a_v 65 rfl (by kernel_rfl) (by kernel_rfl) (by kernel_rfl) rfl rfl rfl (v_pick rfl rfl rfl rfl) ?_
 refine a_v 66 rfl (by kernel_rfl) (by kernel_rfl) (by kernel_rfl) rfl rfl rfl (v_assign rfl rfl) ?_
 refine a_end (by kernel_rfl) ?_
 have hq_0 := Option.some.inj H
 subst hq_0
 exact q_seq (c_frame (subF_spec (by exact ⟨rfl, trivial⟩)) (c_take [4, 5, 6, 7, 8, 9] rfl (by decide) (J_ () trivial)))
 replace H := ite_n (ibeq_f h171_) H
 refine r_any [.f (KC k61 z62_.1 z62_.2 t60_), .f (KC k61 A58_ c59_ t56_), .f (KC (Kd.int .u64) A47_ c48_ t45_), .f (KC k46 (some ⟨b44_, 0, none⟩) 2 ([(⟨3, 7, 2, 0, false⟩ : S46), (⟨5, 0, 1, 1, true⟩ : S46)] : List S46)), .f (KC (Kd.int .u64) A37_ c38_ t28_), .b b2_ (.cells #[.int .i64 1, .int .i64 1, .int .i64 2, .int .i64 2, .int .i64 1, .int .i64 1, .int .i64 9] 23 (0, 0))] (by kernel_rfl) rfl (by kernel_rfl) (mem_pick (idx := [0, 1, 2, 3, 4, 5]) rfl) ?_
 refine a_v 0 rfl (by kernel_rfl) (by kernel_rfl) (by kernel_rfl) rfl rfl rfl (v_ldA [.int .i64 1, .int .i64 1, .int .i64 2, .int .i64 2, .int .i64 1, .int .i64 1, .int .i64 9] 5 rfl Try.underlying23 rfl SZ23 rfl rfl rfl rfl) ?_
 refine a_v 1 rfl (by kernel_rfl) (by kernel_rfl) (by kernel_rfl) rfl rfl rfl (v_move rfl rfl) ?_
 refine a_1 (i := 2) (by kernel_rfl) ?_
 refine i_e rfl rfl (e_callF [4] #[.agg #[.int .i64 1, .int .i64 1, .int .i64 2, .int .i64 2, .int .i64 1, .int .i64 1, .int .i64 9], .slice A37_ t28_.length c38_] rfl rfl rfl rfl rfl Try.func17 rfl (by decide) rfl rfl rfl rfl (fun w ht => shape_Right_con _ 1 1 2 2 1 1 9 A37_ c38_ t28_ true e148_ w _)) ?_
 refine ⟨(mem_pick (idx := [0, 1, 2, 3, 4, 5]) rfl), ?_⟩
 refine a_v 3 rfl (by kernel_rfl) (by kernel_rfl) (by kernel_rfl) rfl rfl rfl (v_move rfl rfl) ?_
 refine a_v 4 rfl (by kernel_rfl) (by kernel_rfl) (by kernel_rfl) rfl rfl rfl (v_ldA [.int .i64 1, .int .i64 1, .int .i64 2, .int .i64 2, .int .i64 1, .int .i64 1, .int .i64 9] 5 rfl Try.underlying23 rfl SZ23 rfl rfl rfl rfl) ?_
 refine a_v 5 rfl (by kernel_rfl) (by kernel_rfl) (by kernel_rfl) rfl rfl rfl (v_move rfl rfl) ?_
 refine a_1 (i := 6) (by kernel_rfl) ?_
 refine i_knowT (KC_nil (Kd.slice 81 k81)) ?_
 refine i_e rfl rfl (e_callF [5, 0] #[.agg #[.int .i64 1, .int .i64 1, .int .i64 2, .int .i64 2, .int .i64 1, .int .i64 1, .int .i64 9], .slice A37_ t28_.length c38_, .slice none 0 0] rfl rfl rfl rfl rfl Try.func18 rfl (by decide) rfl rfl rfl rfl (fun w ht => shape_Rest_con _ 1 1 2 2 1 1 9 A37_ c38_ t28_ none 0 ([] : List (List S81)) true e151_ w _)) ?_
 refine ⟨(mem_pick (idx := [1, 2, 3, 4, 5, 6]) rfl), ?_⟩
 refine a_v 7 rfl (by kernel_rfl) (by kernel_rfl) (by kernel_rfl) rfl rfl rfl (v_pick rfl rfl rfl rfl) ?_
 refine a_v 8 rfl (by kernel_rfl) (by kernel_rfl) (by kernel_rfl) rfl rfl rfl (v_move rfl rfl) ?_
 refine a_v 9 rfl (by kernel_rfl) (by kernel_rfl) (by kernel_rfl) rfl rfl rfl (v_ldA [.int .i64 1, .int .i64 1, .int .i64 2, .int .i64 2, .int .i64 1, .int .i64 1, .int .i64 9] 5 rfl Try.underlying23 rfl SZ23 rfl rfl rfl rfl) ?_
 refine a_v 10 rfl (by kernel_rfl) (by kernel_rfl) (by kernel_rfl) rfl rfl rfl (v_move rfl rfl) ?_
 refine a_1 (i := 11) (by kernel_rfl) ?_
 refine i_e rfl rfl (e_callF [3] #[.agg #[.int .i64 1, .int .i64 1, .int .i64 2, .int .i64 2, .int .i64 1, .int .i64 1, .int .i64 9], .slice A47_ t45_.length c48_, .int .i64 0] rfl rfl rfl rfl rfl Try.func9 rfl (by decide) rfl rfl rfl rfl (fun w ht => shape_Level_con _ 1 1 2 2 1 1 9 A47_ c48_ t45_ 0 t153_ e154_ w _)) ?_
 intro A199_ c200_
 refine ⟨(mem_pick (idx := [2, 3, 4, 5, 6, 7]) rfl), ?_⟩
 refine a_v 12 rfl (by kernel_rfl) (by kernel_rfl) (by kernel_rfl) rfl rfl rfl (v_len rfl rfl rfl Try.underlying24 rfl rfl) ?_
 refine a_v 13 rfl (by kernel_rfl) (by kernel_rfl) (by kernel_rfl) rfl rfl rfl (OpV.cast (v := .bool true) (v_arith rfl rfl rfl rfl) (congrArg Value.bool h157_)) ?_
 refine a_v 14 rfl (by kernel_rfl) (by kernel_rfl) (by kernel_rfl) rfl rfl rfl (v_pick rfl rfl rfl rfl) ?_
 refine a_v 15 rfl (by kernel_rfl) (by kernel_rfl) (by kernel_rfl) rfl rfl rfl (v_move rfl rfl) ?_
 refine a_v 16 rfl (by kernel_rfl) (by kernel_rfl) (by kernel_rfl) rfl rfl rfl (v_ldA [.int .i64 1, .int .i64 1, .int .i64 2, .int .i64 2, .int .i64 1, .int .i64 1, .int .i64 9] 5 rfl Try.underlying23 rfl SZ23 rfl rfl rfl rfl) ?_
 refine a_v 17 rfl (by kernel_rfl) (by kernel_rfl) (by kernel_rfl) rfl rfl rfl (v_move rfl rfl) ?_
 refine a_1 (i := 18) (by kernel_rfl) ?_
 refine i_e rfl rfl (e_callF [4] #[.agg #[.int .i64 1, .int .i64 1, .int .i64 2, .int .i64 2, .int .i64 1, .int .i64 1, .int .i64 9], .slice A47_ t45_.length c48_, .int .i64 1] rfl rfl rfl rfl rfl Try.func9 rfl (by decide) rfl rfl rfl rfl (fun w ht => shape_Level_con _ 1 1 2 2 1 1 9 A47_ c48_ t45_ 1 t158_ e159_ w _)) ?_
 intro A201_ c202_
 refine ⟨(mem_pick (idx := [3, 4, 5, 6, 7, 8]) rfl), ?_⟩
 refine a_v 19 rfl (by kernel_rfl) (by kernel_rfl) (by kernel_rfl) rfl rfl rfl (v_len rfl rfl rfl Try.underlying24 rfl rfl) ?_
 refine a_v 20 rfl (by kernel_rfl) (by kernel_rfl) (by kernel_rfl) rfl rfl rfl (OpV.cast (v := .bool true) (v_arith rfl rfl rfl rfl) (congrArg Value.bool h162_)) ?_
 refine a_v 21 rfl (by kernel_rfl) (by kernel_rfl) (by kernel_rfl) rfl rfl rfl (v_pick rfl rfl rfl rfl) ?_
 refine a_v 22 rfl (by kernel_rfl) (by kernel_rfl) (by kernel_rfl) rfl rfl rfl (v_move rfl rfl) ?_
 refine a_v 23 rfl (by kernel_rfl) (by kernel_rfl) (by kernel_rfl) rfl rfl rfl (v_ldA [.int .i64 1, .int .i64 1, .int .i64 2, .int .i64 2, .int .i64 1, .int .i64 1, .int .i64 9] 5 rfl Try.underlying23 rfl SZ23 rfl rfl rfl rfl) ?_
 refine a_v 24 rfl (by kernel_rfl) (by kernel_rfl) (by kernel_rfl) rfl rfl rfl (v_move rfl rfl) ?_
 refine a_1 (i := 25) (by kernel_rfl) ?_
 refine i_e rfl rfl (e_callF [5] #[.agg #[.int .i64 1, .int .i64 1, .int .i64 2, .int .i64 2, .int .i64 1, .int .i64 1, .int .i64 9], .slice A47_ t45_.length c48_, .int .i64 2] rfl rfl rfl rfl rfl Try.func9 rfl (by decide) rfl rfl rfl rfl (fun w ht => shape_Level_con _ 1 1 2 2 1 1 9 A47_ c48_ t45_ 2 t163_ e164_ w _)) ?_
 intro A203_ c204_
 refine ⟨(mem_pick (idx := [4, 5, 6, 7, 8, 9]) rfl), ?_⟩
 refine a_v 26 rfl (by kernel_rfl) (by kernel_rfl) (by kernel_rfl) rfl rfl rfl (v_len rfl rfl rfl Try.underlying24 rfl rfl) ?_
 refine a_v 27 rfl (by kernel_rfl) (by kernel_rfl) (by kernel_rfl) rfl rfl rfl (OpV.cast (v := .bool true) (v_arith rfl rfl rfl rfl) (congrArg Value.bool h167_)) ?_
 refine a_v 28 rfl (by kernel_rfl) (by kernel_rfl) (by kernel_rfl) rfl rfl rfl (v_pick rfl rfl rfl rfl) ?_
 refine a_v 29 rfl (by kernel_rfl) (by kernel_rfl) (by kernel_rfl) rfl rfl rfl (v_move rfl rfl) ?_
 refine a_v 30 rfl (by kernel_rfl) (by kernel_rfl) (by kernel_rfl) rfl rfl rfl (v_move rfl rfl) ?_
 refine a_v 31 rfl (by kernel_rfl) (by kernel_rfl) (by kernel_rfl) rfl rfl rfl (v_len rfl rfl rfl Try.underlying35 rfl rfl) ?_
 refine a_v 32 rfl (by kernel_rfl) (by kernel_rfl) (by kernel_rfl) rfl rfl rfl (OpV.cast (v := .bool true) (v_arith rfl rfl rfl rfl) (congrArg Value.bool h168_)) ?_
 refine a_v 33 rfl (by kernel_rfl) (by kernel_rfl) (by kernel_rfl) rfl rfl rfl (v_pick rfl rfl rfl rfl) ?_
 refine a_v 34 rfl (by kernel_rfl) (by kernel_rfl) (by kernel_rfl) rfl rfl rfl (v_move rfl rfl) ?_
 refine a_v 35 rfl (by kernel_rfl) (by kernel_rfl) (by kernel_rfl) rfl rfl rfl (v_move rfl rfl) ?_
 refine a_v 36 rfl (by kernel_rfl) (by kernel_rfl) (by kernel_rfl) rfl rfl rfl (v_iaK (i := 0) rfl Try.underlying35 SZ61 rfl rfl rfl rfl (by decide) n169_) ?_
 refine a_v 37 rfl (by kernel_rfl) (by kernel_rfl) (by kernel_rfl) rfl rfl rfl (v_fax rfl Try.underlying61 rfl SZ25 rfl) ?_
 refine a_v 38 rfl (by kernel_rfl) (by kernel_rfl) (by kernel_rfl) rfl rfl rfl (v_ldKf (v := .int .u64 ((rd_T61 t60_ 0).f0)) z61 [.int .u64 ((rd_T61 t60_ 0).f0), .int .u64 ((rd_T61 t60_ 0).f1)] 0 rfl Try.underlying25 rfl rfl rfl rfl (by decide) n169_ (fun w K h => k61_open h) rfl) ?_
 refine a_v 39 rfl (by kernel_rfl) (by kernel_rfl) (by kernel_rfl) rfl rfl rfl (OpV.cast (v := .bool true) (v_arith rfl rfl rfl rfl) (congrArg Value.bool h170_)) ?_
 refine a_v 40 rfl (by kernel_rfl) (by kernel_rfl) (by kernel_rfl) rfl rfl rfl (v_pick rfl rfl rfl rfl) ?_
 refine a_v 41 rfl (by kernel_rfl) (by kernel_rfl) (by kernel_rfl) rfl rfl rfl (v_move rfl rfl) ?_
 refine a_v 42 rfl (by kernel_rfl) (by kernel_rfl) (by kernel_rfl) rfl rfl rfl (v_move rfl rfl) ?_
 refine a_v 43 rfl (by kernel_rfl) (by kernel_rfl) (by kernel_rfl) rfl rfl rfl (v_iaK (i := 0) rfl Try.underlying35 SZ61 rfl rfl rfl rfl (by decide) n169_) ?_
 refine a_v 44 rfl (by kernel_rfl) (by kernel_rfl) (by kernel_rfl) rfl rfl rfl (v_fax rfl Try.underlying61 rfl SZ25 rfl) ?_
 refine a_v 45 rfl (by kernel_rfl) (by kernel_rfl) (by kernel_rfl) rfl rfl rfl (v_ldKf (v := .int .u64 ((rd_T61 t60_ 0).f1)) z61 [.int .u64 ((rd_T61 t60_ 0).f0), .int .u64 ((rd_T61 t60_ 0).f1)] 0 rfl Try.underlying25 rfl rfl rfl rfl (by decide) n169_ (fun w K h => k61_open h) rfl) ?_
 refine a_v 46 rfl (by kernel_rfl) (by kernel_rfl) (by kernel_rfl) rfl rfl rfl (OpV.cast (v := .bool false) (v_arith rfl rfl rfl rfl) (congrArg Value.bool h171_)) ?_
 refine a_v 47 rfl (by kernel_rfl) (by kernel_rfl) (by kernel_rfl) rfl rfl rfl (v_pick rfl rfl rfl rfl) ?_
 refine a_v 48 rfl (by kernel_rfl) (by kernel_rfl) (by kernel_rfl) rfl rfl rfl (v_move rfl rfl) ?_
 refine a_no 49 rfl (by kernel_rfl) (by kernel_rfl) (by kernel_rfl) rfl rfl rfl ?_
 refine a_no 50 rfl (by kernel_rfl) (by kernel_rfl) (by kernel_rfl) rfl rfl rfl ?_
 refine a_no 51 rfl (by kernel_rfl) (by kernel_rfl) (by kernel_rfl) rfl rfl rfl ?_
 refine a_v 52 rfl (by kernel_rfl) (by kernel_rfl) (by kernel_rfl) rfl rfl rfl (v_pick rfl rfl rfl rfl) ?_
 refine a_v 53 rfl (by kernel_rfl) (by kernel_rfl) (by kernel_rfl) rfl rfl rfl (v_move rfl rfl) ?_
 refine a_no 54 rfl (by kernel_rfl) (by kernel_rfl) (by kernel_rfl) rfl rfl rfl ?_
 refine a_no 55 rfl (by kernel_rfl) (by kernel_rfl) (by kernel_rfl) rfl rfl rfl ?_
 refine a_no 56 rfl (by kernel_rfl) (by kernel_rfl) (by kernel_rfl) rfl rfl rfl ?_
 refine a_no 57 rfl (by kernel_rfl) (by kernel_rfl) (by kernel_rfl) rfl rfl rfl ?_
 refine a_v 58 rfl (by kernel_rfl) (by kernel_rfl) (by kernel_rfl) rfl rfl rfl (v_pick rfl rfl rfl rfl) ?_
 refine a_v 59 rfl (by kernel_rfl) (by kernel_rfl) (by kernel_rfl) rfl rfl rfl (v_move rfl rfl) ?_
 refine a_no 60 rfl (by kernel_rfl) (by kernel_rfl) (by kernel_rfl) rfl rfl rfl ?_
 refine a_no 61 rfl (by kernel_rfl) (by kernel_rfl) (by kernel_rfl) rfl rfl rfl ?_
 refine a_no 62 rfl (by kernel_rfl) (by kernel_rfl) (by kernel_rfl) rfl rfl rfl ?_
 refine a_no 63 rfl (by kernel_rfl) (by kernel_rfl) (by kernel_rfl) rfl rfl rfl ?_
 refine a_no 64 rfl (by kernel_rfl) (by kernel_rfl) (by kernel_rfl) rfl rfl rfl ?_
 refine a_v 65 rfl (by kernel_rfl) (by kernel_rfl) (by kernel_rfl) rfl rfl rfl (v_pick rfl rfl rfl rfl) ?_
 refine a_v 66 rfl (by kernel_rfl) (by kernel_rfl) (by kernel_rfl) rfl rfl rfl (v_assign rfl rfl) ?_
 refine a_end (by kernel_rfl) ?_
 have hq_0 := Option.some.inj H
 subst hq_0
 exact q_seq (c_frame (subF_spec (by exact ⟨rfl, trivial⟩)) (c_take [4, 5, 6, 7, 8, 9] rfl (by decide) (J_ () trivial)))
 replace H := ite_n (ibeq_f h170_) H
 refine r_any [.f (KC k61 z62_.1 z62_.2 t60_), .f (KC k61 A58_ c59_ t56_), .f (KC (Kd.int .u64) A47_ c48_ t45_), .f (KC k46 (some ⟨b44_, 0, none⟩) 2 ([(⟨3, 7, 2, 0, false⟩ : S46), (⟨5, 0, 1, 1, true⟩ : S46)] : List S46)), .f (KC (Kd.int .u64) A37_ c38_ t28_), .b b2_ (.cells #[.int .i64 1, .int .i64 1, .int .i64 2, .int .i64 2, .int .i64 1, .int .i64 1, .int .i64 9] 23 (0, 0))] (by kernel_rfl) rfl (by kernel_rfl) (mem_pick (idx := [0, 1, 2, 3, 4, 5]) rfl) ?_
 refine a_v 0 rfl (by kernel_rfl) (by kernel_rfl) (by kernel_rfl) rfl rfl rfl (v_ldA [.int .i64 1, .int .i64 1, .int .i64 2, .int .i64 2, .int .i64 1, .int .i64 1, .int .i64 9] 5 rfl Try.underlying23 rfl SZ23 rfl rfl rfl rfl) ?_
 refine a_v 1 rfl (by kernel_rfl) (by kernel_rfl) (by kernel_rfl) rfl rfl rfl (v_move rfl rfl) ?_
 refine a_1 (i := 2) (by kernel_rfl) ?_
 refine i_e rfl rfl (e_callF [4] #[.agg #[.int .i64 1, .int .i64 1, .int .i64 2, .int .i64 2, .int .i64 1, .int .i64 1, .int .i64 9], .slice A37_ t28_.length c38_] rfl rfl rfl rfl rfl Try.func17 rfl (by decide) rfl rfl rfl rfl (fun w ht => shape_Right_con _ 1 1 2 2 1 1 9 A37_ c38_ t28_ true e148_ w _)) ?_
 refine ⟨(mem_pick (idx := [0, 1, 2, 3, 4, 5]) rfl), ?_⟩
 refine a_v 3 rfl (by kernel_rfl) (by kernel_rfl) (by kernel_rfl) rfl rfl rfl (v_move rfl rfl) ?_
 refine a_v 4 rfl (by kernel_rfl) (by kernel_rfl) (by kernel_rfl) rfl rfl rfl (v_ldA [.int .i64 1, .int .i64 1, .int .i64 2, .int .i64 2, .int .i64 1, .int .i64 1, .int .i64 9] 5 rfl Try.underlying23 rfl SZ23 rfl rfl rfl rfl) ?_
 refine a_v 5 rfl (by kernel_rfl) (by kernel_rfl) (by kernel_rfl) rfl rfl rfl (v_move rfl rfl) ?_
 refine a_1 (i := 6) (by kernel_rfl) ?_
 refine i_knowT (KC_nil (Kd.slice 81 k81)) ?_
 refine i_e rfl rfl (e_callF [5, 0] #[.agg #[.int .i64 1, .int .i64 1, .int .i64 2, .int .i64 2, .int .i64 1, .int .i64 1, .int .i64 9], .slice A37_ t28_.length c38_, .slice none 0 0] rfl rfl rfl rfl rfl Try.func18 rfl (by decide) rfl rfl rfl rfl (fun w ht => shape_Rest_con _ 1 1 2 2 1 1 9 A37_ c38_ t28_ none 0 ([] : List (List S81)) true e151_ w _)) ?_
 refine ⟨(mem_pick (idx := [1, 2, 3, 4, 5, 6]) rfl), ?_⟩
 refine a_v 7 rfl (by kernel_rfl) (by kernel_rfl) (by kernel_rfl) rfl rfl rfl (v_pick rfl rfl rfl rfl) ?_
 refine a_v 8 rfl (by kernel_rfl) (by kernel_rfl) (by kernel_rfl) rfl rfl rfl (v_move rfl rfl) ?_
 refine a_v 9 rfl (by kernel_rfl) (by kernel_rfl) (by kernel_rfl) rfl rfl rfl (v_ldA [.int .i64 1, .int .i64 1, .int .i64 2, .int .i64 2, .int .i64 1, .int .i64 1, .int .i64 9] 5 rfl Try.underlying23 rfl SZ23 rfl rfl rfl rfl) ?_
 refine a_v 10 rfl (by kernel_rfl) (by kernel_rfl) (by kernel_rfl) rfl rfl rfl (v_move rfl rfl) ?_
 refine a_1 (i := 11) (by kernel_rfl) ?_
 refine i_e rfl rfl (e_callF [3] #[.agg #[.int .i64 1, .int .i64 1, .int .i64 2, .int .i64 2, .int .i64 1, .int .i64 1, .int .i64 9], .slice A47_ t45_.length c48_, .int .i64 0] rfl rfl rfl rfl rfl Try.func9 rfl (by decide) rfl rfl rfl rfl (fun w ht => shape_Level_con _ 1 1 2 2 1 1 9 A47_ c48_ t45_ 0 t153_ e154_ w _)) ?_
 intro A205_ c206_
 refine ⟨(mem_pick (idx := [2, 3, 4, 5, 6, 7]) rfl), ?_⟩
 refine a_v 12 rfl (by kernel_rfl) (by kernel_rfl) (by kernel_rfl) rfl rfl rfl (v_len rfl rfl rfl Try.underlying24 rfl rfl) ?_
 refine a_v 13 rfl (by kernel_rfl) (by kernel_rfl) (by kernel_rfl) rfl rfl rfl (OpV.cast (v := .bool true) (v_arith rfl rfl rfl rfl) (congrArg Value.bool h157_)) ?_
 refine a_v 14 rfl (by kernel_rfl) (by kernel_rfl) (by kernel_rfl) rfl rfl rfl (v_pick rfl rfl rfl rfl) ?_
 refine a_v 15 rfl (by kernel_rfl) (by kernel_rfl) (by kernel_rfl) rfl rfl rfl (v_move rfl rfl) ?_
 refine a_v 16 rfl (by kernel_rfl) (by kernel_rfl) (by kernel_rfl) rfl rfl rfl (v_ldA [.int .i64 1, .int .i64 1, .int .i64 2, .int .i64 2, .int .i64 1, .int .i64 1, .int .i64 9] 5 rfl Try.underlying23 rfl SZ23 rfl rfl rfl rfl) ?_
 refine a_v 17 rfl (by kernel_rfl) (by kernel_rfl) (by kernel_rfl) rfl rfl rfl (v_move rfl rfl) ?_
 refine a_1 (i := 18) (by kernel_rfl) ?_
 refine i_e rfl rfl (e_callF [4] #[.agg #[.int .i64 1, .int .i64 1, .int .i64 2, .int .i64 2, .int .i64 1, .int .i64 1, .int .i64 9], .slice A47_ t45_.length c48_, .int .i64 1] rfl rfl rfl rfl rfl Try.func9 rfl (by decide) rfl rfl rfl rfl (fun w ht => shape_Level_con _ 1 1 2 2 1 1 9 A47_ c48_ t45_ 1 t158_ e159_ w _)) ?_
 intro A207_ c208_
 refine ⟨(mem_pick (idx := [3, 4, 5, 6, 7, 8]) rfl), ?_⟩
 refine a_v 19 rfl (by kernel_rfl) (by kernel_rfl) (by kernel_rfl) rfl rfl rfl (v_len rfl rfl rfl Try.underlying24 rfl rfl) ?_
 refine a_v 20 rfl (by kernel_rfl) (by kernel_rfl) (by kernel_rfl) rfl rfl rfl (OpV.cast (v := .bool true) (v_arith rfl rfl rfl rfl) (congrArg Value.bool h162_)) ?_
 refine a_v 21 rfl (by kernel_rfl) (by kernel_rfl) (by kernel_rfl) rfl rfl rfl (v_pick rfl rfl rfl rfl) ?_
 refine a_v 22 rfl (by kernel_rfl) (by kernel_rfl) (by kernel_rfl) rfl rfl rfl (v_move rfl rfl) ?_
 refine a_v 23 rfl (by kernel_rfl) (by kernel_rfl) (by kernel_rfl) rfl rfl rfl (v_ldA [.int .i64 1, .int .i64 1, .int .i64 2, .int .i64 2, .int .i64 1, .int .i64 1, .int .i64 9] 5 rfl Try.underlying23 rfl SZ23 rfl rfl rfl rfl) ?_
 refine a_v 24 rfl (by kernel_rfl) (by kernel_rfl) (by kernel_rfl) rfl rfl rfl (v_move rfl rfl) ?_
 refine a_1 (i := 25) (by kernel_rfl) ?_
 refine i_e rfl rfl (e_callF [5] #[.agg #[.int .i64 1, .int .i64 1, .int .i64 2, .int .i64 2, .int .i64 1, .int .i64 1, .int .i64 9], .slice A47_ t45_.length c48_, .int .i64 2] rfl rfl rfl rfl rfl Try.func9 rfl (by decide) rfl rfl rfl rfl (fun w ht => shape_Level_con _ 1 1 2 2 1 1 9 A47_ c48_ t45_ 2 t163_ e164_ w _)) ?_
 intro A209_ c210_
 refine ⟨(mem_pick (idx := [4, 5, 6, 7, 8, 9]) rfl), ?_⟩
 refine a_v 26 rfl (by kernel_rfl) (by kernel_rfl) (by kernel_rfl) rfl rfl rfl (v_len rfl rfl rfl Try.underlying24 rfl rfl) ?_
 refine a_v 27 rfl (by kernel_rfl) (by kernel_rfl) (by kernel_rfl) rfl rfl rfl (OpV.cast (v := .bool true) (v_arith rfl rfl rfl rfl) (congrArg Value.bool h167_)) ?_
 refine a_v 28 rfl (by kernel_rfl) (by kernel_rfl) (by kernel_rfl) rfl rfl rfl (v_pick rfl rfl rfl rfl) ?_
 refine a_v 29 rfl (by kernel_rfl) (by kernel_rfl) (by kernel_rfl) rfl rfl rfl (v_move rfl rfl) ?_
 refine a_v 30 rfl (by kernel_rfl) (by kernel_rfl) (by kernel_rfl) rfl rfl rfl (v_move rfl rfl) ?_
 refine a_v 31 rfl (by kernel_rfl) (by kernel_rfl) (by kernel_rfl) rfl rfl rfl (v_len rfl rfl rfl Try.underlying35 rfl rfl) ?_
 refine a_v 32 rfl (by kernel_rfl) (by kernel_rfl) (by kernel_rfl) rfl rfl rfl (OpV.cast (v := .bool true) (v_arith rfl rfl rfl rfl) (congrArg Value.bool h168_)) ?_
 refine a_v 33 rfl (by kernel_rfl) (by kernel_rfl) (by kernel_rfl) rfl rfl rfl (v_pick rfl rfl rfl rfl) ?_
 refine a_v 34 rfl (by kernel_rfl) (by kernel_rfl) (by kernel_rfl) rfl rfl rfl (v_move rfl rfl) ?_
 refine a_v 35 rfl (by kernel_rfl) (by kernel_rfl) (by kernel_rfl) rfl rfl rfl (v_move rfl rfl) ?_
 refine a_v 36 rfl (by kernel_rfl) (by kernel_rfl) (by kernel_rfl) rfl rfl rfl (v_iaK (i := 0) rfl Try.underlying35 SZ61 rfl rfl rfl rfl (by decide) n169_) ?_
 refine a_v 37 rfl (by kernel_rfl) (by kernel_rfl) (by kernel_rfl) rfl rfl rfl (v_fax rfl Try.underlying61 rfl SZ25 rfl) ?_
 refine a_v 38 rfl (by kernel_rfl) (by kernel_rfl) (by kernel_rfl) rfl rfl rfl (v_ldKf (v := .int .u64 ((rd_T61 t60_ 0).f0)) z61 [.int .u64 ((rd_T61 t60_ 0).f0), .int .u64 ((rd_T61 t60_ 0).f1)] 0 rfl Try.underlying25 rfl rfl rfl rfl (by decide) n169_ (fun w K h => k61_open h) rfl) ?_
 refine a_v 39 rfl (by kernel_rfl) (by kernel_rfl) (by kernel_rfl) rfl rfl rfl (OpV.cast (v := .bool false) (v_arith rfl rfl rfl rfl) (congrArg Value.bool h170_)) ?_
 refine a_v 40 rfl (by kernel_rfl) (by kernel_rfl) (by kernel_rfl) rfl rfl rfl (v_pick rfl rfl rfl rfl) ?_
 refine a_v 41 rfl (by kernel_rfl) (by kernel_rfl) (by kernel_rfl) rfl rfl rfl (v_move rfl rfl) ?_
 refine a_no 42 rfl (by kernel_rfl) (by kernel_rfl) (by kernel_rfl) rfl rfl rfl ?_
 refine a_no 43 rfl (by kernel_rfl) (by kernel_rfl) (by kernel_rfl) rfl rfl rfl ?_
 refine a_no 44 rfl (by kernel_rfl) (by kernel_rfl) (by kernel_rfl) rfl rfl rfl ?_
 refine a_no 45 rfl (by kernel_rfl) (by kernel_rfl) (by kernel_rfl) rfl rfl rfl ?_
 refine a_no 46 rfl (by kernel_rfl) (by kernel_rfl) (by kernel_rfl) rfl rfl rfl ?_
 refine a_v 47 rfl (by kernel_rfl) (by kernel_rfl) (by kernel_rfl) rfl rfl rfl (v_pick rfl rfl rfl rfl) ?_
 refine a_v 48 rfl (by kernel_rfl) (by kernel_rfl) (by kernel_rfl) rfl rfl rfl (v_move rfl rfl) ?_
 refine a_no 49 rfl (by kernel_rfl) (by kernel_rfl) (by kernel_rfl) rfl rfl rfl ?_
 refine a_no 50 rfl (by kernel_rfl) (by kernel_rfl) (by kernel_rfl) rfl rfl rfl ?_
 refine a_no 51 rfl (by kernel_rfl) (by kernel_rfl) (by kernel_rfl) rfl rfl rfl ?_
 refine a_v 52 rfl (by kernel_rfl) (by kernel_rfl) (by kernel_rfl) rfl rfl rfl (v_pick rfl rfl rfl rfl) ?_
 refine a_v 53 rfl (by kernel_rfl) (by kernel_rfl) (by kernel_rfl) rfl rfl rfl (v_move rfl rfl) ?_
 refine a_no 54 rfl (by kernel_rfl) (by kernel_rfl) (by kernel_rfl) rfl rfl rfl ?_
 refine a_no 55 rfl (by kernel_rfl) (by kernel_rfl) (by kernel_rfl) rfl rfl rfl ?_
 refine a_no 56 rfl (by kernel_rfl) (by kernel_rfl) (by kernel_rfl) rfl rfl rfl ?_
 refine a_no 57 rfl (by kernel_rfl) (by kernel_rfl) (by kernel_rfl) rfl rfl rfl ?_
 refine a_v 58 rfl (by kernel_rfl) (by kernel_rfl) (by kernel_rfl) rfl rfl rfl (v_pick rfl rfl rfl rfl) ?_
 refine a_v 59 rfl (by kernel_rfl) (by kernel_rfl) (by kernel_rfl) rfl rfl rfl (v_move rfl rfl) ?_
 refine a_no 60 rfl (by kernel_rfl) (by kernel_rfl) (by kernel_rfl) rfl rfl rfl ?_
 refine a_no 61 rfl (by kernel_rfl) (by kernel_rfl) (by kernel_rfl) rfl rfl rfl ?_
 refine a_no 62 rfl (by kernel_rfl) (by kernel_rfl) (by kernel_rfl) rfl rfl rfl ?_
 refine a_no 63 rfl (by kernel_rfl) (by kernel_rfl) (by kernel_rfl) rfl rfl rfl ?_
 refine a_no 64 rfl (by kernel_rfl) (by kernel_rfl) (by kernel_rfl) rfl rfl rfl ?_
 refine a_v 65 rfl (by kernel_rfl) (by kernel_rfl) (by kernel_rfl) rfl rfl rfl (v_pick rfl rfl rfl rfl) ?_
 refine a_v 66 rfl (by kernel_rfl) (by kernel_rfl) (by kernel_rfl) rfl rfl rfl (v_assign rfl rfl) ?_
 refine a_end (by kernel_rfl) ?_
 have hq_0 := Option.some.inj H
 subst hq_0
 exact q_seq (c_frame (subF_spec (by exact ⟨rfl, trivial⟩)) (c_take [4, 5, 6, 7, 8, 9] rfl (by decide) (J_ () trivial)))
 replace H := ite_n (ibeq_f h168_) H
 refine r_any [.f (KC k61 z62_.1 z62_.2 t60_), .f (KC k61 A58_ c59_ t56_), .f (KC (Kd.int .u64) A47_ c48_ t45_), .f (KC k46 (some ⟨b44_, 0, none⟩) 2 ([(⟨3, 7, 2, 0, false⟩ : S46), (⟨5, 0, 1, 1, true⟩ : S46)] : List S46)), .f (KC (Kd.int .u64) A37_ c38_ t28_), .b b2_ (.cells #[.int .i64 1, .int .i64 1, .int .i64 2, .int .i64 2, .int .i64 1, .int .i64 1, .int .i64 9] 23 (0, 0))] (by kernel_rfl) rfl (by kernel_rfl) (mem_pick (idx := [0, 1, 2, 3, 4, 5]) rfl) ?_
 refine a_v 0 rfl (by kernel_rfl) (by kernel_rfl) (by kernel_rfl) rfl rfl rfl (v_ldA [.int .i64 1, .int .i64 1, .int .i64 2, .int .i64 2, .int .i64 1, .int .i64 1, .int .i64 9] 5 rfl Try.underlying23 rfl SZ23 rfl rfl rfl rfl) ?_
 refine a_v 1 rfl (by kernel_rfl) (by kernel_rfl) (by kernel_rfl) rfl rfl rfl (v_move rfl rfl) ?_
 refine a_1 (i := 2) (by kernel_rfl) ?_
 refine i_e rfl rfl (e_callF [4] #[.agg #[.int .i64 1, .int .i64 1, .int .i64 2, .int .i64 2, .int .i64 1, .int .i64 1, .int .i64 9], .slice A37_ t28_.length c38_] rfl rfl rfl rfl rfl Try.func17 rfl (by decide) rfl rfl rfl rfl (fun w ht => shape_Right_con _ 1 1 2 2 1 1 9 A37_ c38_ t28_ true e148_ w _)) ?_
 refine ⟨(mem_pick (idx := [0, 1, 2, 3, 4, 5]) rfl), ?_⟩
 refine a_v 3 rfl (by kernel_rfl) (by kernel_rfl) (by kernel_rfl) rfl rfl rfl (v_move rfl rfl) ?_
 refine a_v 4 rfl (by kernel_rfl) (by kernel_rfl) (by kernel_rfl) rfl rfl rfl (v_ldA [.int .i64 1, .int .i64 1, .int .i64 2, .int .i64 2, .int .i64 1, .int .i64 1, .int .i64 9] 5 rfl Try.underlying23 rfl SZ23 rfl rfl rfl rfl) ?_
 refine a_v 5 rfl (by kernel_rfl) (by kernel_rfl) (by kernel_rfl) rfl rfl rfl (v_move rfl rfl) ?_
 refine a_1 (i := 6) (by kernel_rfl) ?_
 refine i_knowT (KC_nil (Kd.slice 81 k81)) ?_
 refine i_e rfl rfl (e_callF [5, 0] #[.agg #[.int .i64 1, .int .i64 1, .int .i64 2, .int .i64 2, .int .i64 1, .int .i64 1, .int .i64 9], .slice A37_ t28_.length c38_, .slice none 0 0] rfl rfl rfl rfl rfl Try.func18 rfl (by decide) rfl rfl rfl rfl (fun w ht => shape_Rest_con _ 1 1 2 2 1 1 9 A37_ c38_ t28_ none 0 ([] : List (List S81)) true e151_ w _)) ?_
 refine ⟨(mem_pick (idx := [1, 2, 3, 4, 5, 6]) rfl), ?_⟩
 refine a_v 7 rfl (by kernel_rfl) (by kernel_rfl) (by kernel_rfl) rfl rfl rfl (v_pick rfl rfl rfl rfl) ?_
 refine a_v 8 rfl (by kernel_rfl) (by kernel_rfl) (by kernel_rfl) rfl rfl rfl (v_move rfl rfl) ?_
 refine a_v 9 rfl (by kernel_rfl) (by kernel_rfl) (by kernel_rfl) rfl rfl rfl (v_ldA [.int .i64 1, .int .i64 1, .int .i64 2, .int .i64 2, .int .i64 1, .int .i64 1, .int .i64 9] 5 rfl Try.underlying23 rfl SZ23 rfl rfl rfl rfl) ?_
 refine a_v 10 rfl (by kernel_rfl) (by kernel_rfl) (by kernel_rfl) rfl rfl rfl (v_move rfl rfl) ?_
 refine a_1 (i := 11) (by kernel_rfl) ?_
 refine i_e rfl rfl (e_callF [3] #[.agg #[.int .i64 1, .int .i64 1, .int .i64 2, .int .i64 2, .int .i64 1, .int .i64 1, .int .i64 9], .slice A47_ t45_.length c48_, .int .i64 0] rfl rfl rfl rfl rfl Try.func9 rfl (by decide) rfl rfl rfl rfl (fun w ht => shape_Level_con _ 1 1 2 2 1 1 9 A47_ c48_ t45_ 0 t153_ e154_ w _)) ?_
 intro A211_ c212_
 refine ⟨(mem_pick (idx := [2, 3, 4, 5, 6, 7]) rfl), ?_⟩
 refine a_v 12 rfl (by kernel_rfl) (by kernel_rfl) (by kernel_rfl) rfl rfl rfl (v_len rfl rfl rfl Try.underlying24 rfl rfl) ?_
 refine a_v 13 rfl (by kernel_rfl) (by kernel_rfl) (by kernel_rfl) rfl rfl rfl (OpV.cast (v := .bool true) (v_arith rfl rfl rfl rfl) (congrArg Value.bool h157_)) ?_
 refine a_v 14 rfl (by kernel_rfl) (by kernel_rfl) (by kernel_rfl) rfl rfl rfl (v_pick rfl rfl rfl rfl) ?_
 refine a_v 15 rfl (by kernel_rfl) (by kernel_rfl) (by kernel_rfl) rfl rfl rfl (v_move rfl rfl) ?_
 refine a_v 16 rfl (by kernel_rfl) (by kernel_rfl) (by kernel_rfl) rfl rfl rfl (v_ldA [.int .i64 1, .int .i64 1, .int .i64 2, .int .i64 2, .int .i64 1, .int .i64 1, .int .i64 9] 5 rfl Try.underlying23 rfl SZ23 rfl rfl rfl rfl) ?_
 refine a_v 17 rfl (by kernel_rfl) (by kernel_rfl) (by kernel_rfl) rfl rfl rfl (v_move rfl rfl) ?_
 refine a_1 (i := 18) (by kernel_rfl) ?_
 refine i_e rfl rfl (e_callF [4] #[.agg #[.int .i64 1, .int .i64 1, .int .i64 2, .int .i64 2, .int .i64 1, .int .i64 1, .int .i64 9], .slice A47_ t45_.length c48_, .int .i64 1] rfl rfl rfl rfl rfl Try.func9 rfl (by decide) rfl rfl rfl rfl (fun w ht => shape_Level_con _ 1 1 2 2 1 1 9 A47_ c48_ t45_ 1 t158_ e159_ w _)) ?_
 intro A213_ c214_
 refine ⟨(mem_pick (idx := [3, 4, 5, 6, 7, 8]) rfl), ?_⟩
 refine a_v 19 rfl (by kernel_rfl) (by kernel_rfl) (by kernel_rfl) rfl rfl rfl (v_len rfl rfl rfl Try.underlying24 rfl rfl) ?_
 refine a_v 20 rfl (by kernel_rfl) (by kernel_rfl) (by kernel_rfl) rfl rfl rfl (OpV.cast (v := .bool true) (v_arith rfl rfl rfl rfl) (congrArg Value.bool h162_)) ?_
 refine a_v 21 rfl (by kernel_rfl) (by kernel_rfl) (by kernel_rfl) rfl rfl rfl (v_pick rfl rfl rfl rfl) ?_
 refine a_v 22 rfl (by kernel_rfl) (by kernel_rfl) (by kernel_rfl) rfl rfl rfl (v_move rfl rfl) ?_
 refine a_v 23 rfl (by kernel_rfl) (by kernel_rfl) (by kernel_rfl) rfl rfl rfl (v_ldA [.int .i64 1, .int .i64 1, .int .i64 2, .int .i64 2, .int .i64 1, .int .i64 1, .int .i64 9] 5 rfl Try.underlying23 rfl SZ23 rfl rfl rfl rfl) ?_
 refine a_v 24 rfl (by kernel_rfl) (by kernel_rfl) (by kernel_rfl) rfl rfl rfl (v_move rfl rfl) ?_
 refine a_1 (i := 25) (by kernel_rfl) ?_
 refine i_e rfl rfl (e_callF [5] #[.agg #[.int .i64 1, .int .i64 1, .int .i64 2, .int .i64 2, .int .i64 1, .int .i64 1, .int .i64 9], .slice A47_ t45_.length c48_, .int .i64 2] rfl rfl rfl rfl rfl Try.func9 rfl (by decide) rfl rfl rfl rfl (fun w ht => shape_Level_con _ 1 1 2 2 1 1 9 A47_ c48_ t45_ 2 t163_ e164_ w _)) ?_
 intro A215_ c216_
 refine ⟨(mem_pick (idx := [4, 5, 6, 7, 8, 9]) rfl), ?_⟩
 refine a_v 26 rfl (by kernel_rfl) (by kernel_rfl) (by kernel_rfl) rfl rfl rfl (v_len rfl rfl rfl Try.underlying24 rfl rfl) ?_
 refine a_v 27 rfl (by kernel_rfl) (by kernel_rfl) (by kernel_rfl) rfl rfl rfl (OpV.cast (v := .bool true) (v_arith rfl rfl rfl rfl) (congrArg Value.bool h167_)) ?_
 refine a_v 28 rfl (by kernel_rfl) (by kernel_rfl) (by kernel_rfl) rfl rfl rfl (v_pick rfl rfl rfl rfl) ?_
 refine a_v 29 rfl (by kernel_rfl) (by kernel_rfl) (by kernel_rfl) rfl rfl rfl (v_move rfl rfl) ?_
 refine a_v 30 rfl (by kernel_rfl) (by kernel_rfl) (by kernel_rfl) rfl rfl rfl (v_move rfl rfl) ?_
 refine a_v 31 rfl (by kernel_rfl) (by kernel_rfl) (by kernel_rfl) rfl rfl rfl (v_len rfl rfl rfl Try.underlying35 rfl rfl) ?_
 refine a_v 32 rfl (by kernel_rfl) (by kernel_rfl) (by kernel_rfl) rfl rfl rfl (OpV.cast (v := .bool false) (v_arith rfl rfl rfl rfl) (congrArg Value.bool h168_)) ?_
 refine a_v 33 rfl (by kernel_rfl) (by kernel_rfl) (by kernel_rfl) rfl rfl rfl (v_pick rfl rfl rfl rfl) ?_
 refine a_v 34 rfl (by kernel_rfl) (by kernel_rfl) (by kernel_rfl) rfl rfl rfl (v_move rfl rfl) ?_
 refine a_no 35 rfl (by kernel_rfl) (by kernel_rfl) (by kernel_rfl) rfl rfl rfl ?_
 refine a_no 36 rfl (by kernel_rfl) (by kernel_rfl) (by kernel_rfl) rfl rfl rfl ?_
 refine a_no 37 rfl (by kernel_rfl) (by kernel_rfl) (by kernel_rfl) rfl rfl rfl ?_
 refine a_no 38 rfl (by kernel_rfl) (by kernel_rfl) (by kernel_rfl) rfl rfl rfl ?_
 refine a_no 39 rfl (by kernel_rfl) (by kernel_rfl) (by kernel_rfl) rfl rfl rfl ?_
 refine a_v 40 rfl (by kernel_rfl) (by kernel_rfl) (by kernel_rfl) rfl rfl rfl (v_pick rfl rfl rfl rfl) ?_
 refine a_v 41 rfl (by kernel_rfl) (by kernel_rfl) (by kernel_rfl) rfl rfl rfl (v_move rfl rfl) ?_
 refine a_no 42 rfl (by kernel_rfl) (by kernel_rfl) (by kernel_rfl) rfl rfl rfl ?_
 refine a_no 43 rfl (by kernel_rfl) (by kernel_rfl) (by kernel_rfl) rfl rfl rfl ?_
 refine a_no 44 rfl (by kernel_rfl) (by kernel_rfl) (by kernel_rfl) rfl rfl rfl ?_
 refine a_no 45 rfl (by kernel_rfl) (by kernel_rfl) (by kernel_rfl) rfl rfl rfl ?_
 refine a_no 46 rfl (by kernel_rfl) (by kernel_rfl) (by kernel_rfl) rfl rfl rfl ?_
 refine a_v 47 rfl (by kernel_rfl) (by kernel_rfl) (by kernel_rfl) rfl rfl rfl (v_pick rfl rfl rfl rfl) ?_
 refine a_v 48 rfl (by kernel_rfl) (by kernel_rfl) (by kernel_rfl) rfl rfl rfl (v_move rfl rfl) ?_
 refine a_no 49 rfl (by kernel_rfl) (by kernel_rfl) (by kernel_rfl) rfl rfl rfl ?_
 refine a_no 50 rfl (by kernel_rfl) (by kernel_rfl) (by kernel_rfl) rfl rfl rfl ?_
 refine a_no 51 rfl (by kernel_rfl) (by kernel_rfl) (by kernel_rfl) rfl rfl rfl ?_
 refine a_v 52 rfl (by kernel_rfl) (by kernel_rfl) (by kernel_rfl) rfl rfl rfl (v_pick rfl rfl rfl rfl) ?_
 refine a_v 53 rfl (by kernel_rfl) (by kernel_rfl) (by kernel_rfl) rfl rfl rfl (v_move rfl rfl) ?_
 refine a_no 54 rfl (by kernel_rfl) (by kernel_rfl) (by kernel_rfl) rfl rfl rfl ?_
 refine a_no 55 rfl (by kernel_rfl) (by kernel_rfl) (by kernel_rfl) rfl rfl rfl ?_
 refine a_no 56 rfl (by kernel_rfl) (by kernel_rfl) (by kernel_rfl) rfl rfl rfl ?_
 refine a_no 57 rfl (by kernel_rfl) (by kernel_rfl) (by kernel_rfl) rfl rfl rfl ?_
 refine a_v 58 rfl (by kernel_rfl) (by kernel_rfl) (by kernel_rfl) rfl rfl rfl (v_pick rfl rfl rfl rfl) ?_
 refine a_v 59 rfl (by kernel_rfl) (by kernel_rfl) (by kernel_rfl) rfl rfl rfl (v_move rfl rfl) ?_
 refine a_no 60 rfl (by kernel_rfl) (by kernel_rfl) (by kernel_rfl) rfl rfl rfl ?_
 refine a_no 61 rfl (by kernel_rfl) (by kernel_rfl) (by kernel_rfl) rfl rfl rfl ?_
 refine a_no 62 rfl (by kernel_rfl) (by kernel_rfl) (by kernel_rfl) rfl rfl rfl ?_
 refine a_no 63 rfl (by kernel_rfl) (by kernel_rfl) (by kernel_rfl) rfl rfl rfl ?_
 refine a_no 64 rfl (by kernel_rfl) (by kernel_rfl) (by kernel_rfl) rfl rfl rfl ?_
 refine a_v 65 rfl (by kernel_rfl) (by kernel_rfl) (by kernel_rfl) rfl rfl rfl (v_pick rfl rfl rfl rfl) ?_
 refine a_v 66 rfl (by kernel_rfl) (by kernel_rfl) (by kernel_rfl) rfl rfl rfl (v_assign rfl rfl) ?_
 refine a_end (by kernel_rfl) ?_
 have hq_0 := Option.some.inj H
 subst hq_0
 exact q_seq (c_frame (subF_spec (by exact ⟨rfl, trivial⟩)) (c_take [4, 5, 6, 7, 8, 9] rfl (by decide) (J_ () trivial)))
 replace H := ite_n (ibeq_f h167_) H
 refine r_any [.f (KC k61 z62_.1 z62_.2 t60_), .f (KC k61 A58_ c59_ t56_), .f (KC (Kd.int .u64) A47_ c48_ t45_), .f (KC k46 (some ⟨b44_, 0, none⟩) 2 ([(⟨3, 7, 2, 0, false⟩ : S46), (⟨5, 0, 1, 1, true⟩ : S46)] : List S46)), .f (KC (Kd.int .u64) A37_ c38_ t28_), .b b2_ (.cells #[.int .i64 1, .int .i64 1, .int .i64 2, .int .i64 2, .int .i64 1, .int .i64 1, .int .i64 9] 23 (0, 0))] (by kernel_rfl) rfl (by kernel_rfl) (mem_pick (idx := [0, 1, 2, 3, 4, 5]) rfl) ?_
 refine a_v 0 rfl (by kernel_rfl) (by kernel_rfl) (by kernel_rfl) rfl rfl rfl (v_ldA [.int .i64 1, .int .i64 1, .int .i64 2, .int .i64 2, .int .i64 1, .int .i64 1, .int .i64 9] 5 rfl Try.underlying23 rfl SZ23 rfl rfl rfl rfl) ?_
 refine a_v 1 rfl (by kernel_rfl) (by kernel_rfl) (by kernel_rfl) rfl rfl rfl (v_move rfl rfl) ?_
 refine a_1 (i := 2) (by kernel_rfl) ?_
 refine i_e rfl rfl (e_callF [4] #[.agg #[.int .i64 1, .int .i64 1, .int .i64 2, .int .i64 2, .int .i64 1, .int .i64 1, .int .i64 9], .slice A37_ t28_.length c38_] rfl rfl rfl rfl rfl Try.func17 rfl (by decide) rfl rfl rfl rfl (fun w ht => shape_Right_con _ 1 1 2 2 1 1 9 A37_ c38_ t28_ true e148_ w _)) ?_
 refine ⟨(mem_pick (idx := [0, 1, 2, 3, 4, 5]) rfl), ?_⟩
 refine a_v 3 rfl (by kernel_rfl) (by kernel_rfl) (by kernel_rfl) rfl rfl rfl (v_move rfl rfl) ?_
 refine a_v 4 rfl (by kernel_rfl) (by kernel_rfl) (by kernel_rfl) rfl rfl rfl (v_ldA [.int .i64 1, .int .i64 1, .int .i64 2, .int .i64 2, .int .i64 1, .int .i64 1, .int .i64 9] 5 rfl Try.underlying23 rfl SZ23 rfl rfl rfl rfl) ?_
 refine a_v 5 rfl (by kernel_rfl) (by kernel_rfl) (by kernel_rfl) rfl rfl rfl (v_move rfl rfl) ?_
 refine a_1 (i := 6) (by kernel_rfl) ?_
 refine i_knowT (KC_nil (Kd.slice 81 k81)) ?_
 refine i_e rfl rfl (e_callF [5, 0] #[.agg #[.int .i64 1, .int .i64 1, .int .i64 2, .int .i64 2, .int .i64 1, .int .i64 1, .int .i64 9], .slice A37_ t28_.length c38_, .slice none 0 0] rfl rfl rfl rfl rfl Try.func18 rfl (by decide) rfl rfl rfl rfl (fun w ht => shape_Rest_con _ 1 1 2 2 1 1 9 A37_ c38_ t28_ none 0 ([] : List (List S81)) true e151_ w _)) ?_
 refine ⟨(mem_pick (idx := [1, 2, 3, 4, 5, 6]) rfl), ?_⟩
 refine a_v 7 rfl (by kernel_rfl) (by kernel_rfl) (by kernel_rfl) rfl rfl rfl (v_pick rfl rfl rfl rfl) ?_
 refine a_v 8 rfl (by kernel_rfl) (by kernel_rfl) (by kernel_rfl) rfl rfl rfl (v_move rfl rfl) ?_
 refine a_v 9 rfl (by kernel_rfl) (by kernel_rfl) (by kernel_rfl) rfl rfl rfl (v_ldA [.int .i64 1, .int .i64 1, .int .i64 2, .int .i64 2, .int .i64 1, .int .i64 1, .int .i64 9] 5 rfl Try.underlying23 rfl SZ23 rfl rfl rfl rfl) ?_
 refine a_v 10 rfl (by kernel_rfl) (by kernel_rfl) (by kernel_rfl) rfl rfl rfl (v_move rfl rfl) ?_
 refine a_1 (i := 11) (by kernel_rfl) ?_
 refine i_e rfl rfl (e_callF [3] #[.agg #[.int .i64 1, .int .i64 1, .int .i64 2, .int .i64 2, .int .i64 1, .int .i64 1, .int .i64 9], .slice A47_ t45_.length c48_, .int .i64 0] rfl rfl rfl rfl rfl Try.func9 rfl (by decide) rfl rfl rfl rfl (fun w ht => shape_Level_con _ 1 1 2 2 1 1 9 A47_ c48_ t45_ 0 t153_ e154_ w _)) ?_
 intro A217_ c218_
 refine ⟨(mem_pick (idx := [2, 3, 4, 5, 6, 7]) rfl), ?_⟩
 refine a_v 12 rfl (by kernel_rfl) (by kernel_rfl) (by kernel_rfl) rfl rfl rfl (v_len rfl rfl rfl Try.underlying24 rfl rfl) ?_
 refine a_v 13 rfl (by kernel_rfl) (by kernel_rfl) (by kernel_rfl) rfl rfl rfl (OpV.cast (v := .bool true) (v_arith rfl rfl rfl rfl) (congrArg Value.bool h157_)) ?_
 refine a_v 14 rfl (by kernel_rfl) (by kernel_rfl) (by kernel_rfl) rfl rfl rfl (v_pick rfl rfl rfl rfl) ?_
 refine a_v 15 rfl (by kernel_rfl) (by kernel_rfl) (by kernel_rfl) rfl rfl rfl (v_move rfl rfl) ?_
 refine a_v 16 rfl (by kernel_rfl) (by kernel_rfl) (by kernel_rfl) rfl rfl rfl (v_ldA [.int .i64 1, .int .i64 1, .int .i64 2, .int .i64 2, .int .i64 1, .int .i64 1, .int .i64 9] 5 rfl Try.underlying23 rfl SZ23 rfl rfl rfl rfl) ?_
 refine a_v 17 rfl (by kernel_rfl) (by kernel_rfl) (by kernel_rfl) rfl rfl rfl (v_move rfl rfl) ?_
 refine a_1 (i := 18) (by kernel_rfl) ?_
 refine i_e rfl rfl (e_callF [4] #[.agg #[.int .i64 1, .int .i64 1, .int .i64 2, .int .i64 2, .int .i64 1, .int .i64 1, .int .i64 9], .slice A47_ t45_.length c48_, .int .i64 1] rfl rfl rfl rfl rfl Try.func9 rfl (by decide) rfl rfl rfl rfl (fun w ht => shape_Level_con _ 1 1 2 2 1 1 9 A47_ c48_ t45_ 1 t158_ e159_ w _)) ?_
 intro A219_ c220_
 refine ⟨(mem_pick (idx := [3, 4, 5, 6, 7, 8]) rfl), ?_⟩
 refine a_v 19 rfl (by kernel_rfl) (by kernel_rfl) (by kernel_rfl) rfl rfl rfl (v_len rfl rfl rfl Try.underlying24 rfl rfl) ?_
 refine a_v 20 rfl (by kernel_rfl) (by kernel_rfl) (by kernel_rfl) rfl rfl rfl (OpV.cast (v := .bool true) (v_arith rfl rfl rfl rfl) (congrArg Value.bool h162_)) ?_
 refine a_v 21 rfl (by kernel_rfl) (by kernel_rfl) (by kernel_rfl) rfl rfl rfl (v_pick rfl rfl rfl rfl) ?_
 refine a_v 22 rfl (by kernel_rfl) (by kernel_rfl) (by kernel_rfl) rfl rfl rfl (v_move rfl rfl) ?_
 refine a_v 23 rfl (by kernel_rfl) (by kernel_rfl) (by kernel_rfl) rfl rfl rfl (v_ldA [.int .i64 1, .int .i64 1, .int .i64 2, .int .i64 2, .int .i64 1, .int .i64 1, .int .i64 9] 5 rfl Try.underlying23 rfl SZ23 rfl rfl rfl rfl) ?_
 refine a_v 24 rfl (by kernel_rfl) (by kernel_rfl) (by kernel_rfl) rfl rfl rfl (v_move rfl rfl) ?_
 refine a_1 (i := 25) (by kernel_rfl) ?_
 refine i_e rfl rfl (e_callF [5] #[.agg #[.int .i64 1, .int .i64 1, .int .i64 2, .int .i64 2, .int .i64 1, .int .i64 1, .int .i64 9], .slice A47_ t45_.length c48_, .int .i64 2] rfl rfl rfl rfl rfl Try.func9 rfl (by decide) rfl rfl rfl rfl (fun w ht => shape_Level_con _ 1 1 2 2 1 1 9 A47_ c48_ t45_ 2 t163_ e164_ w _)) ?_
 intro A221_ c222_
 refine ⟨(mem_pick (idx := [4, 5, 6, 7, 8, 9]) rfl), ?_⟩
 refine a_v 26 rfl (by kernel_rfl) (by kernel_rfl) (by kernel_rfl) rfl rfl rfl (v_len rfl rfl rfl Try.underlying24 rfl rfl) ?_
 refine a_v 27 rfl (by kernel_rfl) (by kernel_rfl) (by kernel_rfl) rfl rfl rfl (OpV.cast (v := .bool false) (v_arith rfl rfl rfl rfl) (congrArg Value.bool h167_)) ?_
 refine a_v 28 rfl (by kernel_rfl) (by kernel_rfl) (by kernel_rfl) rfl rfl rfl (v_pick rfl rfl rfl rfl) ?_
 refine a_v 29 rfl (by kernel_rfl) (by kernel_rfl) (by kernel_rfl) rfl rfl rfl (v_move rfl rfl) ?_
 refine a_no 30 rfl (by kernel_rfl) (by kernel_rfl) (by kernel_rfl) rfl rfl rfl ?_
 refine a_no 31 rfl (by kernel_rfl) (by kernel_rfl) (by kernel_rfl) rfl rfl rfl ?_
 refine a_no 32 rfl (by kernel_rfl) (by kernel_rfl) (by kernel_rfl) rfl rfl rfl ?_
 refine a_v 33 rfl (by kernel_rfl) (by kernel_rfl) (by kernel_rfl) rfl rfl rfl (v_pick rfl rfl rfl rfl) ?_
 refine a_v 34 rfl (by kernel_rfl) (by kernel_rfl) (by kernel_rfl) rfl rfl rfl (v_move rfl rfl) ?_
 refine a_no 35 rfl (by kernel_rfl) (by kernel_rfl) (by kernel_rfl) rfl rfl rfl ?_
 refine a_no 36 rfl (by kernel_rfl) (by kernel_rfl) (by kernel_rfl) rfl rfl rfl ?_
 refine a_no 37 rfl (by kernel_rfl) (by kernel_rfl) (by kernel_rfl) rfl rfl rfl ?_
 refine a_no 38 rfl (by kernel_rfl) (by kernel_rfl) (by kernel_rfl) rfl rfl rfl ?_
 refine a_no 39 rfl (by kernel_rfl) (by kernel_rfl) (by kernel_rfl) rfl rfl rfl ?_
 refine a_v 40 rfl (by kernel_rfl) (by kernel_rfl) (by kernel_rfl) rfl rfl rfl (v_pick rfl rfl rfl rfl) ?_
 refine a_v 41 rfl (by kernel_rfl) (by kernel_rfl) (by kernel_rfl) rfl rfl rfl (v_move rfl rfl) ?_
 refine a_no 42 rfl (by kernel_rfl) (by kernel_rfl) (by kernel_rfl) rfl rfl rfl ?_
 refine a_no 43 rfl (by kernel_rfl) (by kernel_rfl) (by kernel_rfl) rfl rfl rfl ?_
 refine a_no 44 rfl (by kernel_rfl) (by kernel_rfl) (by kernel_rfl) rfl rfl rfl ?_
 refine a_no 45 rfl (by kernel_rfl) (by kernel_rfl) (by kernel_rfl) rfl rfl rfl ?_
 refine a_no 46 rfl (by kernel_rfl) (by kernel_rfl) (by kernel_rfl) rfl rfl rfl ?_
 refine a_v 47 rfl (by kernel_rfl) (by kernel_rfl) (by kernel_rfl) rfl rfl rfl (v_pick rfl rfl rfl rfl) ?_
 refine a_v 48 rfl (by kernel_rfl) (by kernel_rfl) (by kernel_rfl) rfl rfl rfl (v_move rfl rfl) ?_
 refine a_no 49 rfl (by kernel_rfl) (by kernel_rfl) (by kernel_rfl) rfl rfl rfl ?_
 refine a_no 50 rfl (by kernel_rfl) (by kernel_rfl) (by kernel_rfl) rfl rfl rfl ?_
 refine a_no 51 rfl (by kernel_rfl) (by kernel_rfl) (by kernel_rfl) rfl rfl rfl ?_
 refine a_v 52 rfl (by kernel_rfl) (by kernel_rfl) (by kernel_rfl) rfl rfl rfl (v_pick rfl rfl rfl rfl) ?_
 refine a_v 53 rfl (by kernel_rfl) (by kernel_rfl) (by kernel_rfl) rfl rfl rfl (v_move rfl rfl) ?_
 refine a_no 54 rfl (by kernel_rfl) (by kernel_rfl) (by kernel_rfl) rfl rfl rfl ?_
 refine a_no 55 rfl (by kernel_rfl) (by kernel_rfl) (by kernel_rfl) rfl rfl rfl ?_
 refine a_no 56 rfl (by kernel_rfl) (by kernel_rfl) (by kernel_rfl) rfl rfl rfl ?_
 refine a_no 57 rfl (by kernel_rfl) (by kernel_rfl) (by kernel_rfl) rfl rfl rfl ?_
 refine a_v 58 rfl (by kernel_rfl) (by kernel_rfl) (by kernel_rfl) rfl rfl rfl (v_pick rfl rfl rfl rfl) ?_
 refine a_v 59 rfl (by kernel_rfl) (by kernel_rfl) (by kernel_rfl) rfl rfl rfl (v_move rfl rfl) ?_
 refine a_no 60 rfl (by kernel_rfl) (by kernel_rfl) (by kernel_rfl) rfl rfl rfl ?_
 refine a_no 61 rfl (by kernel_rfl) (by kernel_rfl) (by kernel_rfl) rfl rfl rfl ?_
 refine a_no 62 rfl (by kernel_rfl) (by kernel_rfl) (by kernel_rfl) rfl rfl rfl ?_
 refine a_no 63 rfl (by kernel_rfl) (by kernel_rfl) (by kernel_rfl) rfl rfl rfl ?_
 refine a_no 64 rfl (by kernel_rfl) (by kernel_rfl) (by kernel_rfl) rfl rfl rfl ?_
 refine a_v 65 rfl (by kernel_rfl) (by kernel_rfl) (by kernel_rfl) rfl rfl rfl (v_pick rfl rfl rfl rfl) ?_
 refine a_v 66 rfl (by kernel_rfl) (by kernel_rfl) (by kernel_rfl) rfl rfl rfl (v_assign rfl rfl) ?_
 refine a_end (by kernel_rfl) ?_
 have hq_0 := Option.some.inj H
 subst hq_0
 exact q_seq (c_frame (subF_spec (by exact ⟨rfl, trivial⟩)) (c_take [4, 5, 6, 7, 8, 9] rfl (by decide) (J_ () trivial)))
 replace H := ite_n (ibeq_f h162_) H
 refine r_any [.f (KC k61 z62_.1 z62_.2 t60_), .f (KC k61 A58_ c59_ t56_), .f (KC (Kd.int .u64) A47_ c48_ t45_), .f (KC k46 (some ⟨b44_, 0, none⟩) 2 ([(⟨3, 7, 2, 0, false⟩ : S46), (⟨5, 0, 1, 1, true⟩ : S46)] : List S46)), .f (KC (Kd.int .u64) A37_ c38_ t28_), .b b2_ (.cells #[.int .i64 1, .int .i64 1, .int .i64 2, .int .i64 2, .int .i64 1, .int .i64 1, .int .i64 9] 23 (0, 0))] (by kernel_rfl) rfl (by kernel_rfl) (mem_pick (idx := [0, 1, 2, 3, 4, 5]) rfl) ?_
 refine a_v 0 rfl (by kernel_rfl) (by kernel_rfl) (by kernel_rfl) rfl rfl rfl (v_ldA [.int .i64 1, .int .i64 1, .int .i64 2, .int .i64 2, .int .i64 1, .int .i64 1, .int .i64 9] 5 rfl Try.underlying23 rfl SZ23 rfl rfl rfl rfl) ?_
 refine a_v 1 rfl (by kernel_rfl) (by kernel_rfl) (by kernel_rfl) rfl rfl rfl (v_move rfl rfl) ?_
 refine a_1 (i := 2) (by kernel_rfl) ?_
 refine i_e rfl rfl (e_callF [4] #[.agg #[.int .i64 1, .int .i64 1, .int .i64 2, .int .i64 2, .int .i64 1, .int .i64 1, .int .i64 9], .slice A37_ t28_.length c38_] rfl rfl rfl rfl rfl Try.func17 rfl (by decide) rfl rfl rfl rfl (fun w ht => shape_Right_con _ 1 1 2 2 1 1 9 A37_ c38_ t28_ true e148_ w _)) ?_
 refine ⟨(mem_pick (idx := [0, 1, 2, 3, 4, 5]) rfl), ?_⟩
 refine a_v 3 rfl (by kernel_rfl) (by kernel_rfl) (by kernel_rfl) rfl rfl rfl (v_move rfl rfl) ?_
 refine a_v 4 rfl (by kernel_rfl) (by kernel_rfl) (by kernel_rfl) rfl rfl rfl (v_ldA [.int .i64 1, .int .i64 1, .int .i64 2, .int .i64 2, .int .i64 1, .int .i64 1, .int .i64 9] 5 rfl Try.underlying23 rfl SZ23 rfl rfl rfl rfl) ?_
 refine a_v 5 rfl (by kernel_rfl) (by kernel_rfl) (by kernel_rfl) rfl rfl rfl (v_move rfl rfl) ?_
 refine a_1 (i := 6) (by kernel_rfl) ?_
 refine i_knowT (KC_nil (Kd.slice 81 k81)) ?_
 refine i_e rfl rfl (e_callF [5, 0] #[.agg #[.int .i64 1, .int .i64 1, .int .i64 2, .int .i64 2, .int .i64 1, .int .i64 1, .int .i64 9], .slice A37_ t28_.length c38_, .slice none 0 0] rfl rfl rfl rfl rfl Try.func18 rfl (by decide) rfl rfl rfl rfl (fun w ht => shape_Rest_con _ 1 1 2 2 1 1 9 A37_ c38_ t28_ none 0 ([] : List (List S81)) true e151_ w _)) ?_
 refine ⟨(mem_pick (idx := [1, 2, 3, 4, 5, 6]) rfl), ?_⟩
 refine a_v 7 rfl (by kernel_rfl) (by kernel_rfl) (by kernel_rfl) rfl rfl rfl (v_pick rfl rfl rfl rfl) ?_
 refine a_v 8 rfl (by kernel_rfl) (by kernel_rfl) (by kernel_rfl) rfl rfl rfl (v_move rfl rfl) ?_
 refine a_v 9 rfl (by kernel_rfl) (by kernel_rfl) (by kernel_rfl) rfl rfl rfl (v_ldA [.int .i64 1, .int .i64 1, .int .i64 2, .int .i64 2, .int .i64 1, .int .i64 1, .int .i64 9] 5 rfl Try.underlying23 rfl SZ23 rfl rfl rfl rfl) ?_
 refine a_v 10 rfl (by kernel_rfl) (by kernel_rfl) (by kernel_rfl) rfl rfl rfl (v_move rfl rfl) ?_
 refine a_1 (i := 11) (by kernel_rfl) ?_
 refine i_e rfl rfl (e_callF [3] #[.agg #[.int .i64 1, .int .i64 1, .int .i64 2, .int .i64 2, .int .i64 1, .int .i64 1, .int .i64 9], .slice A47_ t45_.length c48_, .int .i64 0] rfl rfl rfl rfl rfl Try.func9 rfl (by decide) rfl rfl rfl rfl (fun w ht => shape_Level_con _ 1 1 2 2 1 1 9 A47_ c48_ t45_ 0 t153_ e154_ w _)) ?_
 intro A223_ c224_
 refine ⟨(mem_pick (idx := [2, 3, 4, 5, 6, 7]) rfl), ?_⟩
 refine a_v 12 rfl (by kernel_rfl) (by kernel_rfl) (by kernel_rfl) rfl rfl rfl (v_len rfl rfl rfl Try.underlying24 rfl rfl) ?_
 refine a_v 13 rfl (by kernel_rfl) (by kernel_rfl) (by kernel_rfl) rfl rfl rfl (OpV.cast (v := .bool true) (v_arith rfl rfl rfl rfl) (congrArg Value.bool h157_)) ?_
 refine a_v 14 rfl (by kernel_rfl) (by kernel_rfl) (by kernel_rfl) rfl rfl rfl (v_pick rfl rfl rfl rfl) ?_
 refine a_v 15 rfl (by kernel_rfl) (by kernel_rfl) (by kernel_rfl) rfl rfl rfl (v_move rfl rfl) ?_
 refine a_v 16 rfl (by kernel_rfl) (by kernel_rfl) (by kernel_rfl) rfl rfl rfl (v_ldA [.int .i64 1, .int .i64 1, .int .i64 2, .int .i64 2, .int .i64 1, .int .i64 1, .int .i64 9] 5 rfl Try.underlying23 rfl SZ23 rfl rfl rfl rfl) ?_
 refine a_v 17 rfl (by kernel_rfl) (by kernel_rfl) (by kernel_rfl) rfl rfl rfl (v_move rfl rfl) ?_
 refine a_1 (i := 18) (by kernel_rfl) ?_
 refine i_e rfl rfl (e_callF [4] #[.agg #[.int .i64 1, .int .i64 1, .int .i64 2, .int .i64 2, .int .i64 1, .int .i64 1, .int .i64 9], .slice A47_ t45_.length c48_, .int .i64 1] rfl rfl rfl rfl rfl Try.func9 rfl (by decide) rfl rfl rfl rfl (fun w ht => shape_Level_con _ 1 1 2 2 1 1 9 A47_ c48_ t45_ 1 t158_ e159_ w _)) ?_
 intro A225_ c226_
 refine ⟨(mem_pick (idx := [3, 4, 5, 6, 7, 8]) rfl), ?_⟩
 refine a_v 19 rfl (by kernel_rfl) (by kernel_rfl) (by kernel_rfl) rfl rfl rfl (v_len rfl rfl rfl Try.underlying24 rfl rfl) ?_
 refine a_v 20 rfl (by kernel_rfl) (by kernel_rfl) (by kernel_rfl) rfl rfl rfl (OpV.cast (v := .bool false) (v_arith rfl rfl rfl rfl) (congrArg Value.bool h162_)) ?_
 refine a_v 21 rfl (by kernel_rfl) (by kernel_rfl) (by kernel_rfl) rfl rfl rfl (v_pick rfl rfl rfl rfl) ?_
 refine a_v 22 rfl (by kernel_rfl) (by kernel_rfl) (by kernel_rfl) rfl rfl rfl (v_move rfl rfl) ?_
 refine a_no 23 rfl (by kernel_rfl) (by kernel_rfl) (by kernel_rfl) rfl rfl rfl ?_
 refine a_no 24 rfl (by kernel_rfl) (by kernel_rfl) (by kernel_rfl) rfl rfl rfl ?_
 refine a_no 25 rfl (by kernel_rfl) (by kernel_rfl) (by kernel_rfl) rfl rfl rfl ?_
 refine a_no 26 rfl (by kernel_rfl) (by kernel_rfl) (by kernel_rfl) rfl rfl rfl ?_
 refine a_no 27 rfl (by kernel_rfl) (by kernel_rfl) (by kernel_rfl) rfl rfl rfl ?_
 refine a_v 28 rfl (by kernel_rfl) (by kernel_rfl) (by kernel_rfl) rfl rfl rfl (v_pick rfl rfl rfl rfl) ?_
 refine a_v 29 rfl (by kernel_rfl) (by kernel_rfl) (by kernel_rfl) rfl rfl rfl (v_move rfl rfl) ?_
 refine a_no 30 rfl (by kernel_rfl) (by kernel_rfl) (by kernel_rfl) rfl rfl rfl ?_
 refine a_no 31 rfl (by kernel_rfl) (by kernel_rfl) (by kernel_rfl) rfl rfl rfl ?_
 refine a_no 32 rfl (by kernel_rfl) (by kernel_rfl) (by kernel_rfl) rfl rfl rfl ?_
 refine a_v 33 rfl (by kernel_rfl) (by kernel_rfl) (by kernel_rfl) rfl rfl rfl (v_pick rfl rfl rfl rfl) ?_
 refine a_v 34 rfl (by kernel_rfl) (by kernel_rfl) (by kernel_rfl) rfl rfl rfl (v_move rfl rfl) ?_
 refine a_no 35 rfl (by kernel_rfl) (by kernel_rfl) (by kernel_rfl) rfl rfl rfl ?_
 refine a_no 36 rfl (by kernel_rfl) (by kernel_rfl) (by kernel_rfl) rfl rfl rfl ?_
 refine a_no 37 rfl (by kernel_rfl) (by kernel_rfl) (by kernel_rfl) rfl rfl rfl ?_
 refine a_no 38 rfl (by kernel_rfl) (by kernel_rfl) (by kernel_rfl) rfl rfl rfl ?_
 refine a_no 39 rfl (by kernel_rfl) (by kernel_rfl) (by kernel_rfl) rfl rfl rfl ?_
 refine a_v 40 rfl (by kernel_rfl) (by kernel_rfl) (by kernel_rfl) rfl rfl rfl (v_pick rfl rfl rfl rfl) ?_
 refine a_v 41 rfl (by kernel_rfl) (by kernel_rfl) (by kernel_rfl) rfl rfl rfl (v_move rfl rfl) ?_
 refine a_no 42 rfl (by kernel_rfl) (by kernel_rfl) (by kernel_rfl) rfl rfl rfl ?_
 refine a_no 43 rfl (by kernel_rfl) (by kernel_rfl) (by kernel_rfl) rfl rfl rfl ?_
 refine a_no 44 rfl (by kernel_rfl) (by kernel_rfl) (by kernel_rfl) rfl rfl rfl ?_
 refine a_no 45 rfl (by kernel_rfl) (by kernel_rfl) (by kernel_rfl) rfl rfl rfl ?_
 refine a_no 46 rfl (by kernel_rfl) (by kernel_rfl) (by kernel_rfl) rfl rfl rfl ?_
 refine a_v 47 rfl (by kernel_rfl) (by kernel_rfl) (by kernel_rfl) rfl rfl rfl (v_pick rfl rfl rfl rfl) ?_
 refine a_v 48 rfl (by kernel_rfl) (by kernel_rfl) (by kernel_rfl) rfl rfl rfl (v_move rfl rfl) ?_
 refine a_no 49 rfl (by kernel_rfl) (by kernel_rfl) (by kernel_rfl) rfl rfl rfl ?_
 refine a_no 50 rfl (by kernel_rfl) (by kernel_rfl) (by kernel_rfl) rfl rfl rfl ?_
 refine a_no 51 rfl (by kernel_rfl) (by kernel_rfl) (by kernel_rfl) rfl rfl rfl ?_
 refine a_v 52 rfl (by kernel_rfl) (by kernel_rfl) (by kernel_rfl) rfl rfl rfl (v_pick rfl rfl rfl rfl) ?_
 refine a_v 53 rfl (by kernel_rfl) (by kernel_rfl) (by kernel_rfl) rfl rfl rfl (v_move rfl rfl) ?_
 refine a_no 54 rfl (by kernel_rfl) (by kernel_rfl) (by kernel_rfl) rfl rfl rfl ?_
 refine a_no 55 rfl (by kernel_rfl) (by kernel_rfl) (by kernel_rfl) rfl rfl rfl ?_
 refine a_no 56 rfl (by kernel_rfl) (by kernel_rfl) (by kernel_rfl) rfl rfl rfl ?_
 refine a_no 57 rfl (by kernel_rfl) (by kernel_rfl) (by kernel_rfl) rfl rfl rfl ?_
 refine a_v 58 rfl (by kernel_rfl) (by kernel_rfl) (by kernel_rfl) rfl rfl rfl (v_pick rfl rfl rfl rfl) ?_
 refine a_v 59 rfl (by kernel_rfl) (by kernel_rfl) (by kernel_rfl) rfl rfl rfl (v_move rfl rfl) ?_
 refine a_no 60 rfl (by kernel_rfl) (by kernel_rfl) (by kernel_rfl) rfl rfl rfl ?_
 refine a_no 61 rfl (by kernel_rfl) (by kernel_rfl) (by kernel_rfl) rfl rfl rfl ?_
 refine a_no 62 rfl (by kernel_rfl) (by kernel_rfl) (by kernel_rfl) rfl rfl rfl ?_
 refine a_no 63 rfl (by kernel_rfl) (by kernel_rfl) (by kernel_rfl) rfl rfl rfl ?_
 refine a_no 64 rfl (by kernel_rfl) (by kernel_rfl) (by kernel_rfl) rfl rfl rfl ?_
 refine a_v 65 rfl (by kernel_rfl) (by kernel_rfl) (by kernel_rfl) rfl rfl rfl (v_pick rfl rfl rfl rfl) ?_
 refine a_v 66 rfl (by kernel_rfl) (by kernel_rfl) (by kernel_rfl) rfl rfl rfl (v_assign rfl rfl) ?_
 refine a_end (by kernel_rfl) ?_
 have hq_0 := Option.some.inj H
 subst hq_0
 exact q_seq (c_frame (subF_spec (by exact ⟨rfl, trivial⟩)) (c_take [3, 4, 5, 6, 7, 8] rfl (by decide) (J_ () trivial)))
 replace H := ite_n (ibeq_f h157_) H
 refine r_any [.f (KC k61 z62_.1 z62_.2 t60_), .f (KC k61 A58_ c59_ t56_), .f (KC (Kd.int .u64) A47_ c48_ t45_), .f (KC k46 (some ⟨b44_, 0, none⟩) 2 ([(⟨3, 7, 2, 0, false⟩ : S46), (⟨5, 0, 1, 1, true⟩ : S46)] : List S46)), .f (KC (Kd.int .u64) A37_ c38_ t28_), .b b2_ (.cells #[.int .i64 1, .int .i64 1, .int .i64 2, .int .i64 2, .int .i64 1, .int .i64 1, .int .i64 9] 23 (0, 0))] (by kernel_rfl) rfl (by kernel_rfl) (mem_pick (idx := [0, 1, 2, 3, 4, 5]) rfl) ?_
 refine a_v 0 rfl (by kernel_rfl) (by kernel_rfl) (by kernel_rfl) rfl rfl rfl (v_ldA [.int .i64 1, .int .i64 1, .int .i64 2, .int .i64 2, .int .i64 1, .int .i64 1, .int .i64 9] 5 rfl Try.underlying23 rfl SZ23 rfl rfl rfl rfl) ?_
 refine a_v 1 rfl (by kernel_rfl) (by kernel_rfl) (by kernel_rfl) rfl rfl rfl (v_move rfl rfl) ?_
 refine a_1 (i := 2) (by kernel_rfl) ?_
 refine i_e rfl rfl (e_callF [4] #[.agg #[.int .i64 1, .int .i64 1, .int .i64 2, .int .i64 2, .int .i64 1, .int .i64 1, .int .i64 9], .slice A37_ t28_.length c38_] rfl rfl rfl rfl rfl Try.func17 rfl (by decide) rfl rfl rfl rfl (fun w ht => shape_Right_con _ 1 1 2 2 1 1 9 A37_ c38_ t28_ true e148_ w _)) ?_
 refine ⟨(mem_pick (idx := [0, 1, 2, 3, 4, 5]) rfl), ?_⟩
 refine a_v 3 rfl (by kernel_rfl) (by kernel_rfl) (by kernel_rfl) rfl rfl rfl (v_move rfl rfl) ?_
 refine a_v 4 rfl (by kernel_rfl) (by kernel_rfl) (by kernel_rfl) rfl rfl rfl (v_ldA [.int .i64 1, .int .i64 1, .int .i64 2, .int .i64 2, .int .i64 1, .int .i64 1, .int .i64 9] 5 rfl Try.underlying23 rfl SZ23 rfl rfl rfl rfl) ?_
 refine a_v 5 rfl (by kernel_rfl) (by kernel_rfl) (by kernel_rfl) rfl rfl rfl (v_move rfl rfl) ?_
 refine a_1 (i := 6) (by kernel_rfl) ?_
 refine i_knowT (KC_nil (Kd.slice 81 k81)) ?_
 refine i_e rfl rfl (e_callF [5, 0] #[.agg #[.int .i64 1, .int .i64 1, .int .i64 2, .int .i64 2, .int .i64 1, .int .i64 1, .int .i64 9], .slice A37_ t28_.length c38_, .slice none 0 0] rfl rfl rfl rfl rfl Try.func18 rfl (by decide) rfl rfl rfl rfl (fun w ht => shape_Rest_con _ 1 1 2 2 1 1 9 A37_ c38_ t28_ none 0 ([] : List (List S81)) true e151_ w _)) ?_
 refine ⟨(mem_pick (idx := [1, 2, 3, 4, 5, 6]) rfl), ?_⟩
 refine a_v 7 rfl (by kernel_rfl) (by kernel_rfl) (by kernel_rfl) rfl rfl rfl (v_pick rfl rfl rfl rfl) ?_
 refine a_v 8 rfl (by kernel_rfl) (by kernel_rfl) (by kernel_rfl) rfl rfl rfl (v_move rfl rfl) ?_
 refine a_v 9 rfl (by kernel_rfl) (by kernel_rfl) (by kernel_rfl) rfl rfl rfl (v_ldA [.int .i64 1, .int .i64 1, .int .i64 2, .int .i64 2, .int .i64 1, .int .i64 1, .int .i64 9] 5 rfl Try.underlying23 rfl SZ23 rfl rfl rfl rfl) ?_
 refine a_v 10 rfl (by kernel_rfl) (by kernel_rfl) (by kernel_rfl) rfl rfl rfl (v_move rfl rfl) ?_
 refine a_1 (i := 11) (by kernel_rfl) ?_
 refine i_e rfl rfl (e_callF [3] #[.agg #[.int .i64 1, .int .i64 1, .int .i64 2, .int .i64 2, .int .i64 1, .int .i64 1, .int .i64 9], .slice A47_ t45_.length c48_, .int .i64 0] rfl rfl rfl rfl rfl Try.func9 rfl (by decide) rfl rfl rfl rfl (fun w ht => shape_Level_con _ 1 1 2 2 1 1 9 A47_ c48_ t45_ 0 t153_ e154_ w _)) ?_
 intro A227_ c228_
 refine ⟨(mem_pick (idx := [2, 3, 4, 5, 6, 7]) rfl), ?_⟩
 refine a_v 12 rfl (by kernel_rfl) (by kernel_rfl) (by kernel_rfl) rfl rfl rfl (v_len rfl rfl rfl Try.underlying24 rfl rfl) ?_
 refine a_v 13 rfl (by kernel_rfl) (by kernel_rfl) (by kernel_rfl) rfl rfl rfl (OpV.cast (v := .bool false) (v_arith rfl rfl rfl rfl) (congrArg Value.bool h157_)) ?_
 refine a_v 14 rfl (by kernel_rfl) (by kernel_rfl) (by kernel_rfl) rfl rfl rfl (v_pick rfl rfl rfl rfl) ?_
 refine a_v 15 rfl (by kernel_rfl) (by kernel_rfl) (by kernel_rfl) rfl rfl rfl (v_move rfl rfl) ?_
 refine a_no 16 rfl (by kernel_rfl) (by kernel_rfl) (by kernel_rfl) rfl rfl rfl ?_
 refine a_no 17 rfl (by kernel_rfl) (by kernel_rfl) (by kernel_rfl) rfl rfl rfl ?_
 refine a_no 18 rfl (by kernel_rfl) (by kernel_rfl) (by kernel_rfl) rfl rfl rfl ?_
 refine a_no 19 rfl (by kernel_rfl) (by kernel_rfl) (by kernel_rfl) rfl rfl rfl ?_
 refine a_no 20 rfl (by kernel_rfl) (by kernel_rfl) (by kernel_rfl) rfl rfl rfl ?_
 refine a_v 21 rfl (by kernel_rfl) (by kernel_rfl) (by kernel_rfl) rfl rfl rfl (v_pick rfl rfl rfl rfl) ?_
 refine a_v 22 rfl (by kernel_rfl) (by kernel_rfl) (by kernel_rfl) rfl rfl rfl (v_move rfl rfl) ?_
 refine a_no 23 rfl (by kernel_rfl) (by kernel_rfl) (by kernel_rfl) rfl rfl rfl ?_
 refine a_no 24 rfl (by kernel_rfl) (by kernel_rfl) (by kernel_rfl) rfl rfl rfl ?_
 refine a_no 25 rfl (by kernel_rfl) (by kernel_rfl) (by kernel_rfl) rfl rfl rfl ?_
 refine a_no 26 rfl (by kernel_rfl) (by kernel_rfl) (by kernel_rfl) rfl rfl rfl ?_
 refine a_no 27 rfl (by kernel_rfl) (by kernel_rfl) (by kernel_rfl) rfl rfl rfl ?_
 refine a_v 28 rfl (by kernel_rfl) (by kernel_rfl) (by kernel_rfl) rfl rfl rfl (v_pick rfl rfl rfl rfl) ?_
 refine a_v 29 rfl (by kernel_rfl) (by kernel_rfl) (by kernel_rfl) rfl rfl rfl (v_move rfl rfl) ?_
 refine a_no 30 rfl (by kernel_rfl) (by kernel_rfl) (by kernel_rfl) rfl rfl rfl ?_
 refine a_no 31 rfl (by kernel_rfl) (by kernel_rfl) (by kernel_rfl) rfl rfl rfl ?_
 refine a_no 32 rfl (by kernel_rfl) (by kernel_rfl) (by kernel_rfl) rfl rfl rfl ?_
 refine a_v 33 rfl (by kernel_rfl) (by kernel_rfl) (by kernel_rfl) rfl rfl rfl (v_pick rfl rfl rfl rfl) ?_
 refine a_v 34 rfl (by kernel_rfl) (by kernel_rfl) (by kernel_rfl) rfl rfl rfl (v_move rfl rfl) ?_
 refine a_no 35 rfl (by kernel_rfl) (by kernel_rfl) (by kernel_rfl) rfl rfl rfl ?_
 refine a_no 36 rfl (by kernel_rfl) (by kernel_rfl) (by kernel_rfl) rfl rfl rfl ?_
 refine a_no 37 rfl (by kernel_rfl) (by kernel_rfl) (by kernel_rfl) rfl rfl rfl ?_
 refine a_no 38 rfl (by kernel_rfl) (by kernel_rfl) (by kernel_rfl) rfl rfl rfl ?_
 refine a_no 39 rfl (by kernel_rfl) (by kernel_rfl) (by kernel_rfl) rfl rfl rfl ?_
 refine a_v 40 rfl (by kernel_rfl) (by kernel_rfl) (by kernel_rfl) rfl rfl rfl (v_pick rfl rfl rfl rfl) ?_
 refine a_v 41 rfl (by kernel_rfl) (by kernel_rfl) (by kernel_rfl) rfl rfl rfl (v_move rfl rfl) ?_
 refine a_no 42 rfl (by kernel_rfl) (by kernel_rfl) (by kernel_rfl) rfl rfl rfl ?_
 refine a_no 43 rfl (by kernel_rfl) (by kernel_rfl) (by kernel_rfl) rfl rfl rfl ?_
 refine a_no 44 rfl (by kernel_rfl) (by kernel_rfl) (by kernel_rfl) rfl rfl rfl ?_
 refine a_no 45 rfl (by kernel_rfl) (by kernel_rfl) (by kernel_rfl) rfl rfl rfl ?_
 refine a_no 46 rfl (by kernel_rfl) (by kernel_rfl) (by kernel_rfl) rfl rfl rfl ?_
 refine a_v 47 rfl (by kernel_rfl) (by kernel_rfl) (by kernel_rfl) rfl rfl rfl (v_pick rfl rfl rfl rfl) ?_
 refine a_v 48 rfl (by kernel_rfl) (by kernel_rfl) (by kernel_rfl) rfl rfl rfl (v_move rfl rfl) ?_
 refine a_no 49 rfl (by kernel_rfl) (by kernel_rfl) (by kernel_rfl) rfl rfl rfl ?_
 refine a_no 50 rfl (by kernel_rfl) (by kernel_rfl) (by kernel_rfl) rfl rfl rfl ?_
 refine a_no 51 rfl (by kernel_rfl) (by kernel_rfl) (by kernel_rfl) rfl rfl rfl ?_
 refine a_v 52 rfl (by kernel_rfl) (by kernel_rfl) (by kernel_rfl) rfl rfl rfl (v_pick rfl rfl rfl rfl) ?_
 refine a_v 53 rfl (by kernel_rfl) (by kernel_rfl) (by kernel_rfl) rfl rfl rfl (v_move rfl rfl) ?_
 refine a_no 54 rfl (by kernel_rfl) (by kernel_rfl) (by kernel_rfl) rfl rfl rfl ?_
 refine a_no 55 rfl (by kernel_rfl) (by kernel_rfl) (by kernel_rfl) rfl rfl rfl ?_
 refine a_no 56 rfl (by kernel_rfl) (by kernel_rfl) (by kernel_rfl) rfl rfl rfl ?_
 refine a_no 57 rfl (by kernel_rfl) (by kernel_rfl) (by kernel_rfl) rfl rfl rfl ?_
 refine a_v 58 rfl (by kernel_rfl) (by kernel_rfl) (by kernel_rfl) rfl rfl rfl (v_pick rfl rfl rfl rfl) ?_
 refine a_v 59 rfl (by kernel_rfl) (by kernel_rfl) (by kernel_rfl) rfl rfl rfl (v_move rfl rfl) ?_
 refine a_no 60 rfl (by kernel_rfl) (by kernel_rfl) (by kernel_rfl) rfl rfl rfl ?_
 refine a_no 61 rfl (by kernel_rfl) (by kernel_rfl) (by kernel_rfl) rfl rfl rfl ?_
 refine a_no 62 rfl (by kernel_rfl) (by kernel_rfl) (by kernel_rfl) rfl rfl rfl ?_
 refine a_no 63 rfl (by kernel_rfl) (by kernel_rfl) (by kernel_rfl) rfl rfl rfl ?_
 refine a_no 64 rfl (by kernel_rfl) (by kernel_rfl) (by kernel_rfl) rfl rfl rfl ?_
 refine a_v 65 rfl (by kernel_rfl) (by kernel_rfl) (by kernel_rfl) rfl rfl rfl (v_pick rfl rfl rfl rfl) ?_
 refine a_v 66 rfl (by kernel_rfl) (by kernel_rfl) (by kernel_rfl) rfl rfl rfl (v_assign rfl rfl) ?_
 refine a_end (by kernel_rfl) ?_
 have hq_0 := Option.some.inj H
 subst hq_0
 exact q_seq (c_frame (subF_spec (by exact ⟨rfl, trivial⟩)) (c_take [2, 3, 4, 5, 6, 7] rfl (by decide) (J_ () trivial)))
 subst h152_
 replace H := ite_n (by decide) H
 refine r_any [.f (KC k61 z62_.1 z62_.2 t60_), .f (KC k61 A58_ c59_ t56_), .f (KC (Kd.int .u64) A47_ c48_ t45_), .f (KC k46 (some ⟨b44_, 0, none⟩) 2 ([(⟨3, 7, 2, 0, false⟩ : S46), (⟨5, 0, 1, 1, true⟩ : S46)] : List S46)), .f (KC (Kd.int .u64) A37_ c38_ t28_), .b b2_ (.cells #[.int .i64 1, .int .i64 1, .int .i64 2, .int .i64 2, .int .i64 1, .int .i64 1, .int .i64 9] 23 (0, 0))] (by kernel_rfl) rfl (by kernel_rfl) (mem_pick (idx := [0, 1, 2, 3, 4, 5]) rfl) ?_
 refine a_v 0 rfl (by kernel_rfl) (by kernel_rfl) (by kernel_rfl) rfl rfl rfl (v_ldA [.int .i64 1, .int .i64 1, .int .i64 2, .int .i64 2, .int .i64 1, .int .i64 1, .int .i64 9] 5 rfl Try.underlying23 rfl SZ23 rfl rfl rfl rfl) ?_
 refine a_v 1 rfl (by kernel_rfl) (by kernel_rfl) (by kernel_rfl) rfl rfl rfl (v_move rfl rfl) ?_
 refine a_1 (i := 2) (by kernel_rfl) ?_
 refine i_e rfl rfl (e_callF [4] #[.agg #[.int .i64 1, .int .i64 1, .int .i64 2, .int .i64 2, .int .i64 1, .int .i64 1, .int .i64 9], .slice A37_ t28_.length c38_] rfl rfl rfl rfl rfl Try.func17 rfl (by decide) rfl rfl rfl rfl (fun w ht => shape_Right_con _ 1 1 2 2 1 1 9 A37_ c38_ t28_ true e148_ w _)) ?_
 refine ⟨(mem_pick (idx := [0, 1, 2, 3, 4, 5]) rfl), ?_⟩
 refine a_v 3 rfl (by kernel_rfl) (by kernel_rfl) (by kernel_rfl) rfl rfl rfl (v_move rfl rfl) ?_
 refine a_v 4 rfl (by kernel_rfl) (by kernel_rfl) (by kernel_rfl) rfl rfl rfl (v_ldA [.int .i64 1, .int .i64 1, .int .i64 2, .int .i64 2, .int .i64 1, .int .i64 1, .int .i64 9] 5 rfl Try.underlying23 rfl SZ23 rfl rfl rfl rfl) ?_
 refine a_v 5 rfl (by kernel_rfl) (by kernel_rfl) (by kernel_rfl) rfl rfl rfl (v_move rfl rfl) ?_
 refine a_1 (i := 6) (by kernel_rfl) ?_
 refine i_knowT (KC_nil (Kd.slice 81 k81)) ?_
 refine i_e rfl rfl (e_callF [5, 0] #[.agg #[.int .i64 1, .int .i64 1, .int .i64 2, .int .i64 2, .int .i64 1, .int .i64 1, .int .i64 9], .slice A37_ t28_.length c38_, .slice none 0 0] rfl rfl rfl rfl rfl Try.func18 rfl (by decide) rfl rfl rfl rfl (fun w ht => shape_Rest_con _ 1 1 2 2 1 1 9 A37_ c38_ t28_ none 0 ([] : List (List S81)) false e151_ w _)) ?_
 refine ⟨(mem_pick (idx := [1, 2, 3, 4, 5, 6]) rfl), ?_⟩
 refine a_v 7 rfl (by kernel_rfl) (by kernel_rfl) (by kernel_rfl) rfl rfl rfl (v_pick rfl rfl rfl rfl) ?_
 refine a_v 8 rfl (by kernel_rfl) (by kernel_rfl) (by kernel_rfl) rfl rfl rfl (v_move rfl rfl) ?_
 refine a_no 9 rfl (by kernel_rfl) (by kernel_rfl) (by kernel_rfl) rfl rfl rfl ?_
 refine a_no 10 rfl (by kernel_rfl) (by kernel_rfl) (by kernel_rfl) rfl rfl rfl ?_
 refine a_no 11 rfl (by kernel_rfl) (by kernel_rfl) (by kernel_rfl) rfl rfl rfl ?_
 refine a_no 12 rfl (by kernel_rfl) (by kernel_rfl) (by kernel_rfl) rfl rfl rfl ?_
 refine a_no 13 rfl (by kernel_rfl) (by kernel_rfl) (by kernel_rfl) rfl rfl rfl ?_
 refine a_v 14 rfl (by kernel_rfl) (by kernel_rfl) (by kernel_rfl) rfl rfl rfl (v_pick rfl rfl rfl rfl) ?_
 refine a_v 15 rfl (by kernel_rfl) (by kernel_rfl) (by kernel_rfl) rfl rfl rfl (v_move rfl rfl) ?_
 refine a_no 16 rfl (by kernel_rfl) (by kernel_rfl) (by kernel_rfl) rfl rfl rfl ?_
 refine a_no 17 rfl (by kernel_rfl) (by kernel_rfl) (by kernel_rfl) rfl rfl rfl ?_
 refine a_no 18 rfl (by kernel_rfl) (by kernel_rfl) (by kernel_rfl) rfl rfl rfl ?_
 refine a_no 19 rfl (by kernel_rfl) (by kernel_rfl) (by kernel_rfl) rfl rfl rfl ?_
 refine a_no 20 rfl (by kernel_rfl) (by kernel_rfl) (by kernel_rfl) rfl rfl rfl ?_
 refine a_v 21 rfl (by kernel_rfl) (by kernel_rfl) (by kernel_rfl) rfl rfl rfl (v_pick rfl rfl rfl rfl) ?_
 refine a_v 22 rfl (by kernel_rfl) (by kernel_rfl) (by kernel_rfl) rfl rfl rfl (v_move rfl rfl) ?_
 refine a_no 23 rfl (by kernel_rfl) (by kernel_rfl) (by kernel_rfl) rfl rfl rfl ?_
 refine a_no 24 rfl (by kernel_rfl) (by kernel_rfl) (by kernel_rfl) rfl rfl rfl ?_
 refine a_no 25 rfl (by kernel_rfl) (by kernel_rfl) (by kernel_rfl) rfl rfl rfl ?_
 refine a_no 26 rfl (by kernel_rfl) (by kernel_rfl) (by kernel_rfl) rfl rfl rfl ?_
 refine a_no 27 rfl (by kernel_rfl) (by kernel_rfl) (by kernel_rfl) rfl rfl rfl ?_
 refine a_v 28 rfl (by kernel_rfl) (by kernel_rfl) (by kernel_rfl) rfl rfl rfl (v_pick rfl rfl rfl rfl) ?_
 refine a_v 29 rfl (by kernel_rfl) (by kernel_rfl) (by kernel_rfl) rfl rfl rfl (v_move rfl rfl) ?_
 refine a_no 30 rfl (by kernel_rfl) (by kernel_rfl) (by kernel_rfl) rfl rfl rfl ?_
 refine a_no 31 rfl (by kernel_rfl) (by kernel_rfl) (by kernel_rfl) rfl rfl rfl ?_
 refine a_no 32 rfl (by kernel_rfl) (by kernel_rfl) (by kernel_rfl) rfl rfl rfl ?_
 refine a_v 33 rfl (by kernel_rfl) (by kernel_rfl) (by kernel_rfl) rfl rfl rfl (v_pick rfl rfl rfl rfl) ?_
 refine a_v 34 rfl (by kernel_rfl) (by kernel_rfl) (by kernel_rfl) rfl rfl rfl (v_move rfl rfl) ?_
 refine a_no 35 rfl (by kernel_rfl) (by kernel_rfl) (by kernel_rfl) rfl rfl rfl ?_
 refine a_no 36 rfl (by kernel_rfl) (by kernel_rfl) (by kernel_rfl) rfl rfl rfl ?_
 refine a_no 37 rfl (by kernel_rfl) (by kernel_rfl) (by kernel_rfl) rfl rfl rfl ?_
 refine a_no 38 rfl (by kernel_rfl) (by kernel_rfl) (by kernel_rfl) rfl rfl rfl ?_
 refine a_no 39 rfl (by kernel_rfl) (by kernel_rfl) (by kernel_rfl) rfl rfl rfl ?_
 refine a_v 40 rfl (by kernel_rfl) (by kernel_rfl) (by kernel_rfl) rfl rfl rfl (v_pick rfl rfl rfl rfl) ?_
 refine a_v 41 rfl (by kernel_rfl) (by kernel_rfl) (by kernel_rfl) rfl rfl rfl (v_move rfl rfl) ?_
 refine a_no 42 rfl (by kernel_rfl) (by kernel_rfl) (by kernel_rfl) rfl rfl rfl ?_
 refine a_no 43 rfl (by kernel_rfl) (by kernel_rfl) (by kernel_rfl) rfl rfl rfl ?_
 refine a_no 44 rfl (by kernel_rfl) (by kernel_rfl) (by kernel_rfl) rfl rfl rfl ?_
 refine a_no 45 rfl (by kernel_rfl) (by kernel_rfl) (by kernel_rfl) rfl rfl rfl ?_
 refine a_no 46 rfl (by kernel_rfl) (by kernel_rfl) (by kernel_rfl) rfl rfl rfl ?_
 refine a_v 47 rfl (by kernel_rfl) (by kernel_rfl) (by kernel_rfl) rfl rfl rfl (v_pick rfl rfl rfl rfl) ?_
 refine a_v 48 rfl (by kernel_rfl) (by kernel_rfl) (by kernel_rfl) rfl rfl rfl (v_move rfl rfl) ?_
 refine a_no 49 rfl (by kernel_rfl) (by kernel_rfl) (by kernel_rfl) rfl rfl rfl ?_
 refine a_no 50 rfl (by kernel_rfl) (by kernel_rfl) (by kernel_rfl) rfl rfl rfl ?_
 refine a_no 51 rfl (by kernel_rfl) (by kernel_rfl) (by kernel_rfl) rfl rfl rfl ?_
 refine a_v 52 rfl (by kernel_rfl) (by kernel_rfl) (by kernel_rfl) rfl rfl rfl (v_pick rfl rfl rfl rfl) ?_
 refine a_v 53 rfl (by kernel_rfl) (by kernel_rfl) (by kernel_rfl) rfl rfl rfl (v_move rfl rfl) ?_
 refine a_no 54 rfl (by kernel_rfl) (by kernel_rfl) (by kernel_rfl) rfl rfl rfl ?_
 refine a_no 55 rfl (by kernel_rfl) (by kernel_rfl) (by kernel_rfl) rfl rfl rfl ?_
 refine a_no 56 rfl (by kernel_rfl) (by kernel_rfl) (by kernel_rfl) rfl rfl rfl ?_
 refine a_no 57 rfl (by kernel_rfl) (by kernel_rfl) (by kernel_rfl) rfl rfl rfl ?_
 refine a_v 58 rfl (by kernel_rfl) (by kernel_rfl) (by kernel_rfl) rfl rfl rfl (v_pick rfl rfl rfl rfl) ?_
 refine a_v 59 rfl (by kernel_rfl) (by kernel_rfl) (by kernel_rfl) rfl rfl rfl (v_move rfl rfl) ?_
 refine a_no 60 rfl (by kernel_rfl) (by kernel_rfl) (by kernel_rfl) rfl rfl rfl ?_
 refine a_no 61 rfl (by kernel_rfl) (by kernel_rfl) (by kernel_rfl) rfl rfl rfl ?_
 refine a_no 62 rfl (by kernel_rfl) (by kernel_rfl) (by kernel_rfl) rfl rfl rfl ?_
 refine a_no 63 rfl (by kernel_rfl) (by kernel_rfl) (by kernel_rfl) rfl rfl rfl ?_
 refine a_no 64 rfl (by kernel_rfl) (by kernel_rfl) (by kernel_rfl) rfl rfl rfl ?_
 refine a_v 65 rfl (by kernel_rfl) (by kernel_rfl) (by kernel_rfl) rfl rfl rfl (v_pick rfl rfl rfl rfl) ?_
 refine a_v 66 rfl (by kernel_rfl) (by kernel_rfl) (by kernel_rfl) rfl rfl rfl (v_assign rfl rfl) ?_
 refine a_end (by kernel_rfl) ?_
 have hq_0 := Option.some.inj H
 subst hq_0
 exact q_seq (c_frame (subF_spec (by exact ⟨rfl, trivial⟩)) (c_take [1, 2, 3, 4, 5, 6] rfl (by decide) (J_ () trivial)))
 subst h149_
 replace H := ite_n (by decide) H
 refine r_any [.f (KC k61 z62_.1 z62_.2 t60_), .f (KC k61 A58_ c59_ t56_), .f (KC (Kd.int .u64) A47_ c48_ t45_), .f (KC k46 (some ⟨b44_, 0, none⟩) 2 ([(⟨3, 7, 2, 0, false⟩ : S46), (⟨5, 0, 1, 1, true⟩ : S46)] : List S46)), .f (KC (Kd.int .u64) A37_ c38_ t28_), .b b2_ (.cells #[.int .i64 1, .int .i64 1, .int .i64 2, .int .i64 2, .int .i64 1, .int .i64 1, .int .i64 9] 23 (0, 0))] (by kernel_rfl) rfl (by kernel_rfl) (mem_pick (idx := [0, 1, 2, 3, 4, 5]) rfl) ?_
 refine a_v 0 rfl (by kernel_rfl) (by kernel_rfl) (by kernel_rfl) rfl rfl rfl (v_ldA [.int .i64 1, .int .i64 1, .int .i64 2, .int .i64 2, .int .i64 1, .int .i64 1, .int .i64 9] 5 rfl Try.underlying23 rfl SZ23 rfl rfl rfl rfl) ?_
 refine a_v 1 rfl (by kernel_rfl) (by kernel_rfl) (by kernel_rfl) rfl rfl rfl (v_move rfl rfl) ?_
 refine a_1 (i := 2) (by kernel_rfl) ?_
 refine i_e rfl rfl (e_callF [4] #[.agg #[.int .i64 1, .int .i64 1, .int .i64 2, .int .i64 2, .int .i64 1, .int .i64 1, .int .i64 9], .slice A37_ t28_.length c38_] rfl rfl rfl rfl rfl Try.func17 rfl (by decide) rfl rfl rfl rfl (fun w ht => shape_Right_con _ 1 1 2 2 1 1 9 A37_ c38_ t28_ false e148_ w _)) ?_
 refine ⟨(mem_pick (idx := [0, 1, 2, 3, 4, 5]) rfl), ?_⟩
 refine a_v 3 rfl (by kernel_rfl) (by kernel_rfl) (by kernel_rfl) rfl rfl rfl (v_move rfl rfl) ?_
 refine a_no 4 rfl (by kernel_rfl) (by kernel_rfl) (by kernel_rfl) rfl rfl rfl ?_
 refine a_no 5 rfl (by kernel_rfl) (by kernel_rfl) (by kernel_rfl) rfl rfl rfl ?_
 refine a_no 6 rfl (by kernel_rfl) (by kernel_rfl) (by kernel_rfl) rfl rfl rfl ?_
 refine a_v 7 rfl (by kernel_rfl) (by kernel_rfl) (by kernel_rfl) rfl rfl rfl (v_pick rfl rfl rfl rfl) ?_
 refine a_v 8 rfl (by kernel_rfl) (by kernel_rfl) (by kernel_rfl) rfl rfl rfl (v_move rfl rfl) ?_
 refine a_no 9 rfl (by kernel_rfl) (by kernel_rfl) (by kernel_rfl) rfl rfl rfl ?_
 refine a_no 10 rfl (by kernel_rfl) (by kernel_rfl) (by kernel_rfl) rfl rfl rfl ?_
 refine a_no 11 rfl (by kernel_rfl) (by kernel_rfl) (by kernel_rfl) rfl rfl rfl ?_
 refine a_no 12 rfl (by kernel_rfl) (by kernel_rfl) (by kernel_rfl) rfl rfl rfl ?_
 refine a_no 13 rfl (by kernel_rfl) (by kernel_rfl) (by kernel_rfl) rfl rfl rfl ?_
 refine a_v 14 rfl (by kernel_rfl) (by kernel_rfl) (by kernel_rfl) rfl rfl rfl (v_pick rfl rfl rfl rfl) ?_
 refine a_v 15 rfl (by kernel_rfl) (by kernel_rfl) (by kernel_rfl) rfl rfl rfl (v_move rfl rfl) ?_
 refine a_no 16 rfl (by kernel_rfl) (by kernel_rfl) (by kernel_rfl) rfl rfl rfl ?_
 refine a_no 17 rfl (by kernel_rfl) (by kernel_rfl) (by kernel_rfl) rfl rfl rfl ?_
 refine a_no 18 rfl (by kernel_rfl) (by kernel_rfl) (by kernel_rfl) rfl rfl rfl ?_
 refine a_no 19 rfl (by kernel_rfl) (by kernel_rfl) (by kernel_rfl) rfl rfl rfl ?_
 refine a_no 20 rfl (by kernel_rfl) (by kernel_rfl) (by kernel_rfl) rfl rfl rfl ?_
 refine a_v 21 rfl (by kernel_rfl) (by kernel_rfl) (by kernel_rfl) rfl rfl rfl (v_pick rfl rfl rfl rfl) ?_
 refine a_v 22 rfl (by kernel_rfl) (by kernel_rfl) (by kernel_rfl) rfl rfl rfl (v_move rfl rfl) ?_
 refine a_no 23 rfl (by kernel_rfl) (by kernel_rfl) (by kernel_rfl) rfl rfl rfl ?_
 refine a_no 24 rfl (by kernel_rfl) (by kernel_rfl) (by kernel_rfl) rfl rfl rfl ?_
 refine a_no 25 rfl (by kernel_rfl) (by kernel_rfl) (by kernel_rfl) rfl rfl rfl ?_
 refine a_no 26 rfl (by kernel_rfl) (by kernel_rfl) (by kernel_rfl) rfl rfl rfl ?_
 refine a_no 27 rfl (by kernel_rfl) (by kernel_rfl) (by kernel_rfl) rfl rfl rfl ?_
 refine a_v 28 rfl (by kernel_rfl) (by kernel_rfl) (by kernel_rfl) rfl rfl rfl (v_pick rfl rfl rfl rfl) ?_
 refine a_v 29 rfl (by kernel_rfl) (by kernel_rfl) (by kernel_rfl) rfl rfl rfl (v_move rfl rfl) ?_
 refine a_no 30 rfl (by kernel_rfl) (by kernel_rfl) (by kernel_rfl) rfl rfl rfl ?_
 refine a_no 31 rfl (by kernel_rfl) (by kernel_rfl) (by kernel_rfl) rfl rfl rfl ?_
 refine a_no 32 rfl (by kernel_rfl) (by kernel_rfl) (by kernel_rfl) rfl rfl rfl ?_
 refine a_v 33 rfl (by kernel_rfl) (by kernel_rfl) (by kernel_rfl) rfl rfl rfl (v_pick rfl rfl rfl rfl) ?_
 refine a_v 34 rfl (by kernel_rfl) (by kernel_rfl) (by kernel_rfl) rfl rfl rfl (v_move rfl rfl) ?_
 refine a_no 35 rfl (by kernel_rfl) (by kernel_rfl) (by kernel_rfl) rfl rfl rfl ?_
 refine a_no 36 rfl (by kernel_rfl) (by kernel_rfl) (by kernel_rfl) rfl rfl rfl ?_
 refine a_no 37 rfl (by kernel_rfl) (by kernel_rfl) (by kernel_rfl) rfl rfl rfl ?_
 refine a_no 38 rfl (by kernel_rfl) (by kernel_rfl) (by kernel_rfl) rfl rfl rfl ?_
 refine a_no 39 rfl (by kernel_rfl) (by kernel_rfl) (by kernel_rfl) rfl rfl rfl ?_
 refine a_v 40 rfl (by kernel_rfl) (by kernel_rfl) (by kernel_rfl) rfl rfl rfl (v_pick rfl rfl rfl rfl) ?_
 refine a_v 41 rfl (by kernel_rfl) (by kernel_rfl) (by kernel_rfl) rfl rfl rfl (v_move rfl rfl) ?_
 refine a_no 42 rfl (by kernel_rfl) (by kernel_rfl) (by kernel_rfl) rfl rfl rfl ?_
 refine a_no 43 rfl (by kernel_rfl) (by kernel_rfl) (by kernel_rfl) rfl rfl rfl ?_
 refine a_no 44 rfl (by kernel_rfl) (by kernel_rfl) (by kernel_rfl) rfl rfl rfl ?_
 refine a_no 45 rfl (by kernel_rfl) (by kernel_rfl) (by kernel_rfl) rfl rfl rfl ?_
 refine a_no 46 rfl (by kernel_rfl) (by kernel_rfl) (by kernel_rfl) rfl rfl rfl ?_
 refine a_v 47 rfl (by kernel_rfl) (by kernel_rfl) (by kernel_rfl) rfl rfl rfl (v_pick rfl rfl rfl rfl) ?_
 refine a_v 48 rfl (by kernel_rfl) (by kernel_rfl) (by kernel_rfl) rfl rfl rfl (v_move rfl rfl) ?_
 refine a_no 49 rfl (by kernel_rfl) (by kernel_rfl) (by kernel_rfl) rfl rfl rfl ?_
 refine a_no 50 rfl (by kernel_rfl) (by kernel_rfl) (by kernel_rfl) rfl rfl rfl ?_
 refine a_no 51 rfl (by kernel_rfl) (by kernel_rfl) (by kernel_rfl) rfl rfl rfl ?_
 refine a_v 52 rfl (by kernel_rfl) (by kernel_rfl) (by kernel_rfl) rfl rfl rfl (v_pick rfl rfl rfl rfl) ?_
 refine a_v 53 rfl (by kernel_rfl) (by kernel_rfl) (by kernel_rfl) rfl rfl rfl (v_move rfl rfl) ?_
 refine a_no 54 rfl (by kernel_rfl) (by kernel_rfl) (by kernel_rfl) rfl rfl rfl ?_
 refine a_no 55 rfl (by kernel_rfl) (by kernel_rfl) (by kernel_rfl) rfl rfl rfl ?_
 refine a_no 56 rfl (by kernel_rfl) (by kernel_rfl) (by kernel_rfl) rfl rfl rfl ?_
 refine a_no 57 rfl (by kernel_rfl) (by kernel_rfl) (by kernel_rfl) rfl rfl rfl ?_
 refine a_v 58 rfl (by kernel_rfl) (by kernel_rfl) (by kernel_rfl) rfl rfl rfl (v_pick rfl rfl rfl rfl) ?_
 refine a_v 59 rfl (by kernel_rfl) (by kernel_rfl) (by kernel_rfl) rfl rfl rfl (v_move rfl rfl) ?_
 refine a_no 60 rfl (by kernel_rfl) (by kernel_rfl) (by kernel_rfl) rfl rfl rfl ?_
 refine a_no 61 rfl (by kernel_rfl) (by kernel_rfl) (by kernel_rfl) rfl rfl rfl ?_
 refine a_no 62 rfl (by kernel_rfl) (by kernel_rfl) (by kernel_rfl) rfl rfl rfl ?_
 refine a_no 63 rfl (by kernel_rfl) (by kernel_rfl) (by kernel_rfl) rfl rfl rfl ?_
 refine a_no 64 rfl (by kernel_rfl) (by kernel_rfl) (by kernel_rfl) rfl rfl rfl ?_
 refine a_v 65 rfl (by kernel_rfl) (by kernel_rfl) (by kernel_rfl) rfl rfl rfl (v_pick rfl rfl rfl rfl) ?_
 refine a_v 66 rfl (by kernel_rfl) (by kernel_rfl) (by kernel_rfl) rfl rfl rfl (v_assign rfl rfl) ?_
 refine a_end (by kernel_rfl) ?_
 have hq_0 := Option.some.inj H
 subst hq_0
 exact q_seq (c_frame (subF_spec (by exact ⟨rfl, trivial⟩)) (c_take [0, 1, 2, 3, 4, 5] rfl (by decide) (J_ () trivial)))
end Go.Eng
namespace Go.Eng
open Go.Proofs Go.RowKit Go.Proofs.YtbonlagecjealaaW.PrintWords
theorem alive_true : stepstonelaw21_alive.f 3000 = some true := by kernel_rfl
end Go.Eng
namespace Go.Eng
open Go.Proofs Go.RowKit Go.Proofs.YtbonlagecjealaaW.PrintWords Go.Proofs.Ytbonlagecjealaa.GSeq
set_option linter.unusedVariables false
set_option linter.unusedSimpArgs false
def stepstonelaw21_ShapeLevels.f (k : Nat) (a0_0 : Int) (a0_1 : Int) (a0_2 : Int) (a0_3 : Int) (a0_4 : Int) (a0_5 : Int) (a0_6 : Int) (l1 : List Int) (a2 : Int) : Option Bool := (stepstoneref21_Level.f k a0_0 a0_1 a0_2 a0_3 a0_4 a0_5 a0_6 l1 a2).bind fun (t8_, t9_) => ((stepstonelaw21_alive.f k).bind fun t24_ => (if t24_ = true then (shape_Level.f k a0_0 a0_1 a0_2 a0_3 a0_4 a0_5 a0_6 l1 a2).bind fun t27_ => (stepstoneref03_Same.f k t27_ t8_).bind fun t31_ => some t31_ else some false) : Option Bool).bind fun j22_ => some j22_
def stepstonelaw21_ShapeMaps.f (k : Nat) (a0_0 : Int) (a0_1 : Int) (a0_2 : Int) (a0_3 : Int) (a0_4 : Int) (a0_5 : Int) (a0_6 : Int) (l1 : List Int) : Option Bool := ((stepstonelaw21_alive.f k).bind fun t32_ => (if t32_ = true then (shape_Map.f k a0_0 a0_1 a0_2 a0_3 a0_4 a0_5 a0_6 l1).bind fun t35_ => (seq_Map_Pairs.f t35_).bind fun t39_ => (stepstonelaw07_Olds.f k t39_).bind fun t42_ => (stepstoneref21_Map.f k a0_0 a0_1 a0_2 a0_3 a0_4 a0_5 a0_6 l1).bind fun t46_ => (stepstoneref07_Equal.f k t42_ t46_).bind fun t50_ => some t50_ else some false) : Option Bool).bind fun j30_ => some j30_
def stepstonelaw21_ShapeLaid.l0 : Nat → Int → Int → Int → Int → Int → Int → Int → List S46 → List Int → Bool → Int → List S48 → Option Bool
  | 0, _, _, _, _, _, _, _, _, _, _, _, _ => none
  | k + 1, a0_0, a0_1, a0_2, a0_3, a0_4, a0_5, a0_6, l1, t31_, x50_, x51_, xs48_ => (if (x51_ : Int) < (l1.length : Int) then (if 0 ≤ (x51_ : Int) then ((if x50_ = true then some (true, true, true, true) else some ((rd_T46 l1 x51_).f4, false, false, (rd_T46 l1 x51_).f4)) : Option (Bool × Bool × Bool × Bool)).bind fun (j104_, j105_, j106_, j107_) => (if ((rd_T46 l1 x51_).f4) = true then stepstonelaw21_ShapeLaid.l0 k a0_0 a0_1 a0_2 a0_3 a0_4 a0_5 a0_6 l1 t31_ j104_ (IntKind.wrap .i64 (x51_ + 1)) xs48_ else (if xs48_.length < 8796093022208 then stepstonelaw21_ShapeLaid.l0 k a0_0 a0_1 a0_2 a0_3 a0_4 a0_5 a0_6 l1 t31_ j104_ (IntKind.wrap .i64 (x51_ + 1)) (xs48_ ++ [(⟨(rd_T46 l1 x51_).f0, (rd_T46 l1 x51_).f1⟩ : S48)]) else none)) else none) else (stepstonelaw21_alive.f k).bind fun t141_ => (if t141_ = true then (shape_Right.f k a0_0 a0_1 a0_2 a0_3 a0_4 a0_5 a0_6 t31_).bind fun t144_ => (if t144_ = true then (shape_Map.f k a0_0 a0_1 a0_2 a0_3 a0_4 a0_5 a0_6 t31_).bind fun t147_ => (seq_Map_Pairs.f t147_).bind fun t151_ => (stepstonelaw07_Olds.f k t151_).bind fun t154_ => (stepstoneref07_Equal.f k t154_ xs48_).bind fun t158_ => (if t158_ = true then (shape_Rest.f k a0_0 a0_1 a0_2 a0_3 a0_4 a0_5 a0_6 t31_ ([] : List (List S81))).bind fun t161_ => some (t161_ == (!x50_)) else some false) else some false) else some false))
def stepstonelaw21_ShapeLaid.f (k : Nat) (a0_0 : Int) (a0_1 : Int) (a0_2 : Int) (a0_3 : Int) (a0_4 : Int) (a0_5 : Int) (a0_6 : Int) (l1 : List S46) : Option Bool := ((stepstoneref11_Right.f k a0_0 a0_1 a0_2 a0_3 a0_4 a0_5 a0_6 l1).bind fun t163_ => (if t163_ = true then some (decide ((a0_2 : Int) > 20)) else some true) : Option Bool).bind fun j20_ => (if j20_ = true then (stepstonelaw21_alive.f k).bind fun t25_ => some t25_ else (stepstoneref11_Lay.f k a0_0 a0_1 a0_2 a0_3 a0_4 a0_5 a0_6 l1).bind fun t31_ => stepstonelaw21_ShapeLaid.l0 k a0_0 a0_1 a0_2 a0_3 a0_4 a0_5 a0_6 l1 t31_ false 0 ([] : List S48))
set_option maxRecDepth 100000 in
set_option maxHeartbeats 4000000 in
theorem stepstonelaw21_ShapeLaid_con (k : Nat) (a0_0 : Int) (a0_1 : Int) (a0_2 : Int) (a0_3 : Int) (a0_4 : Int) (a0_5 : Int) (a0_6 : Int) (A1 : Option Addr) (c1 : Nat) (l1 : List S46) (r0 : Bool) (h : stepstonelaw21_ShapeLaid.f k a0_0 a0_1 a0_2 a0_3 a0_4 a0_5 a0_6 l1 = some r0) (w0 : World) (Hs : List Nat) : Con Try.prog 5 #[.agg #[.int .i64 a0_0, .int .i64 a0_1, .int .i64 a0_2, .int .i64 a0_3, .int .i64 a0_4, .int .i64 a0_5, .int .i64 a0_6], .slice A1 l1.length c1] w0 Hs [.f (KC k46 A1 c1 l1)] (fun X => X (.bool r0) []) := by
 refine con_enter (c := bodyOf Try.f5) Try.func5 rfl (m := 69) rfl rfl rfl ?_
 intro X hX _
 have H := h
 unfold stepstonelaw21_ShapeLaid.f at H
 clear h
 refine c_seq rfl ?_
 refine r_ord (l := [0, 1]) rfl (by kernel_rfl) (by kernel_rfl) ?_
 refine s_e rfl rfl (e_box rfl rfl rfl rfl) ?_
 intro b2_
 refine s_v rfl rfl rfl rfl (v_assign rfl rfl) ?_
 refine s_end ?_
 refine q_seq ?_
 refine c_seq rfl ?_
 obtain ⟨j20_, e21_, H⟩ := bind_s H
 refine c_join (β := Unit) (fun _ => True) (fun _ => [(1, .slice A1 l1.length c1), (2, .pointer (some ⟨b2_, 0, none⟩)), (4, .bool false), (18, .bool j20_)]) (fun _ => [.b b2_ (.cells #[.int .i64 a0_0, .int .i64 a0_1, .int .i64 a0_2, .int .i64 a0_3, .int .i64 a0_4, .int .i64 a0_5, .int .i64 a0_6] 23 (0, 0)), .f (KC k46 A1 c1 l1)]) rfl (fun _ _ => ?_) (fun J_ => ?_)
 rcases Bool.eq_false_or_eq_true j20_ with h22_ | h22_
 subst h22_
 replace H := ite_y rfl H
 refine c_cond1 rfl rfl ?_
 refine c_seq rfl ?_
 refine r_ord (l := [0, 1]) rfl (by kernel_rfl) (by kernel_rfl) ?_
 obtain ⟨t25_, e26_, H⟩ := bind_s H
 refine s_e rfl rfl (e_callF [] #[] rfl rfl rfl rfl rfl Try.func7 rfl (by decide) rfl rfl rfl rfl (fun w ht => stepstonelaw21_alive_con _ t25_ e26_ w _)) ?_
 refine s_v rfl rfl rfl rfl (v_assign rfl rfl) ?_
 refine s_end ?_
 refine q_seq ?_
 refine c_ret rfl ?_
 refine q_then_ret ?_
 have e_ := Option.some.inj H
 subst e_
 exact q_ret (vs := [.bool t25_]) rfl (.tmp rfl .nil) [] rfl (by decide) (hX)
 subst h22_
 replace H := ite_n (by decide) H
 refine c_cond0 rfl rfl ?_
 refine c_skip rfl ?_
 refine q_seq ?_
 refine c_seq rfl ?_
 refine r_ord (l := [0, 1, 2, 3]) rfl (by kernel_rfl) (by kernel_rfl) ?_
 refine s_v rfl rfl rfl rfl (v_ldA [.int .i64 a0_0, .int .i64 a0_1, .int .i64 a0_2, .int .i64 a0_3, .int .i64 a0_4, .int .i64 a0_5, .int .i64 a0_6] 0 rfl Try.underlying23 rfl SZ23 rfl rfl rfl rfl) ?_
 refine s_v rfl rfl rfl rfl (v_move rfl rfl) ?_
 obtain ⟨t31_, e32_, H⟩ := bind_s H
 refine s_e rfl rfl (e_callF [1] #[.agg #[.int .i64 a0_0, .int .i64 a0_1, .int .i64 a0_2, .int .i64 a0_3, .int .i64 a0_4, .int .i64 a0_5, .int .i64 a0_6], .slice A1 l1.length c1] rfl rfl rfl rfl rfl Try.func16 rfl (by decide) rfl rfl rfl rfl (fun w ht => stepstoneref11_Lay_con _ a0_0 a0_1 a0_2 a0_3 a0_4 a0_5 a0_6 A1 c1 l1 t31_ e32_ w _)) ?_
 intro A33_ c34_
 refine s_v rfl rfl rfl rfl (v_assign rfl rfl) ?_
 refine s_end ?_
 refine q_seq ?_
 refine c_seq rfl ?_
 refine r_ord (l := [0]) rfl (by kernel_rfl) (by kernel_rfl) ?_
 refine s_v rfl rfl rfl rfl (v_assign rfl rfl) ?_
 refine s_end ?_
 refine q_seq ?_
 refine c_seq rfl ?_
 refine r_ord (l := [0]) rfl (by kernel_rfl) (by kernel_rfl) ?_
 refine s_v rfl rfl rfl rfl (v_assign rfl rfl) ?_
 refine s_end ?_
 refine q_seq ?_
 refine c_seq rfl ?_
 refine c_seq rfl ?_
 refine r_ord (l := [0, 1, 2]) rfl (by kernel_rfl) (by kernel_rfl) ?_
 refine s_v rfl rfl rfl rfl (v_move rfl rfl) ?_
 refine s_v rfl rfl rfl rfl (v_len rfl rfl rfl Try.underlying42 rfl rfl) ?_
 refine s_v rfl rfl rfl rfl (v_move rfl rfl) ?_
 refine s_end ?_
 refine q_seq ?_
 refine c_block rfl ?_
 refine c_knowT (φ := fun _ => True) (fun _ => trivial) ?_
 refine c_loop (σ := Nat × Bool × Int × Ro × List S48) (fun s_ : Nat × Bool × Int × Ro × List S48 => match s_ with | (k, x50_, x51_, ro47_, xs48_) => stepstonelaw21_ShapeLaid.l0 k a0_0 a0_1 a0_2 a0_3 a0_4 a0_5 a0_6 l1 t31_ x50_ x51_ xs48_ = some r0 ∧ ORow 2 enc48 ro47_ xs48_) (fun s_ : Nat × Bool × Int × Ro × List S48 => match s_ with | (k, x50_, x51_, ro47_, xs48_) => k) (fun s_ : Nat × Bool × Int × Ro × List S48 => match s_ with | (k, x50_, x51_, ro47_, xs48_) => [(2, .pointer (some ⟨b2_, 0, none⟩)), (4, .bool false), (5, .slice A33_ t31_.length c34_), (6, .slice (OA ro47_) xs48_.length (OC ro47_)), (7, .bool x50_), (23, .slice A1 l1.length c1), (24, .int .i64 (l1.length : Int)), (25, .int .i64 x51_)]) (fun s_ : Nat × Bool × Int × Ro × List S48 => match s_ with | (k, x50_, x51_, ro47_, xs48_) => [.f (KC (Kd.int .u64) A33_ c34_ t31_), .b b2_ (.cells #[.int .i64 a0_0, .int .i64 a0_1, .int .i64 a0_2, .int .i64 a0_3, .int .i64 a0_4, .int .i64 a0_5, .int .i64 a0_6] 23 (0, 0)), .f (KC k46 A1 c1 l1), OE 48 ro47_]) (k, false, 0, none, ([] : List S48)) [1, 2, 3, 0] rfl ⟨H, ORow.nil⟩ (subF_spec ⟨rfl, rfl, rfl, rfl, rfl, rfl, rfl, rfl, trivial⟩) rfl (by decide) ?_
 rintro ⟨k0_, x50_, x51_, ro47_, xs48_⟩ hs74_
 clear H
 obtain ⟨H, hr49_⟩ : stepstonelaw21_ShapeLaid.l0 k0_ a0_0 a0_1 a0_2 a0_3 a0_4 a0_5 a0_6 l1 t31_ x50_ x51_ xs48_ = some r0 ∧ ORow 2 enc48 ro47_ xs48_ := hs74_
 try clear hs74_
 rcases k0_ with _ | k0_
 exact none_no (show none = _ from H)
 unfold stepstonelaw21_ShapeLaid.l0 at H
 have hko_0 : k0_ ≤ k0_ := Nat.le_refl _
 refine c_seq rfl ?_
 refine r_ord (l := [0]) rfl (by kernel_rfl) (by kernel_rfl) ?_
 refine s_v rfl rfl rfl rfl (v_arith rfl rfl rfl rfl) ?_
 refine s_end ?_
 refine q_seq ?_
 refine c_seq rfl ?_
 rcases Bool.eq_false_or_eq_true (decide ((x51_ : Int) < (l1.length : Int))) with h78_ | h78_
 replace H := ite_y (dec_t h78_) H
 refine c_cond rfl rfl (fun _ => ?_) (fun h79_ => absurd (h79_.symm.trans h78_) (by decide))
 refine c_skip rfl ?_
 refine q_seq ?_
 refine c_seq rfl ?_
 refine c_block rfl ?_
 refine c_seq rfl ?_
 refine r_ord (l := [0, 1, 2, 3]) rfl (by kernel_rfl) (by kernel_rfl) ?_
 obtain ⟨n101_, H⟩ := ite_no H
 refine s_v rfl rfl rfl rfl (v_iaK (i := 2) rfl Try.underlying42 SZ46 rfl rfl rfl rfl n101_ (dec_t h78_)) ?_
 refine s_v rfl rfl rfl rfl (v_ldKA z46 [.int .u64 ((rd_T46 l1 x51_).f0), .int .u64 ((rd_T46 l1 x51_).f1), .int .i64 ((rd_T46 l1 x51_).f2), .int .i64 ((rd_T46 l1 x51_).f3), .bool ((rd_T46 l1 x51_).f4)] 2 rfl Try.underlying46 rfl SZ46 rfl rfl rfl rfl n101_ (dec_t h78_) (fun w K h => k46_open h)) ?_
 refine s_e rfl rfl (e_alloc rfl rfl rfl ZR46) ?_
 intro b102_
 refine s_e rfl rfl (e_stA 0 rfl rfl SZ46 rfl rfl rfl rfl rfl rfl) ?_
 refine s_end ?_
 refine q_seq ?_
 obtain ⟨⟨j104_, j105_, j106_, j107_⟩, e108_, H⟩ := bind_s H
 refine c_join (β := Unit) (fun _ => True) (fun _ => [(2, .pointer (some ⟨b2_, 0, none⟩)), (4, .bool false), (5, .slice A33_ t31_.length c34_), (6, .slice (OA ro47_) xs48_.length (OC ro47_)), (7, .bool j104_), (23, .slice A1 l1.length c1), (24, .int .i64 (l1.length : Int)), (25, .int .i64 x51_), (26, .bool (decide ((x51_ : Int) < (l1.length : Int)))), (27, .pointer (some (at0 A1 x51_ 5))), (28, .agg #[.int .u64 ((rd_T46 l1 x51_).f0), .int .u64 ((rd_T46 l1 x51_).f1), .int .i64 ((rd_T46 l1 x51_).f2), .int .i64 ((rd_T46 l1 x51_).f3), .bool ((rd_T46 l1 x51_).f4)]), (9, .pointer (some ⟨b102_, 0, none⟩)), (29, .bool j105_), (30, .bool j106_), (33, .bool j107_)]) (fun _ => [.b b102_ (.cells #[.int .u64 ((rd_T46 l1 x51_).f0), .int .u64 ((rd_T46 l1 x51_).f1), .int .i64 ((rd_T46 l1 x51_).f2), .int .i64 ((rd_T46 l1 x51_).f3), .bool ((rd_T46 l1 x51_).f4)] 46 (0, 0)), .f (KC (Kd.int .u64) A33_ c34_ t31_), .b b2_ (.cells #[.int .i64 a0_0, .int .i64 a0_1, .int .i64 a0_2, .int .i64 a0_3, .int .i64 a0_4, .int .i64 a0_5, .int .i64 a0_6] 23 (0, 0)), .f (KC k46 A1 c1 l1), OE 48 ro47_]) rfl (fun _ _ => ?_) (fun J_ => ?_)
 refine c_seq rfl ?_
 refine r_ord (l := [0, 1, 2]) rfl (by kernel_rfl) (by kernel_rfl) ?_
 refine s_v rfl rfl rfl rfl (v_fa rfl Try.underlying46 rfl SZ4 rfl) ?_
 refine s_v rfl rfl rfl rfl (v_ld 0 rfl Try.underlying4 rfl rfl rfl rfl) ?_
 refine s_v rfl rfl rfl rfl (v_not rfl rfl) ?_
 refine s_end ?_
 refine q_seq ?_
 rcases Bool.eq_false_or_eq_true (!((rd_T46 l1 x51_).f4)) with h109_ | h109_
 replace H := ite_n (not_t (bnot_t h109_)) H
 refine c_cond rfl rfl (fun _ => ?_) (fun h110_ => absurd (h110_.symm.trans h109_) (by decide))
 refine r_ord (l := [0, 1, 2, 3, 4, 5, 6, 7, 8]) rfl (by kernel_rfl) (by kernel_rfl) ?_
 refine s_v rfl rfl rfl rfl (v_move rfl rfl) ?_
 refine s_v rfl rfl rfl rfl (v_fa rfl Try.underlying46 rfl SZ25 rfl) ?_
 refine s_v rfl rfl rfl rfl (v_ld 0 rfl Try.underlying25 rfl rfl rfl rfl) ?_
 refine s_v rfl rfl rfl rfl (v_fa rfl Try.underlying46 rfl SZ25 rfl) ?_
 refine s_v rfl rfl rfl rfl (v_ld 0 rfl Try.underlying25 rfl rfl rfl rfl) ?_
 refine s_v rfl rfl rfl rfl (v_build (places := #[(0, 1), (1, 1)]) #[.int .u64 ((rd_T46 l1 x51_).f0), .int .u64 ((rd_T46 l1 x51_).f1)] rfl ZR48 Try.underlying48 (by kernel_rfl) rfl (by kernel_rfl)) ?_
 refine s_e rfl rfl (e_bslice #[.int .u64 ((rd_T46 l1 x51_).f0), .int .u64 ((rd_T46 l1 x51_).f1)] (.agg #[.int .u64 0, .int .u64 0]) rfl rfl rfl Try.underlying33 SZ48 ZR48 (by decide) rfl (by kernel_rfl)) ?_
 intro b111_
 obtain ⟨n112_, H⟩ := ite_no H
 refine s_e rfl rfl (e_appO (enc := enc48) (v := (⟨(rd_T46 l1 x51_).f0, (rd_T46 l1 x51_).f1⟩ : S48)) (xs := xs48_) (ro := ro47_) (z := (.agg #[.int .u64 0, .int .u64 0])) (m := 2) (bytes := 16) (i := 0) (j := 5) rfl rfl rfl rfl rfl rfl Try.underlying33 (by kernel_rfl) rfl (by decide) rfl rfl hr49_ rfl rfl rfl rfl (flat48.one _) (by omega) (by simp only [maxLen]; omega)) ?_
 intro ro113_ hr114_ sm115_
 refine s_v rfl rfl rfl rfl (v_assign rfl rfl) ?_
 refine s_end ?_
 refine q_block ?_
 refine q_seq ?_
 refine r_ord (l := [0, 1]) rfl (by kernel_rfl) (by kernel_rfl) ?_
 refine s_v rfl rfl rfl rfl (v_arith rfl rfl rfl rfl) ?_
 refine s_v rfl rfl rfl rfl (v_move rfl rfl) ?_
 refine s_end ?_
 exact q_again (k0_, j104_, IntKind.wrap .i64 (x51_ + 1), ro113_, (xs48_ ++ [(⟨(rd_T46 l1 x51_).f0, (rd_T46 l1 x51_).f1⟩ : S48)])) [2, 3, 4, 5] ⟨H, hr114_⟩ (Nat.lt_succ_of_le hko_0) (subF_spec ⟨rfl, rfl, rfl, rfl, rfl, rfl, rfl, rfl, trivial⟩) rfl (by decide)
 replace H := ite_y (bnot_f h109_) H
 refine c_cond rfl rfl (fun h116_ => absurd (h116_.symm.trans h109_) (by decide)) (fun _ => ?_)
 refine c_skip rfl ?_
 refine q_block ?_
 refine q_seq ?_
 refine r_ord (l := [0, 1]) rfl (by kernel_rfl) (by kernel_rfl) ?_
 refine s_v rfl rfl rfl rfl (v_arith rfl rfl rfl rfl) ?_
 refine s_v rfl rfl rfl rfl (v_move rfl rfl) ?_
 refine s_end ?_
 exact q_again (k0_, j104_, IntKind.wrap .i64 (x51_ + 1), ro47_, xs48_) [1, 2, 3, 4] ⟨H, hr49_⟩ (Nat.lt_succ_of_le hko_0) (subF_spec ⟨rfl, rfl, rfl, rfl, rfl, rfl, rfl, rfl, trivial⟩) rfl (by decide)
 clear H
 have H := e108_
 clear e108_
 refine r_ord (l := [0, 1, 2, 3, 4, 5]) rfl (by kernel_rfl) (by kernel_rfl) ?_
 refine s_v rfl rfl rfl rfl (v_move rfl rfl) ?_
 refine s_v rfl rfl rfl rfl (v_move rfl rfl) ?_
 rcases Bool.eq_false_or_eq_true x50_ with h117_ | h117_
 subst h117_
 replace H := ite_y rfl H
 refine s_no rfl rfl rfl rfl ?_
 refine s_no rfl rfl rfl rfl ?_
 refine s_v rfl rfl rfl rfl (v_pick rfl rfl rfl rfl) ?_
 refine s_v rfl rfl rfl rfl (v_assign rfl rfl) ?_
 refine s_end ?_
 have hq_0 := Option.some.inj H
 obtain ⟨ee_0, hq_1⟩ := Prod.mk.inj hq_0
 obtain ⟨ee_1, hq_2⟩ := Prod.mk.inj hq_1
 obtain ⟨ee_2, hq_3⟩ := Prod.mk.inj hq_2
 subst ee_0
 subst ee_1
 subst ee_2
 subst hq_3
 exact q_seq (c_frame (subF_spec (by exact ⟨rfl, rfl, rfl, rfl, rfl, rfl, rfl, rfl, rfl, rfl, rfl, rfl, rfl, rfl, rfl, trivial⟩)) (c_take [0, 1, 2, 3, 4] rfl (by decide) (J_ () trivial)))
 subst h117_
 replace H := ite_n (by decide) H
 refine s_vg rfl rfl rfl rfl (v_fa rfl Try.underlying46 rfl SZ4 rfl) ?_
 refine s_vg rfl rfl rfl rfl (v_ld 0 rfl Try.underlying4 rfl rfl rfl rfl) ?_
 refine s_v rfl rfl rfl rfl (v_pick rfl rfl rfl rfl) ?_
 refine s_v rfl rfl rfl rfl (v_assign rfl rfl) ?_
 refine s_end ?_
 have hq_0 := Option.some.inj H
 obtain ⟨ee_0, hq_1⟩ := Prod.mk.inj hq_0
 obtain ⟨ee_1, hq_2⟩ := Prod.mk.inj hq_1
 obtain ⟨ee_2, hq_3⟩ := Prod.mk.inj hq_2
 subst ee_0
 subst ee_1
 subst ee_2
 subst hq_3
 exact q_seq (c_frame (subF_spec (by exact ⟨rfl, rfl, rfl, rfl, rfl, rfl, rfl, rfl, rfl, rfl, rfl, rfl, rfl, rfl, rfl, trivial⟩)) (c_take [0, 1, 2, 3, 4] rfl (by decide) (J_ () trivial)))
 replace H := ite_n (dec_f h78_) H
 refine c_cond rfl rfl (fun h118_ => absurd (h118_.symm.trans h78_) (by decide)) (fun _ => ?_)
 refine c_exit (i := 0) rfl rfl ?_
 refine q_then_exit ?_
 refine q_then_exit ?_
 refine q_block_here rfl ?_
 refine q_seq ?_
 refine c_seq rfl ?_
 refine r_ord (l := [0, 1, 2, 3, 4, 5, 6, 7, 8, 9, 10, 11, 12, 13, 14, 15, 16, 17, 18, 19, 20, 21, 22, 23]) rfl (by kernel_rfl) (by kernel_rfl) ?_
 obtain ⟨t141_, e142_, H⟩ := bind_s H
 refine s_e rfl rfl (e_callF [] #[] rfl rfl rfl rfl rfl Try.func7 rfl (by decide) rfl rfl rfl rfl (fun w ht => stepstonelaw21_alive_con _ t141_ e142_ w _)) ?_
 refine s_v rfl rfl rfl rfl (v_move rfl rfl) ?_
 rcases Bool.eq_false_or_eq_true t141_ with h143_ | h143_
 subst h143_
 replace H := ite_y rfl H
 refine s_vg rfl rfl rfl rfl (v_ldA [.int .i64 a0_0, .int .i64 a0_1, .int .i64 a0_2, .int .i64 a0_3, .int .i64 a0_4, .int .i64 a0_5, .int .i64 a0_6] 1 rfl Try.underlying23 rfl SZ23 rfl rfl rfl rfl) ?_
 refine s_vg rfl rfl rfl rfl (v_move rfl rfl) ?_
 obtain ⟨t144_, e145_, H⟩ := bind_s H
 refine s_eg rfl rfl (e_callF [0] #[.agg #[.int .i64 a0_0, .int .i64 a0_1, .int .i64 a0_2, .int .i64 a0_3, .int .i64 a0_4, .int .i64 a0_5, .int .i64 a0_6], .slice A33_ t31_.length c34_] rfl rfl rfl rfl rfl Try.func17 rfl (by decide) rfl rfl rfl rfl (fun w ht => shape_Right_con _ a0_0 a0_1 a0_2 a0_3 a0_4 a0_5 a0_6 A33_ c34_ t31_ t144_ e145_ w _)) ?_
 refine s_v rfl rfl rfl rfl (v_pick rfl rfl rfl rfl) ?_
 refine s_v rfl rfl rfl rfl (v_move rfl rfl) ?_
 rcases Bool.eq_false_or_eq_true t144_ with h146_ | h146_
 subst h146_
 replace H := ite_y rfl H
 refine s_vg rfl rfl rfl rfl (v_ldA [.int .i64 a0_0, .int .i64 a0_1, .int .i64 a0_2, .int .i64 a0_3, .int .i64 a0_4, .int .i64 a0_5, .int .i64 a0_6] 1 rfl Try.underlying23 rfl SZ23 rfl rfl rfl rfl) ?_
 refine s_vg rfl rfl rfl rfl (v_move rfl rfl) ?_
 obtain ⟨t147_, e148_, H⟩ := bind_s H
 refine s_eg rfl rfl (e_callF [0] #[.agg #[.int .i64 a0_0, .int .i64 a0_1, .int .i64 a0_2, .int .i64 a0_3, .int .i64 a0_4, .int .i64 a0_5, .int .i64 a0_6], .slice A33_ t31_.length c34_] rfl rfl rfl rfl rfl Try.func12 rfl (by decide) rfl rfl rfl rfl (fun w ht => shape_Map_con _ a0_0 a0_1 a0_2 a0_3 a0_4 a0_5 a0_6 A33_ c34_ t31_ t147_ e148_ w _)) ?_
 intro A149_ c150_
 obtain ⟨t151_, e152_, H⟩ := bind_s H
 refine s_eg rfl rfl (e_callK (fun z : (Option Addr × Nat) => .slice z.1 t151_.length z.2) (fun z => [KC k61 z.1 z.2 t151_]) #[.agg #[.slice A149_ t147_.length c150_]] rfl rfl rfl rfl rfl Try.func13 rfl (by decide) rfl rfl (fun w ht => seq_Map_Pairs.con A149_ c150_ t147_ t151_ e152_ w (Tri.fact ht 0 rfl))) ?_
 intro z153_
 obtain ⟨t154_, e155_, H⟩ := bind_s H
 refine s_eg rfl rfl (e_callF [0] #[.slice z153_.1 t151_.length z153_.2] rfl rfl rfl rfl rfl Try.func11 rfl (by decide) rfl rfl rfl rfl (fun w ht => stepstonelaw07_Olds_con _ z153_.1 z153_.2 t151_ t154_ e155_ w _)) ?_
 intro A156_ c157_
 refine s_vg rfl rfl rfl rfl (v_move rfl rfl) ?_
 refine s_giveO flat48 hr49_ [6, 0, 1, 2, 3, 4, 5] rfl (by decide) rfl ?_
 obtain ⟨t158_, e159_, H⟩ := bind_s H
 refine s_eg rfl rfl (e_callF [1, 0] #[.slice A156_ t154_.length c157_, .slice (OA ro47_) xs48_.length (OC ro47_)] rfl rfl rfl rfl rfl Try.func10 rfl (by decide) rfl rfl rfl rfl (fun w ht => stepstoneref07_Equal_con _ A156_ c157_ t154_ (OA ro47_) (OC ro47_) xs48_ t158_ e159_ w _)) ?_
 refine s_v rfl rfl rfl rfl (v_pick rfl rfl rfl rfl) ?_
 refine s_v rfl rfl rfl rfl (v_move rfl rfl) ?_
 rcases Bool.eq_false_or_eq_true t158_ with h160_ | h160_
 subst h160_
 replace H := ite_y rfl H
 refine s_vg rfl rfl rfl rfl (v_ldA [.int .i64 a0_0, .int .i64 a0_1, .int .i64 a0_2, .int .i64 a0_3, .int .i64 a0_4, .int .i64 a0_5, .int .i64 a0_6] 5 rfl Try.underlying23 rfl SZ23 rfl rfl rfl rfl) ?_
 refine s_vg rfl rfl rfl rfl (v_move rfl rfl) ?_
 refine s_knowT (KC_nil (Kd.slice 81 k81)) ?_
 obtain ⟨t161_, e162_, H⟩ := bind_s H
 refine s_eg rfl rfl (e_callF [5, 0] #[.agg #[.int .i64 a0_0, .int .i64 a0_1, .int .i64 a0_2, .int .i64 a0_3, .int .i64 a0_4, .int .i64 a0_5, .int .i64 a0_6], .slice A33_ t31_.length c34_, .slice none 0 0] rfl rfl rfl rfl rfl Try.func18 rfl (by decide) rfl rfl rfl rfl (fun w ht => shape_Rest_con _ a0_0 a0_1 a0_2 a0_3 a0_4 a0_5 a0_6 A33_ c34_ t31_ none 0 ([] : List (List S81)) t161_ e162_ w _)) ?_
 refine s_vg rfl rfl rfl rfl (v_move rfl rfl) ?_
 refine s_vg rfl rfl rfl rfl (v_not rfl rfl) ?_
 refine s_vg rfl rfl rfl rfl (v_eqB rfl Try.underlying4 rfl rfl) ?_
 refine s_v rfl rfl rfl rfl (v_pick rfl rfl rfl rfl) ?_
 refine s_v rfl rfl rfl rfl (v_assign rfl rfl) ?_
 refine s_end ?_
 refine q_seq ?_
 refine c_ret rfl ?_
 have e_ := Option.some.inj H
 subst e_
 exact q_ret (vs := [.bool (t161_ == (!x50_))]) rfl (.tmp rfl .nil) [] rfl (by decide) (hX)
 subst h160_
 replace H := ite_n (by decide) H
 refine s_no rfl rfl rfl rfl ?_
 refine s_no rfl rfl rfl rfl ?_
 refine s_no rfl rfl rfl rfl ?_
 refine s_no rfl rfl rfl rfl ?_
 refine s_no rfl rfl rfl rfl ?_
 refine s_no rfl rfl rfl rfl ?_
 refine s_v rfl rfl rfl rfl (v_pick rfl rfl rfl rfl) ?_
 refine s_v rfl rfl rfl rfl (v_assign rfl rfl) ?_
 refine s_end ?_
 refine q_seq ?_
 refine c_ret rfl ?_
 have e_ := Option.some.inj H
 subst e_
 exact q_ret (vs := [.bool false]) rfl (.tmp rfl .nil) [] rfl (by decide) (hX)
 subst h146_
 replace H := ite_n (by decide) H
 refine s_no rfl rfl rfl rfl ?_
 refine s_no rfl rfl rfl rfl ?_
 refine s_no rfl rfl rfl rfl ?_
 refine s_no rfl rfl rfl rfl ?_
 refine s_no rfl rfl rfl rfl ?_
 refine s_no rfl rfl rfl rfl ?_
 refine s_no rfl rfl rfl rfl ?_
 refine s_v rfl rfl rfl rfl (v_pick rfl rfl rfl rfl) ?_
 refine s_v rfl rfl rfl rfl (v_move rfl rfl) ?_
 refine s_no rfl rfl rfl rfl ?_
 refine s_no rfl rfl rfl rfl ?_
 refine s_no rfl rfl rfl rfl ?_
 refine s_no rfl rfl rfl rfl ?_
 refine s_no rfl rfl rfl rfl ?_
 refine s_no rfl rfl rfl rfl ?_
 refine s_v rfl rfl rfl rfl (v_pick rfl rfl rfl rfl) ?_
 refine s_v rfl rfl rfl rfl (v_assign rfl rfl) ?_
 refine s_end ?_
 refine q_seq ?_
 refine c_ret rfl ?_
 have e_ := Option.some.inj H
 subst e_
 exact q_ret (vs := [.bool false]) rfl (.tmp rfl .nil) [] rfl (by decide) (hX)
 subst h143_
 replace H := ite_n (by decide) H
 refine s_no rfl rfl rfl rfl ?_
 refine s_no rfl rfl rfl rfl ?_
 refine s_no rfl rfl rfl rfl ?_
 refine s_v rfl rfl rfl rfl (v_pick rfl rfl rfl rfl) ?_
 refine s_v rfl rfl rfl rfl (v_move rfl rfl) ?_
 refine s_no rfl rfl rfl rfl ?_
 refine s_no rfl rfl rfl rfl ?_
 refine s_no rfl rfl rfl rfl ?_
 refine s_no rfl rfl rfl rfl ?_
 refine s_no rfl rfl rfl rfl ?_
 refine s_no rfl rfl rfl rfl ?_
 refine s_no rfl rfl rfl rfl ?_
 refine s_v rfl rfl rfl rfl (v_pick rfl rfl rfl rfl) ?_
 refine s_v rfl rfl rfl rfl (v_move rfl rfl) ?_
 refine s_no rfl rfl rfl rfl ?_
 refine s_no rfl rfl rfl rfl ?_
 refine s_no rfl rfl rfl rfl ?_
 refine s_no rfl rfl rfl rfl ?_
 refine s_no rfl rfl rfl rfl ?_
 refine s_no rfl rfl rfl rfl ?_
 refine s_v rfl rfl rfl rfl (v_pick rfl rfl rfl rfl) ?_
 refine s_v rfl rfl rfl rfl (v_assign rfl rfl) ?_
 refine s_end ?_
 refine q_seq ?_
 refine c_ret rfl ?_
 have e_ := Option.some.inj H
 subst e_
 exact q_ret (vs := [.bool false]) rfl (.tmp rfl .nil) [] rfl (by decide) (hX)
 clear H
 have H := e21_
 clear e21_
 refine r_ord (l := [0, 1, 2, 3, 4, 5, 6, 7, 8]) rfl (by kernel_rfl) (by kernel_rfl) ?_
 refine s_v rfl rfl rfl rfl (v_ldA [.int .i64 a0_0, .int .i64 a0_1, .int .i64 a0_2, .int .i64 a0_3, .int .i64 a0_4, .int .i64 a0_5, .int .i64 a0_6] 0 rfl Try.underlying23 rfl SZ23 rfl rfl rfl rfl) ?_
 refine s_v rfl rfl rfl rfl (v_move rfl rfl) ?_
 obtain ⟨t163_, e164_, H⟩ := bind_s H
 refine s_e rfl rfl (e_callF [1] #[.agg #[.int .i64 a0_0, .int .i64 a0_1, .int .i64 a0_2, .int .i64 a0_3, .int .i64 a0_4, .int .i64 a0_5, .int .i64 a0_6], .slice A1 l1.length c1] rfl rfl rfl rfl rfl Try.func15 rfl (by decide) rfl rfl rfl rfl (fun w ht => stepstoneref11_Right_con _ a0_0 a0_1 a0_2 a0_3 a0_4 a0_5 a0_6 A1 c1 l1 t163_ e164_ w _)) ?_
 refine s_v rfl rfl rfl rfl (v_not rfl rfl) ?_
 refine s_v rfl rfl rfl rfl (v_move rfl rfl) ?_
 rcases Bool.eq_false_or_eq_true (!t163_) with h165_ | h165_
 replace H := ite_n (not_t (bnot_t h165_)) H
 refine s_splitv (d := 14) (t := !t163_) rfl (fun _ => ?_) (fun h166_ => absurd (h166_.symm.trans h165_) (by decide))
 refine s_no rfl rfl rfl rfl ?_
 refine s_no rfl rfl rfl rfl ?_
 refine s_no rfl rfl rfl rfl ?_
 refine s_v rfl rfl rfl rfl (v_pick rfl rfl rfl rfl) ?_
 refine s_end ?_
 have hq_0 := Option.some.inj H
 subst hq_0
 exact q_seq (c_frame (subF_spec (by exact ⟨rfl, rfl, rfl, rfl, trivial⟩)) (c_take [0, 1] rfl (by decide) (J_ () trivial)))
 replace H := ite_y (bnot_f h165_) H
 refine s_splitv (d := 14) (t := !t163_) rfl (fun h167_ => absurd (h167_.symm.trans h165_) (by decide)) (fun _ => ?_)
 refine s_vg rfl rfl rfl rfl (v_fa rfl Try.underlying23 rfl SZ3 rfl) ?_
 refine s_vg rfl rfl rfl rfl (v_ld 0 rfl Try.underlying3 rfl rfl rfl rfl) ?_
 refine s_vg rfl rfl rfl rfl (v_arith rfl rfl rfl rfl) ?_
 refine s_v rfl rfl rfl rfl (v_pick rfl rfl rfl rfl) ?_
 refine s_end ?_
 have hq_0 := Option.some.inj H
 subst hq_0
 exact q_seq (c_frame (subF_spec (by exact ⟨rfl, rfl, rfl, rfl, trivial⟩)) (c_take [0, 1] rfl (by decide) (J_ () trivial)))
end Go.Eng
namespace Go.Eng
open Go.Proofs Go.RowKit Go.Proofs.YtbonlagecjealaaW.PrintWords
set_option linter.unusedVariables false
set_option linter.unusedSimpArgs false
theorem ofInt_nat {x : Int} (h0 : 0 ≤ x) (h1 : x < 18446744073709551616) : ((BitVec.ofInt 64 x).toNat : Int) = x := by
  rw [BitVec.toNat_ofInt]
  have : 0 ≤ x % ((2 ^ 64 : Nat) : Int) := Int.emod_nonneg _ (by decide)
  rw [Int.toNat_of_nonneg this]
  exact Int.emod_eq_of_lt h0 h1
theorem and_pow (n i : Nat) : n &&& 2 ^ i = (n.testBit i).toNat * 2 ^ i := by
  apply Nat.eq_of_testBit_eq
  intro j
  rw [Nat.testBit_and, Nat.testBit_two_pow]
  cases h : n.testBit i
  · simp only [Bool.toNat_false, Nat.zero_mul, Nat.zero_testBit]
    by_cases hj : i = j
    · subst hj; simp [h]
    · simp [hj]
  · simp only [Bool.toNat_true, Nat.one_mul, Nat.testBit_two_pow]
    by_cases hj : i = j
    · subst hj; simp [h]
    · simp [hj]
theorem bit63 (b : BitVec 64) : ((b &&& BitVec.ofInt 64 9223372036854775808).toNat != 0) = decide (b.toNat ≥ 9223372036854775808) := by
  have hb := b.isLt
  have e : (BitVec.ofInt 64 9223372036854775808).toNat = 2 ^ 63 := by decide
  rw [BitVec.toNat_and, e, and_pow, Nat.testBit_eq_decide_div_mod_eq]
  by_cases h : b.toNat ≥ 9223372036854775808
  · have h2 : b.toNat / 2 ^ 63 % 2 = 1 := by omega
    rw [decide_eq_true h2, decide_eq_true h]
    decide
  · have h2 : ¬ b.toNat / 2 ^ 63 % 2 = 1 := by omega
    rw [decide_eq_false h2, decide_eq_false h]
    decide
theorem bit62 (b : BitVec 64) : (b &&& ~~~ BitVec.ofInt 64 4611686018427387904).toNat = if b.toNat / 4611686018427387904 % 2 = 1 then b.toNat - 4611686018427387904 else b.toNat := by
  generalize hc : BitVec.ofInt 64 4611686018427387904 = c
  have e : c.toNat = 2 ^ 62 := by rw [← hc]; decide
  have h1 : (b &&& ~~~c) + (b &&& c) = b := by
    rw [BitVec.add_eq_or_of_and_eq_zero]
    · ext i
      simp
      cases b[i] <;> cases c[i] <;> rfl
    · ext i
      simp
      cases b[i] <;> cases c[i] <;> simp
  have h2 := congrArg BitVec.toNat h1
  rw [BitVec.toNat_add] at h2
  have hq : (b &&& c).toNat = (b.toNat.testBit 62).toNat * 2 ^ 62 := by rw [BitVec.toNat_and, e, and_pow]
  have hp : (b &&& ~~~c).toNat ≤ b.toNat := by rw [BitVec.toNat_and]; exact Nat.and_le_left
  have hb := b.isLt
  rw [Nat.testBit_eq_decide_div_mod_eq] at hq
  by_cases h : b.toNat / 4611686018427387904 % 2 = 1
  · have h3 : b.toNat / 2 ^ 62 % 2 = 1 := h
    rw [decide_eq_true h3] at hq
    have hq2 : (b &&& c).toNat = 4611686018427387904 := hq
    rw [if_pos h]
    omega
  · have h3 : ¬ b.toNat / 2 ^ 62 % 2 = 1 := h
    rw [decide_eq_false h3] at hq
    have hq2 : (b &&& c).toNat = 0 := by rw [hq]; decide
    rw [if_neg h]
    omega
theorem valid_is {x : Int} (h0 : 0 ≤ x) (h1 : x < 18446744073709551616) : handle_Valid.f x = some (decide (x ≥ 9223372036854775808)) := by
  have key : ∀ n : Nat, n < 18446744073709551616 → ((IntKind.wrap .u64 (n : Int)) != 0) = (n != 0) := fun n hn => by
    rw [wu64 (by omega) (by omega), Bool.eq_iff_iff]
    simp
  have e := ofInt_nat h0 h1
  have e2 : decide ((BitVec.ofInt 64 x).toNat ≥ 9223372036854775808) = decide (x ≥ 9223372036854775808) := by
    rw [Bool.eq_iff_iff, decide_eq_true_eq, decide_eq_true_eq]; omega
  exact congrArg some ((key _ (BitVec.isLt _)).trans ((bit63 _).trans e2))
theorem plF_is {x : Int} (h0 : 0 ≤ x) (h1 : x < 18446744073709551616) : plF x = if x / 4611686018427387904 % 2 = 1 then x - 4611686018427387904 else x := by
  have key : ∀ m : Nat, m < 18446744073709551616 → (some (IntKind.wrap .u64 (m : Int))).getD 0 = (m : Int) := fun n hn => wu64 (by omega) (by omega)
  have e := ofInt_nat h0 h1
  refine (key _ (BitVec.isLt _)).trans ?_
  refine (congrArg (fun n : Nat => (n : Int)) (bit62 (BitVec.ofInt 64 x))).trans ?_
  generalize (BitVec.ofInt 64 x).toNat = n at e
  subst e
  by_cases h : n / 4611686018427387904 % 2 = 1
  · rw [if_pos (show (n : Int) / 4611686018427387904 % 2 = 1 by omega)]
    simp only [h, if_true]
    omega
  · rw [if_neg (show ¬ (n : Int) / 4611686018427387904 % 2 = 1 by omega)]
    simp only [h, if_false]
section
variable {T S C H K V L : Int} {l : List Int}
theorem nm_is {x : Int} (h0 : 0 ≤ x) (h1 : x < 18446744073709551616) : nmF T S C H K V L l x = (decide (x ≥ 9223372036854775808) && decide (x % 4294967296 ≥ 1) && decide (x % 4294967296 ≤ C)) := by
  unfold nmF shape_words_names.f
  rw [valid_is h0 h1]
  simp only [Option.bind_some]
  by_cases h2 : x ≥ 9223372036854775808
  · rw [decide_eq_true h2]
    by_cases h3 : x % 4294967296 ≥ 1
    · rw [decide_eq_true h3]; simp [h3]
    · rw [decide_eq_false h3]; simp [h3]
  · rw [decide_eq_false h2]; simp
theorem rd_u64 (hu : ∀ x ∈ l, 0 ≤ x ∧ x < 18446744073709551616) (j : Int) : 0 ≤ rd l j ∧ rd l j < 18446744073709551616 := by
  unfold rd
  rw [List.getD_eq_getElem?_getD]
  cases e : l[j.toNat]? with
  | none => exact ⟨Int.le_refl _, by decide⟩
  | some v => exact hu v (List.mem_of_getElem? e)
theorem at_u64 (hr : R7 T S C H K V L) (hl : (l.length : Int) = lenI T S C H) (hu : ∀ x ∈ l, 0 ≤ x ∧ x < 18446744073709551616) {i f : Int} (hf : isF C H i f = true) : 0 ≤ atF T S C H K V L l i f ∧ atF T S C H K V L l i f < 18446744073709551616 := by
  unfold atF
  rw [at_some hr hl hf]
  exact rd_u64 hu _
end
theorem u64_of {l : List Int} (hw : l.length ≤ maxLen ∧ ∀ x ∈ l, (Lit.int .u64 x).wf = true) : ∀ x ∈ l, 0 ≤ x ∧ x < 18446744073709551616 := fun x hx => by
  have h : IntKind.u64.min ≤ x ∧ x ≤ IntKind.u64.max := by simpa [Lit.wf] using hw.2 x hx
  have e : IntKind.u64.min = 0 := by decide
  have e2 : IntKind.u64.max = 18446744073709551615 := by decide
  omega
end Go.Eng
namespace Go.Eng
open Go.Proofs Go.RowKit Go.Proofs.YtbonlagecjealaaW.PrintWords Go.Proofs.Ytbonlagecjealaa.GSeq
set_option linter.unusedVariables false
set_option linter.unusedSimpArgs false
def Srt (l : List S61) : Prop := l.Pairwise (fun a b => a.f0 < b.f0)
def old (x : S61) : S48 := ⟨x.f0, x.f1⟩
def new (x : S48) : S61 := ⟨x.f0, x.f1⟩
def lb (l : List S61) (k : Int) : Nat := (l.takeWhile (fun p => decide (p.f0 < k))).length
def isIn (l : List S61) (k : Int) : Bool := l.any (fun p => p.f0 == k)
def del (l : List S61) (k : Int) : List S61 := l.filter (fun p => !(p.f0 == k))
def ins (l : List S61) (k v : Int) : List S61 := l.filter (fun p => decide (p.f0 < k)) ++ [⟨k, v⟩] ++ l.filter (fun p => decide (k < p.f0))
theorem w64 {i : Int} (h0 : 0 ≤ i) (h1 : i < 1000000) : wrap64 (i + 1) = i + 1 := by unfold wrap64; omega
theorem w64' {i : Int} (h0 : 0 ≤ i) (h1 : i < 10000000) : wrap64 i = i := by unfold wrap64; omega
theorem mid {a : Int} (h0 : 0 ≤ a) (h1 : a < 10000000) : wrap64 ((IntKind.u64.wrap (wrap64 a)) / 2) = a / 2 := by
  rw [w64' h0 h1]
  have : IntKind.u64.wrap a = a := by
    simp only [IntKind.wrap, IntKind.bits, IntKind.signed]
    simp
    omega
  rw [this, w64' (by omega) (by omega)]
theorem srt_cons {p : S61} {l : List S61} : Srt (p :: l) ↔ (∀ q ∈ l, p.f0 < q.f0) ∧ Srt l := List.pairwise_cons
theorem lb_lt {p : S61} {l : List S61} {k : Int} (h : p.f0 < k) : lb (p :: l) k = lb l k + 1 := by simp [lb, h]
theorem lb_ge {p : S61} {l : List S61} {k : Int} (h : ¬ p.f0 < k) : lb (p :: l) k = 0 := by simp [lb, h]
theorem lb_le (l : List S61) (k : Int) : lb l k ≤ l.length := by
  unfold lb
  exact List.IsPrefix.length_le (List.takeWhile_prefix _)
theorem lb_spec {l : List S61} (hs : Srt l) (k : Int) : ∀ i (h : i < l.length), (l[i]).f0 < k ↔ i < lb l k := by
  induction l with
  | nil => intro i h; cases h
  | cons p l ih =>
    obtain ⟨h1, h2⟩ := srt_cons.1 hs
    intro i h
    by_cases hp : p.f0 < k
    · rw [lb_lt hp]
      cases i with
      | zero => simp [hp]
      | succ i => simp only [List.getElem_cons_succ]; rw [ih h2 i (by simpa using h)]; omega
    · rw [lb_ge hp]
      cases i with
      | zero => simp [hp]
      | succ i =>
        simp only [List.getElem_cons_succ]
        have := h1 _ (List.getElem_mem (l := l) (n := i) (by simpa using h))
        constructor
        · intro hh; omega
        · intro hh; omega
theorem isIn_spec {l : List S61} (hs : Srt l) (k : Int) : isIn l k = if h : lb l k < l.length then (l[lb l k]).f0 == k else false := by
  induction l with
  | nil => rfl
  | cons p l ih =>
    obtain ⟨h1, h2⟩ := srt_cons.1 hs
    by_cases hp : p.f0 < k
    · have e : isIn (p :: l) k = isIn l k := by
        simp only [isIn, List.any_cons]
        have : (p.f0 == k) = false := by simp; omega
        rw [this, Bool.false_or]
      rw [e, ih h2]
      simp only [lb_lt hp, List.length_cons, Nat.add_lt_add_iff_right, List.getElem_cons_succ]
    · simp only [lb_ge hp, List.length_cons, Nat.zero_lt_succ, dite_true, List.getElem_cons_zero]
      simp only [isIn, List.any_cons]
      by_cases e : p.f0 = k
      · simp [e]
      · have : l.any (fun p => p.f0 == k) = false := by
          rw [List.any_eq_false]
          intro q hq
          have := h1 q hq
          simp; omega
        rw [this, Bool.or_false]
theorem to_f (a b k : Int) : seq_Pair_to.f a b k = some (if a < k then -1 else if a > k then 1 else 0) := by
  simp [seq_Pair_to.f, cmp_Compare_uint64.f, cmp_isNaN_uint64.f]
  split
  · rfl
  · split <;> rfl
theorem rd52 {l : List S61} {i : Nat} (h : i < l.length) : rd_T61 l (i : Int) = l[i] := by
  simp [rd_T61, List.getD_eq_getElem?_getD, h]
theorem place_l (l : List S61) (k : Int) (hs : Srt l) (hl : l.length ≤ 1000) : ∀ (d f lo hi : Nat), hi - lo ≤ d → d < f → lo ≤ lb l k → lb l k ≤ hi → hi ≤ l.length →
    seq_Pair_uint64.l0 f l k (l.length : Int) (lo : Int) (hi : Int) = some (((lb l k : Nat) : Int), isIn l k) := by
  intro d
  induction d with
  | zero =>
    intro f lo hi hd hf h1 h2 h3
    obtain ⟨f, rfl⟩ : ∃ m, f = m + 1 := ⟨f - 1, by omega⟩
    have e : lo = lb l k := by omega
    subst e
    simp only [seq_Pair_uint64.l0]
    rw [if_neg (by omega), isIn_spec hs]
    by_cases hlt : lb l k < l.length
    · rw [if_pos (by omega), if_pos (by omega), if_pos (by omega), to_f, rd52 hlt, dif_pos hlt]
      have := (lb_spec hs k _ hlt)
      have h4 : ¬ (l[lb l k]).f0 < k := by rw [this]; omega
      rw [if_neg h4]
      simp only [Option.bind_some]
      by_cases h5 : (l[lb l k]).f0 > k
      · rw [if_pos h5]
        have : ((l[lb l k]).f0 == k) = false := by simp; omega
        rw [this]; rfl
      · rw [if_neg h5]
        have : ((l[lb l k]).f0 == k) = true := by simp; omega
        rw [this]; rfl
    · rw [if_neg (by omega), dif_neg hlt]
  | succ d ih =>
    intro f lo hi hd hf h1 h2 h3
    by_cases hlt : lo < hi
    · obtain ⟨f, rfl⟩ : ∃ m, f = m + 1 := ⟨f - 1, by omega⟩
      simp only [seq_Pair_uint64.l0]
      have hm : wrap64 ((IntKind.u64.wrap (wrap64 ((lo : Int) + hi))) / 2) = (((lo + hi) / 2 : Nat) : Int) := by rw [mid (by omega) (by omega)]; omega
      have hb : (lo + hi) / 2 < l.length := by omega
      rw [if_pos (by omega), hm, if_pos (by omega), if_pos (by omega), to_f, rd52 hb]
      simp only [Option.bind_some]
      have hsp := lb_spec hs k _ hb
      by_cases hc : (l[(lo + hi) / 2]).f0 < k
      · rw [if_pos hc, if_pos (by decide), show ((((lo + hi) / 2 : Nat) : Int) + 1) = (((lo + hi) / 2 + 1 : Nat) : Int) by omega, w64' (by omega) (by omega)]
        exact ih f _ hi (by omega) (by omega) (by have := hsp.1 hc; omega) h2 h3
      · have hneg : ¬ ((if (l[(lo + hi) / 2]).f0 < k then (-1 : Int) else if (l[(lo + hi) / 2]).f0 > k then 1 else 0) < 0) := by rw [if_neg hc]; split <;> decide
        rw [if_neg hneg]
        exact ih f lo _ (by omega) (by omega) h1 (by have : ¬ (lo + hi) / 2 < lb l k := fun h => hc (hsp.2 h); omega) (by omega)
    · exact ih f lo hi (by omega) (by omega) h1 h2 h3
theorem place (l : List S61) (k : Int) (hs : Srt l) (hl : l.length ≤ 1000) (f : Nat) (hf : 1000 < f) : seq_Map_place.f f l k = some (((lb l k : Nat) : Int), isIn l k) := by
  have := place_l l k hs hl l.length f 0 l.length (by omega) (by omega) (by omega) (lb_le l k) (by omega)
  unfold seq_Map_place.f seq_Pair_uint64.f
  simp only [Int.natCast_zero] at this
  rw [this]; rfl
theorem del_eq {l : List S61} (hs : Srt l) (k : Int) : (if isIn l k = true then l.eraseIdx (lb l k) else l) = del l k := by
  induction l with
  | nil => rfl
  | cons p l ih =>
    obtain ⟨h1, h2⟩ := srt_cons.1 hs
    by_cases hp : p.f0 < k
    · have e : (p.f0 == k) = false := by simp; omega
      have e1 : isIn (p :: l) k = isIn l k := by simp only [isIn, List.any_cons, e, Bool.false_or]
      have e2 : del (p :: l) k = p :: del l k := by simp [del, List.filter_cons, e]
      rw [e1, e2, lb_lt hp, ← ih h2]
      by_cases h : isIn l k = true
      · rw [if_pos h, if_pos h, List.eraseIdx_cons_succ]
      · rw [if_neg h, if_neg h]
    · have hall : del l k = l := by
        rw [del, List.filter_eq_self]
        intro q hq
        have := h1 q hq
        simp; omega
      have hno : isIn l k = false := by
        rw [isIn, List.any_eq_false]
        intro q hq
        have := h1 q hq
        simp; omega
      rw [lb_ge hp]
      by_cases e : p.f0 = k
      · rw [if_pos (by simp [isIn, e]), List.eraseIdx_cons_zero]
        conv => lhs; rw [← hall]
        simp [del, List.filter_cons, e]
      · have e' : (p.f0 == k) = false := by simpa using e
        have : isIn (p :: l) k = false := by simp only [isIn, List.any_cons, e', Bool.false_or]; exact hno
        rw [if_neg (by rw [this]; decide)]
        have : del (p :: l) k = p :: del l k := by simp [del, List.filter_cons, e']
        rw [this, hall]
theorem del_take {l : List S61} (hs : Srt l) (k : Int) : (del l k).take (lb l k) = l.filter (fun p => decide (p.f0 < k)) ∧ (del l k).drop (lb l k) = l.filter (fun p => decide (k < p.f0)) := by
  induction l with
  | nil => exact ⟨rfl, rfl⟩
  | cons p l ih =>
    obtain ⟨h1, h2⟩ := srt_cons.1 hs
    obtain ⟨i1, i2⟩ := ih h2
    by_cases hp : p.f0 < k
    · have e : (p.f0 == k) = false := by simp; omega
      have e2 : del (p :: l) k = p :: del l k := by simp [del, List.filter_cons, e]
      have hn : ¬ k < p.f0 := by omega
      rw [e2, lb_lt hp]
      simp only [List.take_succ_cons, List.drop_succ_cons, List.filter_cons, hp, hn, decide_true, decide_false, if_true, i1, i2]
      simp
    · rw [lb_ge hp]
      have f1 : (p :: l).filter (fun p => decide (p.f0 < k)) = [] := by
        rw [List.filter_eq_nil_iff]
        intro q hq
        rcases List.mem_cons.1 hq with rfl | hq
        · simpa using hp
        · have := h1 q hq; simp; omega
      refine ⟨by rw [f1]; rfl, ?_⟩
      rw [List.drop_zero, del]
      apply List.filter_congr
      intro q hq
      have : k ≤ q.f0 := by
        rcases List.mem_cons.1 hq with rfl | hq
        · omega
        · have := h1 q hq; omega
      by_cases e : q.f0 = k
      · simp [e]
      · have : k < q.f0 := by omega
        simp [e, this]
theorem without_f (l : List S61) (k : Int) (hs : Srt l) (hl : l.length ≤ 1000) (f : Nat) (hf : 1000 < f) : seq_Map_without.f f l k = some (del l k, ((lb l k : Nat) : Int)) := by
  unfold seq_Map_without.f
  rw [place l k hs hl f hf, Option.bind_some, if_pos (by omega), if_pos (by omega), ← del_eq hs k]
  by_cases e : isIn l k = true
  · have h := e
    rw [isIn_spec hs] at h
    have hlt : lb l k < l.length := by
      by_cases hh : lb l k < l.length
      · exact hh
      · rw [dif_neg hh] at h; cases h
    simp only [if_pos e]
    rw [if_pos (by omega), Int.toNat_natCast]
  · simp only [if_neg e]
theorem del_len (l : List S61) (k : Int) : (del l k).length ≤ l.length := List.length_filter_le _ _
theorem lb_del {l : List S61} (hs : Srt l) (k : Int) : lb l k ≤ (del l k).length := by
  induction l with
  | nil => exact Nat.le_refl _
  | cons p l ih =>
    obtain ⟨h1, h2⟩ := srt_cons.1 hs
    by_cases hp : p.f0 < k
    · have e : (p.f0 == k) = false := by simp; omega
      have e2 : del (p :: l) k = p :: del l k := by simp [del, List.filter_cons, e]
      rw [e2, lb_lt hp, List.length_cons]
      have := ih h2
      omega
    · rw [lb_ge hp]; exact Nat.zero_le _
theorem with_f (l : List S61) (k v : Int) (hs : Srt l) (hl : l.length ≤ 1000) (f : Nat) (hf : 1000 < f) : seq_Map_with.f f l k v = some (ins l k v) := by
  unfold seq_Map_with.f
  have h1 := del_len l k
  have h2 := lb_del hs k
  obtain ⟨h3, h4⟩ := del_take hs k
  rw [without_f l k hs hl f hf, Option.bind_some, if_pos (by omega), if_pos (by show ((lb l k : Nat) : Int) ≤ ((del l k).length : Int); omega), if_pos (by show (del l k).length ≤ 1000000; omega)]
  show some ((del l k).take (((lb l k : Nat) : Int)).toNat ++ [⟨k, v⟩] ++ (del l k).drop (((lb l k : Nat) : Int)).toNat) = _
  rw [Int.toNat_natCast, h3, h4]; rfl
theorem srt_filter {l : List S61} (hs : Srt l) (p : S61 → Bool) : Srt (l.filter p) := List.Pairwise.filter p hs
theorem srt_ins {l : List S61} (hs : Srt l) (k v : Int) : Srt (ins l k v) := by
  unfold ins Srt
  rw [List.append_assoc, List.pairwise_append]
  refine ⟨srt_filter hs _, ?_, ?_⟩
  · rw [List.singleton_append, List.pairwise_cons]
    refine ⟨fun q hq => ?_, srt_filter hs _⟩
    have := (List.mem_filter.1 hq).2
    simpa using this
  · intro a ha b hb
    have h1 : a.f0 < k := by simpa using (List.mem_filter.1 ha).2
    rw [List.singleton_append] at hb
    rcases List.mem_cons.1 hb with rfl | hb
    · exact h1
    · have h2 : k < b.f0 := by simpa using (List.mem_filter.1 hb).2
      omega
theorem ins_len (l : List S61) (k v : Int) : (ins l k v).length ≤ l.length + 1 := by
  have key : (l.filter (fun p => decide (p.f0 < k))).length + (l.filter (fun p => decide (k < p.f0))).length ≤ l.length := by
    induction l with
    | nil => exact Nat.le_refl _
    | cons p l ih =>
      simp only [List.filter_cons]
      by_cases h1 : p.f0 < k
      · have h2 : ¬ k < p.f0 := by omega
        simp only [h1, h2, decide_true, decide_false, if_true, List.length_cons]
        simp only [Bool.false_eq_true, if_false]
        omega
      · simp only [h1, decide_false, Bool.false_eq_true, if_false]
        split <;> simp only [List.length_cons] <;> omega
  unfold ins
  simp only [List.length_append, List.length_singleton]
  omega
theorem drop_get {α : Type} (l : List α) (z : α) (i : Int) (h0 : 0 ≤ i) (h1 : i < l.length) : l.drop i.toNat = l.getD i.toNat z :: l.drop (i + 1).toNat := by
  have h : i.toNat < l.length := by omega
  rw [List.drop_eq_getElem_cons h, List.getD_eq_getElem?_getD, List.getElem?_eq_getElem h, show (i + 1).toNat = i.toNat + 1 by omega]; rfl
theorem drop_end {α : Type} (l : List α) (i : Int) (h : i = l.length) : l.drop i.toNat = [] := by
  rw [h]; simp
def wr (k v : Int) : Bool → List S61 → List S61
  | done, [] => if done then [] else [⟨k, v⟩]
  | done, x :: r => (if k ≤ x.f0 ∧ done = false then [⟨k, v⟩] else []) ++ (if x.f0 = k then [] else [x]) ++ wr k v (done || decide (k ≤ x.f0)) r
def ofL (acc l : List S61) : List S61 := l.foldl (fun m p => ins m p.f0 p.f1) acc
theorem of_l (l : List S61) (hl : l.length ≤ 500) (d : Nat) : ∀ (k : Nat) (acc : List S61) (i : Int), Srt acc → acc.length + (l.length - i.toNat) ≤ 1000 → 0 ≤ i → i ≤ l.length → (l.length : Int) - i = d → d + 1001 < k →
    seq_Of.l0 k l (l.length : Int) i acc = some (ofL acc (l.drop i.toNat)) := by
  induction d with
  | zero =>
    intro k acc i hs ha h0 h1 hd hk
    obtain ⟨k, rfl⟩ : ∃ m, k = m + 1 := ⟨k - 1, by omega⟩
    simp only [seq_Of.l0]; rw [if_neg (by omega), drop_end l i (by omega)]; rfl
  | succ d ih =>
    intro k acc i hs ha h0 h1 hd hk
    obtain ⟨k, rfl⟩ : ∃ m, k = m + 1 := ⟨k - 1, by omega⟩
    simp only [seq_Of.l0]
    have h3 := ins_len acc (rd_T61 l i).f0 (rd_T61 l i).f1
    rw [if_pos (by omega), if_pos h0, if_pos (by omega), with_f acc _ _ hs (by omega) k (by omega), Option.bind_some, w64 h0 (by omega), ih k _ (i + 1) (srt_ins hs _ _) (by omega) (by omega) (by omega) (by omega) (by omega), drop_get l z61 i h0 (by omega)]
    rfl
theorem of_f (l : List S61) (hl : l.length ≤ 500) (k : Nat) (hk : 2000 < k) : seq_Of.f k l = some (ofL [] l) := by
  have := of_l l hl l.length k [] 0 List.Pairwise.nil (by simp; omega) (by omega) (by omega) (by omega) (by omega)
  unfold seq_Of.f
  simpa using this
end Go.Eng
namespace Go.Eng
open Go.Proofs Go.RowKit Go.Proofs.YtbonlagecjealaaW.PrintWords Go.Proofs.Ytbonlagecjealaa.GSeq
set_option linter.unusedVariables false
set_option linter.unusedSimpArgs false
theorem drop_cons' {α : Type} {l : List α} {i : Nat} {x : α} {r : List α} (h : l.drop i = x :: r) : i < l.length ∧ l[i]? = some x ∧ l.drop (i + 1) = r := by
  have h1 : i < l.length := by
    rcases Nat.lt_or_ge i l.length with h1 | h1
    · exact h1
    · rw [List.drop_eq_nil_of_le h1] at h; cases h
  have h2 := List.drop_eq_getElem_cons h1
  rw [h] at h2
  injection h2 with h3 h4
  exact ⟨h1, by rw [List.getElem?_eq_getElem h1, h3], h4.symm⟩
theorem bit0 (b : BitVec 64) : (b &&& BitVec.ofInt 64 1).toNat = b.toNat % 2 := by
  have e : (BitVec.ofInt 64 1).toNat = 2 ^ 0 := by decide
  rw [BitVec.toNat_and, e, and_pow, Nat.testBit_eq_decide_div_mod_eq]
  by_cases h : b.toNat % 2 = 1
  · rw [decide_eq_true (show b.toNat / 2 ^ 0 % 2 = 1 by simpa using h), h]; decide
  · rw [decide_eq_false (show ¬ b.toNat / 2 ^ 0 % 2 = 1 by simpa using h), show b.toNat % 2 = 0 by omega]; decide
theorem dead_is {x : Int} (h0 : 0 ≤ x) (h1 : x < 18446744073709551616) : slot_Dead.f x = some (decide (x % 2 = 1)) := by
  have key : ∀ n : Nat, n < 18446744073709551616 → ((IntKind.wrap .u64 (n : Int)) == 1) = decide (n = 1) := fun n hn => by
    rw [wu64 (by omega) (by omega), Bool.eq_iff_iff]
    simp
    omega
  have e := ofInt_nat h0 h1
  have e2 : decide ((BitVec.ofInt 64 x &&& BitVec.ofInt 64 1).toNat = 1) = decide (x % 2 = 1) := by
    rw [bit0, Bool.eq_iff_iff, decide_eq_true_eq, decide_eq_true_eq]; omega
  exact congrArg some ((key _ (BitVec.isLt _)).trans e2)
theorem of_is {x : Int} (h0 : 0 ≤ x) : slot_Of.f x = some (x / 2) := by
  unfold slot_Of.f
  have e : ((2 : Int) ^ (min (Int.toNat 1) (IntKind.bits .u64))) = 2 := by decide
  rw [e, Int.fdiv_eq_ediv_of_nonneg _ (by decide)]
def livP (T S C H K V L : Int) (l : List Int) (h : Int) : Option S61 := if atF T S C H K V L l (h % 4294967296) 2 % 2 = 1 then none else some ⟨atF T S C H K V L l (h % 4294967296) 1, atF T S C H K V L l (h % 4294967296) 2 / 2⟩
section
variable {T S C H K V L : Int} {l : List Int}
theorem map_l0 (hr : R7 T S C H K V L) (hl : (l.length : Int) = lenI T S C H) (hu : ∀ x ∈ l, 0 ≤ x ∧ x < 18446744073709551616) {hs : List Int} (hh : ∀ h ∈ hs, 0 ≤ h % 4294967296 ∧ h % 4294967296 ≤ C) (hb : hs.length ≤ 100) : ∀ (rest : List Int) (k i : Nat) (xs : List S61), hs.drop i = rest → rest.length + 2100 ≤ k → xs.length + rest.length ≤ 200 →
    shape_Map.l0 k T S C H K V L l hs (i : Int) xs = some (ofL [] (xs ++ rest.filterMap (livP T S C H K V L l)))
  | rest, 0, i, xs, _, h, _ => absurd h (by omega)
  | [], k + 1, i, xs, hd, hk, hx => by
    have h1 : hs.length ≤ i := List.drop_eq_nil_iff.1 hd
    simp only [List.length_nil] at hk hx
    rw [shape_Map.l0, if_neg (by omega), of_f xs (by omega) k (by omega)]
    simp
  | r :: rest, k + 1, i, xs, hd, hk, hx => by
    obtain ⟨h1, h2, h3⟩ := drop_cons' hd
    have e1 : rd hs (i : Int) = r := by unfold rd; rw [Int.toNat_natCast, List.getD_eq_getElem?_getD, h2]; rfl
    have e2 : IntKind.wrap .i64 ((i : Int) + 1) = ((i + 1 : Nat) : Int) := by rw [wi64 (by omega) (by omega)]; rfl
    have hm := hh r (List.mem_of_getElem? h2)
    have hH := hr.h
    have f2 : isF C H (r % 4294967296) 2 = true := isF_iff.2 ⟨hm.1, hm.2, by omega, by omega⟩
    have f1 : isF C H (r % 4294967296) 1 = true := isF_iff.2 ⟨hm.1, hm.2, by omega, by omega⟩
    have b2 := at_u64 hr hl hu f2
    simp only [List.length_cons] at hk hx
    rw [shape_Map.l0, if_pos (by omega), if_pos (by omega), e1, e2, at_eq hr hl f2, at_eq hr hl f1]
    simp only [Option.bind_some]
    rw [dead_is b2.1 b2.2, of_is b2.1]
    simp only [Option.bind_some]
    by_cases hd2 : atF T S C H K V L l (r % 4294967296) 2 % 2 = 1
    · rw [if_pos (decide_eq_true hd2), map_l0 hr hl hu hh hb rest k (i + 1) xs h3 (by omega) (by omega)]
      have : livP T S C H K V L l r = none := if_pos hd2
      rw [List.filterMap_cons_none this]
    · rw [if_neg (by simpa using hd2), if_pos (by omega), map_l0 hr hl hu hh hb rest k (i + 1) _ h3 (by omega) (by rw [List.length_append, List.length_singleton]; omega)]
      have : livP T S C H K V L l r = some ⟨atF T S C H K V L l (r % 4294967296) 1, atF T S C H K V L l (r % 4294967296) 2 / 2⟩ := if_neg hd2
      rw [List.filterMap_cons_some this, List.append_assoc]
      rfl
end
end Go.Eng
namespace Go.Eng
open Go.Proofs Go.RowKit Go.Proofs.YtbonlagecjealaaW.PrintWords Go.Proofs.Ytbonlagecjealaa.GSeq
set_option linter.unusedVariables false
set_option linter.unusedSimpArgs false
theorem olds_l0 {l : List S61} (hb : l.length ≤ 1000) : ∀ (rest : List S61) (k i : Nat) (xs : List S48), l.drop i = rest → rest.length < k → xs.length + rest.length ≤ 1000 →
    stepstonelaw07_Olds.l0 k l (i : Int) xs = some (xs ++ rest.map old)
  | rest, 0, i, xs, _, h, _ => absurd h (by omega)
  | [], k + 1, i, xs, hd, _, _ => by
    have h1 : l.length ≤ i := List.drop_eq_nil_iff.1 hd
    rw [stepstonelaw07_Olds.l0, if_neg (by omega)]
    simp
  | r :: rest, k + 1, i, xs, hd, hk, hl => by
    obtain ⟨h1, h2, h3⟩ := drop_cons' hd
    have e1 : rd_T61 l (i : Int) = r := by unfold rd_T61; rw [Int.toNat_natCast, List.getD_eq_getElem?_getD, h2]; rfl
    have e2 : IntKind.wrap .i64 ((i : Int) + 1) = ((i + 1 : Nat) : Int) := by rw [wi64 (by omega) (by omega)]; rfl
    rw [List.length_cons] at hk hl
    rw [stepstonelaw07_Olds.l0, if_pos (by omega), if_pos (by omega), if_pos (by omega), e1, e2, olds_l0 hb rest k (i + 1) _ h3 (by omega) (by rw [List.length_append, List.length_singleton]; omega), List.append_assoc]
    rfl
theorem olds_is {l : List S61} (hb : l.length ≤ 1000) : stepstonelaw07_Olds.f 3000 l = some (l.map old) := by
  unfold stepstonelaw07_Olds.f
  exact olds_l0 hb l 3000 0 [] rfl (by omega) (by simp only [List.length_nil]; omega)
theorem equal_l0 {l : List S48} (hb : l.length ≤ 1000) : ∀ (m k i : Nat), l.length = i + m → m < k → stepstoneref07_Equal.l0 k l l (i : Int) = some true
  | m, 0, i, _, h => absurd h (by omega)
  | 0, k + 1, i, hl, _ => by rw [stepstoneref07_Equal.l0, if_neg (by omega)]
  | m + 1, k + 1, i, hl, h => by
    have e2 : IntKind.wrap .i64 ((i : Int) + 1) = ((i + 1 : Nat) : Int) := by rw [wi64 (by omega) (by omega)]; rfl
    rw [stepstoneref07_Equal.l0, if_pos (by omega), if_pos (by omega), if_pos (by omega), if_pos (by simp), e2]
    exact equal_l0 hb m k (i + 1) (by omega) (by omega)
theorem equal_is {l : List S48} (hb : l.length ≤ 1000) : stepstoneref07_Equal.f 3000 l l = some true := by
  unfold stepstoneref07_Equal.f
  rw [if_pos rfl]
  exact equal_l0 hb l.length 3000 0 (by omega) (by omega)
theorem pairs_is {l : List S61} (hl : l.length ≤ 1000) : seq_Map_Pairs.f l = some l := by
  unfold seq_Map_Pairs.f seq_Pair_32.f
  simp only [Option.bind_some, List.length_nil, List.nil_append]
  rw [if_pos (by omega)]
  rfl
end Go.Eng
namespace Go.Eng
open Go.Proofs Go.RowKit Go.Proofs.YtbonlagecjealaaW.PrintWords
set_option linter.unusedVariables false
set_option linter.unusedSimpArgs false
def bh : List S46 → Nat → Int → Int
  | [], _, _ => 0
  | r :: rest, j, lev => if r.f2 > lev then 9223372036854775808 + ((j : Int) + 1) else bh rest (j + 1) lev
theorem bh_range : ∀ (rest : List S46) (j : Nat) (lev : Int), j + rest.length ≤ 1000 → bh rest j lev = 0 ∨ (9223372036854775808 < bh rest j lev ∧ bh rest j lev ≤ 9223372036854775808 + 1000)
  | [], _, _, _ => .inl rfl
  | r :: rest, j, lev, h => by
    rw [List.length_cons] at h
    unfold bh
    split
    · exact .inr ⟨by omega, by omega⟩
    · exact bh_range rest (j + 1) lev (by omega)
theorem rd46 {l : List S46} {i : Nat} {x : S46} (h : l[i]? = some x) : rd_T46 l (i : Int) = x := by
  unfold rd_T46
  rw [Int.toNat_natCast, List.getD_eq_getElem?_getD, h]
  rfl
theorem of01 {j : Int} (h0 : 0 ≤ j) (h : j < 1000) : stepstoneref01_Of.f (j + 1) 0 = some (9223372036854775808 + (j + 1)) := by
  unfold stepstoneref01_Of.f stepstoneref01_Pack.f
  have e0 : IntKind.wrap .u64 (9223372036854775808 + IntKind.wrap .u64 (4294967296 * IntKind.wrap .u64 0)) = 9223372036854775808 := by decide
  rw [if_neg (by omega), if_neg (by omega), if_neg (by decide)]
  simp only [Option.bind_some, e0]
  rw [if_neg (by decide)]
  simp only [Bool.false_eq_true, if_false, Option.bind_some]
  rw [wu64 (n := j + 1) (by omega) (by omega), wu64 (by omega) (by omega)]
theorem behind_l0 {l : List S46} (hb : l.length ≤ 500) (lev : Int) : ∀ (rest : List S46) (k i : Nat), l.drop i = rest → rest.length < k → stepstoneref11_behind.l0 k l lev (i : Int) = some (bh rest i lev)
  | rest, 0, i, _, h => absurd h (by omega)
  | [], k + 1, i, hd, _ => by
    have h1 : l.length ≤ i := List.drop_eq_nil_iff.1 hd
    rw [stepstoneref11_behind.l0, if_neg (by omega)]
    rfl
  | r :: rest, k + 1, i, hd, hk => by
    obtain ⟨h1, h2, h3⟩ := drop_cons' hd
    have e2 : IntKind.wrap .i64 ((i : Int) + 1) = (i : Int) + 1 := wi64 (by omega) (by omega)
    rw [List.length_cons] at hk
    rw [stepstoneref11_behind.l0, if_pos (by omega), if_pos (by omega), rd46 h2, e2]
    unfold bh
    by_cases h : r.f2 > lev
    · rw [if_pos h, if_pos h, of01 (by omega) (by omega)]
      rfl
    · rw [if_neg h, if_neg h]
      exact behind_l0 hb lev rest k (i + 1) h3 (by omega)
theorem behind_head {l : List S46} (hb : l.length ≤ 500) (lev : Int) {k : Nat} (hk : 500 < k) : stepstoneref11_behind.f k l (-1) lev = some (bh l 0 lev) :=
  behind_l0 hb lev l k 0 rfl (by omega)
theorem behind_node {l : List S46} (hb : l.length ≤ 500) (lev : Int) {k x : Nat} (hx : x < l.length) (hk : 500 < k) : stepstoneref11_behind.f k l (x : Int) lev = some (bh (l.drop (x + 1)) (x + 1) lev) := by
  unfold stepstoneref11_behind.f
  rw [wi64 (by omega) (by omega)]
  exact behind_l0 hb lev _ k (x + 1) rfl (by rw [List.length_drop]; omega)
theorem mark_is {w : Int} (h : w = 0 ∨ (9223372036854775808 < w ∧ w ≤ 9223372036854775808 + 1000)) : stepstoneref01_Mark.f w = some (w + 4611686018427387904) := by
  have e : stepstoneref01_Marked.f w = some false := by
    unfold stepstoneref01_Marked.f
    rcases h with rfl | ⟨h1, h2⟩
    · rfl
    · rw [Int.tdiv_eq_ediv_of_nonneg (by omega), show w / 4611686018427387904 = 2 by omega]
      rfl
  unfold stepstoneref01_Mark.f
  rw [e]
  simp only [Option.bind_some, Bool.false_eq_true, if_false]
  rw [wu64 (by omega) (by omega)]
def wd (l : List S46) (x : Nat) (r : S46) (lev : Int) : Int := if lev ≥ r.f2 - r.f3 then bh (l.drop (x + 1)) (x + 1) lev + 4611686018427387904 else bh (l.drop (x + 1)) (x + 1) lev
theorem wd_range {l : List S46} (hb : l.length ≤ 500) (x : Nat) (hx : x < l.length) (r : S46) (lev : Int) : 0 ≤ wd l x r lev ∧ wd l x r lev < 18446744073709551616 := by
  have := bh_range (l.drop (x + 1)) (x + 1) lev (by rw [List.length_drop]; omega)
  unfold wd
  split <;> omega
structure Inv (T S C H : Int) (G : Int → Int → Int) (xs : List Int) : Prop where
  len : (xs.length : Int) = lenI T S C H
  u : ∀ x ∈ xs, 0 ≤ x ∧ x < 18446744073709551616
  low : ∀ j, 1 ≤ j → j < 1 + T * S → rd xs j = 0
  at_ : ∀ i f, isF C H i f = true → rd xs (cellI T S H i f) = G i f
def upd (G : Int → Int → Int) (a b v : Int) : Int → Int → Int := fun i f => if i = a ∧ f = b then v else G i f
theorem cell_inj {T S C H i f a b : Int} (h1 : isF C H i f = true) (h2 : isF C H a b = true) (e : cellI T S H i f = cellI T S H a b) : i = a ∧ f = b := by
  rw [isF_iff] at h1 h2
  unfold cellI at e
  have e1 : i * (6 + H) + f = a * (6 + H) + b := by omega
  have hW : 0 < 6 + H := by omega
  have e2 : (i * (6 + H) + f) % (6 + H) = f := by
    rw [Int.add_comm, Int.add_mul_emod_self_right]
    exact Int.emod_eq_of_lt (by omega) (by omega)
  have e3 : (a * (6 + H) + b) % (6 + H) = b := by
    rw [Int.add_comm, Int.add_mul_emod_self_right]
    exact Int.emod_eq_of_lt (by omega) (by omega)
  have e4 : f = b := by rw [← e2, ← e3, e1]
  refine ⟨?_, e4⟩
  have e5 : i * (6 + H) = a * (6 + H) := by omega
  exact Int.eq_of_mul_eq_mul_right (by omega) e5
theorem rd_set {xs : List Int} {n : Nat} (hn : n < xs.length) (v j : Int) : rd (xs.set n v) j = if j.toNat = n then v else rd xs j := by
  unfold rd
  rw [List.getD_eq_getElem?_getD, List.getD_eq_getElem?_getD, List.getElem?_set]
  by_cases h : n = j.toNat
  · rw [if_pos h, if_pos h.symm, if_pos (h ▸ hn)]
    rfl
  · rw [if_neg h, if_neg (fun e => h e.symm)]
section
variable {T S C H K V L : Int}
theorem Inv.set (hr : R7 T S C H K V L) {G : Int → Int → Int} {xs : List Int} (h : Inv T S C H G xs) {a b v : Int} (hf : isF C H a b = true) (hv : 0 ≤ v ∧ v < 18446744073709551616) : Inv T S C H (upd G a b v) (xs.set (Int.toNat (cellI T S H a b)) v) := by
  obtain ⟨f1, f2, f3, f4⟩ := isF_iff.1 hf
  have hc := cells hr f1 f2 f3 f4
  have hlen := h.len
  have hn : (cellI T S H a b).toNat < xs.length := by omega
  refine ⟨by rw [List.length_set]; exact h.len, ?_, ?_, ?_⟩
  · intro x hx
    rcases List.mem_or_eq_of_mem_set hx with hx | rfl
    · exact h.u x hx
    · exact hv
  · intro j h1 h2
    have hTS := (lens hr).1
    rw [rd_set hn, if_neg (by have e : cellI T S H a b = 1 + T * S + a * (6 + H) + b := rfl; omega)]
    exact h.low j h1 h2
  · intro i f hi
    obtain ⟨g1, g2, g3, g4⟩ := isF_iff.1 hi
    have hc2 := cells hr g1 g2 g3 g4
    rw [rd_set hn]
    unfold upd
    by_cases e : i = a ∧ f = b
    · rw [if_pos e, if_pos (by rw [e.1, e.2])]
    · rw [if_neg e, if_neg (fun e2 => e (cell_inj hi hf (show cellI T S H i f = cellI T S H a b by omega)))]
      exact h.at_ i f hi
theorem Inv.congr {G G' : Int → Int → Int} {xs : List Int} (h : Inv T S C H G xs) (e : ∀ i f, isF C H i f = true → G i f = G' i f) : Inv T S C H G' xs :=
  ⟨h.len, h.u, h.low, fun i f hi => (h.at_ i f hi).trans (e i f hi)⟩
theorem cellf (hr : R7 T S C H K V L) {i f : Int} (hf : isF C H i f = true) : stepstoneref04_Cell.f T S C H K V L i f = some (cellI T S H i f) := by
  rw [ref04_Cell_is, r7_iff.2 hr, hf]
  rfl
theorem cell_in (hr : R7 T S C H K V L) {i f : Int} (hf : isF C H i f = true) {xs : List Int} (h : (xs.length : Int) = lenI T S C H) : 0 ≤ cellI T S H i f ∧ cellI T S H i f < ((([] : List Int) ++ xs).length : Int) := by
  obtain ⟨f1, f2, f3, f4⟩ := isF_iff.1 hf
  have hc := cells hr f1 f2 f3 f4
  exact ⟨hc.1, by rw [List.nil_append, h]; exact hc.2.1⟩
end
end Go.Eng
namespace Go.Eng
open Go.Proofs Go.RowKit Go.Proofs.YtbonlagecjealaaW.PrintWords
set_option linter.unusedVariables false
set_option linter.unusedSimpArgs false
section
variable {T S C H K V L : Int}
theorem lay_l2 (hr : R7 T S C H K V L) {l : List S46} (hb : l.length ≤ 500) {t29 : List Int} (ht : (t29.length : Int) = lenI T S C H) {x : Nat} {r : S46} (hx : l[x]? = some r) (hxC : (x : Int) < C) (hrH : r.f2 ≤ H) (hr3 : 0 ≤ r.f3 ∧ r.f3 ≤ r.f2) (Q : List Int → Prop) : ∀ (m k y : Nat) (xs : List Int) (G : Int → Int → Int), r.f2 = (y : Int) + m → m + 520 ≤ k → Inv T S C H G xs →
    (∀ k' xs', k ≤ k' + m + 1 → Inv T S C H (fun i f => if i = (x : Int) + 1 ∧ 6 + (y : Int) ≤ f ∧ f < 6 + r.f2 then wd l x r (f - 6) else G i f) xs' → ∃ res, stepstoneref11_Lay.l1 k' T S C H K V L l t29 ((x : Int) + 1) xs' = some res ∧ Q res) →
    ∃ res, stepstoneref11_Lay.l2 k T S C H K V L l t29 (x : Int) (y : Int) xs = some res ∧ Q res
  | m, 0, y, xs, G, _, h, _, _ => absurd h (by omega)
  | 0, k + 1, y, xs, G, hy, hk, hI, hK => by
    have hxl : x < l.length := (List.getElem?_eq_some_iff.1 hx).1
    rw [stepstoneref11_Lay.l2, rd46 hx, if_neg (by omega), wi64 (by omega) (by omega)]
    refine hK k xs (by omega) (hI.congr fun i f _ => ?_)
    rw [if_neg (by omega)]
  | m + 1, k + 1, y, xs, G, hy, hk, hI, hK => by
    have hxl : x < l.length := (List.getElem?_eq_some_iff.1 hx).1
    have hH := hr.h
    have hC := hr.c
    have hf : isF C H ((x : Int) + 1) (6 + (y : Int)) = true := isF_iff.2 ⟨by omega, by omega, by omega, by omega⟩
    have hci := cell_in hr hf ht
    have e1 : IntKind.wrap .i64 ((x : Int) + 1) = (x : Int) + 1 := wi64 (by omega) (by omega)
    have e2 : IntKind.wrap .i64 (6 + (y : Int)) = 6 + (y : Int) := wi64 (by omega) (by omega)
    have e3 : IntKind.wrap .i64 ((y : Int) + 1) = ((y + 1 : Nat) : Int) := by rw [wi64 (by omega) (by omega)]; rfl
    have e4 : IntKind.wrap .i64 (r.f2 - r.f3) = r.f2 - r.f3 := wi64 (by omega) (by omega)
    have hrg := bh_range (l.drop (x + 1)) (x + 1) (y : Int) (by rw [List.length_drop]; omega)
    have ew : ((if (y : Int) ≥ r.f2 - r.f3 then (stepstoneref01_Mark.f (bh (l.drop (x + 1)) (x + 1) (y : Int))).bind fun t579_ => some t579_ else some (bh (l.drop (x + 1)) (x + 1) (y : Int))) : Option Int) = some (wd l x r (y : Int)) := by
      unfold wd
      by_cases h : (y : Int) ≥ r.f2 - r.f3
      · rw [if_pos h, if_pos h, mark_is hrg]
        rfl
      · rw [if_neg h, if_neg h]
    rw [stepstoneref11_Lay.l2, rd46 hx, if_pos (by omega), behind_node hb _ hxl (by omega), e1, e2, e3, e4]
    simp only [Option.bind_some]
    rw [ew]
    simp only [Option.bind_some]
    rw [cellf hr hf]
    simp only [Option.bind_some]
    rw [if_pos hci.1, if_pos hci.2]
    refine lay_l2 hr hb ht hx hxC hrH hr3 Q m k (y + 1) _ _ (by omega) (by omega) (hI.set hr hf (wd_range hb x hxl r y)) (fun k' xs' hk' hI' => hK k' xs' (by omega) (hI'.congr fun i f _ => ?_))
    unfold upd
    by_cases h1 : i = (x : Int) + 1 ∧ f = 6 + (y : Int)
    · rw [if_neg (by omega), if_pos h1, if_pos (by omega), show f - 6 = (y : Int) by omega]
    · by_cases h2 : i = (x : Int) + 1 ∧ 6 + (y : Int) ≤ f ∧ f < 6 + r.f2
      · rw [if_pos (by omega), if_pos h2]
      · rw [if_neg (by omega), if_neg h1, if_neg h2]
theorem lay_l3 (hr : R7 T S C H K V L) {l : List S46} (hb : l.length ≤ 500) {t29 : List Int} (ht : (t29.length : Int) = lenI T S C H) {x : Nat} {r : S46} (hx : l[x]? = some r) (hxC : (x : Int) < C) (hrH : r.f2 ≤ H) (hr3 : 0 ≤ r.f3 ∧ r.f3 ≤ r.f2) (Q : List Int → Prop) : ∀ (m k y : Nat) (xs : List Int) (G : Int → Int → Int), r.f2 = (y : Int) + m → m + 520 ≤ k → Inv T S C H G xs →
    (∀ k' xs', k ≤ k' + m + 1 → Inv T S C H (fun i f => if i = (x : Int) + 1 ∧ 6 + (y : Int) ≤ f ∧ f < 6 + r.f2 then wd l x r (f - 6) else G i f) xs' → ∃ res, stepstoneref11_Lay.l1 k' T S C H K V L l t29 ((x : Int) + 1) xs' = some res ∧ Q res) →
    ∃ res, stepstoneref11_Lay.l3 k T S C H K V L l t29 (x : Int) (y : Int) xs = some res ∧ Q res
  | m, 0, y, xs, G, _, h, _, _ => absurd h (by omega)
  | 0, k + 1, y, xs, G, hy, hk, hI, hK => by
    have hxl : x < l.length := (List.getElem?_eq_some_iff.1 hx).1
    rw [stepstoneref11_Lay.l3, rd46 hx, if_neg (by omega), wi64 (by omega) (by omega)]
    refine hK k xs (by omega) (hI.congr fun i f _ => ?_)
    rw [if_neg (by omega)]
  | m + 1, k + 1, y, xs, G, hy, hk, hI, hK => by
    have hxl : x < l.length := (List.getElem?_eq_some_iff.1 hx).1
    have hH := hr.h
    have hC := hr.c
    have hf : isF C H ((x : Int) + 1) (6 + (y : Int)) = true := isF_iff.2 ⟨by omega, by omega, by omega, by omega⟩
    have hci := cell_in hr hf ht
    have e1 : IntKind.wrap .i64 ((x : Int) + 1) = (x : Int) + 1 := wi64 (by omega) (by omega)
    have e2 : IntKind.wrap .i64 (6 + (y : Int)) = 6 + (y : Int) := wi64 (by omega) (by omega)
    have e3 : IntKind.wrap .i64 ((y : Int) + 1) = ((y + 1 : Nat) : Int) := by rw [wi64 (by omega) (by omega)]; rfl
    have e4 : IntKind.wrap .i64 (r.f2 - r.f3) = r.f2 - r.f3 := wi64 (by omega) (by omega)
    have hrg := bh_range (l.drop (x + 1)) (x + 1) (y : Int) (by rw [List.length_drop]; omega)
    have ew : ((if (y : Int) ≥ r.f2 - r.f3 then (stepstoneref01_Mark.f (bh (l.drop (x + 1)) (x + 1) (y : Int))).bind fun t579_ => some t579_ else some (bh (l.drop (x + 1)) (x + 1) (y : Int))) : Option Int) = some (wd l x r (y : Int)) := by
      unfold wd
      by_cases h : (y : Int) ≥ r.f2 - r.f3
      · rw [if_pos h, if_pos h, mark_is hrg]
        rfl
      · rw [if_neg h, if_neg h]
    rw [stepstoneref11_Lay.l3, rd46 hx, if_pos (by omega), behind_node hb _ hxl (by omega), e1, e2, e3, e4]
    simp only [Option.bind_some]
    rw [ew]
    simp only [Option.bind_some]
    rw [cellf hr hf]
    simp only [Option.bind_some]
    rw [if_pos hci.1, if_pos hci.2]
    refine lay_l3 hr hb ht hx hxC hrH hr3 Q m k (y + 1) _ _ (by omega) (by omega) (hI.set hr hf (wd_range hb x hxl r y)) (fun k' xs' hk' hI' => hK k' xs' (by omega) (hI'.congr fun i f _ => ?_))
    unfold upd
    by_cases h1 : i = (x : Int) + 1 ∧ f = 6 + (y : Int)
    · rw [if_neg (by omega), if_pos h1, if_pos (by omega), show f - 6 = (y : Int) by omega]
    · by_cases h2 : i = (x : Int) + 1 ∧ 6 + (y : Int) ≤ f ∧ f < 6 + r.f2
      · rw [if_pos (by omega), if_pos h2]
      · rw [if_neg (by omega), if_neg h1, if_neg h2]
def ndG (l : List S46) (x : Nat) (r : S46) (f : Int) : Int := if f = 0 then 1 else if f = 1 then r.f0 else if f = 2 then (if r.f4 = true then 2 * r.f1 + 1 else 2 * r.f1) else if f = 3 then 1 else if f = 4 then r.f2 else if f = 5 then 1 else if f < 6 + r.f2 then wd l x r (f - 6) else 0
def hdG (l : List S46) (H f : Int) : Int := if f = 0 then 1 else if f = 4 then H else if 6 ≤ f then bh l 0 (f - 6) else 0
def GG (l : List S46) (H : Int) (n : Nat) (i f : Int) : Int := if i = 0 then hdG l H f else if i ≤ (n : Int) then ndG l (i - 1).toNat (rd_T46 l (i - 1)) f else 0
structure Nodes (C H : Int) (l : List S46) : Prop where
  len : (l.length : Int) ≤ C
  tall : ∀ r ∈ l, 1 ≤ r.f2 ∧ r.f2 ≤ H
  marks : ∀ r ∈ l, 0 ≤ r.f3 ∧ r.f3 ≤ r.f2
  dead : ∀ r ∈ l, 0 < r.f3 → r.f4 = true
  val : ∀ r ∈ l, 0 ≤ r.f1 ∧ r.f1 < 9223372036854775808
  key : ∀ r ∈ l, 0 ≤ r.f0 ∧ r.f0 < 18446744073709551616
  rises : l.Pairwise (fun a b => a.f0 < b.f0)
theorem lay_l1 (hr : R7 T S C H K V L) {l : List S46} (hn : Nodes C H l) {t29 : List Int} (ht : (t29.length : Int) = lenI T S C H) : ∀ (m k x : Nat) (xs : List Int), l.length = x + m → 10 * m + 600 ≤ k → Inv T S C H (GG l H x) xs →
    ∃ res, stepstoneref11_Lay.l1 k T S C H K V L l t29 (x : Int) xs = some res ∧ Inv T S C H (GG l H l.length) res
  | m, 0, x, xs, _, h, _ => absurd h (by omega)
  | 0, k + 1, x, xs, hx, hk, hI => by
    rw [stepstoneref11_Lay.l1, if_neg (by omega)]
    exact ⟨xs, rfl, by rw [hx]; exact hI⟩
  | m + 1, k + 1, x, xs, hx, hk, hI => by
    have hH := hr.h
    have hC := hr.c
    have hlen := hn.len
    have hxl : x < l.length := by omega
    have hget : l[x]? = some l[x] := List.getElem?_eq_getElem hxl
    have hmem : l[x] ∈ l := List.getElem_mem hxl
    generalize l[x] = r at hget hmem
    have hrd : rd_T46 l (x : Int) = r := rd46 hget
    have htall := hn.tall r hmem
    have hmarks := hn.marks r hmem
    have hval := hn.val r hmem
    have hkey := hn.key r hmem
    have fF : ∀ f : Int, 0 ≤ f → f < 6 → isF C H ((x : Int) + 1) f = true := fun f h0 h1 => isF_iff.2 ⟨by omega, by omega, h0, by omega⟩
    have f0 := fF 0 (by decide) (by decide)
    have f1 := fF 1 (by decide) (by decide)
    have f2 := fF 2 (by decide) (by decide)
    have f3 := fF 3 (by decide) (by decide)
    have f4 := fF 4 (by decide) (by decide)
    have f5 := fF 5 (by decide) (by decide)
    have e1 : IntKind.wrap .i64 ((x : Int) + 1) = (x : Int) + 1 := wi64 (by omega) (by omega)
    have e2 : IntKind.wrap .u64 (2 * r.f1) = 2 * r.f1 := wu64 (by omega) (by omega)
    have e3 : IntKind.wrap .u64 (2 * r.f1 + 1) = 2 * r.f1 + 1 := wu64 (by omega) (by omega)
    have e4 : IntKind.wrap .u64 r.f2 = r.f2 := wu64 (by omega) (by omega)
    have e5 : stepstoneref02_Taken.f 0 = some 1 := rfl
    have c0 := cell_in hr f0 ht
    have c1 := cell_in hr f1 ht
    have c2 := cell_in hr f2 ht
    have c3 := cell_in hr f3 ht
    have c4 := cell_in hr f4 ht
    have c5 := cell_in hr f5 ht
    have last : ∀ (k' : Nat) (xs' : List Int) (G : Int → Int → Int), k ≤ k' + (r.f2.toNat) + 1 → (∀ i f : Int, (i = (x : Int) + 1 → f = 0 → G i f = 1) ∧ (i = (x : Int) + 1 → f = 1 → G i f = r.f0) ∧ (i = (x : Int) + 1 → f = 2 → G i f = (if r.f4 = true then 2 * r.f1 + 1 else 2 * r.f1)) ∧ (i = (x : Int) + 1 → f = 3 → G i f = 1) ∧ (i = (x : Int) + 1 → f = 4 → G i f = r.f2) ∧ (i = (x : Int) + 1 → f = 5 → G i f = 1) ∧ (i ≠ (x : Int) + 1 ∨ 6 ≤ f → G i f = GG l H x i f)) → Inv T S C H (fun i f => if i = (x : Int) + 1 ∧ 6 + ((0 : Nat) : Int) ≤ f ∧ f < 6 + r.f2 then wd l x r (f - 6) else G i f) xs' → ∃ res, stepstoneref11_Lay.l1 k' T S C H K V L l t29 ((x : Int) + 1) xs' = some res ∧ Inv T S C H (GG l H l.length) res := by
      intro k' xs' G hk' hG hI'
      refine lay_l1 hr hn ht m k' (x + 1) xs' (by omega) (by omega) (hI'.congr fun i f hf => ?_)
      obtain ⟨g0, g1, g2, g3, g4, g5, g6⟩ := hG i f
      obtain ⟨q1, q2, q3, q4⟩ := isF_iff.1 hf
      by_cases hi : i = (x : Int) + 1
      · have ei : GG l H (x + 1) i f = ndG l x r f := by
          unfold GG
          rw [if_neg (by omega), if_pos (by omega), show (i - 1).toNat = x by omega, show i - 1 = (x : Int) by omega, hrd]
        rw [ei]
        unfold ndG
        by_cases h0 : f = 0
        · rw [if_neg (by omega), if_pos h0, g0 hi h0]
        by_cases h1 : f = 1
        · rw [if_neg (by omega), if_neg h0, if_pos h1, g1 hi h1]
        by_cases h2 : f = 2
        · rw [if_neg (by omega), if_neg h0, if_neg h1, if_pos h2, g2 hi h2]
        by_cases h3 : f = 3
        · rw [if_neg (by omega), if_neg h0, if_neg h1, if_neg h2, if_pos h3, g3 hi h3]
        by_cases h4 : f = 4
        · rw [if_neg (by omega), if_neg h0, if_neg h1, if_neg h2, if_neg h3, if_pos h4, g4 hi h4]
        by_cases h5 : f = 5
        · rw [if_neg (by omega), if_neg h0, if_neg h1, if_neg h2, if_neg h3, if_neg h4, if_pos h5, g5 hi h5]
        rw [if_neg h0, if_neg h1, if_neg h2, if_neg h3, if_neg h4, if_neg h5]
        by_cases h6 : f < 6 + r.f2
        · rw [if_pos (by omega), if_pos h6]
        · rw [if_neg (by omega), if_neg h6, g6 (.inr (by omega))]
          unfold GG
          rw [if_neg (by omega), if_neg (by omega)]
      · rw [if_neg (by omega), g6 (.inl hi)]
        unfold GG
        by_cases h0 : i = 0
        · rw [if_pos h0, if_pos h0]
        · rw [if_neg h0, if_neg h0]
          by_cases h1 : i ≤ (x : Int)
          · rw [if_pos h1, if_pos (by omega)]
          · rw [if_neg h1, if_neg (by omega)]
    rw [stepstoneref11_Lay.l1, if_pos (by omega), if_pos (by omega), hrd, e1, e2, e3, e4, e5, cellf hr f0]
    simp only [Option.bind_some]
    rw [if_pos c0.1, if_pos c0.2, cellf hr f1]
    simp only [Option.bind_some]
    rw [if_pos c1.1, if_pos c1.2, cellf hr f2]
    simp only [Option.bind_some]
    rw [if_pos c2.1, if_pos c2.2]
    have hd2 : r.f2 = ((0 : Nat) : Int) + (r.f2.toNat : Nat) := by omega
    have hpos : ∀ z : Int, 0 ≤ z ∧ z < 10 → 0 ≤ z ∧ z < 18446744073709551616 := fun z h => by omega
    by_cases hd : r.f4 = true
    · rw [if_pos hd]
      rw [if_pos c2.1, if_pos c2.2, cellf hr f3]
      simp only [Option.bind_some]
      rw [if_pos c3.1, if_pos c3.2, cellf hr f4]
      simp only [Option.bind_some]
      rw [if_pos c4.1, if_pos c4.2, cellf hr f5]
      simp only [Option.bind_some]
      rw [if_pos c5.1, if_pos c5.2]
      have I1 := ((((((hI.set hr f0 (v := 1) (by decide)).set hr f1 hkey).set hr f2 (v := 2 * r.f1) (by omega)).set hr f2 (v := 2 * r.f1 + 1) (by omega)).set hr f3 (v := 1) (by decide)).set hr f4 (v := r.f2) (by omega)).set hr f5 (v := 1) (by decide)
      refine lay_l2 hr (by omega) ht hget (by omega) htall.2 hmarks _ r.f2.toNat k 0 _ _ hd2 (by omega) I1 (fun k' xs' hk' hI' => last k' xs' _ hk' (fun i f => ?_) hI')
      rw [if_pos hd]
      unfold upd
      refine ⟨fun hi hf => ?_, fun hi hf => ?_, fun hi hf => ?_, fun hi hf => ?_, fun hi hf => ?_, fun hi hf => ?_, fun h => ?_⟩
      · rw [if_neg (by omega), if_neg (by omega), if_neg (by omega), if_neg (by omega), if_neg (by omega), if_neg (by omega), if_pos ⟨hi, hf⟩]
      · rw [if_neg (by omega), if_neg (by omega), if_neg (by omega), if_neg (by omega), if_neg (by omega), if_pos ⟨hi, hf⟩]
      · rw [if_neg (by omega), if_neg (by omega), if_neg (by omega), if_pos ⟨hi, hf⟩]
      · rw [if_neg (by omega), if_neg (by omega), if_pos ⟨hi, hf⟩]
      · rw [if_neg (by omega), if_pos ⟨hi, hf⟩]
      · rw [if_pos ⟨hi, hf⟩]
      · rw [if_neg (by omega), if_neg (by omega), if_neg (by omega), if_neg (by omega), if_neg (by omega), if_neg (by omega), if_neg (by omega)]
    · rw [if_neg hd, cellf hr f3]
      simp only [Option.bind_some]
      rw [if_pos c3.1, if_pos c3.2, cellf hr f4]
      simp only [Option.bind_some]
      rw [if_pos c4.1, if_pos c4.2, cellf hr f5]
      simp only [Option.bind_some]
      rw [if_pos c5.1, if_pos c5.2]
      have I1 := (((((hI.set hr f0 (v := 1) (by decide)).set hr f1 hkey).set hr f2 (v := 2 * r.f1) (by omega)).set hr f3 (v := 1) (by decide)).set hr f4 (v := r.f2) (by omega)).set hr f5 (v := 1) (by decide)
      refine lay_l3 hr (by omega) ht hget (by omega) htall.2 hmarks _ r.f2.toNat k 0 _ _ hd2 (by omega) I1 (fun k' xs' hk' hI' => last k' xs' _ hk' (fun i f => ?_) hI')
      rw [if_neg hd]
      unfold upd
      refine ⟨fun hi hf => ?_, fun hi hf => ?_, fun hi hf => ?_, fun hi hf => ?_, fun hi hf => ?_, fun hi hf => ?_, fun h => ?_⟩
      · rw [if_neg (by omega), if_neg (by omega), if_neg (by omega), if_neg (by omega), if_neg (by omega), if_pos ⟨hi, hf⟩]
      · rw [if_neg (by omega), if_neg (by omega), if_neg (by omega), if_neg (by omega), if_pos ⟨hi, hf⟩]
      · rw [if_neg (by omega), if_neg (by omega), if_neg (by omega), if_pos ⟨hi, hf⟩]
      · rw [if_neg (by omega), if_neg (by omega), if_pos ⟨hi, hf⟩]
      · rw [if_neg (by omega), if_pos ⟨hi, hf⟩]
      · rw [if_pos ⟨hi, hf⟩]
      · rw [if_neg (by omega), if_neg (by omega), if_neg (by omega), if_neg (by omega), if_neg (by omega), if_neg (by omega)]
theorem lay_l0 (hr : R7 T S C H K V L) {l : List S46} (hn : Nodes C H l) {t29 : List Int} (ht : (t29.length : Int) = lenI T S C H) : ∀ (m k y : Nat) (xs : List Int) (G : Int → Int → Int), H = (y : Int) + m → m + 1500 ≤ k → Inv T S C H G xs → (∀ i f, isF C H i f = true → (if i = 0 ∧ 6 + (y : Int) ≤ f then bh l 0 (f - 6) else G i f) = GG l H 0 i f) →
    ∃ res, stepstoneref11_Lay.l0 k T S C H K V L l t29 (y : Int) xs = some res ∧ Inv T S C H (GG l H l.length) res
  | m, 0, y, xs, G, _, h, _, _ => absurd h (by omega)
  | 0, k + 1, y, xs, G, hy, hk, hI, hG => by
    have hC := hr.c
    have hlen := hn.len
    rw [stepstoneref11_Lay.l0, if_neg (by omega)]
    refine lay_l1 hr hn ht l.length k 0 xs (by omega) (by omega) (hI.congr fun i f hf => ?_)
    rw [← hG i f hf, if_neg (by rw [isF_iff] at hf; omega)]
  | m + 1, k + 1, y, xs, G, hy, hk, hI, hG => by
    have hH := hr.h
    have hC := hr.c
    have hlen := hn.len
    have hf : isF C H 0 (6 + (y : Int)) = true := isF_iff.2 ⟨by omega, by omega, by omega, by omega⟩
    have hci := cell_in hr hf ht
    have e2 : IntKind.wrap .i64 (6 + (y : Int)) = 6 + (y : Int) := wi64 (by omega) (by omega)
    have e3 : IntKind.wrap .i64 ((y : Int) + 1) = ((y + 1 : Nat) : Int) := by rw [wi64 (by omega) (by omega)]; rfl
    have hrg := bh_range l 0 (y : Int) (by omega)
    rw [stepstoneref11_Lay.l0, if_pos (by omega), e2, e3, cellf hr hf, behind_head (by omega) _ (by omega)]
    simp only [Option.bind_some]
    rw [if_pos hci.1, if_pos hci.2]
    refine lay_l0 hr hn ht m k (y + 1) _ _ (by omega) (by omega) (hI.set hr hf (by omega)) (fun i f hif => ?_)
    rw [← hG i f hif]
    unfold upd
    by_cases h1 : i = 0 ∧ f = 6 + (y : Int)
    · rw [if_neg (by omega), if_pos h1, if_pos (by omega), show f - 6 = (y : Int) by omega]
    · by_cases h2 : i = 0 ∧ 6 + (y : Int) ≤ f
      · rw [if_pos (by omega), if_pos h2]
      · rw [if_neg (by omega), if_neg h1, if_neg h2]
theorem rd_rep (n : Nat) (j : Int) : rd (List.replicate n (0 : Int)) j = 0 := by
  unfold rd
  rw [List.getD_eq_getElem?_getD, List.getElem?_replicate]
  split <;> rfl
theorem Lay_is (hr : R7 T S C H K V L) {l : List S46} (hn : Nodes C H l) {k : Nat} (hk : 3000 ≤ k) : ∃ res, stepstoneref11_Lay.f k T S C H K V L l = some res ∧ Inv T S C H (GG l H l.length) res := by
  have hH := hr.h
  have hC := hr.c
  have hlen := hn.len
  have hL := lens hr
  have hN : lenI T S C H = 1 + T * S + (C + 1) * (6 + H) := rfl
  have f0 : isF C H 0 0 = true := isF_iff.2 ⟨by omega, by omega, by omega, by omega⟩
  have f4 : isF C H 0 4 = true := isF_iff.2 ⟨by omega, by omega, by omega, by omega⟩
  have hc0 := cells hr (Int.le_refl 0) (by omega) (Int.le_refl 0) (show (0 : Int) < 6 + H by omega)
  have hrep : ((List.replicate (Int.toNat (lenI T S C H)) (0 : Int)).length : Int) = lenI T S C H := by rw [List.length_replicate]; omega
  have e3 : stepstoneref03_New.f (lenI T S C H) = some (List.replicate (Int.toNat (lenI T S C H)) (0 : Int), 0, 0, 0, 0, 0, 0, false) := by
    unfold stepstoneref03_New.f
    rw [if_neg (by omega)]
    simp only [Option.bind_some]
    rw [if_neg (by omega)]
    simp only [Option.bind_some]
    rw [if_pos (by omega), if_pos (by omega)]
  have e4 : IntKind.wrap .u64 H = H := wu64 (by omega) (by omega)
  have e5 : stepstoneref02_Taken.f 0 = some 1 := rfl
  have c0 := cell_in hr f0 hrep
  have c4 := cell_in hr f4 hrep
  rw [List.nil_append] at c0 c4
  have enew : stepstoneref05_New.f T S C H K V L = some (T, S, C, H, K, V, L, (((List.replicate (Int.toNat (lenI T S C H)) (0 : Int)).set (Int.toNat 0) 1).set (Int.toNat (cellI T S H 0 0)) 1).set (Int.toNat (cellI T S H 0 4)) H, 0, 0, 0, 0, 0, 0, false) := by
    unfold stepstoneref05_New.f
    rw [ref04_Len_is, if_pos (r7_iff.2 hr)]
    simp only [Option.bind_some]
    rw [e3]
    simp only [Option.bind_some]
    rw [if_pos (by omega), cellf hr f0]
    simp only [Option.bind_some]
    rw [e5]
    simp only [Option.bind_some]
    rw [if_pos c0.1, if_pos c0.2, cellf hr f4]
    simp only [Option.bind_some]
    rw [if_pos c4.1, if_pos c4.2, e4]
  have I0 : Inv T S C H (fun _ _ => 0) ((List.replicate (Int.toNat (lenI T S C H)) (0 : Int)).set (Int.toNat 0) 1) := by
    refine ⟨by rw [List.length_set]; exact hrep, ?_, ?_, ?_⟩
    · intro x hx
      rcases List.mem_or_eq_of_mem_set hx with hx | rfl
      · rw [List.eq_of_mem_replicate hx]; decide
      · decide
    · intro j h1 h2
      rw [rd_set (by rw [List.length_replicate]; omega), if_neg (by omega), rd_rep]
    · intro i f hf
      obtain ⟨q1, q2, q3, q4⟩ := isF_iff.1 hf
      have := cells hr q1 q2 q3 q4
      have e : cellI T S H i f = 1 + T * S + i * (6 + H) + f := rfl
      rw [rd_set (by rw [List.length_replicate]; omega), if_neg (by omega), rd_rep]
  have I1 := (I0.set hr f0 (v := 1) (by decide)).set hr f4 (v := H) (by omega)
  unfold stepstoneref11_Lay.f
  rw [enew]
  simp only [Option.bind_some, List.length_nil, List.nil_append]
  have hlen1 := I1.len
  rw [if_pos (by omega)]
  have := lay_l0 hr hn I1.len H.toNat k 0 _ _ (by omega) (by omega) I1 (fun i f hf => ?_)
  · exact this
  · obtain ⟨q1, q2, q3, q4⟩ := isF_iff.1 hf
    unfold GG hdG upd
    by_cases hi : i = 0
    · rw [if_pos hi]
      by_cases h0 : f = 0
      · rw [if_neg (by omega), if_neg (by omega), if_pos ⟨hi, h0⟩, if_pos h0]
      by_cases h4 : f = 4
      · rw [if_neg (by omega), if_pos ⟨hi, h4⟩, if_neg h0, if_pos h4]
      by_cases h6 : 6 ≤ f
      · rw [if_pos (by omega), if_neg h0, if_neg h4, if_pos h6]
      · rw [if_neg (by omega), if_neg (by omega), if_neg (by omega), if_neg h0, if_neg h4, if_neg h6]
    · rw [if_neg (by omega), if_neg (by omega), if_neg (by omega), if_neg hi, if_neg (by omega)]
end
end Go.Eng
namespace Go.Eng
open Go.Proofs Go.RowKit Go.Proofs.YtbonlagecjealaaW.PrintWords
set_option linter.unusedVariables false
set_option linter.unusedSimpArgs false
theorem bit62m (b : BitVec 64) : ((b &&& BitVec.ofInt 64 4611686018427387904).toNat != 0) = decide (b.toNat / 4611686018427387904 % 2 = 1) := by
  have e : (BitVec.ofInt 64 4611686018427387904).toNat = 2 ^ 62 := by decide
  rw [BitVec.toNat_and, e, and_pow, Nat.testBit_eq_decide_div_mod_eq]
  by_cases h : b.toNat / 4611686018427387904 % 2 = 1
  · rw [decide_eq_true (show b.toNat / 2 ^ 62 % 2 = 1 from h)]
    decide
  · rw [decide_eq_false (show ¬ b.toNat / 2 ^ 62 % 2 = 1 from h)]
    decide
theorem marked_is {x : Int} (h0 : 0 ≤ x) (h1 : x < 18446744073709551616) : handle_Marked.f x = some (decide (x / 4611686018427387904 % 2 = 1)) := by
  have key : ∀ n : Nat, n < 18446744073709551616 → ((IntKind.wrap .u64 (n : Int)) != 0) = (n != 0) := fun n hn => by
    rw [wu64 (by omega) (by omega), Bool.eq_iff_iff]
    simp
  have e := ofInt_nat h0 h1
  have e2 : decide ((BitVec.ofInt 64 x).toNat / 4611686018427387904 % 2 = 1) = decide (x / 4611686018427387904 % 2 = 1) := by
    rw [Bool.eq_iff_iff, decide_eq_true_eq, decide_eq_true_eq]; omega
  exact congrArg some ((key _ (BitVec.isLt _)).trans ((bit62m _).trans e2))
def hls : List S46 → Nat → Int → List Int
  | [], _, _ => []
  | r :: rest, j, lev => if r.f2 > lev then (9223372036854775808 + ((j : Int) + 1)) :: hls rest (j + 1) lev else hls rest (j + 1) lev
def num : Int → List Int → List (Int × Int)
  | _, [] => []
  | j, h :: t => (j, h) :: num (j + 1) t
theorem num_snd : ∀ (l : List Int) (j : Int), (num j l).map (·.2) = l
  | [], _ => rfl
  | h :: t, j => by
    unfold num
    rw [List.map_cons, num_snd t (j + 1)]
theorem hls_len : ∀ (l : List S46) (j : Nat) (lev : Int), (hls l j lev).length ≤ l.length
  | [], _, _ => Nat.le_refl _
  | r :: rest, j, lev => by
    have := hls_len rest (j + 1) lev
    unfold hls
    split <;> simp only [List.length_cons] <;> omega
theorem hls_mem {l : List S46} {lev : Int} {x : Nat} {r : S46} : ∀ (rest : List S46) (j : Nat), rest[x]? = some r → r.f2 > lev → 9223372036854775808 + (((j + x : Nat) : Int) + 1) ∈ hls rest j lev := by
  induction x with
  | zero =>
    intro rest j h hl
    cases rest with
    | nil => cases h
    | cons a t =>
      have : a = r := by simpa using h
      subst this
      unfold hls
      rw [if_pos hl]
      exact List.mem_cons_self
  | succ x ih =>
    intro rest j h hl
    cases rest with
    | nil => cases h
    | cons a t =>
      have h2 := ih t (j + 1) (by simpa using h) hl
      rw [show j + (x + 1) = j + 1 + x by omega]
      unfold hls
      split
      · exact List.mem_cons_of_mem _ h2
      · exact h2
theorem mem_hls {lev : Int} {h : Int} : ∀ (rest : List S46) (j : Nat), h ∈ hls rest j lev → ∃ x r, rest[x]? = some r ∧ r.f2 > lev ∧ h = 9223372036854775808 + (((j + x : Nat) : Int) + 1)
  | [], _, hm => by cases hm
  | r :: rest, j, hm => by
    have next : h ∈ hls rest (j + 1) lev → ∃ x r', (r :: rest)[x]? = some r' ∧ r'.f2 > lev ∧ h = 9223372036854775808 + (((j + x : Nat) : Int) + 1) := fun hm => by
      obtain ⟨x, r', h1, h2, h3⟩ := mem_hls rest (j + 1) hm
      exact ⟨x + 1, r', by simpa using h1, h2, by rw [h3]; congr 2; omega⟩
    unfold hls at hm
    split at hm
    · rcases List.mem_cons.1 hm with rfl | hm
      · exact ⟨0, r, rfl, by assumption, rfl⟩
      · exact next hm
    · exact next hm
section
variable {T S C H K V L : Int} {l : List S46} {w : List Int}
theorem at_GG (hr : R7 T S C H K V L) {G : Int → Int → Int} (hI : Inv T S C H G w) {i f : Int} (hf : isF C H i f = true) : shape_words_at.f T S C H K V L w i f = some (G i f) := by
  rw [at_some hr hI.len hf, hI.at_ i f hf]
theorem GG_node {x : Nat} {r : S46} (hx : l[x]? = some r) (f : Int) : GG l H l.length ((x : Int) + 1) f = ndG l x r f := by
  have hxl : x < l.length := (List.getElem?_eq_some_iff.1 hx).1
  unfold GG
  rw [if_neg (by omega), if_pos (by omega), show ((x : Int) + 1 - 1).toNat = x by omega, show (x : Int) + 1 - 1 = (x : Int) by omega, rd46 hx]
theorem at_node (hr : R7 T S C H K V L) (hn : Nodes C H l) (hI : Inv T S C H (GG l H l.length) w) {x : Nat} {r : S46} (hx : l[x]? = some r) {f : Int} (h0 : 0 ≤ f) (h1 : f < 6 + H) : shape_words_at.f T S C H K V L w ((x : Int) + 1) f = some (ndG l x r f) := by
  have hxl : x < l.length := (List.getElem?_eq_some_iff.1 hx).1
  have := hn.len
  rw [at_GG hr hI (isF_iff.2 ⟨by omega, by omega, h0, h1⟩), GG_node hx]
theorem atF_node (hr : R7 T S C H K V L) (hn : Nodes C H l) (hI : Inv T S C H (GG l H l.length) w) {x : Nat} {r : S46} (hx : l[x]? = some r) {f : Int} (h0 : 0 ≤ f) (h1 : f < 6 + H) : atF T S C H K V L w ((x : Int) + 1) f = ndG l x r f := by
  unfold atF
  rw [at_node hr hn hI hx h0 h1]
  rfl
theorem ndG_lev {x : Nat} {r : S46} {lev : Int} (h0 : 0 ≤ lev) (h1 : lev < r.f2) : ndG l x r (6 + lev) = wd l x r lev := by
  unfold ndG
  rw [if_neg (by omega), if_neg (by omega), if_neg (by omega), if_neg (by omega), if_neg (by omega), if_neg (by omega), if_pos (by omega), show 6 + lev - 6 = lev by omega]
theorem wd_or (x : Nat) (r : S46) (lev : Int) : wd l x r lev = bh (l.drop (x + 1)) (x + 1) lev ∨ wd l x r lev = bh (l.drop (x + 1)) (x + 1) lev + 4611686018427387904 := by
  unfold wd
  split
  · exact .inr rfl
  · exact .inl rfl
theorem yl_is (hr : R7 T S C H K V L) (hn : Nodes C H l) (hI : Inv T S C H (GG l H l.length) w) {lev : Int} (h0 : 0 ≤ lev) (h1 : lev < H) : ∀ (rest : List S46) (m a : Nat) (j x : Int), l.drop a = rest → rest.length < m → 0 ≤ j → j + rest.length ≤ C → (x = bh rest a lev ∨ x = bh rest a lev + 4611686018427387904) →
    ylF C (nmF T S C H K V L w) plF (fun x => atF T S C H K V L w (x % 4294967296) (IntKind.wrap .i64 (6 + lev))) m j x = num j (hls rest a lev)
  | rest, 0, a, j, x, _, h, _, _, _ => absurd h (by omega)
  | [], m + 1, a, j, x, hd, hm, hj, hjC, hx => by
    have e : nmF T S C H K V L w x = false := by
      have hx' : x = 0 ∨ x = 4611686018427387904 := by
        rcases hx with h | h
        · exact .inl h
        · exact .inr (h.trans (by rfl))
      rw [nm_is (by omega) (by omega), decide_eq_false (show ¬ x ≥ 9223372036854775808 by omega)]
      rfl
    rw [ylF, e]
    split <;> rfl
  | r :: rest, m + 1, a, j, x, hd, hm, hj, hjC, hx => by
    obtain ⟨ha, hget, hrest⟩ := drop_cons' hd
    have hC := hr.c
    have hH := hr.h
    have hlen := hn.len
    rw [List.length_cons] at hm hjC
    unfold bh at hx
    unfold hls
    by_cases hl : r.f2 > lev
    · rw [if_pos hl] at hx
      rw [if_pos hl]
      have hx0 : 0 ≤ x ∧ x < 18446744073709551616 := by omega
      have hxm : x % 4294967296 = (a : Int) + 1 := by omega
      have e1 : nmF T S C H K V L w x = true := by
        rw [nm_is hx0.1 hx0.2, hxm, decide_eq_true (show x ≥ 9223372036854775808 by omega), decide_eq_true (show (a : Int) + 1 ≥ 1 by omega), decide_eq_true (show (a : Int) + 1 ≤ C by omega)]
        rfl
      have e2 : plF x = 9223372036854775808 + ((a : Int) + 1) := by
        rw [plF_is hx0.1 hx0.2]
        rcases hx with h | h
        · rw [if_neg (by omega), h]
        · rw [if_pos (by omega), h]
          omega
      rw [ylF, if_pos (by omega), if_pos e1, e2, hxm, wi64 (by omega) (by omega), atF_node hr hn hI hget (by omega) (by omega), ndG_lev h0 hl]
      unfold num
      have hw := wd_or (l := l) a r lev
      rw [hrest] at hw
      have ih := yl_is hr hn hI h0 h1 rest m (a + 1) (j + 1) (wd l a r lev) hrest (by omega) (by omega) (by omega) hw
      rw [wi64 (by omega) (by omega)] at ih
      rw [ih]
    · rw [if_neg hl] at hx
      rw [if_neg hl]
      exact yl_is hr hn hI h0 h1 rest (m + 1) (a + 1) j x hrest (by omega) hj (by omega) hx
theorem at_head (hr : R7 T S C H K V L) (hI : Inv T S C H (GG l H l.length) w) {lev : Int} (h0 : 0 ≤ lev) (h1 : lev < H) : shape_words_at.f T S C H K V L w 0 (6 + lev) = some (bh l 0 lev) := by
  have hC := hr.c
  rw [at_GG hr hI (isF_iff.2 ⟨by omega, by omega, by omega, by omega⟩)]
  unfold GG hdG
  rw [if_pos rfl, if_neg (by omega), if_neg (by omega), if_pos (by omega), show 6 + lev - 6 = lev by omega]
theorem lvl_is (hr : R7 T S C H K V L) (hn : Nodes C H l) (hI : Inv T S C H (GG l H l.length) w) {lev : Int} (h0 : 0 ≤ lev) (h1 : lev < H) : lvlF T S C H K V L w lev = num 0 (hls l 0 lev) := by
  have hC := hr.c
  have hH := hr.h
  have hlen := hn.len
  unfold lvlF
  refine yl_is hr hn hI h0 h1 l (C.toNat + 1) 0 0 _ rfl (by omega) (by omega) (by omega) (.inl ?_)
  unfold atF
  rw [wi64 (by omega) (by omega), at_head hr hI h0 h1]
  rfl
theorem laid_ok (hr : R7 T S C H K V L) (hI : Inv T S C H (GG l H l.length) w) {lev : Int} (h0 : 0 ≤ lev) (h1 : lev < H) : okB T S C H K V L w lev = true :=
  okB_iff.2 ⟨hr, hI.len, h0, h1, fun x hx => (hI.u x hx).1⟩
theorem laid_level (hr : R7 T S C H K V L) (hn : Nodes C H l) (hI : Inv T S C H (GG l H l.length) w) {k : Nat} (hk : 1000 ≤ k) {lev : Int} (h0 : 0 ≤ lev) (h1 : lev < H) : shape_Level.f k T S C H K V L w lev = some (hls l 0 lev) := by
  rw [Level_is hk T S C H K V L w (fun x hx => (hI.u x hx).1) lev, if_pos (laid_ok hr hI h0 h1), lvl_is hr hn hI h0 h1, num_snd]
theorem index_in {hs : List Int} (hb : hs.length ≤ 1000) {a : Int} : ∀ (rest : List Int) (k i : Nat), hs.drop i = rest → rest.length < k → a ∈ rest → ∃ j : Int, 0 ≤ j ∧ slices_Index_uint64_uint64.l0 k hs a (i : Int) = some j
  | rest, 0, i, _, h, _ => absurd h (by omega)
  | [], k + 1, i, hd, _, hm => by cases hm
  | r :: rest, k + 1, i, hd, hk, hm => by
    obtain ⟨h1, h2, h3⟩ := drop_cons' hd
    have e1 : rd hs (i : Int) = r := by unfold rd; rw [Int.toNat_natCast, List.getD_eq_getElem?_getD, h2]; rfl
    have e2 : IntKind.wrap .i64 ((i : Int) + 1) = ((i + 1 : Nat) : Int) := by rw [wi64 (by omega) (by omega)]; rfl
    rw [List.length_cons] at hk
    rw [slices_Index_uint64_uint64.l0, if_pos (by omega), if_pos (by omega), e1, e2]
    by_cases h : a = r
    · rw [if_pos h]
      exact ⟨i, by omega, rfl⟩
    · rw [if_neg h]
      exact index_in hb rest k (i + 1) h3 (by omega) ((List.mem_cons.1 hm).resolve_left h)
theorem contains_in {hs : List Int} (hb : hs.length ≤ 900) {a : Int} (hm : a ∈ hs) {k : Nat} (hk : 1000 ≤ k) : slices_Contains_uint64_uint64.f k hs a = some true := by
  obtain ⟨j, hj, e⟩ := index_in (by omega) hs k 0 rfl (by omega) hm
  unfold slices_Contains_uint64_uint64.f slices_Index_uint64_uint64.f
  rw [show (0 : Int) = ((0 : Nat) : Int) from rfl, e]
  simp only [Option.bind_some]
  rw [decide_eq_true (show j ≥ ((0 : Nat) : Int) from hj)]
theorem meta1 : slot_Meta.f 1 0 = some (1, true) := by kernel_rfl
theorem taken_node (hr : R7 T S C H K V L) (hn : Nodes C H l) (hI : Inv T S C H (GG l H l.length) w) {x : Nat} {r : S46} (hx : l[x]? = some r) : shape_words_taken.f T S C H K V L w (9223372036854775808 + ((x : Int) + 1)) = some true := by
  have hxl : x < l.length := (List.getElem?_eq_some_iff.1 hx).1
  have hlen := hn.len
  have hC := hr.c
  have hH := hr.h
  unfold shape_words_taken.f
  rw [show (9223372036854775808 + ((x : Int) + 1)) / 4294967296 % 1073741824 = 0 by omega, show (9223372036854775808 + ((x : Int) + 1)) % 4294967296 = (x : Int) + 1 by omega, meta1, at_node hr hn hI hx (by omega) (by omega)]
  rfl
theorem taken_head (hr : R7 T S C H K V L) (hI : Inv T S C H (GG l H l.length) w) : shape_words_taken.f T S C H K V L w 9223372036854775808 = some true := by
  have hC := hr.c
  have hH := hr.h
  unfold shape_words_taken.f
  rw [show (9223372036854775808 : Int) / 4294967296 % 1073741824 = 0 by decide, show (9223372036854775808 : Int) % 4294967296 = 0 by decide, meta1, at_GG hr hI (isF_iff.2 ⟨by omega, by omega, by omega, by omega⟩)]
  rfl
theorem marked_node (hr : R7 T S C H K V L) (hn : Nodes C H l) (hI : Inv T S C H (GG l H l.length) w) {x : Nat} {r : S46} (hx : l[x]? = some r) {lev : Int} (h0 : 0 ≤ lev) (h1 : lev < r.f2) : shape_words_marked.f T S C H K V L w (9223372036854775808 + ((x : Int) + 1)) lev = some (decide (lev ≥ r.f2 - r.f3)) := by
  have hxl : x < l.length := (List.getElem?_eq_some_iff.1 hx).1
  have hlen := hn.len
  have hC := hr.c
  have hH := hr.h
  have htall := hn.tall r (List.mem_of_getElem? hx)
  have hb := bh_range (l.drop (x + 1)) (x + 1) lev (by rw [List.length_drop]; omega)
  have hw := wd_range (l := l) (by omega) x hxl r lev
  unfold shape_words_marked.f
  rw [show (9223372036854775808 + ((x : Int) + 1)) % 4294967296 = (x : Int) + 1 by omega, wi64 (n := 6 + lev) (by omega) (by omega), at_node hr hn hI hx (by omega) (by omega), ndG_lev h0 h1]
  simp only [Option.bind_some]
  rw [marked_is hw.1 hw.2]
  simp only [Option.bind_some, Option.some.injEq]
  rw [Bool.eq_iff_iff, decide_eq_true_eq, decide_eq_true_eq]
  unfold wd
  split <;> omega
theorem node_loop (hr : R7 T S C H K V L) (hn : Nodes C H l) (hI : Inv T S C H (GG l H l.length) w) {x : Nat} {r : S46} (hx : l[x]? = some r) (hd : r.f4 = true) : ∀ (m k : Nat) (y : Int), r.f2 = y + m → m < k → 0 ≤ y → y ≥ r.f2 - r.f3 → shape_words_node.l0 k T S C H K V L w (9223372036854775808 + ((x : Int) + 1)) r.f2 y = some true
  | m, 0, y, _, h, _, _ => absurd h (by omega)
  | 0, k + 1, y, hy, hk, h0, h1 => by
    have hxl : x < l.length := (List.getElem?_eq_some_iff.1 hx).1
    have hlen := hn.len
    have hC := hr.c
    have hH := hr.h
    have htall := hn.tall r (List.mem_of_getElem? hx)
    have hval := hn.val r (List.mem_of_getElem? hx)
    rw [shape_words_node.l0, if_neg (by rw [wi64 (n := r.f2) (by omega) (by omega)]; omega), show (9223372036854775808 + ((x : Int) + 1)) % 4294967296 = (x : Int) + 1 by omega, at_node hr hn hI hx (by omega) (by omega)]
    have e : ndG l x r 2 = 2 * r.f1 + 1 := by
      unfold ndG
      rw [if_neg (by decide), if_neg (by decide), if_pos rfl, if_pos hd]
    rw [e]
    simp only [Option.bind_some]
    rw [dead_is (by omega) (by omega), decide_eq_true (show (2 * r.f1 + 1) % 2 = 1 by omega)]
    rfl
  | m + 1, k + 1, y, hy, hk, h0, h1 => by
    have hH := hr.h
    have htall := hn.tall r (List.mem_of_getElem? hx)
    rw [shape_words_node.l0, if_pos (by rw [wi64 (n := r.f2) (by omega) (by omega)]; omega), marked_node hr hn hI hx h0 (by omega), decide_eq_true h1, wi64 (n := y + 1) (by omega) (by omega)]
    simp only [Option.bind_some, if_true]
    exact node_loop hr hn hI hx hd m k (y + 1) (by omega) (by omega) (by omega) (by omega)
theorem node_is (hr : R7 T S C H K V L) (hn : Nodes C H l) (hI : Inv T S C H (GG l H l.length) w) {x : Nat} {r : S46} (hx : l[x]? = some r) {k : Nat} (hk : 1000 ≤ k) {lev : Int} (h0 : 0 ≤ lev) (h1 : lev < r.f2) : shape_words_node.f k T S C H K V L w (9223372036854775808 + ((x : Int) + 1)) lev = some true := by
  have hxl : x < l.length := (List.getElem?_eq_some_iff.1 hx).1
  have hlen := hn.len
  have hC := hr.c
  have hH := hr.h
  have htall := hn.tall r (List.mem_of_getElem? hx)
  have hmarks := hn.marks r (List.mem_of_getElem? hx)
  have e4 : ndG l x r 4 = r.f2 := by
    unfold ndG
    rw [if_neg (by decide), if_neg (by decide), if_neg (by decide), if_neg (by decide), if_pos rfl]
  unfold shape_words_node.f
  rw [show (9223372036854775808 + ((x : Int) + 1)) % 4294967296 = (x : Int) + 1 by omega, at_node hr hn hI hx (by omega) (by omega), e4]
  simp only [Option.bind_some]
  rw [taken_node hr hn hI hx]
  simp only [Option.bind_some, if_true]
  rw [wu64 (n := lev) (by omega) (by omega), wu64 (n := H) (by omega) (by omega), if_neg (by omega), decide_eq_false (show ¬ r.f2 > H by omega)]
  simp only [Option.bind_some, Bool.false_eq_true, if_false]
  rw [marked_node hr hn hI hx h0 h1]
  simp only [Option.bind_some]
  by_cases hm : lev ≥ r.f2 - r.f3
  · rw [decide_eq_true hm, if_pos rfl, wi64 (n := lev + 1) (by omega) (by omega)]
    exact node_loop hr hn hI hx (hn.dead r (List.mem_of_getElem? hx) (by omega)) (r.f2 - (lev + 1)).toNat k (lev + 1) (by omega) (by omega) (by omega) (by omega)
  · rw [decide_eq_false hm, if_neg (by decide)]
    by_cases hz : lev = 0
    · rw [if_pos hz]
      rfl
    · rw [if_neg hz, wi64 (n := lev - 1) (by omega) (by omega), laid_level hr hn hI hk (show 0 ≤ lev - 1 by omega) (by omega)]
      simp only [Option.bind_some]
      have hin := hls_mem (l := l) (lev := lev - 1) l 0 hx (by omega)
      rw [Nat.zero_add] at hin
      have := hls_len l 0 (lev - 1)
      rw [contains_in (by omega) hin hk]
      rfl
theorem right_rng (hr : R7 T S C H K V L) (hn : Nodes C H l) (hI : Inv T S C H (GG l H l.length) w) {k : Nat} (hk : 1000 ≤ k) {lev : Int} (h0 : 0 ≤ lev) (h1 : lev < H) : ∀ (rest : List S46) (a : Nat) (j : Int) (s : Int × Int), l.drop a = rest → 0 ≤ j → j ≤ a → (j = 0 ∨ ∀ r ∈ rest, s.1 < r.f0) → (s.2 = bh rest a lev ∨ s.2 = bh rest a lev + 4611686018427387904) →
    rng (shape_words_right.b0 k T S C H K V L w lev) (num j (hls rest a lev)) (fun (x61_, x62_) => (handle_Valid.f x62_).bind fun t140_ => some (!t140_)) s = some true
  | [], a, j, s, hd, hj, hja, hk1, hs => by
    obtain ⟨s1, s2⟩ := s
    have hx' : s2 = 0 ∨ s2 = 4611686018427387904 := by
      rcases hs with h | h
      · exact .inl h
      · exact .inr (h.trans (by rfl))
    unfold hls num rng
    show (handle_Valid.f s2).bind _ = _
    rw [valid_is (by omega) (by omega), decide_eq_false (show ¬ s2 ≥ 9223372036854775808 by omega)]
    rfl
  | r :: rest, a, j, s, hd, hj, hja, hk1, hs => by
    obtain ⟨ha, hget, hrest⟩ := drop_cons' hd
    have hC := hr.c
    have hH := hr.h
    have hlen := hn.len
    have hpw : (r :: rest).Pairwise (fun a b : S46 => a.f0 < b.f0) := hd ▸ hn.rises.sublist (List.drop_sublist a l)
    rw [List.pairwise_cons] at hpw
    have hmem := List.mem_of_getElem? hget
    have htall := hn.tall r hmem
    unfold bh at hs
    unfold hls
    by_cases hl : r.f2 > lev
    · rw [if_pos hl]
      unfold num rng
      obtain ⟨s1, s2⟩ := s
      have e1 : ndG l a r 1 = r.f0 := by
        unfold ndG
        rw [if_neg (by decide), if_pos rfl]
      have hw := wd_or (l := l) a r lev
      rw [hrest] at hw
      have ih := right_rng hr hn hI hk h0 h1 rest (a + 1) (j + 1) (r.f0, wd l a r lev) hrest (by omega) (by omega) (.inr hpw.1) hw
      have step : ∀ κ : (Int × Int) → Option Bool, shape_words_right.b0 k T S C H K V L w lev κ j (9223372036854775808 + ((a : Int) + 1)) (s1, s2) = κ (r.f0, wd l a r lev) := by
        intro κ
        unfold shape_words_right.b0
        dsimp only
        rw [show (9223372036854775808 + ((a : Int) + 1)) % 4294967296 = (a : Int) + 1 by omega, wi64 (n := 6 + lev) (by omega) (by omega), at_node hr hn hI hget (f := 1) (by omega) (by omega), at_node hr hn hI hget (f := 6 + lev) (by omega) (by omega), e1, ndG_lev h0 hl, node_is hr hn hI hget hk h0 hl]
        simp only [Option.bind_some]
        have ej : ((if j = 0 then some true else some (decide (s1 < r.f0))) : Option Bool) = some true := by
          split
          · rfl
          · rename_i hne
            rw [decide_eq_true ((hk1.resolve_left hne) r List.mem_cons_self)]
        rw [ej]
        simp only [Option.bind_some, if_true]
        rw [if_neg (by omega)]
        simp only [Option.bind_some, Bool.not_true, Bool.false_eq_true, if_false]
      exact (step _).trans ih
    · rw [if_neg hl] at hs
      rw [if_neg hl]
      exact right_rng hr hn hI hk h0 h1 rest (a + 1) j s hrest hj (by omega) (hk1.imp id fun h r' hr' => h r' (List.mem_cons_of_mem _ hr')) hs
theorem right_lev (hr : R7 T S C H K V L) (hn : Nodes C H l) (hI : Inv T S C H (GG l H l.length) w) {k : Nat} (hk : 1000 ≤ k) {lev : Int} (h0 : 0 ≤ lev) (h1 : lev < H) : shape_words_right.f k T S C H K V L w lev = some true := by
  have hC := hr.c
  have hH := hr.h
  have hlen := hn.len
  have hb := bh_range l 0 lev (by omega)
  unfold shape_words_right.f
  rw [wi64 (n := 6 + lev) (by omega) (by omega), at_head hr hI h0 h1]
  simp only [Option.bind_some]
  rw [marked_is (by omega) (by omega), decide_eq_false (show ¬ bh l 0 lev / 4611686018427387904 % 2 = 1 by omega)]
  simp only [Option.bind_some, Bool.false_eq_true, if_false]
  rw [if_pos (laid_ok hr hI h0 h1), if_pos hk, lvl_is hr hn hI h0 h1]
  exact right_rng hr hn hI hk h0 h1 l 0 0 _ rfl (Int.le_refl _) (Int.le_refl _) (.inl rfl) (.inl rfl)
theorem laid_right_l0 (hr : R7 T S C H K V L) (hn : Nodes C H l) (hI : Inv T S C H (GG l H l.length) w) : ∀ (m k : Nat) (y : Int), H = y + m → m + 1000 ≤ k → 0 ≤ y → shape_Right.l0 k T S C H K V L w y = some true
  | m, 0, y, _, h, _ => absurd h (by omega)
  | 0, k + 1, y, hy, hk, h0 => by rw [shape_Right.l0, if_neg (by omega)]
  | m + 1, k + 1, y, hy, hk, h0 => by
    have hH := hr.h
    rw [shape_Right.l0, if_pos (by omega), right_lev hr hn hI (by omega) h0 (by omega), wi64 (n := y + 1) (by omega) (by omega)]
    simp only [Option.bind_some, if_true]
    exact laid_right_l0 hr hn hI m k (y + 1) (by omega) (by omega) (by omega)
theorem laid_right (hr : R7 T S C H K V L) (hn : Nodes C H l) (hI : Inv T S C H (GG l H l.length) w) {k : Nat} (hk : 1500 ≤ k) : shape_Right.f k T S C H K V L w = some true := by
  have hH := hr.h
  unfold shape_Right.f
  rw [whole_is, r7_iff.2 hr, decide_eq_true hI.len, taken_head hr hI]
  simp only [Bool.and_self, Option.bind_some, if_true, Bool.not_true, Bool.false_eq_true, if_false]
  exact laid_right_l0 hr hn hI H.toNat k 0 (by omega) (by omega) (Int.le_refl _)
end
end Go.Eng
namespace Go.Eng
open Go.Proofs Go.RowKit Go.Proofs.YtbonlagecjealaaW.PrintWords
set_option linter.unusedVariables false
set_option linter.unusedSimpArgs false
theorem hls_cons (r : S46) (rest : List S46) (j : Nat) (lev : Int) : hls (r :: rest) j lev = if r.f2 > lev then (9223372036854775808 + ((j : Int) + 1)) :: hls rest (j + 1) lev else hls rest (j + 1) lev := rfl
section
variable {T S C H K V L : Int} {l : List S46} {w : List Int}
theorem where_is (hr : R7 T S C H K V L) {y : Int} (h0 : 0 ≤ y) (h1 : y < lenI T S C H) : ∃ t a b, plan_Where.f T S C H K V L y = some (t, a, b) ∧ (t = 2 → 1 ≤ y ∧ y < 1 + T * S) := by
  have hL := lens hr
  have hH := hr.h
  have hS := hr.s
  have hN : lenI T S C H = 1 + T * S + (C + 1) * (6 + H) := rfl
  unfold plan_Where.f plan_first.f plan_fields.f
  rw [plan_Len_is, if_pos (r7_iff.2 hr)]
  simp only [Option.bind_some]
  rw [within_is, wi64 (n := lenI T S C H - 1) (by omega) (by omega), decide_eq_true h0, decide_eq_true (show y ≤ lenI T S C H - 1 by omega), wi64 (n := T * S) (by omega) (by omega), wi64 (n := 1 + T * S) (by omega) (by omega), wi64 (n := 6 + H) (by omega) (by omega)]
  simp only [Bool.and_self, Option.bind_some, if_true]
  by_cases hy : y = 0
  · rw [if_pos hy]
    exact ⟨_, _, _, rfl, fun h => absurd h (by decide)⟩
  rw [if_neg hy, wi64 (n := y - (1 + T * S)) (by omega) (by omega)]
  by_cases hz : y - (1 + T * S) < 0
  · rw [if_pos hz, if_pos (by omega)]
    exact ⟨_, _, _, rfl, fun _ => by omega⟩
  · rw [if_neg hz, if_pos (by omega), if_pos (by omega)]
    exact ⟨_, _, _, rfl, fun h => absurd h (by decide)⟩
theorem rest_l1 (hr : R7 T S C H K V L) {G : Int → Int → Int} (hI : Inv T S C H G w) (t xs : List Int) : ∀ (m k : Nat) (y : Int), (w.length : Int) = y + m → 0 ≤ y → shape_Rest.l1 (m + 1 + k) T S C H K V L w t xs y = shape_Rest.l2 k T S C H K V L w t xs 0
  | 0, k, y, hy, h0 => by rw [show 0 + 1 + k = k + 1 by omega, shape_Rest.l1, if_neg (by omega)]
  | m + 1, k, y, hy, h0 => by
    have hL := lens hr
    have hN : lenI T S C H = 1 + T * S + (C + 1) * (6 + H) := rfl
    have hlen := hI.len
    obtain ⟨tt, a, b, e, h2⟩ := where_is hr h0 (show y < lenI T S C H by omega)
    rw [show m + 1 + 1 + k = (m + 1 + k) + 1 by omega, shape_Rest.l1, if_pos (by omega), e, wi64 (n := y + 1) (by omega) (by omega)]
    simp only [Option.bind_some]
    have ih := rest_l1 hr hI t xs m k (y + 1) (by omega) (by omega)
    by_cases h : tt = 2
    · rw [if_pos h, if_pos h0, if_pos (hI.low y (h2 h).1 (h2 h).2), ih]
    · rw [if_neg h, ih]
theorem settled_loop (hr : R7 T S C H K V L) (hn : Nodes C H l) (hI : Inv T S C H (GG l H l.length) w) {x : Nat} {r : S46} (hx : l[x]? = some r) (hd : ¬ r.f4 = true) : ∀ (m k : Nat) (y : Int), r.f2 = y + m → m + 1000 ≤ k → 0 ≤ y → shape_words_settled.l0 k T S C H K V L w (9223372036854775808 + ((x : Int) + 1)) r.f2 y = some true
  | m, 0, y, _, h, _ => absurd h (by omega)
  | 0, k + 1, y, hy, hk, h0 => by
    have hH := hr.h
    have htall := hn.tall r (List.mem_of_getElem? hx)
    rw [shape_words_settled.l0, if_neg (by rw [wi64 (n := r.f2) (by omega) (by omega)]; omega)]
  | m + 1, k + 1, y, hy, hk, h0 => by
    have hH := hr.h
    have hC := hr.c
    have hlen := hn.len
    have htall := hn.tall r (List.mem_of_getElem? hx)
    have hmarks := hn.marks r (List.mem_of_getElem? hx)
    have h3 : r.f3 = 0 := by
      have := hn.dead r (List.mem_of_getElem? hx)
      by_cases h : 0 < r.f3
      · exact absurd (this h) hd
      · omega
    have hin := hls_mem (l := l) (lev := y) l 0 hx (by omega)
    rw [Nat.zero_add] at hin
    have := hls_len l 0 y
    rw [shape_words_settled.l0, if_pos (by rw [wi64 (n := r.f2) (by omega) (by omega)]; omega), marked_node hr hn hI hx h0 (by omega), decide_eq_false (show ¬ y ≥ r.f2 - r.f3 by omega), wi64 (n := y + 1) (by omega) (by omega), laid_level hr hn hI (k := k) (by omega) h0 (by omega)]
    simp only [Option.bind_some, Bool.false_eq_true, if_false]
    rw [contains_in (by omega) hin (by omega)]
    simp only [Option.bind_some, Bool.not_true, Bool.false_eq_true, if_false]
    exact settled_loop hr hn hI hx hd m k (y + 1) (by omega) (by omega) (by omega)
theorem nd2 {x : Nat} {r : S46} : ndG l x r 2 = if r.f4 = true then 2 * r.f1 + 1 else 2 * r.f1 := by
  unfold ndG
  rw [if_neg (by decide), if_neg (by decide), if_pos rfl]
theorem nd4 {x : Nat} {r : S46} : ndG l x r 4 = r.f2 := by
  unfold ndG
  rw [if_neg (by decide), if_neg (by decide), if_neg (by decide), if_neg (by decide), if_pos rfl]
theorem settled_is (hr : R7 T S C H K V L) (hn : Nodes C H l) (hI : Inv T S C H (GG l H l.length) w) {x : Nat} {r : S46} (hx : l[x]? = some r) {k : Nat} (hk : 1500 ≤ k) : shape_words_settled.f k T S C H K V L w (9223372036854775808 + ((x : Int) + 1)) = some (!r.f4) := by
  have hxl : x < l.length := (List.getElem?_eq_some_iff.1 hx).1
  have hlen := hn.len
  have hC := hr.c
  have hH := hr.h
  have htall := hn.tall r (List.mem_of_getElem? hx)
  have hval := hn.val r (List.mem_of_getElem? hx)
  unfold shape_words_settled.f
  rw [show (9223372036854775808 + ((x : Int) + 1)) % 4294967296 = (x : Int) + 1 by omega, at_node hr hn hI hx (f := 2) (by omega) (by omega), nd2, at_node hr hn hI hx (f := 4) (by omega) (by omega), nd4]
  simp only [Option.bind_some]
  by_cases hd : r.f4 = true
  · rw [if_pos hd, dead_is (by omega) (by omega), decide_eq_true (show (2 * r.f1 + 1) % 2 = 1 by omega), hd]
    rfl
  · have e5 : ndG l x r 5 = 1 := by
      unfold ndG
      rw [if_neg (by decide), if_neg (by decide), if_neg (by decide), if_neg (by decide), if_neg (by decide), if_pos rfl]
    rw [if_neg hd, dead_is (by omega) (by omega), decide_eq_false (show ¬ (2 * r.f1) % 2 = 1 by omega), at_node hr hn hI hx (f := 5) (by omega) (by omega), e5]
    simp only [Option.bind_some, Bool.false_eq_true, if_false]
    rw [show ((1 : Int) != 1) = false from rfl]
    simp only [Bool.false_eq_true, if_false]
    rw [settled_loop hr hn hI hx hd r.f2.toNat k 0 (by omega) (by omega) (Int.le_refl _)]
    rw [Bool.not_eq_true] at hd
    rw [hd]
    rfl
theorem b3_is (hr : R7 T S C H K V L) (hn : Nodes C H l) (hI : Inv T S C H (GG l H l.length) w) {x : Nat} {r : S46} (hx : l[x]? = some r) {k : Nat} (hk : 1500 ≤ k) (κ : Unit → Option Bool) (j : Int) : shape_Rest.b3 k T S C H K V L w (hls l 0 0) κ j (9223372036854775808 + ((x : Int) + 1)) () = if r.f4 = true then some false else κ () := by
  have hxl : x < l.length := (List.getElem?_eq_some_iff.1 hx).1
  have hlen := hn.len
  have hC := hr.c
  have htall := hn.tall r (List.mem_of_getElem? hx)
  have hin := hls_mem (l := l) (lev := 0) l 0 hx (by omega)
  rw [Nat.zero_add] at hin
  have := hls_len l 0 0
  unfold shape_Rest.b3
  rw [contains_in (by omega) hin (by omega)]
  simp only [Option.bind_some, if_true]
  rw [settled_is hr hn hI hx hk]
  cases r.f4 <;> rfl
theorem rest_rng (hr : R7 T S C H K V L) (hn : Nodes C H l) (hI : Inv T S C H (GG l H l.length) w) {k : Nat} (hk : 1500 ≤ k) {lev : Int} (κ : Unit → Option Bool) : ∀ (rest : List S46) (a : Nat) (j : Int), l.drop a = rest → (∀ r ∈ rest, ¬ r.f4 = true) → rng (shape_Rest.b3 k T S C H K V L w (hls l 0 0)) (num j (hls rest a lev)) κ () = κ ()
  | [], a, j, _, _ => rfl
  | r :: rest, a, j, hd, hnd => by
    obtain ⟨ha, hget, hrest⟩ := drop_cons' hd
    rw [hls_cons]
    split
    · show shape_Rest.b3 k T S C H K V L w (hls l 0 0) (fun s' => rng (shape_Rest.b3 k T S C H K V L w (hls l 0 0)) (num (j + 1) (hls rest (a + 1) lev)) κ s') j (9223372036854775808 + ((a : Int) + 1)) () = κ ()
      rw [b3_is hr hn hI hget hk, if_neg (hnd r List.mem_cons_self)]
      exact rest_rng hr hn hI hk κ rest (a + 1) (j + 1) hrest (fun r' h => hnd r' (List.mem_cons_of_mem _ h))
    · exact rest_rng hr hn hI hk κ rest (a + 1) j hrest (fun r' h => hnd r' (List.mem_cons_of_mem _ h))
theorem rest_rng_dead (hr : R7 T S C H K V L) (hn : Nodes C H l) (hI : Inv T S C H (GG l H l.length) w) {k : Nat} (hk : 1500 ≤ k) (κ : Unit → Option Bool) : ∀ (rest : List S46) (a : Nat) (j : Int), l.drop a = rest → (∃ r ∈ rest, r.f4 = true) → rng (shape_Rest.b3 k T S C H K V L w (hls l 0 0)) (num j (hls rest a 0)) κ () = some false
  | [], a, j, _, h => by obtain ⟨r, hr', _⟩ := h; cases hr'
  | r :: rest, a, j, hd, hnd => by
    obtain ⟨ha, hget, hrest⟩ := drop_cons' hd
    have htall := hn.tall r (List.mem_of_getElem? hget)
    rw [hls_cons, if_pos (by omega)]
    show shape_Rest.b3 k T S C H K V L w (hls l 0 0) (fun s' => rng (shape_Rest.b3 k T S C H K V L w (hls l 0 0)) (num (j + 1) (hls rest (a + 1) 0)) κ s') j (9223372036854775808 + ((a : Int) + 1)) () = some false
    rw [b3_is hr hn hI hget hk]
    by_cases h4 : r.f4 = true
    · rw [if_pos h4]
    · rw [if_neg h4]
      refine rest_rng_dead hr hn hI hk κ rest (a + 1) (j + 1) hrest ?_
      obtain ⟨r', h1, h2⟩ := hnd
      rcases List.mem_cons.1 h1 with rfl | h1
      · exact absurd h2 h4
      · exact ⟨r', h1, h2⟩
theorem hls0 (hn : ∀ r ∈ l, 1 ≤ r.f2) : ∀ (rest : List S46) (a : Nat), (∀ r ∈ rest, 1 ≤ r.f2) → (hls rest a 0).length = rest.length ∧ ∀ i, i < rest.length → (hls rest a 0)[i]? = some (9223372036854775808 + (((a + i : Nat) : Int) + 1))
  | [], a, _ => ⟨rfl, fun i h => absurd h (by simp)⟩
  | r :: rest, a, h => by
    obtain ⟨h1, h2⟩ := hls0 hn rest (a + 1) (fun r' hr' => h r' (List.mem_cons_of_mem _ hr'))
    have := h r List.mem_cons_self
    unfold hls
    rw [if_pos (by omega)]
    refine ⟨by rw [List.length_cons, List.length_cons, h1], fun i hi => ?_⟩
    cases i with
    | zero => rfl
    | succ i =>
      rw [List.getElem?_cons_succ, h2 i (by simpa using hi), show a + 1 + i = a + (i + 1) by omega]
theorem state1 : slot_State.f 1 = some 1 := by kernel_rfl
theorem state0 : slot_State.f 0 = some 0 := by kernel_rfl
theorem rest_l5 (hr : R7 T S C H K V L) (hn : Nodes C H l) (hI : Inv T S C H (GG l H l.length) w) {ts : List Int} (ht : ∀ j : Int, 0 ≤ j → rd ts j = if 1 ≤ j ∧ j ≤ (l.length : Int) then 1 else 0) : ∀ (m k : Nat) (y : Int), C + 1 = y + m → m < k → 1 ≤ y → shape_Rest.l5 k T S C H K V L w ts y = some true
  | m, 0, y, _, h, _ => absurd h (by omega)
  | 0, k + 1, y, hy, hk, h0 => by rw [shape_Rest.l5, if_neg (by omega)]
  | m + 1, k + 1, y, hy, hk, h0 => by
    have hC := hr.c
    have hH := hr.h
    have hlen := hn.len
    have ih := rest_l5 hr hn hI ht m k (y + 1) (by omega) (by omega) (by omega)
    have e : ∃ a, GG l H l.length y 0 = a ∧ slot_State.f a = some (if y ≤ (l.length : Int) then 1 else 0) := by
      refine ⟨_, rfl, ?_⟩
      unfold GG
      rw [if_neg (by omega)]
      by_cases h : y ≤ (l.length : Int)
      · rw [if_pos h, if_pos h]
        exact state1
      · rw [if_neg h, if_neg h]
        exact state0
    obtain ⟨a, e1, e2⟩ := e
    rw [shape_Rest.l5, if_pos (by omega), at_GG hr hI (isF_iff.2 ⟨by omega, by omega, by omega, by omega⟩), e1]
    simp only [Option.bind_some]
    rw [e2, ht y (by omega), wi64 (n := C + 1) (by omega) (by omega), wi64 (n := y + 1) (by omega) (by omega)]
    simp only [Option.bind_some]
    rw [if_pos (show 0 ≤ y by omega), if_pos (show y < ((C + 1).toNat : Int) by omega)]
    by_cases h : y ≤ (l.length : Int)
    · rw [if_pos h, if_pos (show 1 ≤ y ∧ y ≤ (l.length : Int) from ⟨h0, h⟩)]
      exact ih
    · rw [if_neg h, if_neg (show ¬ (1 ≤ y ∧ y ≤ (l.length : Int)) from fun e => h e.2)]
      exact ih
theorem names_node (hr : R7 T S C H K V L) {x : Int} (h0 : 0 ≤ x) (h1 : x < C) : shape_words_names.f T S C H K V L w (9223372036854775808 + (x + 1)) = some true := by
  have hC := hr.c
  rw [names_eq, nm_is (by omega) (by omega), decide_eq_true (show 9223372036854775808 + (x + 1) ≥ 9223372036854775808 by omega), show (9223372036854775808 + (x + 1)) % 4294967296 = x + 1 by omega, decide_eq_true (show x + 1 ≥ 1 by omega), decide_eq_true (show x + 1 ≤ C by omega)]
  rfl
theorem rest_l4 (hr : R7 T S C H K V L) (hn : Nodes C H l) (hI : Inv T S C H (GG l H l.length) w) : ∀ (m k i : Nat) (ts : List Int), l.length = i + m → m + 200 ≤ k → (ts.length : Int) = C + 1 → (∀ j : Int, 0 ≤ j → rd ts j = if 1 ≤ j ∧ j ≤ (i : Int) then 1 else 0) → shape_Rest.l4 k T S C H K V L w (hls l 0 0) (i : Int) ts = some true
  | m, 0, i, ts, _, h, _, _ => absurd h (by omega)
  | 0, k + 1, i, ts, hi, hk, hts, ht => by
    have hC := hr.c
    have hl0 := (hls0 (fun r h => (hn.tall r h).1) l 0 (fun r h => (hn.tall r h).1)).1
    rw [shape_Rest.l4, if_neg (by omega)]
    refine rest_l5 hr hn hI (fun j hj => ?_) C.toNat k 1 (by omega) (by omega) (Int.le_refl _)
    rw [ht j hj, show (i : Int) = (l.length : Int) by omega]
  | m + 1, k + 1, i, ts, hi, hk, hts, ht => by
    have hC := hr.c
    have hlen := hn.len
    obtain ⟨hl0, hl1⟩ := hls0 (fun r h => (hn.tall r h).1) l 0 (fun r h => (hn.tall r h).1)
    have hg := hl1 i (by omega)
    rw [Nat.zero_add] at hg
    have e1 : rd (hls l 0 0) (i : Int) = 9223372036854775808 + ((i : Int) + 1) := by unfold rd; rw [Int.toNat_natCast, List.getD_eq_getElem?_getD, hg]; rfl
    have hget : l[i]? = some l[i] := List.getElem?_eq_getElem (by omega)
    have e2 := ht ((i : Int) + 1) (by omega)
    rw [if_neg (by omega)] at e2
    rw [shape_Rest.l4, if_pos (by omega), if_pos (by omega), e1, names_node hr (by omega) (by omega)]
    simp only [Option.bind_some, if_true]
    rw [marked_is (by omega) (by omega), decide_eq_false (show ¬ (9223372036854775808 + ((i : Int) + 1)) / 4611686018427387904 % 2 = 1 by omega), taken_node hr hn hI hget, show (9223372036854775808 + ((i : Int) + 1)) % 4294967296 = (i : Int) + 1 by omega, e2, wi64 (n := C + 1) (by omega) (by omega), wi64 (n := (i : Int) + 1) (by omega) (by omega)]
    simp only [Option.bind_some, Bool.false_eq_true, if_false, Bool.not_true]
    rw [if_pos (by omega), if_pos (show (i : Int) + 1 < ((C + 1).toNat : Int) by omega)]
    refine rest_l4 hr hn hI m k (i + 1) _ (by omega) (by omega) (by rw [List.length_set]; exact hts) (fun j hj => ?_)
    rw [rd_set (by omega), ht j hj, show IntKind.wrap .i64 (0 + 1) = 1 from by decide]
    by_cases h : j = (i : Int) + 1
    · rw [if_pos (by omega), if_pos (by omega)]
    · rw [if_neg (by omega)]
      by_cases h2 : 1 ≤ j ∧ j ≤ (i : Int)
      · rw [if_pos h2, if_pos (by omega)]
      · rw [if_neg h2, if_neg (by omega)]
theorem rest_l2 (hr : R7 T S C H K V L) (hn : Nodes C H l) (hI : Inv T S C H (GG l H l.length) w) (hnd : ∀ r ∈ l, ¬ r.f4 = true) : ∀ (m k : Nat) (y : Int), H = y + m → m + 2000 ≤ k → 0 ≤ y → shape_Rest.l2 k T S C H K V L w (hls l 0 0) (hls l 0 0) y = some true
  | m, 0, y, _, h, _ => absurd h (by omega)
  | 0, k + 1, y, hy, hk, h0 => by
    have hC := hr.c
    have hlen := hn.len
    rw [shape_Rest.l2, if_neg (by omega), wi64 (n := C + 1) (by omega) (by omega), if_pos (by omega), if_pos (by omega)]
    refine rest_l4 hr hn hI l.length k 0 _ (by omega) (by omega) (by rw [List.length_replicate]; omega) (fun j hj => ?_)
    rw [rd_rep, if_neg (by omega)]
  | m + 1, k + 1, y, hy, hk, h0 => by
    have hH := hr.h
    rw [shape_Rest.l2, if_pos (by omega), if_pos (laid_ok hr hI h0 (by omega)), if_pos (by omega), lvl_is hr hn hI h0 (by omega), rest_rng hr hn hI (by omega) _ l 0 0 rfl hnd, wi64 (n := y + 1) (by omega) (by omega)]
    exact rest_l2 hr hn hI hnd m k (y + 1) (by omega) (by omega) (by omega)
theorem rest_l2_dead (hr : R7 T S C H K V L) (hn : Nodes C H l) (hI : Inv T S C H (GG l H l.length) w) (hnd : ∃ r ∈ l, r.f4 = true) {k : Nat} (hk : 2100 ≤ k) : shape_Rest.l2 k T S C H K V L w (hls l 0 0) (hls l 0 0) 0 = some false := by
  have hH := hr.h
  obtain ⟨k, rfl⟩ : ∃ k', k = k' + 1 := ⟨k - 1, by omega⟩
  rw [shape_Rest.l2, if_pos (by omega), if_pos (laid_ok hr hI (Int.le_refl 0) (by omega)), if_pos (by omega), lvl_is hr hn hI (Int.le_refl 0) (by omega), rest_rng_dead hr hn hI (by omega) _ l 0 0 rfl hnd]
theorem concat0 : slices_Concat_cover_Entry_cover_Entry.f 3000 ([] : List (List S81)) = some [] := by kernel_rfl
theorem laid_rest (hr : R7 T S C H K V L) (hn : Nodes C H l) (hI : Inv T S C H (GG l H l.length) w) : shape_Rest.f 3000 T S C H K V L w ([] : List (List S81)) = some (!l.any (·.f4)) := by
  have hH := hr.h
  have hL := lens hr
  have hC := hr.c
  have hlen := hn.len
  have hwl := hI.len
  have hN : lenI T S C H = 1 + T * S + (C + 1) * (6 + H) := rfl
  have hll := hls_len l 0 0
  unfold shape_Rest.f
  rw [laid_right hr hn hI (by decide), laid_level hr hn hI (k := 3000) (by decide) (Int.le_refl 0) (by omega), concat0]
  simp only [Option.bind_some, if_true]
  rw [if_pos (by omega), show shape_Rest.l0 3000 T S C H K V L w (hls l 0 0) [] 0 (hls l 0 0) = shape_Rest.l1 2999 T S C H K V L w (hls l 0 0) (hls l 0 0) 0 by rw [show (3000 : Nat) = 2999 + 1 from rfl, shape_Rest.l0, if_neg (by simp)], show (2999 : Nat) = w.length + 1 + (2998 - w.length) by omega, rest_l1 hr hI _ _ w.length (2998 - w.length) 0 (by omega) (Int.le_refl _)]
  by_cases h : ∃ r ∈ l, r.f4 = true
  · rw [rest_l2_dead hr hn hI h (by omega), show l.any (·.f4) = true from List.any_eq_true.2 h]
    rfl
  · rw [rest_l2 hr hn hI (fun r hr' h4 => h ⟨r, hr', h4⟩) H.toNat _ 0 (by omega) (by omega) (Int.le_refl _), show l.any (·.f4) = false from by rw [← Bool.not_eq_true, List.any_eq_true]; exact h]
    rfl
end
end Go.Eng
namespace Go.Eng
open Go.Proofs Go.RowKit Go.Proofs.YtbonlagecjealaaW.PrintWords Go.Proofs.Ytbonlagecjealaa.GSeq
set_option linter.unusedVariables false
set_option linter.unusedSimpArgs false
theorem ins_end {acc : List S61} {k v : Int} (h : ∀ q ∈ acc, q.f0 < k) : ins acc k v = acc ++ [⟨k, v⟩] := by
  unfold ins
  rw [List.filter_eq_self.2 (fun q hq => decide_eq_true (h q hq)), List.filter_eq_nil_iff.2 (fun q hq => by have := h q hq; simp; omega), List.append_nil]
theorem ofL_srt : ∀ (l acc : List S61), Srt (acc ++ l) → ofL acc l = acc ++ l
  | [], acc, _ => by rw [List.append_nil]; rfl
  | p :: l, acc, h => by
    have h2 : ∀ q ∈ acc, q.f0 < p.f0 := fun q hq => (List.pairwise_append.1 h).2.2 q hq p List.mem_cons_self
    show ofL (ins acc p.f0 p.f1) l = _
    rw [ins_end h2]
    have e : acc ++ [(⟨p.f0, p.f1⟩ : S61)] ++ l = acc ++ p :: l := by rw [List.append_assoc]; rfl
    rw [ofL_srt l _ (by rw [e]; exact h), e]
def lv46 (r : S46) : Option S61 := if r.f4 = true then none else some ⟨r.f0, r.f1⟩
theorem srt_lv {l : List S46} (h : l.Pairwise (fun a b => a.f0 < b.f0)) : Srt (l.filterMap lv46) := by
  refine List.Pairwise.filterMap lv46 (fun a b hab x hx y hy => ?_) h
  unfold lv46 at hx hy
  split at hx
  · cases hx
  · split at hy
    · cases hy
    · injection hx with hx
      injection hy with hy
      rw [← hx, ← hy]
      exact hab
section
variable {T S C H K V L : Int} {l : List S46} {w : List Int}
theorem liv_map (hr : R7 T S C H K V L) (hn : Nodes C H l) (hI : Inv T S C H (GG l H l.length) w) : ∀ (rest : List S46) (a : Nat), l.drop a = rest → (hls rest a 0).filterMap (livP T S C H K V L w) = rest.filterMap lv46
  | [], a, _ => rfl
  | r :: rest, a, hd => by
    obtain ⟨ha, hget, hrest⟩ := drop_cons' hd
    have hlen := hn.len
    have hC := hr.c
    have hH := hr.h
    have htall := hn.tall r (List.mem_of_getElem? hget)
    have hval := hn.val r (List.mem_of_getElem? hget)
    have e1 : ndG l a r 1 = r.f0 := by
      unfold ndG
      rw [if_neg (by decide), if_pos rfl]
    have e : livP T S C H K V L w (9223372036854775808 + ((a : Int) + 1)) = lv46 r := by
      unfold livP lv46
      rw [show (9223372036854775808 + ((a : Int) + 1)) % 4294967296 = (a : Int) + 1 by omega, atF_node hr hn hI hget (f := 2) (by omega) (by omega), atF_node hr hn hI hget (f := 1) (by omega) (by omega), nd2, e1]
      by_cases h4 : r.f4 = true
      · rw [if_pos h4, if_pos h4, if_pos (by omega)]
      · rw [if_neg h4, if_neg h4, if_neg (by omega), show 2 * r.f1 / 2 = r.f1 by omega]
    rw [hls_cons, if_pos (by omega), List.filterMap_cons, List.filterMap_cons, e, liv_map hr hn hI rest (a + 1) hrest]
theorem laid_map (hr : R7 T S C H K V L) (hn : Nodes C H l) (hI : Inv T S C H (GG l H l.length) w) {k : Nat} (hk : 3000 ≤ k) : shape_Map.f k T S C H K V L w = some (l.filterMap lv46) := by
  have hC := hr.c
  have hH := hr.h
  have hlen := hn.len
  have hl := hls_len l 0 0
  unfold shape_Map.f
  rw [laid_level hr hn hI (by omega) (Int.le_refl 0) (by omega)]
  simp only [Option.bind_some]
  have h1 := map_l0 hr hI.len hI.u (hs := hls l 0 0) (fun h hh => by
    obtain ⟨x, r, h1, h2, h3⟩ := mem_hls l 0 hh
    have := (List.getElem?_eq_some_iff.1 h1).1
    rw [h3]
    omega) (by omega) (hls l 0 0) k 0 [] rfl (by omega) (by simp only [List.length_nil]; omega)
  refine h1.trans ?_
  rw [List.nil_append, liv_map hr hn hI l 0 rfl, ofL_srt _ [] (srt_lv hn.rises), List.nil_append]
theorem law_l0 (t : List Int) (hl : l.length ≤ 500) : ∀ (rest : List S46) (k i : Nat) (b : Bool) (xs : List S48), l.drop i = rest → xs.length + rest.length ≤ 1000 → stepstonelaw21_ShapeLaid.l0 (rest.length + (k + 1)) T S C H K V L l t b (i : Int) xs = stepstonelaw21_ShapeLaid.l0 (k + 1) T S C H K V L l t (b || rest.any (·.f4)) (l.length : Int) (xs ++ (rest.filterMap lv46).map old)
  | [], k, i, b, xs, hd, hx => by
    have h1 : l.length ≤ i := List.drop_eq_nil_iff.1 hd
    rw [show ([] : List S46).length + (k + 1) = k + 1 from Nat.zero_add _]
    simp only [List.any_nil, Bool.or_false, List.filterMap_nil, List.map_nil, List.append_nil]
    rw [stepstonelaw21_ShapeLaid.l0, if_neg (by omega), stepstonelaw21_ShapeLaid.l0, if_neg (by omega)]
  | r :: rest, k, i, b, xs, hd, hx => by
    obtain ⟨h1, h2, h3⟩ := drop_cons' hd
    have e2 : IntKind.wrap .i64 ((i : Int) + 1) = ((i + 1 : Nat) : Int) := by rw [wi64 (by omega) (by omega)]; rfl
    rw [List.length_cons] at hx
    have ej : ((if b = true then some (true, true, true, true) else some (r.f4, false, false, r.f4)) : Option (Bool × Bool × Bool × Bool)) = some (b || r.f4, b, b, b || r.f4) := by cases b <;> rfl
    rw [show (r :: rest).length + (k + 1) = (rest.length + (k + 1)) + 1 by rw [List.length_cons]; omega, stepstonelaw21_ShapeLaid.l0, if_pos (by omega), if_pos (by omega), rd46 h2, e2, ej]
    simp only [Option.bind_some, List.any_cons]
    rw [← Bool.or_assoc]
    by_cases h4 : r.f4 = true
    · rw [if_pos h4, law_l0 t hl rest k (i + 1) (b || r.f4) xs h3 (by omega), List.filterMap_cons_none (show lv46 r = none from if_pos h4)]
    · rw [if_neg h4, if_pos (by omega), law_l0 t hl rest k (i + 1) (b || r.f4) _ h3 (by rw [List.length_append, List.length_singleton]; omega), List.filterMap_cons_some (show lv46 r = some ⟨r.f0, r.f1⟩ from if_neg h4), List.map_cons, List.append_assoc]
      rfl
theorem law_start (t : List Int) (hl : l.length ≤ 500) (k : Nat) : stepstonelaw21_ShapeLaid.l0 (l.length + (k + 1)) T S C H K V L l t false 0 [] = stepstonelaw21_ShapeLaid.l0 (k + 1) T S C H K V L l t (l.any (·.f4)) (l.length : Int) ((l.filterMap lv46).map old) := by
  have h := law_l0 (T := T) (S := S) (C := C) (H := H) (K := K) (V := V) (L := L) t hl l k 0 false [] rfl (by simp only [List.length_nil]; omega)
  rw [Bool.false_or, List.nil_append] at h
  exact h
end
def Good (H : Int) (r : S46) : Prop := (1 ≤ r.f2 ∧ r.f2 ≤ H) ∧ (0 ≤ r.f3 ∧ r.f3 ≤ r.f2) ∧ (0 < r.f3 → r.f4 = true) ∧ r.f1 < 9223372036854775808
theorem right11_l0 {H : Int} {l : List S46} (hl : l.length ≤ 500) : ∀ (rest : List S46) (k i : Nat), l.drop i = rest → rest.length < k → ∃ b, stepstoneref11_Right.l0 k H l (i : Int) = some b ∧ (b = true → (∀ r ∈ rest, Good H r) ∧ rest.Pairwise (fun a b => a.f0 < b.f0) ∧ ∀ p, 0 < i → l[i - 1]? = some p → ∀ r ∈ rest, p.f0 < r.f0)
  | rest, 0, i, _, h => absurd h (by omega)
  | [], k + 1, i, hd, _ => by
    have h1 : l.length ≤ i := List.drop_eq_nil_iff.1 hd
    rw [stepstoneref11_Right.l0, if_neg (by omega)]
    exact ⟨true, rfl, fun _ => ⟨fun r hr => by (cases hr), List.Pairwise.nil, fun _ _ _ r hr => by (cases hr)⟩⟩
  | r :: rest, k + 1, i, hd, hk => by
    obtain ⟨h1, h2, h3⟩ := drop_cons' hd
    have e2 : IntKind.wrap .i64 ((i : Int) + 1) = ((i + 1 : Nat) : Int) := by rw [wi64 (by omega) (by omega)]; rfl
    have no : ∃ b, (some false : Option Bool) = some b ∧ (b = true → (∀ r' ∈ r :: rest, Good H r') ∧ (r :: rest).Pairwise (fun a b => a.f0 < b.f0) ∧ ∀ p, 0 < i → l[i - 1]? = some p → ∀ r' ∈ r :: rest, p.f0 < r'.f0) := ⟨false, rfl, fun h => (by cases h)⟩
    rw [List.length_cons] at hk
    obtain ⟨b, hb, hP⟩ := right11_l0 (H := H) hl rest k (i + 1) h3 (by omega)
    rw [stepstoneref11_Right.l0, if_pos (by omega), if_pos (show (0 : Int) ≤ (i : Int) by omega), rd46 h2, e2, hb]
    by_cases q1 : r.f2 < 1
    · rw [if_pos q1]; exact no
    rw [if_neg q1]
    by_cases q2 : r.f2 > H
    · rw [if_pos q2]; exact no
    rw [if_neg q2]
    by_cases q3 : r.f3 < 0
    · rw [if_pos q3]; exact no
    rw [if_neg q3]
    by_cases q4 : r.f3 > r.f2
    · rw [if_pos q4]; exact no
    rw [if_neg q4]
    have go : (0 < r.f3 → r.f4 = true) → ∃ b_1, ((some (false, false, false, false, false, false, false, false, false, false, decide (r.f1 ≥ 9223372036854775808)) : Option (Bool × Bool × Bool × Bool × Bool × Bool × Bool × Bool × Bool × Bool × Bool)).bind fun (j114_, j115_, j116_, j117_, j118_, j119_, j120_, j121_, j122_, j123_, j124_) => (if j124_ = true then some false else ((if (i : Int) > 0 then (if 0 ≤ (IntKind.wrap .i64 ((i : Int) - 1) : Int) then (if (IntKind.wrap .i64 ((i : Int) - 1) : Int) < (l.length : Int) then some (true, true, decide (((rd_T46 l (IntKind.wrap .i64 ((i : Int) - 1))).f0 : Int) ≥ (r.f0))) else none) else none) else some (false, false, false)) : Option (Bool × Bool × Bool)).bind fun (j131_, j132_, j133_) => (if j133_ = true then some false else some b))) = some b_1 ∧ (b_1 = true → (∀ r' ∈ r :: rest, Good H r') ∧ (r :: rest).Pairwise (fun a b => a.f0 < b.f0) ∧ ∀ p, 0 < i → l[i - 1]? = some p → ∀ r' ∈ r :: rest, p.f0 < r'.f0) := by
      intro hdd
      simp only [Option.bind_some]
      by_cases q5 : r.f1 ≥ 9223372036854775808
      · rw [decide_eq_true q5]; exact no
      rw [decide_eq_false q5, if_neg (by decide)]
      have good : Good H r := ⟨⟨by omega, by omega⟩, ⟨by omega, by omega⟩, hdd, by omega⟩
      by_cases hi : (i : Int) > 0
      · rw [if_pos hi, wi64 (n := (i : Int) - 1) (by omega) (by omega), if_pos (by omega), if_pos (by omega)]
        have hp : l[i - 1]? = some l[i - 1] := List.getElem?_eq_getElem (by omega)
        generalize l[i - 1] = p at hp
        rw [show (i : Int) - 1 = ((i - 1 : Nat) : Int) by omega, rd46 hp]
        simp only [Option.bind_some]
        by_cases q6 : p.f0 ≥ r.f0
        · rw [decide_eq_true q6]; exact no
        rw [decide_eq_false q6, if_neg (by decide)]
        refine ⟨b, rfl, fun ht => ?_⟩
        obtain ⟨g1, g2, g3⟩ := hP ht
        have g4 := g3 r (by omega) (by rw [Nat.add_sub_cancel]; exact h2)
        refine ⟨fun r' hr' => ?_, List.pairwise_cons.2 ⟨g4, g2⟩, fun p' _ hp' r' hr' => ?_⟩
        · rcases List.mem_cons.1 hr' with rfl | hr'
          · exact good
          · exact g1 r' hr'
        · rw [hp] at hp'
          injection hp' with hp'
          subst hp'
          rcases List.mem_cons.1 hr' with rfl | hr'
          · omega
          · have := g4 r' hr'; omega
      · rw [if_neg hi]
        simp only [Option.bind_some]
        rw [if_neg (by decide)]
        refine ⟨b, rfl, fun ht => ?_⟩
        obtain ⟨g1, g2, g3⟩ := hP ht
        have g4 := g3 r (by omega) (by rw [Nat.add_sub_cancel]; exact h2)
        refine ⟨fun r' hr' => ?_, List.pairwise_cons.2 ⟨g4, g2⟩, fun p' h0 => absurd h0 (by omega)⟩
        rcases List.mem_cons.1 hr' with rfl | hr'
        · exact good
        · exact g1 r' hr'
    by_cases q5 : r.f3 > 0
    · rw [if_pos q5]
      by_cases q6 : r.f4 = true
      · rw [if_pos q6]
        simp only [if_pos (show (0 : Int) ≤ (i : Int) by omega)]
        exact go (fun _ => q6)
      · rw [if_neg q6]; exact no
    · rw [if_neg q5]
      simp only [if_pos (show (0 : Int) ≤ (i : Int) by omega)]
      exact go (fun h => absurd h q5)
section
variable {T S C H K V L : Int} {l : List S46} {w : List Int}
theorem right11 (hu : ∀ r ∈ l, (0 ≤ r.f0 ∧ r.f0 < 18446744073709551616) ∧ 0 ≤ r.f1) {k : Nat} (hk : 3000 ≤ k) : ∃ b, stepstoneref11_Right.f k T S C H K V L l = some b ∧ (b = true → R7 T S C H K V L ∧ Nodes C H l) := by
  unfold stepstoneref11_Right.f
  rw [ref04_Right_is]
  simp only [Option.bind_some]
  by_cases h : r7 T S C H K V L = true
  · have hr := r7_iff.1 h
    have hC := hr.c
    rw [if_pos h]
    simp only [Option.bind_some]
    by_cases h2 : (l.length : Int) > C
    · rw [decide_eq_true h2, if_pos rfl]
      exact ⟨false, rfl, fun h => (by cases h)⟩
    · rw [decide_eq_false h2, if_neg (by decide)]
      obtain ⟨b, hb, hP⟩ := right11_l0 (H := H) (l := l) (by omega) l k 0 rfl (by omega)
      refine ⟨b, hb, fun ht => ⟨hr, ?_⟩⟩
      obtain ⟨g1, g2, _⟩ := hP ht
      exact ⟨by omega, fun r hr' => (g1 r hr').1, fun r hr' => (g1 r hr').2.1, fun r hr' => (g1 r hr').2.2.1, fun r hr' => ⟨(hu r hr').2, (g1 r hr').2.2.2⟩, fun r hr' => (hu r hr').1, g2⟩
  · rw [if_neg h]
    exact ⟨false, rfl, fun h => (by cases h)⟩
theorem shapeLaid_is (hu : ∀ r ∈ l, (0 ≤ r.f0 ∧ r.f0 < 18446744073709551616) ∧ 0 ≤ r.f1) : ∃ k, stepstonelaw21_ShapeLaid.f k T S C H K V L l = some true := by
  have key : ∀ k, 3000 ≤ k → ∃ b, ((stepstoneref11_Right.f k T S C H K V L l).bind fun t163_ => (if t163_ = true then some (decide ((C : Int) > 20)) else some true) : Option Bool) = some b ∧ (b = false → R7 T S C H K V L ∧ Nodes C H l) := by
    intro k hk
    obtain ⟨b, hb, hP⟩ := right11 (T := T) (S := S) (C := C) (H := H) (K := K) (V := V) (L := L) hu hk
    rw [hb]
    simp only [Option.bind_some]
    cases b with
    | false => exact ⟨true, rfl, fun h => (by cases h)⟩
    | true => exact ⟨_, rfl, fun _ => hP rfl⟩
  obtain ⟨b, hb, hP⟩ := key (l.length + 3001) (by omega)
  cases b with
  | false =>
    obtain ⟨hr, hn⟩ := hP rfl
    have hC := hr.c
    have hlen := hn.len
    obtain ⟨w, hw, hI⟩ := Lay_is hr hn (k := l.length + 3001) (by omega)
    refine ⟨l.length + 3001, ?_⟩
    unfold stepstonelaw21_ShapeLaid.f
    rw [hb]
    simp only [Option.bind_some, Bool.false_eq_true, if_false]
    rw [hw]
    simp only [Option.bind_some]
    have hfl := List.length_filterMap_le lv46 l
    rw [show l.length + 3001 = l.length + (3000 + 1) from rfl, law_start w (by omega) 3000, stepstonelaw21_ShapeLaid.l0, if_neg (by omega), alive_true]
    simp only [Option.bind_some, if_true, Bool.false_or, List.nil_append]
    rw [laid_right hr hn hI (by decide)]
    simp only [Option.bind_some, if_true]
    rw [laid_map hr hn hI (Nat.le_refl 3000)]
    simp only [Option.bind_some]
    rw [pairs_is (by omega)]
    simp only [Option.bind_some]
    rw [olds_is (by omega)]
    simp only [Option.bind_some]
    rw [equal_is (by rw [List.length_map]; omega)]
    simp only [Option.bind_some, if_true]
    rw [laid_rest hr hn hI]
    simp
  | true =>
    obtain ⟨b2, hb2, hP2⟩ := key 3000 (Nat.le_refl _)
    obtain ⟨b1, hb1, _⟩ := right11 (T := T) (S := S) (C := C) (H := H) (K := K) (V := V) (L := L) hu (Nat.le_refl 3000)
    have e : b2 = true := by
      cases b2 with
      | true => rfl
      | false =>
        exfalso
        obtain ⟨hr, hn⟩ := hP2 rfl
        have hC := hr.c
        have hlen := hn.len
        have mono : ∀ (rest : List S46) (k i : Nat), l.drop i = rest → rest.length < k → ∀ k', rest.length < k' → stepstoneref11_Right.l0 k H l (i : Int) = stepstoneref11_Right.l0 k' H l (i : Int) := by
          intro rest
          induction rest with
          | nil =>
            intro k i hd hk k' hk'
            obtain ⟨k, rfl⟩ : ∃ z, k = z + 1 := ⟨k - 1, by simp only [List.length_nil] at hk; omega⟩
            obtain ⟨k', rfl⟩ : ∃ z, k' = z + 1 := ⟨k' - 1, by simp only [List.length_nil] at hk'; omega⟩
            have h1 : l.length ≤ i := List.drop_eq_nil_iff.1 hd
            rw [stepstoneref11_Right.l0, if_neg (by omega), stepstoneref11_Right.l0, if_neg (by omega)]
          | cons r rest ih =>
            intro k i hd hk k' hk'
            obtain ⟨h1, h2, h3⟩ := drop_cons' hd
            rw [List.length_cons] at hk hk'
            obtain ⟨k, rfl⟩ : ∃ z, k = z + 1 := ⟨k - 1, by omega⟩
            obtain ⟨k', rfl⟩ : ∃ z, k' = z + 1 := ⟨k' - 1, by omega⟩
            have e2 : IntKind.wrap .i64 ((i : Int) + 1) = ((i + 1 : Nat) : Int) := by rw [wi64 (by omega) (by omega)]; rfl
            have := ih k (i + 1) h3 (by omega) k' (by omega)
            rw [stepstoneref11_Right.l0, stepstoneref11_Right.l0, e2, this]
        have e3 : stepstoneref11_Right.f (l.length + 3001) T S C H K V L l = stepstoneref11_Right.f 3000 T S C H K V L l := by
          unfold stepstoneref11_Right.f
          rw [show (0 : Int) = ((0 : Nat) : Int) from rfl, mono l (l.length + 3001) 0 rfl (by omega) 3000 (by omega)]
        rw [e3, hb2] at hb
        cases hb
    subst e
    refine ⟨3000, ?_⟩
    unfold stepstonelaw21_ShapeLaid.f
    rw [hb2]
    simp only [Option.bind_some, if_true]
    rw [alive_true]
    rfl
end
theorem u64_wf {x : Int} (h : (Lit.int .u64 x).wf = true) : 0 ≤ x ∧ x < 18446744073709551616 :=
  u64_of (l := [x]) ⟨show 1 ≤ maxLen by decide, fun y hy => (List.mem_singleton.1 hy) ▸ h⟩ x List.mem_cons_self
theorem shapeLaid_con (T S C H K V L : Int) (A1 : Option Addr) (c1 : Nat) (l : List S46) (hw : l.length ≤ maxLen ∧ ∀ x ∈ l, (Lit.int .u64 x.f0).wf = true ∧ (Lit.int .u64 x.f1).wf = true ∧ (Lit.int .i64 x.f2).wf = true ∧ (Lit.int .i64 x.f3).wf = true ∧ True) (w0 : World) (Hs : List Nat) : Con Try.prog 5 #[.agg #[.int .i64 T, .int .i64 S, .int .i64 C, .int .i64 H, .int .i64 K, .int .i64 V, .int .i64 L], .slice A1 l.length c1] w0 Hs [.f (KC k46 A1 c1 l)] (fun X => X (.bool true) []) := by
  obtain ⟨k, hk⟩ := shapeLaid_is (T := T) (S := S) (C := C) (H := H) (K := K) (V := V) (L := L) (l := l) (fun r hr => ⟨u64_wf (hw.2 r hr).1, (u64_wf (hw.2 r hr).2.1).1⟩)
  exact stepstonelaw21_ShapeLaid_con k T S C H K V L A1 c1 l true hk w0 Hs
end Go.Eng
