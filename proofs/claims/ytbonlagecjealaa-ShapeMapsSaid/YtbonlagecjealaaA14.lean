/-
Own text, put together by an own program (shake.py) out of this claim's texts: what its theorem needs of them.
-/
import Derived.Test.YtbonlagecjealaaA13
namespace Go.Eng
open Go.Proofs Go.RowKit Go.Proofs.YtbonlagecjealaaW.PrintWords Go.Proofs.Ytbonlagecjealaa.GSeq
set_option linter.unusedVariables false
set_option linter.unusedSimpArgs false
def stepstonelaw21_alive.f (k : Nat) : Option Bool := (stepstoneref05_New.f 1 1 2 2 1 1 9).bind fun (t21_, t22_, t23_, t24_, t25_, t26_, t27_, t28_, t29_, t30_, t31_, t32_, t33_, t34_, t35_) => (stepstoneref11_Lay.f k 1 1 2 2 1 1 9 ([(⟨3, 7, 2, 0, false⟩ : S46), (⟨5, 0, 1, 1, true⟩ : S46)] : List S46)).bind fun t45_ => (shape_Map.f k 1 1 2 2 1 1 9 t45_).bind fun t56_ => (seq_Map_Pairs.f t56_).bind fun t60_ => ((shape_Right.f k 1 1 2 2 1 1 9 t28_).bind fun t147_ => (if t147_ = true then (shape_Rest.f k 1 1 2 2 1 1 9 t28_ ([] : List (List S81))).bind fun t150_ => (if t150_ = true then (shape_Level.f k 1 1 2 2 1 1 9 t45_ 0).bind fun t153_ => (if ((t153_.length : Int) : Int) = 2 then (shape_Level.f k 1 1 2 2 1 1 9 t45_ 1).bind fun t158_ => (if ((t158_.length : Int) : Int) = 1 then (shape_Level.f k 1 1 2 2 1 1 9 t45_ 2).bind fun t163_ => (if ((t163_.length : Int) : Int) = 0 then (if ((t60_.length : Int) : Int) = 1 then (if (0 : Int) < (t60_.length : Int) then (if ((rd_T61 t60_ 0).f0 : Int) = 3 then (if ((rd_T61 t60_ 0).f1 : Int) = 7 then (shape_Right.f k 1 1 2 2 1 1 9 t45_).bind fun t172_ => (if t172_ = true then (shape_Rest.f k 1 1 2 2 1 1 9 t45_ ([] : List (List S81))).bind fun t175_ => (if t175_ = true then some false else (if (1 : Int) ≤ (t45_.length : Int) then (shape_Right.f k 1 1 2 2 1 1 9 (t45_.drop (Int.toNat 1))).bind fun t179_ => some (!t179_) else none)) else some false) else some false) else some false) else none) else some false) else some false) else some false) else some false) else some false) else some false) : Option Bool).bind fun j145_ => some j145_
set_option maxRecDepth 100000 in
set_option maxHeartbeats 4000000 in
theorem stepstonelaw21_alive_con (k : Nat)  (r0 : Bool) (h : stepstonelaw21_alive.f k = some r0) (w0 : World) (Hs : List Nat) : Con Try.prog 7 #[] w0 Hs [] (fun X => X (.bool r0) []) := by
 refine con_enter (c := bodyOf Try.f7) Try.func7 rfl (m := 85) rfl rfl rfl ?_
 intro X hX _
 have H := h
 unfold stepstonelaw21_alive.f at H
 clear h
 refine c_seq rfl ?_
 refine r_ord (l := [0]) rfl (by kernel_rfl) (by kernel_rfl) ?_
 refine s_v rfl rfl rfl rfl (v_assign rfl rfl) ?_
 refine s_end ?_
 refine q_seq ?_
 refine c_seq rfl ?_
 refine r_ord (l := [0, 1, 2]) rfl (by kernel_rfl) (by kernel_rfl) ?_
 refine s_v rfl rfl rfl rfl (v_build (places := #[(0, 1), (1, 1), (2, 1), (3, 1), (4, 1), (5, 1), (6, 1)]) #[.int .i64 1, .int .i64 1, .int .i64 2, .int .i64 2, .int .i64 1, .int .i64 1, .int .i64 9] rfl ZR23 Try.underlying23 (by kernel_rfl) rfl (by kernel_rfl)) ?_
 refine s_e rfl rfl (e_alloc rfl rfl rfl ZR23) ?_
 intro b2_
 refine s_e rfl rfl (e_stA 0 rfl rfl SZ23 rfl rfl rfl rfl rfl rfl) ?_
 refine s_end ?_
 refine q_seq ?_
 refine c_seq rfl ?_
 refine r_ord (l := [0, 1, 2, 3, 4]) rfl (by kernel_rfl) (by kernel_rfl) ?_
 refine s_v rfl rfl rfl rfl (v_ldA [.int .i64 1, .int .i64 1, .int .i64 2, .int .i64 2, .int .i64 1, .int .i64 1, .int .i64 9] 0 rfl Try.underlying23 rfl SZ23 rfl rfl rfl rfl) ?_
 obtain ⟨⟨t21_, t22_, t23_, t24_, t25_, t26_, t27_, t28_, t29_, t30_, t31_, t32_, t33_, t34_, t35_⟩, e36_, H⟩ := bind_s H
 refine s_e rfl rfl (e_callF [] #[.agg #[.int .i64 1, .int .i64 1, .int .i64 2, .int .i64 2, .int .i64 1, .int .i64 1, .int .i64 9]] rfl rfl rfl rfl rfl Try.func24 rfl (by decide) rfl rfl rfl rfl (fun w ht => stepstoneref05_New_con 1 1 2 2 1 1 9 t21_ t22_ t23_ t24_ t25_ t26_ t27_ t28_ t29_ t30_ t31_ t32_ t33_ t34_ t35_ e36_ w _)) ?_
 intro A37_ c38_
 refine s_v rfl rfl rfl rfl (v_fldA #[.slice A37_ t28_.length c38_, .int .i64 t29_, .int .i64 t30_, .int .i64 t31_, .int .u64 t32_, .int .u64 t33_, .int .u64 t34_, .bool t35_] rfl Try.underlying59 rfl Try.underlying57 rfl SZ57 rfl rfl) ?_
 refine s_v rfl rfl rfl rfl (v_fld rfl Try.underlying57 rfl Try.underlying24 rfl rfl rfl) ?_
 refine s_v rfl rfl rfl rfl (v_assign rfl rfl) ?_
 refine s_end ?_
 refine q_seq ?_
 refine c_seq rfl ?_
 refine r_ord (l := [0, 1, 2, 3, 4, 5]) rfl (by kernel_rfl) (by kernel_rfl) ?_
 refine s_v rfl rfl rfl rfl (v_ldA [.int .i64 1, .int .i64 1, .int .i64 2, .int .i64 2, .int .i64 1, .int .i64 1, .int .i64 9] 1 rfl Try.underlying23 rfl SZ23 rfl rfl rfl rfl) ?_
 refine s_v rfl rfl rfl rfl (v_build (places := #[(0, 1), (1, 1), (2, 1), (3, 1), (4, 1)]) #[.int .u64 3, .int .u64 7, .int .i64 2, .int .i64 0, .bool false] rfl ZR46 Try.underlying46 (by kernel_rfl) rfl (by kernel_rfl)) ?_
 refine s_v rfl rfl rfl rfl (v_build (places := #[(0, 1), (1, 1), (2, 1), (3, 1), (4, 1)]) #[.int .u64 5, .int .u64 0, .int .i64 1, .int .i64 1, .bool true] rfl ZR46 Try.underlying46 (by kernel_rfl) rfl (by kernel_rfl)) ?_
 refine s_e rfl rfl (e_bslice #[.int .u64 3, .int .u64 7, .int .i64 2, .int .i64 0, .bool false, .int .u64 5, .int .u64 0, .int .i64 1, .int .i64 1, .bool true] (.agg #[.int .u64 0, .int .u64 0, .int .i64 0, .int .i64 0, .bool false]) rfl rfl rfl Try.underlying42 SZ46 ZR46 (by decide) rfl (by kernel_rfl)) ?_
 intro b44_
 refine s_give [0, 1, 2] rfl (by decide) (by simp [ids, Ent.id?]) (fun w_ h_ => KC_ofReps0 (xs := ([(⟨3, 7, 2, 0, false⟩ : S46), (⟨5, 0, 1, 1, true⟩ : S46)] : List S46)) (cap := 2) h_ ((reps_flat flat46).2 rfl) (by rfl) (by decide) (by decide)) ?_
 obtain ⟨t45_, e46_, H⟩ := bind_s H
 refine s_e rfl rfl (e_callF [0] #[.agg #[.int .i64 1, .int .i64 1, .int .i64 2, .int .i64 2, .int .i64 1, .int .i64 1, .int .i64 9], .slice (some ⟨b44_, 0, none⟩) 2 2] rfl rfl rfl rfl rfl Try.func16 rfl (by decide) rfl rfl rfl rfl (fun w ht => stepstoneref11_Lay_con _ 1 1 2 2 1 1 9 (some ⟨b44_, 0, none⟩) 2 ([(⟨3, 7, 2, 0, false⟩ : S46), (⟨5, 0, 1, 1, true⟩ : S46)] : List S46) t45_ e46_ w _)) ?_
 intro A47_ c48_
 refine s_v rfl rfl rfl rfl (v_assign rfl rfl) ?_
 refine s_end ?_
 refine q_seq ?_
 refine c_seq rfl ?_
 refine r_ord (l := [0, 1, 2, 3, 4]) rfl (by kernel_rfl) (by kernel_rfl) ?_
 refine s_v rfl rfl rfl rfl (v_ldA [.int .i64 1, .int .i64 1, .int .i64 2, .int .i64 2, .int .i64 1, .int .i64 1, .int .i64 9] 3 rfl Try.underlying23 rfl SZ23 rfl rfl rfl rfl) ?_
 refine s_v rfl rfl rfl rfl (v_move rfl rfl) ?_
 obtain ⟨t56_, e57_, H⟩ := bind_s H
 refine s_e rfl rfl (e_callF [0] #[.agg #[.int .i64 1, .int .i64 1, .int .i64 2, .int .i64 2, .int .i64 1, .int .i64 1, .int .i64 9], .slice A47_ t45_.length c48_] rfl rfl rfl rfl rfl Try.func12 rfl (by decide) rfl rfl rfl rfl (fun w ht => shape_Map_con _ 1 1 2 2 1 1 9 A47_ c48_ t45_ t56_ e57_ w _)) ?_
 intro A58_ c59_
 obtain ⟨t60_, e61_, H⟩ := bind_s H
 refine s_e rfl rfl (e_callK (fun z : (Option Addr × Nat) => .slice z.1 t60_.length z.2) (fun z => [KC k61 z.1 z.2 t60_]) #[.agg #[.slice A58_ t56_.length c59_]] rfl rfl rfl rfl rfl Try.func13 rfl (by decide) rfl rfl (fun w ht => seq_Map_Pairs.con A58_ c59_ t56_ t60_ e61_ w (Tri.fact ht 0 rfl))) ?_
 intro z62_
 refine s_v rfl rfl rfl rfl (v_assign rfl rfl) ?_
 refine s_end ?_
 refine q_seq ?_
 obtain ⟨j145_, e146_, H⟩ := bind_s H
 refine c_join (β := Unit) (fun _ => True) (fun _ => [(0, .bool j145_)]) (fun _ => [.f (KC k61 z62_.1 z62_.2 t60_), .f (KC k61 A58_ c59_ t56_), .f (KC (Kd.int .u64) A47_ c48_ t45_), .f (KC k46 (some ⟨b44_, 0, none⟩) 2 ([(⟨3, 7, 2, 0, false⟩ : S46), (⟨5, 0, 1, 1, true⟩ : S46)] : List S46)), .f (KC (Kd.int .u64) A37_ c38_ t28_), .b b2_ (.cells #[.int .i64 1, .int .i64 1, .int .i64 2, .int .i64 2, .int .i64 1, .int .i64 1, .int .i64 9] 23 (0, 0))]) rfl (fun _ _ => ?_) (fun J_ => ?_)
 refine c_ret rfl ?_
 have e_ := Option.some.inj H
 subst e_
 exact q_ret (vs := [.bool j145_]) rfl (.tmp rfl .nil) [] rfl (by decide) (hX)
 clear H
 have H := e146_
 clear e146_
 obtain ⟨t147_, e148_, H⟩ := bind_s H
 rcases Bool.eq_false_or_eq_true t147_ with h149_ | h149_
 subst h149_
 replace H := ite_y rfl H
 obtain ⟨t150_, e151_, H⟩ := bind_s H
 rcases Bool.eq_false_or_eq_true t150_ with h152_ | h152_
 subst h152_
 replace H := ite_y rfl H
 obtain ⟨t153_, e154_, H⟩ := bind_s H
 rcases Bool.eq_false_or_eq_true (((t153_.length : Int) : Int) == 2) with h157_ | h157_
 replace H := ite_y (ibeq_t h157_) H
 obtain ⟨t158_, e159_, H⟩ := bind_s H
 rcases Bool.eq_false_or_eq_true (((t158_.length : Int) : Int) == 1) with h162_ | h162_
 replace H := ite_y (ibeq_t h162_) H
 obtain ⟨t163_, e164_, H⟩ := bind_s H
 rcases Bool.eq_false_or_eq_true (((t163_.length : Int) : Int) == 0) with h167_ | h167_
 replace H := ite_y (ibeq_t h167_) H
 rcases Bool.eq_false_or_eq_true (((t60_.length : Int) : Int) == 1) with h168_ | h168_
 replace H := ite_y (ibeq_t h168_) H
 obtain ⟨n169_, H⟩ := ite_no H
 rcases Bool.eq_false_or_eq_true (((rd_T61 t60_ 0).f0 : Int) == 3) with h170_ | h170_
 replace H := ite_y (ibeq_t h170_) H
 rcases Bool.eq_false_or_eq_true (((rd_T61 t60_ 0).f1 : Int) == 7) with h171_ | h171_
 replace H := ite_y (ibeq_t h171_) H
 obtain ⟨t172_, e173_, H⟩ := bind_s H
 rcases Bool.eq_false_or_eq_true t172_ with h174_ | h174_
 subst h174_
 replace H := ite_y rfl H
 obtain ⟨t175_, e176_, H⟩ := bind_s H
 rcases Bool.eq_false_or_eq_true (!t175_) with h177_ | h177_
 replace H := ite_n (not_t (bnot_t h177_)) H
 obtain ⟨n178_, H⟩ := ite_no H
 obtain ⟨t179_, e180_, H⟩ := bind_s H
 refine r_any [.f (KC k61 z62_.1 z62_.2 t60_), .f (KC k61 A58_ c59_ t56_), .f (KC (Kd.int .u64) A47_ c48_ t45_), .f (KC k46 (some ⟨b44_, 0, none⟩) 2 ([(⟨3, 7, 2, 0, false⟩ : S46), (⟨5, 0, 1, 1, true⟩ : S46)] : List S46)), .f (KC (Kd.int .u64) A37_ c38_ t28_), .b b2_ (.cells #[.int .i64 1, .int .i64 1, .int .i64 2, .int .i64 2, .int .i64 1, .int .i64 1, .int .i64 9] 23 (0, 0))] (by kernel_rfl) rfl (by kernel_rfl) (mem_pick (idx := [0, 1, 2, 3, 4, 5]) rfl) ?_
 refine a_v 0 rfl (by kernel_rfl) (by kernel_rfl) (by kernel_rfl) rfl rfl rfl (v_ldA [.int .i64 1, .int .i64 1, .int .i64 2, .int .i64 2, .int .i64 1, .int .i64 1, .int .i64 9] 5 rfl Try.underlying23 rfl SZ23 rfl rfl rfl rfl) ?_
 refine a_v 1 rfl (by kernel_rfl) (by kernel_rfl) (by kernel_rfl) rfl rfl rfl (v_move rfl rfl) ?_
 refine a_1 (i := 2) (by kernel_rfl) ?_
 refine i_e rfl rfl (e_callF [4] #[.agg #[.int .i64 1, .int .i64 1, .int .i64 2, .int .i64 2, .int .i64 1, .int .i64 1, .int .i64 9], .slice A37_ t28_.length c38_] rfl rfl rfl rfl rfl Try.func17 rfl (by decide) rfl rfl rfl rfl (fun w ht => shape_Right_con _ 1 1 2 2 1 1 9 A37_ c38_ t28_ true e148_ w _)) ?_
 refine ⟨(mem_pick (idx := [0, 1, 2, 3, 4, 5]) rfl), ?_⟩
 refine a_v 3 rfl (by kernel_rfl) (by kernel_rfl) (by kernel_rfl) rfl rfl rfl (v_move rfl rfl) ?_
 refine a_v 4 rfl (by kernel_rfl) (by kernel_rfl) (by kernel_rfl) rfl rfl rfl (v_ldA [.int .i64 1, .int .i64 1, .int .i64 2, .int .i64 2, .int .i64 1, .int .i64 1, .int .i64 9] 5 rfl Try.underlying23 rfl SZ23 rfl rfl rfl rfl) ?_
 refine a_v 5 rfl (by kernel_rfl) (by kernel_rfl) (by kernel_rfl) rfl rfl rfl (v_move rfl rfl) ?_
 refine a_1 (i := 6) (by kernel_rfl) ?_
 refine i_knowT (KC_nil (Kd.slice 81 k81)) ?_
 refine i_e rfl rfl (e_callF [5, 0] #[.agg #[.int .i64 1, .int .i64 1, .int .i64 2, .int .i64 2, .int .i64 1, .int .i64 1, .int .i64 9], .slice A37_ t28_.length c38_, .slice none 0 0] rfl rfl rfl rfl rfl Try.func18 rfl (by decide) rfl rfl rfl rfl (fun w ht => shape_Rest_con _ 1 1 2 2 1 1 9 A37_ c38_ t28_ none 0 ([] : List (List S81)) true e151_ w _)) ?_
 refine ⟨(mem_pick (idx := [1, 2, 3, 4, 5, 6]) rfl), ?_⟩
 refine a_v 7 rfl (by kernel_rfl) (by kernel_rfl) (by kernel_rfl) rfl rfl rfl (v_pick rfl rfl rfl rfl) ?_
 refine a_v 8 rfl (by kernel_rfl) (by kernel_rfl) (by kernel_rfl) rfl rfl rfl (v_move rfl rfl) ?_
 refine a_v 9 rfl (by kernel_rfl) (by kernel_rfl) (by kernel_rfl) rfl rfl rfl (v_ldA [.int .i64 1, .int .i64 1, .int .i64 2, .int .i64 2, .int .i64 1, .int .i64 1, .int .i64 9] 5 rfl Try.underlying23 rfl SZ23 rfl rfl rfl rfl) ?_
 refine a_v 10 rfl (by kernel_rfl) (by kernel_rfl) (by kernel_rfl) rfl rfl rfl (v_move rfl rfl) ?_
 refine a_1 (i := 11) (by kernel_rfl) ?_
 refine i_e rfl rfl (e_callF [3] #[.agg #[.int .i64 1, .int .i64 1, .int .i64 2, .int .i64 2, .int .i64 1, .int .i64 1, .int .i64 9], .slice A47_ t45_.length c48_, .int .i64 0] rfl rfl rfl rfl rfl Try.func9 rfl (by decide) rfl rfl rfl rfl (fun w ht => shape_Level_con _ 1 1 2 2 1 1 9 A47_ c48_ t45_ 0 t153_ e154_ w _)) ?_
 intro A181_ c182_
 refine ⟨(mem_pick (idx := [2, 3, 4, 5, 6, 7]) rfl), ?_⟩
 refine a_v 12 rfl (by kernel_rfl) (by kernel_rfl) (by kernel_rfl) rfl rfl rfl (v_len rfl rfl rfl Try.underlying24 rfl rfl) ?_
 refine a_v 13 rfl (by kernel_rfl) (by kernel_rfl) (by kernel_rfl) rfl rfl rfl (OpV.cast (v := .bool true) (v_arith rfl rfl rfl rfl) (congrArg Value.bool h157_)) ?_
 refine a_v 14 rfl (by kernel_rfl) (by kernel_rfl) (by kernel_rfl) rfl rfl rfl (v_pick rfl rfl rfl rfl) ?_
 refine a_v 15 rfl (by kernel_rfl) (by kernel_rfl) (by kernel_rfl) rfl rfl rfl (v_move rfl rfl) ?_
 refine a_v 16 rfl (by kernel_rfl) (by kernel_rfl) (by kernel_rfl) rfl rfl rfl (v_ldA [.int .i64 1, .int .i64 1, .int .i64 2, .int .i64 2, .int .i64 1, .int .i64 1, .int .i64 9] 5 rfl Try.underlying23 rfl SZ23 rfl rfl rfl rfl) ?_
 refine a_v 17 rfl (by kernel_rfl) (by kernel_rfl) (by kernel_rfl) rfl rfl rfl (v_move rfl rfl) ?_
 refine a_1 (i := 18) (by kernel_rfl) ?_
 refine i_e rfl rfl (e_callF [4] #[.agg #[.int .i64 1, .int .i64 1, .int .i64 2, .int .i64 2, .int .i64 1, .int .i64 1, .int .i64 9], .slice A47_ t45_.length c48_, .int .i64 1] rfl rfl rfl rfl rfl Try.func9 rfl (by decide) rfl rfl rfl rfl (fun w ht => shape_Level_con _ 1 1 2 2 1 1 9 A47_ c48_ t45_ 1 t158_ e159_ w _)) ?_
 intro A183_ c184_
 refine ⟨(mem_pick (idx := [3, 4, 5, 6, 7, 8]) rfl), ?_⟩
 refine a_v 19 rfl (by kernel_rfl) (by kernel_rfl) (by kernel_rfl) rfl rfl rfl (v_len rfl rfl rfl Try.underlying24 rfl rfl) ?_
 refine a_v 20 rfl (by kernel_rfl) (by kernel_rfl) (by kernel_rfl) rfl rfl rfl (OpV.cast (v := .bool true) (v_arith rfl rfl rfl rfl) (congrArg Value.bool h162_)) ?_
 refine a_v 21 rfl (by kernel_rfl) (by kernel_rfl) (by kernel_rfl) rfl rfl rfl (v_pick rfl rfl rfl rfl) ?_
 refine a_v 22 rfl (by kernel_rfl) (by kernel_rfl) (by kernel_rfl) rfl rfl rfl (v_move rfl rfl) ?_
 refine a_v 23 rfl (by kernel_rfl) (by kernel_rfl) (by kernel_rfl) rfl rfl rfl (v_ldA [.int .i64 1, .int .i64 1, .int .i64 2, .int .i64 2, .int .i64 1, .int .i64 1, .int .i64 9] 5 rfl Try.underlying23 rfl SZ23 rfl rfl rfl rfl) ?_
 refine a_v 24 rfl (by kernel_rfl) (by kernel_rfl) (by kernel_rfl) rfl rfl rfl (v_move rfl rfl) ?_
 refine a_1 (i := 25) (by kernel_rfl) ?_
 refine i_e rfl rfl (e_callF [5] #[.agg #[.int .i64 1, .int .i64 1, .int .i64 2, .int .i64 2, .int .i64 1, .int .i64 1, .int .i64 9], .slice A47_ t45_.length c48_, .int .i64 2] rfl rfl rfl rfl rfl Try.func9 rfl (by decide) rfl rfl rfl rfl (fun w ht => shape_Level_con _ 1 1 2 2 1 1 9 A47_ c48_ t45_ 2 t163_ e164_ w _)) ?_
 intro A185_ c186_
 refine ⟨(mem_pick (idx := [4, 5, 6, 7, 8, 9]) rfl), ?_⟩
 refine a_v 26 rfl (by kernel_rfl) (by kernel_rfl) (by kernel_rfl) rfl rfl rfl (v_len rfl rfl rfl Try.underlying24 rfl rfl) ?_
 refine a_v 27 rfl (by kernel_rfl) (by kernel_rfl) (by kernel_rfl) rfl rfl rfl (OpV.cast (v := .bool true) (v_arith rfl rfl rfl rfl) (congrArg Value.bool h167_)) ?_
 refine a_v 28 rfl (by kernel_rfl) (by kernel_rfl) (by kernel_rfl) rfl rfl rfl (v_pick rfl rfl rfl rfl) ?_
 refine a_v 29 rfl (by kernel_rfl) (by kernel_rfl) (by kernel_rfl) rfl rfl rfl (v_move rfl rfl) ?_
 refine a_v 30 rfl (by kernel_rfl) (by kernel_rfl) (by kernel_rfl) rfl rfl rfl (v_move rfl rfl) ?_
 refine a_v 31 rfl (by kernel_rfl) (by kernel_rfl) (by kernel_rfl) rfl rfl rfl (v_len rfl rfl rfl Try.underlying35 rfl rfl) ?_
 refine a_v 32 rfl (by kernel_rfl) (by kernel_rfl) (by kernel_rfl) rfl rfl rfl (OpV.cast (v := .bool true) (v_arith rfl rfl rfl rfl) (congrArg Value.bool h168_)) ?_
 refine a_v 33 rfl (by kernel_rfl) (by kernel_rfl) (by kernel_rfl) rfl rfl rfl (v_pick rfl rfl rfl rfl) ?_
 refine a_v 34 rfl (by kernel_rfl) (by kernel_rfl) (by kernel_rfl) rfl rfl rfl (v_move rfl rfl) ?_
 refine a_v 35 rfl (by kernel_rfl) (by kernel_rfl) (by kernel_rfl) rfl rfl rfl (v_move rfl rfl) ?_
 refine a_v 36 rfl (by kernel_rfl) (by kernel_rfl) (by kernel_rfl) rfl rfl rfl (v_iaK (i := 0) rfl Try.underlying35 SZ61 rfl rfl rfl rfl (by decide) n169_) ?_
 refine a_v 37 rfl (by kernel_rfl) (by kernel_rfl) (by kernel_rfl) rfl rfl rfl (v_fax rfl Try.underlying61 rfl SZ25 rfl) ?_
 refine a_v 38 rfl (by kernel_rfl) (by kernel_rfl) (by kernel_rfl) rfl rfl rfl (v_ldKf (v := .int .u64 ((rd_T61 t60_ 0).f0)) z61 [.int .u64 ((rd_T61 t60_ 0).f0), .int .u64 ((rd_T61 t60_ 0).f1)] 0 rfl Try.underlying25 rfl rfl rfl rfl (by decide) n169_ (fun w K h => k61_open h) rfl) ?_
 refine a_v 39 rfl (by kernel_rfl) (by kernel_rfl) (by kernel_rfl) rfl rfl rfl (OpV.cast (v := .bool true) (v_arith rfl rfl rfl rfl) (congrArg Value.bool h170_)) ?_
 refine a_v 40 rfl (by kernel_rfl) (by kernel_rfl) (by kernel_rfl) rfl rfl rfl (v_pick rfl rfl rfl rfl) ?_
 refine a_v 41 rfl (by kernel_rfl) (by kernel_rfl) (by kernel_rfl) rfl rfl rfl (v_move rfl rfl) ?_
 refine a_v 42 rfl (by kernel_rfl) (by kernel_rfl) (by kernel_rfl) rfl rfl rfl (v_move rfl rfl) ?_
 refine a_v 43 rfl (by kernel_rfl) (by kernel_rfl) (by kernel_rfl) rfl rfl rfl (v_iaK (i := 0) rfl Try.underlying35 SZ61 rfl rfl rfl rfl (by decide) n169_) ?_
 refine a_v 44 rfl (by kernel_rfl) (by kernel_rfl) (by kernel_rfl) rfl rfl rfl (v_fax rfl Try.underlying61 rfl SZ25 rfl) ?_
 refine a_v 45 rfl (by kernel_rfl) (by kernel_rfl) (by kernel_rfl) rfl rfl rfl (v_ldKf (v := .int .u64 ((rd_T61 t60_ 0).f1)) z61 [.int .u64 ((rd_T61 t60_ 0).f0), .int .u64 ((rd_T61 t60_ 0).f1)] 0 rfl Try.underlying25 rfl rfl rfl rfl (by decide) n169_ (fun w K h => k61_open h) rfl) ?_
 refine a_v 46 rfl (by kernel_rfl) (by kernel_rfl) (by kernel_rfl) rfl rfl rfl (OpV.cast (v := .bool true) (v_arith rfl rfl rfl rfl) (congrArg Value.bool h171_)) ?_
 refine a_v 47 rfl (by kernel_rfl) (by kernel_rfl) (by kernel_rfl) rfl rfl rfl (v_pick rfl rfl rfl rfl) ?_
 refine a_v 48 rfl (by kernel_rfl) (by kernel_rfl) (by kernel_rfl) rfl rfl rfl (v_move rfl rfl) ?_
 refine a_v 49 rfl (by kernel_rfl) (by kernel_rfl) (by kernel_rfl) rfl rfl rfl (v_ldA [.int .i64 1, .int .i64 1, .int .i64 2, .int .i64 2, .int .i64 1, .int .i64 1, .int .i64 9] 5 rfl Try.underlying23 rfl SZ23 rfl rfl rfl rfl) ?_
 refine a_v 50 rfl (by kernel_rfl) (by kernel_rfl) (by kernel_rfl) rfl rfl rfl (v_move rfl rfl) ?_
 refine a_1 (i := 51) (by kernel_rfl) ?_
 refine i_e rfl rfl (e_callF [6] #[.agg #[.int .i64 1, .int .i64 1, .int .i64 2, .int .i64 2, .int .i64 1, .int .i64 1, .int .i64 9], .slice A47_ t45_.length c48_] rfl rfl rfl rfl rfl Try.func17 rfl (by decide) rfl rfl rfl rfl (fun w ht => shape_Right_con _ 1 1 2 2 1 1 9 A47_ c48_ t45_ true e173_ w _)) ?_
 refine ⟨(mem_pick (idx := [4, 5, 6, 7, 8, 9]) rfl), ?_⟩
 refine a_v 52 rfl (by kernel_rfl) (by kernel_rfl) (by kernel_rfl) rfl rfl rfl (v_pick rfl rfl rfl rfl) ?_
 refine a_v 53 rfl (by kernel_rfl) (by kernel_rfl) (by kernel_rfl) rfl rfl rfl (v_move rfl rfl) ?_
 refine a_v 54 rfl (by kernel_rfl) (by kernel_rfl) (by kernel_rfl) rfl rfl rfl (v_ldA [.int .i64 1, .int .i64 1, .int .i64 2, .int .i64 2, .int .i64 1, .int .i64 1, .int .i64 9] 5 rfl Try.underlying23 rfl SZ23 rfl rfl rfl rfl) ?_
 refine a_v 55 rfl (by kernel_rfl) (by kernel_rfl) (by kernel_rfl) rfl rfl rfl (v_move rfl rfl) ?_
 refine a_1 (i := 56) (by kernel_rfl) ?_
 refine i_e rfl rfl (e_callF [6, 3] #[.agg #[.int .i64 1, .int .i64 1, .int .i64 2, .int .i64 2, .int .i64 1, .int .i64 1, .int .i64 9], .slice A47_ t45_.length c48_, .slice none 0 0] rfl rfl rfl rfl rfl Try.func18 rfl (by decide) rfl rfl rfl rfl (fun w ht => shape_Rest_con _ 1 1 2 2 1 1 9 A47_ c48_ t45_ none 0 ([] : List (List S81)) t175_ e176_ w _)) ?_
 refine ⟨(mem_pick (idx := [4, 5, 6, 7, 8, 9]) rfl), ?_⟩
 refine a_v 57 rfl (by kernel_rfl) (by kernel_rfl) (by kernel_rfl) rfl rfl rfl (OpV.cast (v := .bool true) (v_not rfl rfl) (congrArg Value.bool h177_)) ?_
 refine a_v 58 rfl (by kernel_rfl) (by kernel_rfl) (by kernel_rfl) rfl rfl rfl (v_pick rfl rfl rfl rfl) ?_
 refine a_v 59 rfl (by kernel_rfl) (by kernel_rfl) (by kernel_rfl) rfl rfl rfl (v_move rfl rfl) ?_
 refine a_v 60 rfl (by kernel_rfl) (by kernel_rfl) (by kernel_rfl) rfl rfl rfl (v_ldA [.int .i64 1, .int .i64 1, .int .i64 2, .int .i64 2, .int .i64 1, .int .i64 1, .int .i64 9] 5 rfl Try.underlying23 rfl SZ23 rfl rfl rfl rfl) ?_
 refine a_v 61 rfl (by kernel_rfl) (by kernel_rfl) (by kernel_rfl) rfl rfl rfl (v_move rfl rfl) ?_
 refine a_1 (i := 62) (by kernel_rfl) ?_
 refine i_weak 6 rfl (fun w h => KC_drop (Int.toNat 1) 1 rfl (by omega) h) ?_
 refine i_v rfl rfl rfl rfl (OpV.cast (v := .slice (dropA A47_ c48_ (Int.toNat 1) 1) (t45_.drop (Int.toNat 1)).length (c48_ - (Int.toNat 1))) (v_slLo rfl Try.underlying24 SZ25 rfl rfl (by decide) n178_) (by rw [List.length_drop])) ?_
 refine a_1 (i := 63) (by kernel_rfl) ?_
 refine i_e rfl rfl (e_callF [0] #[.agg #[.int .i64 1, .int .i64 1, .int .i64 2, .int .i64 2, .int .i64 1, .int .i64 1, .int .i64 9], .slice (dropA A47_ c48_ (Int.toNat 1) 1) ((t45_.drop (Int.toNat 1)).length) (c48_ - (Int.toNat 1))] rfl rfl rfl rfl rfl Try.func17 rfl (by decide) rfl rfl rfl rfl (fun w ht => shape_Right_con _ 1 1 2 2 1 1 9 (dropA A47_ c48_ (Int.toNat 1) 1) (c48_ - (Int.toNat 1)) (t45_.drop (Int.toNat 1)) t179_ e180_ w _)) ?_
 refine ⟨(mem_pick (idx := [5, 6, 7, 8, 9, 10]) rfl), ?_⟩
 refine a_v 64 rfl (by kernel_rfl) (by kernel_rfl) (by kernel_rfl) rfl rfl rfl (v_not rfl rfl) ?_
 refine a_v 65 rfl (by kernel_rfl) (by kernel_rfl) (by kernel_rfl) rfl rfl rfl (v_pick rfl rfl rfl rfl) ?_
 refine a_v 66 rfl (by kernel_rfl) (by kernel_rfl) (by kernel_rfl) rfl rfl rfl (v_assign rfl rfl) ?_
 refine a_end (by kernel_rfl) ?_
 have hq_0 := Option.some.inj H
 subst hq_0
 exact q_seq (c_frame (subF_spec (by exact ⟨rfl, trivial⟩)) (c_take [5, 6, 7, 8, 9, 10] rfl (by decide) (J_ () trivial)))
 replace H := ite_y (bnot_f h177_) H
 refine r_any [.f (KC k61 z62_.1 z62_.2 t60_), .f (KC k61 A58_ c59_ t56_), .f (KC (Kd.int .u64) A47_ c48_ t45_), .f (KC k46 (some ⟨b44_, 0, none⟩) 2 ([(⟨3, 7, 2, 0, false⟩ : S46), (⟨5, 0, 1, 1, true⟩ : S46)] : List S46)), .f (KC (Kd.int .u64) A37_ c38_ t28_), .b b2_ (.cells #[.int .i64 1, .int .i64 1, .int .i64 2, .int .i64 2, .int .i64 1, .int .i64 1, .int .i64 9] 23 (0, 0))] (by kernel_rfl) rfl (by kernel_rfl) (mem_pick (idx := [0, 1, 2, 3, 4, 5]) rfl) ?_
 refine a_v 0 rfl (by kernel_rfl) (by kernel_rfl) (by kernel_rfl) rfl rfl rfl (v_ldA [.int .i64 1, .int .i64 1, .int .i64 2, .int .i64 2, .int .i64 1, .int .i64 1, .int .i64 9] 5 rfl Try.underlying23 rfl SZ23 rfl rfl rfl rfl) ?_
 refine a_v 1 rfl (by kernel_rfl) (by kernel_rfl) (by kernel_rfl) rfl rfl rfl (v_move rfl rfl) ?_
 refine a_1 (i := 2) (by kernel_rfl) ?_
 refine i_e rfl rfl (e_callF [4] #[.agg #[.int .i64 1, .int .i64 1, .int .i64 2, .int .i64 2, .int .i64 1, .int .i64 1, .int .i64 9], .slice A37_ t28_.length c38_] rfl rfl rfl rfl rfl Try.func17 rfl (by decide) rfl rfl rfl rfl (fun w ht => shape_Right_con _ 1 1 2 2 1 1 9 A37_ c38_ t28_ true e148_ w _)) ?_
 refine ⟨(mem_pick (idx := [0, 1, 2, 3, 4, 5]) rfl), ?_⟩
 refine a_v 3 rfl (by kernel_rfl) (by kernel_rfl) (by kernel_rfl) rfl rfl rfl (v_move rfl rfl) ?_
 refine a_v 4 rfl (by kernel_rfl) (by kernel_rfl) (by kernel_rfl) rfl rfl rfl (v_ldA [.int .i64 1, .int .i64 1, .int .i64 2, .int .i64 2, .int .i64 1, .int .i64 1, .int .i64 9] 5 rfl Try.underlying23 rfl SZ23 rfl rfl rfl rfl) ?_
 refine a_v 5 rfl (by kernel_rfl) (by kernel_rfl) (by kernel_rfl) rfl rfl rfl (v_move rfl rfl) ?_
 refine a_1 (i := 6) (by kernel_rfl) ?_
 refine i_knowT (KC_nil (Kd.slice 81 k81)) ?_
 refine i_e rfl rfl (e_callF [5, 0] #[.agg #[.int .i64 1, .int .i64 1, .int .i64 2, .int .i64 2, .int .i64 1, .int .i64 1, .int .i64 9], .slice A37_ t28_.length c38_, .slice none 0 0] rfl rfl rfl rfl rfl Try.func18 rfl (by decide) rfl rfl rfl rfl (fun w ht => shape_Rest_con _ 1 1 2 2 1 1 9 A37_ c38_ t28_ none 0 ([] : List (List S81)) true e151_ w _)) ?_
 refine ⟨(mem_pick (idx := [1, 2, 3, 4, 5, 6]) rfl), ?_⟩
 refine a_v 7 rfl (by kernel_rfl) (by kernel_rfl) (by kernel_rfl) rfl rfl rfl (v_pick rfl rfl rfl rfl) ?_
 refine a_v 8 rfl (by kernel_rfl) (by kernel_rfl) (by kernel_rfl) rfl rfl rfl (v_move rfl rfl) ?_
 refine a_v 9 rfl (by kernel_rfl) (by kernel_rfl) (by kernel_rfl) rfl rfl rfl (v_ldA [.int .i64 1, .int .i64 1, .int .i64 2, .int .i64 2, .int .i64 1, .int .i64 1, .int .i64 9] 5 rfl Try.underlying23 rfl SZ23 rfl rfl rfl rfl) ?_
 refine a_v 10 rfl (by kernel_rfl) (by kernel_rfl) (by kernel_rfl) rfl rfl rfl (v_move rfl rfl) ?_
 refine a_1 (i := 11) (by kernel_rfl) ?_
 refine i_e rfl rfl (e_callF [3] #[.agg #[.int .i64 1, .int .i64 1, .int .i64 2, .int .i64 2, .int .i64 1, .int .i64 1, .int .i64 9], .slice A47_ t45_.length c48_, .int .i64 0] rfl rfl rfl rfl rfl Try.func9 rfl (by decide) rfl rfl rfl rfl (fun w ht => shape_Level_con _ 1 1 2 2 1 1 9 A47_ c48_ t45_ 0 t153_ e154_ w _)) ?_
 intro A187_ c188_
 refine ⟨(mem_pick (idx := [2, 3, 4, 5, 6, 7]) rfl), ?_⟩
 refine a_v 12 rfl (by kernel_rfl) (by kernel_rfl) (by kernel_rfl) rfl rfl rfl (v_len rfl rfl rfl Try.underlying24 rfl rfl) ?_
 refine a_v 13 rfl (by kernel_rfl) (by kernel_rfl) (by kernel_rfl) rfl rfl rfl (OpV.cast (v := .bool true) (v_arith rfl rfl rfl rfl) (congrArg Value.bool h157_)) ?_
 refine a_v 14 rfl (by kernel_rfl) (by kernel_rfl) (by kernel_rfl) rfl rfl rfl (v_pick rfl rfl rfl rfl) ?_
 refine a_v 15 rfl (by kernel_rfl) (by kernel_rfl) (by kernel_rfl) rfl rfl rfl (v_move rfl rfl) ?_
 refine a_v 16 rfl (by kernel_rfl) (by kernel_rfl) (by kernel_rfl) rfl rfl rfl (v_ldA [.int .i64 1, .int .i64 1, .int .i64 2, .int .i64 2, .int .i64 1, .int .i64 1, .int .i64 9] 5 rfl Try.underlying23 rfl SZ23 rfl rfl rfl rfl) ?_
 refine a_v 17 rfl (by kernel_rfl) (by kernel_rfl) (by kernel_rfl) rfl rfl rfl (v_move rfl rfl) ?_
 refine a_1 (i := 18) (by kernel_rfl) ?_
 refine i_e rfl rfl (e_callF [4] #[.agg #[.int .i64 1, .int .i64 1, .int .i64 2, .int .i64 2, .int .i64 1, .int .i64 1, .int .i64 9], .slice A47_ t45_.length c48_, .int .i64 1] rfl rfl rfl rfl rfl Try.func9 rfl (by decide) rfl rfl rfl rfl (fun w ht => shape_Level_con _ 1 1 2 2 1 1 9 A47_ c48_ t45_ 1 t158_ e159_ w _)) ?_
 intro A189_ c190_
 refine ⟨(mem_pick (idx := [3, 4, 5, 6, 7, 8]) rfl), ?_⟩
 refine a_v 19 rfl (by kernel_rfl) (by kernel_rfl) (by kernel_rfl) rfl rfl rfl (v_len rfl rfl rfl Try.underlying24 rfl rfl) ?_
 refine a_v 20 rfl (by kernel_rfl) (by kernel_rfl) (by kernel_rfl) rfl rfl rfl (OpV.cast (v := .bool true) (v_arith rfl rfl rfl rfl) (congrArg Value.bool h162_)) ?_
 refine a_v 21 rfl (by kernel_rfl) (by kernel_rfl) (by kernel_rfl) rfl rfl rfl (v_pick rfl rfl rfl rfl) ?_
 refine a_v 22 rfl (by kernel_rfl) (by kernel_rfl) (by kernel_rfl) rfl rfl rfl (v_move rfl rfl) ?_
 refine a_v 23 rfl (by kernel_rfl) (by kernel_rfl) (by kernel_rfl) rfl rfl rfl (v_ldA [.int .i64 1, .int .i64 1, .int .i64 2, .int .i64 2, .int .i64 1, .int .i64 1, .int .i64 9] 5 rfl Try.underlying23 rfl SZ23 rfl rfl rfl rfl) ?_
 refine a_v 24 rfl (by kernel_rfl) (by kernel_rfl) (by kernel_rfl) rfl rfl rfl (v_move rfl rfl) ?_
 refine a_1 (i := 25) (by kernel_rfl) ?_
 refine i_e rfl rfl (e_callF [5] #[.agg #[.int .i64 1, .int .i64 1, .int .i64 2, .int .i64 2, .int .i64 1, .int .i64 1, .int .i64 9], .slice A47_ t45_.length c48_, .int .i64 2] rfl rfl rfl rfl rfl Try.func9 rfl (by decide) rfl rfl rfl rfl (fun w ht => shape_Level_con _ 1 1 2 2 1 1 9 A47_ c48_ t45_ 2 t163_ e164_ w _)) ?_
 intro A191_ c192_
 refine ⟨(mem_pick (idx := [4, 5, 6, 7, 8, 9]) rfl), ?_⟩
 refine a_v 26 rfl (by kernel_rfl) (by kernel_rfl) (by kernel_rfl) rfl rfl rfl (v_len rfl rfl rfl Try.underlying24 rfl rfl) ?_
 refine a_v 27 rfl (by kernel_rfl) (by kernel_rfl) (by kernel_rfl) rfl rfl rfl (OpV.cast (v := .bool true) (v_arith rfl rfl rfl rfl) (congrArg Value.bool h167_)) ?_
 refine a_v 28 rfl (by kernel_rfl) (by kernel_rfl) (by kernel_rfl) rfl rfl rfl (v_pick rfl rfl rfl rfl) ?_
 refine a_v 29 rfl (by kernel_rfl) (by kernel_rfl) (by kernel_rfl) rfl rfl rfl (v_move rfl rfl) ?_
 refine a_v 30 rfl (by kernel_rfl) (by kernel_rfl) (by kernel_rfl) rfl rfl rfl (v_move rfl rfl) ?_
 refine a_v 31 rfl (by kernel_rfl) (by kernel_rfl) (by kernel_rfl) rfl rfl rfl (v_len rfl rfl rfl Try.underlying35 rfl rfl) ?_
 refine a_v 32 rfl (by kernel_rfl) (by kernel_rfl) (by kernel_rfl) rfl rfl rfl (OpV.cast (v := .bool true) (v_arith rfl rfl rfl rfl) (congrArg Value.bool h168_)) ?_
 refine a_v 33 rfl (by kernel_rfl) (by kernel_rfl) (by kernel_rfl) rfl rfl rfl (v_pick rfl rfl rfl rfl) ?_
 refine a_v 34 rfl (by kernel_rfl) (by kernel_rfl) (by kernel_rfl) rfl rfl rfl (v_move rfl rfl) ?_
 refine a_v 35 rfl (by kernel_rfl) (by kernel_rfl) (by kernel_rfl) rfl rfl rfl (v_move rfl rfl) ?_
 refine a_v 36 rfl (by kernel_rfl) (by kernel_rfl) (by kernel_rfl) rfl rfl rfl (v_iaK (i := 0) rfl Try.underlying35 SZ61 rfl rfl rfl rfl (by decide) n169_) ?_
 refine a_v 37 rfl (by kernel_rfl) (by kernel_rfl) (by kernel_rfl) rfl rfl rfl (v_fax rfl Try.underlying61 rfl SZ25 rfl) ?_
 refine a_v 38 rfl (by kernel_rfl) (by kernel_rfl) (by kernel_rfl) rfl rfl rfl (v_ldKf (v := .int .u64 ((rd_T61 t60_ 0).f0)) z61 [.int .u64 ((rd_T61 t60_ 0).f0), .int .u64 ((rd_T61 t60_ 0).f1)] 0 rfl Try.underlying25 rfl rfl rfl rfl (by decide) n169_ (fun w K h => k61_open h) rfl) ?_
 refine a_v 39 rfl (by kernel_rfl) (by kernel_rfl) (by kernel_rfl) rfl rfl rfl (OpV.cast (v := .bool true) (v_arith rfl rfl rfl rfl) (congrArg Value.bool h170_)) ?_
 refine a_v 40 rfl (by kernel_rfl) (by kernel_rfl) (by kernel_rfl) rfl rfl rfl (v_pick rfl rfl rfl rfl) ?_
 refine a_v 41 rfl (by kernel_rfl) (by kernel_rfl) (by kernel_rfl) rfl rfl rfl (v_move rfl rfl) ?_
 refine a_v 42 rfl (by kernel_rfl) (by kernel_rfl) (by kernel_rfl) rfl rfl rfl (v_move rfl rfl) ?_
 refine a_v 43 rfl (by kernel_rfl) (by kernel_rfl) (by kernel_rfl) rfl rfl rfl (v_iaK (i := 0) rfl Try.underlying35 SZ61 rfl rfl rfl rfl (by decide) n169_) ?_
 refine a_v 44 rfl (by kernel_rfl) (by kernel_rfl) (by kernel_rfl) rfl rfl rfl (v_fax rfl Try.underlying61 rfl SZ25 rfl) ?_
 refine a_v 45 rfl (by kernel_rfl) (by kernel_rfl) (by kernel_rfl) rfl rfl rfl (v_ldKf (v := .int .u64 ((rd_T61 t60_ 0).f1)) z61 [.int .u64 ((rd_T61 t60_ 0).f0), .int .u64 ((rd_T61 t60_ 0).f1)] 0 rfl Try.underlying25 rfl rfl rfl rfl (by decide) n169_ (fun w K h => k61_open h) rfl) ?_
 refine a_v 46 rfl (by kernel_rfl) (by kernel_rfl) (by kernel_rfl) rfl rfl rfl (OpV.cast (v := .bool true) (v_arith rfl rfl rfl rfl) (congrArg Value.bool h171_)) ?_
 refine a_v 47 rfl (by kernel_rfl) (by kernel_rfl) (by kernel_rfl) rfl rfl rfl (v_pick rfl rfl rfl rfl) ?_
 refine a_v 48 rfl (by kernel_rfl) (by kernel_rfl) (by kernel_rfl) rfl rfl rfl (v_move rfl rfl) ?_
 refine a_v 49 rfl (by kernel_rfl) (by kernel_rfl) (by kernel_rfl) rfl rfl rfl (v_ldA [.int .i64 1, .int .i64 1, .int .i64 2, .int .i64 2, .int .i64 1, .int .i64 1, .int .i64 9] 5 rfl Try.underlying23 rfl SZ23 rfl rfl rfl rfl) ?_
 refine a_v 50 rfl (by kernel_rfl) (by kernel_rfl) (by kernel_rfl) rfl rfl rfl (v_move rfl rfl) ?_
 refine a_1 (i := 51) (by kernel_rfl) ?_
 refine i_e rfl rfl (e_callF [6] #[.agg #[.int .i64 1, .int .i64 1, .int .i64 2, .int .i64 2, .int .i64 1, .int .i64 1, .int .i64 9], .slice A47_ t45_.length c48_] rfl rfl rfl rfl rfl Try.func17 rfl (by decide) rfl rfl rfl rfl (fun w ht => shape_Right_con _ 1 1 2 2 1 1 9 A47_ c48_ t45_ true e173_ w _)) ?_
 refine ⟨(mem_pick (idx := [4, 5, 6, 7, 8, 9]) rfl), ?_⟩
 refine a_v 52 rfl (by kernel_rfl) (by kernel_rfl) (by kernel_rfl) rfl rfl rfl (v_pick rfl rfl rfl rfl) ?_
 refine a_v 53 rfl (by kernel_rfl) (by kernel_rfl) (by kernel_rfl) rfl rfl rfl (v_move rfl rfl) ?_
 refine a_v 54 rfl (by kernel_rfl) (by kernel_rfl) (by kernel_rfl) rfl rfl rfl (v_ldA [.int .i64 1, .int .i64 1, .int .i64 2, .int .i64 2, .int .i64 1, .int .i64 1, .int .i64 9] 5 rfl Try.underlying23 rfl SZ23 rfl rfl rfl rfl) ?_
 refine a_v 55 rfl (by kernel_rfl) (by kernel_rfl) (by kernel_rfl) rfl rfl rfl (v_move rfl rfl) ?_
 refine a_1 (i := 56) (by kernel_rfl) ?_
 refine i_e rfl rfl (e_callF [6, 3] #[.agg #[.int .i64 1, .int .i64 1, .int .i64 2, .int .i64 2, .int .i64 1, .int .i64 1, .int .i64 9], .slice A47_ t45_.length c48_, .slice none 0 0] rfl rfl rfl rfl rfl Try.func18 rfl (by decide) rfl rfl rfl rfl (fun w ht => shape_Rest_con _ 1 1 2 2 1 1 9 A47_ c48_ t45_ none 0 ([] : List (List S81)) t175_ e176_ w _)) ?_
 refine ⟨(mem_pick (idx := [4, 5, 6, 7, 8, 9]) rfl), ?_⟩
 refine a_v 57 rfl (by kernel_rfl) (by kernel_rfl) (by kernel_rfl) rfl rfl rfl (OpV.cast (v := .bool false) (v_not rfl rfl) (congrArg Value.bool h177_)) ?_
 refine a_v 58 rfl (by kernel_rfl) (by kernel_rfl) (by kernel_rfl) rfl rfl rfl (v_pick rfl rfl rfl rfl) ?_
 refine a_v 59 rfl (by kernel_rfl) (by kernel_rfl) (by kernel_rfl) rfl rfl rfl (v_move rfl rfl) ?_
 refine a_no 60 rfl (by kernel_rfl) (by kernel_rfl) (by kernel_rfl) rfl rfl rfl ?_
 refine a_no 61 rfl (by kernel_rfl) (by kernel_rfl) (by kernel_rfl) rfl rfl rfl ?_
 refine a_no 62 rfl (by kernel_rfl) (by kernel_rfl) (by kernel_rfl) rfl rfl rfl ?_
 refine a_no 63 rfl (by kernel_rfl) (by kernel_rfl) (by kernel_rfl) rfl rfl rfl ?_
 refine a_no 64 rfl (by kernel_rfl) (by kernel_rfl) (by kernel_rfl) rfl rfl rfl ?_
 refine a_v 65 rfl (by kernel_rfl) (by kernel_rfl) (by kernel_rfl) rfl rfl rfl (v_pick rfl rfl rfl rfl) ?_
 refine a_v 66 rfl (by kernel_rfl) (by kernel_rfl) (by kernel_rfl) rfl rfl rfl (v_assign rfl rfl) ?_
 refine a_end (by kernel_rfl) ?_
 have hq_0 := Option.some.inj H
 subst hq_0
 exact q_seq (c_frame (subF_spec (by exact ⟨rfl, trivial⟩)) (c_take [4, 5, 6, 7, 8, 9] rfl (by decide) (J_ () trivial)))
 subst h174_
 replace H := ite_n (by decide) H
 refine r_any [.f (KC k61 z62_.1 z62_.2 t60_), .f (KC k61 A58_ c59_ t56_), .f (KC (Kd.int .u64) A47_ c48_ t45_), .f (KC k46 (some ⟨b44_, 0, none⟩) 2 ([(⟨3, 7, 2, 0, false⟩ : S46), (⟨5, 0, 1, 1, true⟩ : S46)] : List S46)), .f (KC (Kd.int .u64) A37_ c38_ t28_), .b b2_ (.cells #[.int .i64 1, .int .i64 1, .int .i64 2, .int .i64 2, .int .i64 1, .int .i64 1, .int .i64 9] 23 (0, 0))] (by kernel_rfl) rfl (by kernel_rfl) (mem_pick (idx := [0, 1, 2, 3, 4, 5]) rfl) ?_
 refine a_v 0 rfl (by kernel_rfl) (by kernel_rfl) (by kernel_rfl) rfl rfl rfl (v_ldA [.int .i64 1, .int .i64 1, .int .i64 2, .int .i64 2, .int .i64 1, .int .i64 1, .int .i64 9] 5 rfl Try.underlying23 rfl SZ23 rfl rfl rfl rfl) ?_
 refine a_v 1 rfl (by kernel_rfl) (by kernel_rfl) (by kernel_rfl) rfl rfl rfl (v_move rfl rfl) ?_
 refine a_1 (i := 2) (by kernel_rfl) ?_
 refine i_e rfl rfl (e_callF [4] #[.agg #[.int .i64 1, .int .i64 1, .int .i64 2, .int .i64 2, .int .i64 1, .int .i64 1, .int .i64 9], .slice A37_ t28_.length c38_] rfl rfl rfl rfl rfl Try.func17 rfl (by decide) rfl rfl rfl rfl (fun w ht => shape_Right_con _ 1 1 2 2 1 1 9 A37_ c38_ t28_ true e148_ w _)) ?_
 refine ⟨(mem_pick (idx := [0, 1, 2, 3, 4, 5]) rfl), ?_⟩
 refine a_v 3 rfl (by kernel_rfl) (by kernel_rfl) (by kernel_rfl) rfl rfl rfl (v_move rfl rfl) ?_
 refine a_v 4 rfl (by kernel_rfl) (by kernel_rfl) (by kernel_rfl) rfl rfl rfl (v_ldA [.int .i64 1, .int .i64 1, .int .i64 2, .int .i64 2, .int .i64 1, .int .i64 1, .int .i64 9] 5 rfl Try.underlying23 rfl SZ23 rfl rfl rfl rfl) ?_
 refine a_v 5 rfl (by kernel_rfl) (by kernel_rfl) (by kernel_rfl) rfl rfl rfl (v_move rfl rfl) ?_
 refine a_1 (i := 6) (by kernel_rfl) ?_
 refine i_knowT (KC_nil (Kd.slice 81 k81)) ?_
 refine i_e rfl rfl (e_callF [5, 0] #[.agg #[.int .i64 1, .int .i64 1, .int .i64 2, .int .i64 2, .int .i64 1, .int .i64 1, .int .i64 9], .slice A37_ t28_.length c38_, .slice none 0 0] rfl rfl rfl rfl rfl Try.func18 rfl (by decide) rfl rfl rfl rfl (fun w ht => shape_Rest_con _ 1 1 2 2 1 1 9 A37_ c38_ t28_ none 0 ([] : List (List S81)) true e151_ w _)) ?_
 refine ⟨(mem_pick (idx := [1, 2, 3, 4, 5, 6]) rfl), ?_⟩
 refine a_v 7 rfl (by kernel_rfl) (by kernel_rfl) (by kernel_rfl) rfl rfl rfl (v_pick rfl rfl rfl rfl) ?_
 refine a_v 8 rfl (by kernel_rfl) (by kernel_rfl) (by kernel_rfl) rfl rfl rfl (v_move rfl rfl) ?_
 refine a_v 9 rfl (by kernel_rfl) (by kernel_rfl) (by kernel_rfl) rfl rfl rfl (v_ldA [.int .i64 1, .int .i64 1, .int .i64 2, .int .i64 2, .int .i64 1, .int .i64 1, .int .i64 9] 5 rfl Try.underlying23 rfl SZ23 rfl rfl rfl rfl) ?_
 refine a_v 10 rfl (by kernel_rfl) (by kernel_rfl) (by kernel_rfl) rfl rfl rfl (v_move rfl rfl) ?_
 refine a_1 (i := 11) (by kernel_rfl) ?_
 refine i_e rfl rfl (e_callF [3] #[.agg #[.int .i64 1, .int .i64 1, .int .i64 2, .int .i64 2, .int .i64 1, .int .i64 1, .int .i64 9], .slice A47_ t45_.length c48_, .int .i64 0] rfl rfl rfl rfl rfl Try.func9 rfl (by decide) rfl rfl rfl rfl (fun w ht => shape_Level_con _ 1 1 2 2 1 1 9 A47_ c48_ t45_ 0 t153_ e154_ w _)) ?_
 intro A193_ c194_
 refine ⟨(mem_pick (idx := [2, 3, 4, 5, 6, 7]) rfl), ?_⟩
 refine a_v 12 rfl (by kernel_rfl) (by kernel_rfl) (by kernel_rfl) rfl rfl rfl (v_len rfl rfl rfl Try.underlying24 rfl rfl) ?_
 refine a_v 13 rfl (by kernel_rfl) (by kernel_rfl) (by kernel_rfl) rfl rfl rfl (OpV.cast (v := .bool true) (v_arith rfl rfl rfl rfl) (congrArg Value.bool h157_)) ?_
 refine a_v 14 rfl (by kernel_rfl) (by kernel_rfl) (by kernel_rfl) rfl rfl rfl (v_pick rfl rfl rfl rfl) ?_
 refine a_v 15 rfl (by kernel_rfl) (by kernel_rfl) (by kernel_rfl) rfl rfl rfl (v_move rfl rfl) ?_
 refine a_v 16 rfl (by kernel_rfl) (by kernel_rfl) (by kernel_rfl) rfl rfl rfl (v_ldA [.int .i64 1, .int .i64 1, .int .i64 2, .int .i64 2, .int .i64 1, .int .i64 1, .int .i64 9] 5 rfl Try.underlying23 rfl SZ23 rfl rfl rfl rfl) ?_
 refine a_v 17 rfl (by kernel_rfl) (by kernel_rfl) (by kernel_rfl) rfl rfl rfl (v_move rfl rfl) ?_
 refine a_1 (i := 18) (by kernel_rfl) ?_
 refine i_e rfl rfl (e_callF [4] #[.agg #[.int .i64 1, .int .i64 1, .int .i64 2, .int .i64 2, .int .i64 1, .int .i64 1, .int .i64 9], .slice A47_ t45_.length c48_, .int .i64 1] rfl rfl rfl rfl rfl Try.func9 rfl (by decide) rfl rfl rfl rfl (fun w ht => shape_Level_con _ 1 1 2 2 1 1 9 A47_ c48_ t45_ 1 t158_ e159_ w _)) ?_
 intro A195_ c196_
 refine ⟨(mem_pick (idx := [3, 4, 5, 6, 7, 8]) rfl), ?_⟩
 refine a_v 19 rfl (by kernel_rfl) (by kernel_rfl) (by kernel_rfl) rfl rfl rfl (v_len rfl rfl rfl Try.underlying24 rfl rfl) ?_
 refine a_v 20 rfl (by kernel_rfl) (by kernel_rfl) (by kernel_rfl) rfl rfl rfl (OpV.cast (v := .bool true) (v_arith rfl rfl rfl rfl) (congrArg Value.bool h162_)) ?_
 refine a_v 21 rfl (by kernel_rfl) (by kernel_rfl) (by kernel_rfl) rfl rfl rfl (v_pick rfl rfl rfl rfl) ?_
 refine a_v 22 rfl (by kernel_rfl) (by kernel_rfl) (by kernel_rfl) rfl rfl rfl (v_move rfl rfl) ?_
 refine a_v 23 rfl (by kernel_rfl) (by kernel_rfl) (by kernel_rfl) rfl rfl rfl (v_ldA [.int .i64 1, .int .i64 1, .int .i64 2, .int .i64 2, .int .i64 1, .int .i64 1, .int .i64 9] 5 rfl Try.underlying23 rfl SZ23 rfl rfl rfl rfl) ?_
 refine a_v 24 rfl (by kernel_rfl) (by kernel_rfl) (by kernel_rfl) rfl rfl rfl (v_move rfl rfl) ?_
 refine a_1 (i := 25) (by kernel_rfl) ?_
 refine i_e rfl rfl (e_callF [5] #[.agg #[.int .i64 1, .int .i64 1, .int .i64 2, .int .i64 2, .int .i64 1, .int .i64 1, .int .i64 9], .slice A47_ t45_.length c48_, .int .i64 2] rfl rfl rfl rfl rfl Try.func9 rfl (by decide) rfl rfl rfl rfl (fun w ht => shape_Level_con _ 1 1 2 2 1 1 9 A47_ c48_ t45_ 2 t163_ e164_ w _)) ?_
 intro A197_ c198_
 refine ⟨(mem_pick (idx := [4, 5, 6, 7, 8, 9]) rfl), ?_⟩
 refine a_v 26 rfl (by kernel_rfl) (by kernel_rfl) (by kernel_rfl) rfl rfl rfl (v_len rfl rfl rfl Try.underlying24 rfl rfl) ?_
 refine a_v 27 rfl (by kernel_rfl) (by kernel_rfl) (by kernel_rfl) rfl rfl rfl (OpV.cast (v := .bool true) (v_arith rfl rfl rfl rfl) (congrArg Value.bool h167_)) ?_
 refine a_v 28 rfl (by kernel_rfl) (by kernel_rfl) (by kernel_rfl) rfl rfl rfl (v_pick rfl rfl rfl rfl) ?_
 refine a_v 29 rfl (by kernel_rfl) (by kernel_rfl) (by kernel_rfl) rfl rfl rfl (v_move rfl rfl) ?_
 refine a_v 30 rfl (by kernel_rfl) (by kernel_rfl) (by kernel_rfl) rfl rfl rfl (v_move rfl rfl) ?_
 refine a_v 31 rfl (by kernel_rfl) (by kernel_rfl) (by kernel_rfl) rfl rfl rfl (v_len rfl rfl rfl Try.underlying35 rfl rfl) ?_
 refine a_v 32 rfl (by kernel_rfl) (by kernel_rfl) (by kernel_rfl) rfl rfl rfl (OpV.cast (v := .bool true) (v_arith rfl rfl rfl rfl) (congrArg Value.bool h168_)) ?_
 refine a_v 33 rfl (by kernel_rfl) (by kernel_rfl) (by kernel_rfl) rfl rfl rfl (v_pick rfl rfl rfl rfl) ?_
 refine a_v 34 rfl (by kernel_rfl) (by kernel_rfl) (by kernel_rfl) rfl rfl rfl (v_move rfl rfl) ?_
 refine a_v 35 rfl (by kernel_rfl) (by kernel_rfl) (by kernel_rfl) rfl rfl rfl (v_move rfl rfl) ?_
 refine a_v 36 rfl (by kernel_rfl) (by kernel_rfl) (by kernel_rfl) rfl rfl rfl (v_iaK (i := 0) rfl Try.underlying35 SZ61 rfl rfl rfl rfl (by decide) n169_) ?_
 refine a_v 37 rfl (by kernel_rfl) (by kernel_rfl) (by kernel_rfl) rfl rfl rfl (v_fax rfl Try.underlying61 rfl SZ25 rfl) ?_
 refine a_v 38 rfl (by kernel_rfl) (by kernel_rfl) (by kernel_rfl) rfl rfl rfl (v_ldKf (v := .int .u64 ((rd_T61 t60_ 0).f0)) z61 [.int .u64 ((rd_T61 t60_ 0).f0), .int .u64 ((rd_T61 t60_ 0).f1)] 0 rfl Try.underlying25 rfl rfl rfl rfl (by decide) n169_ (fun w K h => k61_open h) rfl) ?_
 refine a_v 39 rfl (by kernel_rfl) (by kernel_rfl) (by kernel_rfl) rfl rfl rfl (OpV.cast (v := .bool true) (v_arith rfl rfl rfl rfl) (congrArg Value.bool h170_)) ?_
 refine a_v 40 rfl (by kernel_rfl) (by kernel_rfl) (by kernel_rfl) rfl rfl rfl (v_pick rfl rfl rfl rfl) ?_
 refine a_v 41 rfl (by kernel_rfl) (by kernel_rfl) (by kernel_rfl) rfl rfl rfl (v_move rfl rfl) ?_
 refine a_v 42 rfl (by kernel_rfl) (by kernel_rfl) (by kernel_rfl) rfl rfl rfl (v_move rfl rfl) ?_
 refine a_v 43 rfl (by kernel_rfl) (by kernel_rfl) (by kernel_rfl) rfl rfl rfl (v_iaK (i := 0) rfl Try.underlying35 SZ61 rfl rfl rfl rfl (by decide) n169_) ?_
 refine a_v 44 rfl (by kernel_rfl) (by kernel_rfl) (by kernel_rfl) rfl rfl rfl (v_fax rfl Try.underlying61 rfl SZ25 rfl) ?_
 refine a_v 45 rfl (by kernel_rfl) (by kernel_rfl) (by kernel_rfl) rfl rfl rfl (v_ldKf (v := .int .u64 ((rd_T61 t60_ 0).f1)) z61 [.int .u64 ((rd_T61 t60_ 0).f0), .int .u64 ((rd_T61 t60_ 0).f1)] 0 rfl Try.underlying25 rfl rfl rfl rfl (by decide) n169_ (fun w K h => k61_open h) rfl) ?_
 refine a_v 46 rfl (by kernel_rfl) (by kernel_rfl) (by kernel_rfl) rfl rfl rfl (OpV.cast (v := .bool true) (v_arith rfl rfl rfl rfl) (congrArg Value.bool h171_)) ?_
 refine a_v 47 rfl (by kernel_rfl) (by kernel_rfl) (by kernel_rfl) rfl rfl rfl (v_pick rfl rfl rfl rfl) ?_
 refine a_v 48 rfl (by kernel_rfl) (by kernel_rfl) (by kernel_rfl) rfl rfl rfl (v_move rfl rfl) ?_
 refine a_v 49 rfl (by kernel_rfl) (by kernel_rfl) (by kernel_rfl) rfl rfl rfl (v_ldA [.int .i64 1, .int .i64 1, .int .i64 2, .int .i64 2, .int .i64 1, .int .i64 1, .int .i64 9] 5 rfl Try.underlying23 rfl SZ23 rfl rfl rfl rfl) ?_
 refine a_v 50 rfl (by kernel_rfl) (by kernel_rfl) (by kernel_rfl) rfl rfl rfl (v_move rfl rfl) ?_
 refine a_1 (i := 51) (by kernel_rfl) ?_
 refine i_e rfl rfl (e_callF [6] #[.agg #[.int .i64 1, .int .i64 1, .int .i64 2, .int .i64 2, .int .i64 1, .int .i64 1, .int .i64 9], .slice A47_ t45_.length c48_] rfl rfl rfl rfl rfl Try.func17 rfl (by decide) rfl rfl rfl rfl (fun w ht => shape_Right_con _ 1 1 2 2 1 1 9 A47_ c48_ t45_ false e173_ w _)) ?_
 refine ⟨(mem_pick (idx := [4, 5, 6, 7, 8, 9]) rfl), ?_⟩
 refine a_v 52 rfl (by kernel_rfl) (by kernel_rfl) (by kernel_rfl) rfl rfl rfl (v_pick rfl rfl rfl rfl) ?_
 refine a_v 53 rfl (by kernel_rfl) (by kernel_rfl) (by kernel_rfl) rfl rfl rfl (v_move rfl rfl) ?_
 refine a_no 54 rfl (by kernel_rfl) (by kernel_rfl) (by kernel_rfl) rfl rfl rfl ?_
 refine a_no 55 rfl (by kernel_rfl) (by kernel_rfl) (by kernel_rfl) rfl rfl rfl ?_
 refine a_no 56 rfl (by kernel_rfl) (by kernel_rfl) (by kernel_rfl) rfl rfl rfl ?_
 refine a_no 57 rfl (by kernel_rfl) (by kernel_rfl) (by kernel_rfl) rfl rfl rfl ?_
 refine a_v 58 rfl (by kernel_rfl) (by kernel_rfl) (by kernel_rfl) rfl rfl rfl (v_pick rfl rfl rfl rfl) ?_
 refine a_v 59 rfl (by kernel_rfl) (by kernel_rfl) (by kernel_rfl) rfl rfl rfl (v_move rfl rfl) ?_
 refine a_no 60 rfl (by kernel_rfl) (by kernel_rfl) (by kernel_rfl) rfl rfl rfl ?_
 refine a_no 61 rfl (by kernel_rfl) (by kernel_rfl) (by kernel_rfl) rfl rfl rfl ?_
 refine a_no 62 rfl (by kernel_rfl) (by kernel_rfl) (by kernel_rfl) rfl rfl rfl ?_
 refine a_no 63 rfl (by kernel_rfl) (by kernel_rfl) (by kernel_rfl) rfl rfl rfl ?_
 refine a_no 64 rfl (by kernel_rfl) (by kernel_rfl) (by kernel_rfl) rfl rfl rfl ?_
 refine a_v 65 rfl (by kernel_rfl) (by kernel_rfl) (by kernel_rfl) rfl rfl rfl (v_pick rfl rfl rfl rfl) ?_
 refine a_v 66 rfl (by kernel_rfl) (by kernel_rfl) (by kernel_rfl) rfl rfl rfl (v_assign rfl rfl) ?_
 refine a_end (by kernel_rfl) ?_
 have hq_0 := Option.some.inj H
 subst hq_0
 exact q_seq (c_frame (subF_spec (by exact ⟨rfl, trivial⟩)) (c_take [4, 5, 6, 7, 8, 9] rfl (by decide) (J_ () trivial)))
 replace H := ite_n (ibeq_f h171_) H
 refine r_any [.f (KC k61 z62_.1 z62_.2 t60_), .f (KC k61 A58_ c59_ t56_), .f (KC (Kd.int .u64) A47_ c48_ t45_), .f (KC k46 (some ⟨b44_, 0, none⟩) 2 ([(⟨3, 7, 2, 0, false⟩ : S46), (⟨5, 0, 1, 1, true⟩ : S46)] : List S46)), .f (KC (Kd.int .u64) A37_ c38_ t28_), .b b2_ (.cells #[.int .i64 1, .int .i64 1, .int .i64 2, .int .i64 2, .int .i64 1, .int .i64 1, .int .i64 9] 23 (0, 0))] (by kernel_rfl) rfl (by kernel_rfl) (mem_pick (idx := [0, 1, 2, 3, 4, 5]) rfl) ?_
 refine a_v 0 rfl (by kernel_rfl) (by kernel_rfl) (by kernel_rfl) rfl rfl rfl (v_ldA [.int .i64 1, .int .i64 1, .int .i64 2, .int .i64 2, .int .i64 1, .int .i64 1, .int .i64 9] 5 rfl Try.underlying23 rfl SZ23 rfl rfl rfl rfl) ?_
 refine a_v 1 rfl (by kernel_rfl) (by kernel_rfl) (by kernel_rfl) rfl rfl rfl (v_move rfl rfl) ?_
 refine a_1 (i := 2) (by kernel_rfl) ?_
 refine i_e rfl rfl (e_callF [4] #[.agg #[.int .i64 1, .int .i64 1, .int .i64 2, .int .i64 2, .int .i64 1, .int .i64 1, .int .i64 9], .slice A37_ t28_.length c38_] rfl rfl rfl rfl rfl Try.func17 rfl (by decide) rfl rfl rfl rfl (fun w ht => shape_Right_con _ 1 1 2 2 1 1 9 A37_ c38_ t28_ true e148_ w _)) ?_
 refine ⟨(mem_pick (idx := [0, 1, 2, 3, 4, 5]) rfl), ?_⟩
 refine a_v 3 rfl (by kernel_rfl) (by kernel_rfl) (by kernel_rfl) rfl rfl rfl (v_move rfl rfl) ?_
 refine a_v 4 rfl (by kernel_rfl) (by kernel_rfl) (by kernel_rfl) rfl rfl rfl (v_ldA [.int .i64 1, .int .i64 1, .int .i64 2, .int .i64 2, .int .i64 1, .int .i64 1, .int .i64 9] 5 rfl Try.underlying23 rfl SZ23 rfl rfl rfl rfl) ?_
 refine a_v 5 rfl (by kernel_rfl) (by kernel_rfl) (by kernel_rfl) rfl rfl rfl (v_move rfl rfl) ?_
 refine a_1 (i := 6) (by kernel_rfl) ?_
 refine i_knowT (KC_nil (Kd.slice 81 k81)) ?_
 refine i_e rfl rfl (e_callF [5, 0] #[.agg #[.int .i64 1, .int .i64 1, .int .i64 2, .int .i64 2, .int .i64 1, .int .i64 1, .int .i64 9], .slice A37_ t28_.length c38_, .slice none 0 0] rfl rfl rfl rfl rfl Try.func18 rfl (by decide) rfl rfl rfl rfl (fun w ht => shape_Rest_con _ 1 1 2 2 1 1 9 A37_ c38_ t28_ none 0 ([] : List (List S81)) true e151_ w _)) ?_
 refine ⟨(mem_pick (idx := [1, 2, 3, 4, 5, 6]) rfl), ?_⟩
 refine a_v 7 rfl (by kernel_rfl) (by kernel_rfl) (by kernel_rfl) rfl rfl rfl (v_pick rfl rfl rfl rfl) ?_
 refine a_v 8 rfl (by kernel_rfl) (by kernel_rfl) (by kernel_rfl) rfl rfl rfl (v_move rfl rfl) ?_
 refine a_v 9 rfl (by kernel_rfl) (by kernel_rfl) (by kernel_rfl) rfl rfl rfl (v_ldA [.int .i64 1, .int .i64 1, .int .i64 2, .int .i64 2, .int .i64 1, .int .i64 1, .int .i64 9] 5 rfl Try.underlying23 rfl SZ23 rfl rfl rfl rfl) ?_
 refine a_v 10 rfl (by kernel_rfl) (by kernel_rfl) (by kernel_rfl) rfl rfl rfl (v_move rfl rfl) ?_
 refine a_1 (i := 11) (by kernel_rfl) ?_
 refine i_e rfl rfl (e_callF [3] #[.agg #[.int .i64 1, .int .i64 1, .int .i64 2, .int .i64 2, .int .i64 1, .int .i64 1, .int .i64 9], .slice A47_ t45_.length c48_, .int .i64 0] rfl rfl rfl rfl rfl Try.func9 rfl (by decide) rfl rfl rfl rfl (fun w ht => shape_Level_con _ 1 1 2 2 1 1 9 A47_ c48_ t45_ 0 t153_ e154_ w _)) ?_
 intro A199_ c200_
 refine ⟨(mem_pick (idx := [2, 3, 4, 5, 6, 7]) rfl), ?_⟩
 refine a_v 12 rfl (by kernel_rfl) (by kernel_rfl) (by kernel_rfl) rfl rfl rfl (v_len rfl rfl rfl Try.underlying24 rfl rfl) ?_
 refine a_v 13 rfl (by kernel_rfl) (by kernel_rfl) (by kernel_rfl) rfl rfl rfl (OpV.cast (v := .bool true) (v_arith rfl rfl rfl rfl) (congrArg Value.bool h157_)) ?_
 refine a_v 14 rfl (by kernel_rfl) (by kernel_rfl) (by kernel_rfl) rfl rfl rfl (v_pick rfl rfl rfl rfl) ?_
 refine a_v 15 rfl (by kernel_rfl) (by kernel_rfl) (by kernel_rfl) rfl rfl rfl (v_move rfl rfl) ?_
 refine a_v 16 rfl (by kernel_rfl) (by kernel_rfl) (by kernel_rfl) rfl rfl rfl (v_ldA [.int .i64 1, .int .i64 1, .int .i64 2, .int .i64 2, .int .i64 1, .int .i64 1, .int .i64 9] 5 rfl Try.underlying23 rfl SZ23 rfl rfl rfl rfl) ?_
 refine a_v 17 rfl (by kernel_rfl) (by kernel_rfl) (by kernel_rfl) rfl rfl rfl (v_move rfl rfl) ?_
 refine a_1 (i := 18) (by kernel_rfl) ?_
 refine i_e rfl rfl (e_callF [4] #[.agg #[.int .i64 1, .int .i64 1, .int .i64 2, .int .i64 2, .int .i64 1, .int .i64 1, .int .i64 9], .slice A47_ t45_.length c48_, .int .i64 1] rfl rfl rfl rfl rfl Try.func9 rfl (by decide) rfl rfl rfl rfl (fun w ht => shape_Level_con _ 1 1 2 2 1 1 9 A47_ c48_ t45_ 1 t158_ e159_ w _)) ?_
 intro A201_ c202_
 refine ⟨(mem_pick (idx := [3, 4, 5, 6, 7, 8]) rfl), ?_⟩
 refine a_v 19 rfl (by kernel_rfl) (by kernel_rfl) (by kernel_rfl) rfl rfl rfl (v_len rfl rfl rfl Try.underlying24 rfl rfl) ?_
 refine a_v 20 rfl (by kernel_rfl) (by kernel_rfl) (by kernel_rfl) rfl rfl rfl (OpV.cast (v := .bool true) (v_arith rfl rfl rfl rfl) (congrArg Value.bool h162_)) ?_
 refine a_v 21 rfl (by kernel_rfl) (by kernel_rfl) (by kernel_rfl) rfl rfl rfl (v_pick rfl rfl rfl rfl) ?_
 refine a_v 22 rfl (by kernel_rfl) (by kernel_rfl) (by kernel_rfl) rfl rfl rfl (v_move rfl rfl) ?_
 refine a_v 23 rfl (by kernel_rfl) (by kernel_rfl) (by kernel_rfl) rfl rfl rfl (v_ldA [.int .i64 1, .int .i64 1, .int .i64 2, .int .i64 2, .int .i64 1, .int .i64 1, .int .i64 9] 5 rfl Try.underlying23 rfl SZ23 rfl rfl rfl rfl) ?_
 refine a_v 24 rfl (by kernel_rfl) (by kernel_rfl) (by kernel_rfl) rfl rfl rfl (v_move rfl rfl) ?_
 refine a_1 (i := 25) (by kernel_rfl) ?_
 refine i_e rfl rfl (e_callF [5] #[.agg #[.int .i64 1, .int .i64 1, .int .i64 2, .int .i64 2, .int .i64 1, .int .i64 1, .int .i64 9], .slice A47_ t45_.length c48_, .int .i64 2] rfl rfl rfl rfl rfl Try.func9 rfl (by decide) rfl rfl rfl rfl (fun w ht => shape_Level_con _ 1 1 2 2 1 1 9 A47_ c48_ t45_ 2 t163_ e164_ w _)) ?_
 intro A203_ c204_
 refine ⟨(mem_pick (idx := [4, 5, 6, 7, 8, 9]) rfl), ?_⟩
 refine a_v 26 rfl (by kernel_rfl) (by kernel_rfl) (by kernel_rfl) rfl rfl rfl (v_len rfl rfl rfl Try.underlying24 rfl rfl) ?_
 refine a_v 27 rfl (by kernel_rfl) (by kernel_rfl) (by kernel_rfl) rfl rfl rfl (OpV.cast (v := .bool true) (v_arith rfl rfl rfl rfl) (congrArg Value.bool h167_)) ?_
 refine a_v 28 rfl (by kernel_rfl) (by kernel_rfl) (by kernel_rfl) rfl rfl rfl (v_pick rfl rfl rfl rfl) ?_
 refine a_v 29 rfl (by kernel_rfl) (by kernel_rfl) (by kernel_rfl) rfl rfl rfl (v_move rfl rfl) ?_
 refine a_v 30 rfl (by kernel_rfl) (by kernel_rfl) (by kernel_rfl) rfl rfl rfl (v_move rfl rfl) ?_
 refine a_v 31 rfl (by kernel_rfl) (by kernel_rfl) (by kernel_rfl) rfl rfl rfl (v_len rfl rfl rfl Try.underlying35 rfl rfl) ?_
 refine a_v 32 rfl (by kernel_rfl) (by kernel_rfl) (by kernel_rfl) rfl rfl rfl (OpV.cast (v := .bool true) (v_arith rfl rfl rfl rfl) (congrArg Value.bool h168_)) ?_
 refine a_v 33 rfl (by kernel_rfl) (by kernel_rfl) (by kernel_rfl) rfl rfl rfl (v_pick rfl rfl rfl rfl) ?_
 refine a_v 34 rfl (by kernel_rfl) (by kernel_rfl) (by kernel_rfl) rfl rfl rfl (v_move rfl rfl) ?_
 refine a_v 35 rfl (by kernel_rfl) (by kernel_rfl) (by kernel_rfl) rfl rfl rfl (v_move rfl rfl) ?_
 refine a_v 36 rfl (by kernel_rfl) (by kernel_rfl) (by kernel_rfl) rfl rfl rfl (v_iaK (i := 0) rfl Try.underlying35 SZ61 rfl rfl rfl rfl (by decide) n169_) ?_
 refine a_v 37 rfl (by kernel_rfl) (by kernel_rfl) (by kernel_rfl) rfl rfl rfl (v_fax rfl Try.underlying61 rfl SZ25 rfl) ?_
 refine a_v 38 rfl (by kernel_rfl) (by kernel_rfl) (by kernel_rfl) rfl rfl rfl (v_ldKf (v := .int .u64 ((rd_T61 t60_ 0).f0)) z61 [.int .u64 ((rd_T61 t60_ 0).f0), .int .u64 ((rd_T61 t60_ 0).f1)] 0 rfl Try.underlying25 rfl rfl rfl rfl (by decide) n169_ (fun w K h => k61_open h) rfl) ?_
 refine a_v 39 rfl (by kernel_rfl) (by kernel_rfl) (by kernel_rfl) rfl rfl rfl (OpV.cast (v := .bool true) (v_arith rfl rfl rfl rfl) (congrArg Value.bool h170_)) ?_
 refine a_v 40 rfl (by kernel_rfl) (by kernel_rfl) (by kernel_rfl) rfl rfl rfl (v_pick rfl rfl rfl rfl) ?_
 refine a_v 41 rfl (by kernel_rfl) (by kernel_rfl) (by kernel_rfl) rfl rfl rfl (v_move rfl rfl) ?_
 refine a_v 42 rfl (by kernel_rfl) (by kernel_rfl) (by kernel_rfl) rfl rfl rfl (v_move rfl rfl) ?_
 refine a_v 43 rfl (by kernel_rfl) (by kernel_rfl) (by kernel_rfl) rfl rfl rfl (v_iaK (i := 0) rfl Try.underlying35 SZ61 rfl rfl rfl rfl (by decide) n169_) ?_
 refine a_v 44 rfl (by kernel_rfl) (by kernel_rfl) (by kernel_rfl) rfl rfl rfl (v_fax rfl Try.underlying61 rfl SZ25 rfl) ?_
 refine a_v 45 rfl (by kernel_rfl) (by kernel_rfl) (by kernel_rfl) rfl rfl rfl (v_ldKf (v := .int .u64 ((rd_T61 t60_ 0).f1)) z61 [.int .u64 ((rd_T61 t60_ 0).f0), .int .u64 ((rd_T61 t60_ 0).f1)] 0 rfl Try.underlying25 rfl rfl rfl rfl (by decide) n169_ (fun w K h => k61_open h) rfl) ?_
 refine a_v 46 rfl (by kernel_rfl) (by kernel_rfl) (by kernel_rfl) rfl rfl rfl (OpV.cast (v := .bool false) (v_arith rfl rfl rfl rfl) (congrArg Value.bool h171_)) ?_
 refine a_v 47 rfl (by kernel_rfl) (by kernel_rfl) (by kernel_rfl) rfl rfl rfl (v_pick rfl rfl rfl rfl) ?_
 refine a_v 48 rfl (by kernel_rfl) (by kernel_rfl) (by kernel_rfl) rfl rfl rfl (v_move rfl rfl) ?_
 refine a_no 49 rfl (by kernel_rfl) (by kernel_rfl) (by kernel_rfl) rfl rfl rfl ?_
 refine a_no 50 rfl (by kernel_rfl) (by kernel_rfl) (by kernel_rfl) rfl rfl rfl ?_
 refine a_no 51 rfl (by kernel_rfl) (by kernel_rfl) (by kernel_rfl) rfl rfl rfl ?_
 refine a_v 52 rfl (by kernel_rfl) (by kernel_rfl) (by kernel_rfl) rfl rfl rfl (v_pick rfl rfl rfl rfl) ?_
 refine a_v 53 rfl (by kernel_rfl) (by kernel_rfl) (by kernel_rfl) rfl rfl rfl (v_move rfl rfl) ?_
 refine a_no 54 rfl (by kernel_rfl) (by kernel_rfl) (by kernel_rfl) rfl rfl rfl ?_
 refine a_no 55 rfl (by kernel_rfl) (by kernel_rfl) (by kernel_rfl) rfl rfl rfl ?_
 refine a_no 56 rfl (by kernel_rfl) (by kernel_rfl) (by kernel_rfl) rfl rfl rfl ?_
 refine a_no 57 rfl (by kernel_rfl) (by kernel_rfl) (by kernel_rfl) rfl rfl rfl ?_
 refine a_v 58 rfl (by kernel_rfl) (by kernel_rfl) (by kernel_rfl) rfl rfl rfl (v_pick rfl rfl rfl rfl) ?_
 refine a_v 59 rfl (by kernel_rfl) (by kernel_rfl) (by kernel_rfl) rfl rfl rfl (v_move rfl rfl) ?_
 refine a_no 60 rfl (by kernel_rfl) (by kernel_rfl) (by kernel_rfl) rfl rfl rfl ?_
 refine a_no 61 rfl (by kernel_rfl) (by kernel_rfl) (by kernel_rfl) rfl rfl rfl ?_
 refine a_no 62 rfl (by kernel_rfl) (by kernel_rfl) (by kernel_rfl) rfl rfl rfl ?_
 refine a_no 63 rfl (by kernel_rfl) (by kernel_rfl) (by kernel_rfl) rfl rfl rfl ?_
 refine a_no 64 rfl (by kernel_rfl) (by kernel_rfl) (by kernel_rfl) rfl rfl rfl ?_
 refine a_v 65 rfl (by kernel_rfl) (by kernel_rfl) (by kernel_rfl) rfl rfl rfl (v_pick rfl rfl rfl rfl) ?_
 refine a_v 66 rfl (by kernel_rfl) (by kernel_rfl) (by kernel_rfl) rfl rfl rfl (v_assign rfl rfl) ?_
 refine a_end (by kernel_rfl) ?_
 have hq_0 := Option.some.inj H
 subst hq_0
 exact q_seq (c_frame (subF_spec (by exact ⟨rfl, trivial⟩)) (c_take [4, 5, 6, 7, 8, 9] rfl (by decide) (J_ () trivial)))
 replace H := ite_n (ibeq_f h170_) H
 refine r_any [.f (KC k61 z62_.1 z62_.2 t60_), .f (KC k61 A58_ c59_ t56_), .f (KC (Kd.int .u64) A47_ c48_ t45_), .f (KC k46 (some ⟨b44_, 0, none⟩) 2 ([(⟨3, 7, 2, 0, false⟩ : S46), (⟨5, 0, 1, 1, true⟩ : S46)] : List S46)), .f (KC (Kd.int .u64) A37_ c38_ t28_), .b b2_ (.cells #[.int .i64 1, .int .i64 1, .int .i64 2, .int .i64 2, .int .i64 1, .int .i64 1, .int .i64 9] 23 (0, 0))] (by kernel_rfl) rfl (by kernel_rfl) (mem_pick (idx := [0, 1, 2, 3, 4, 5]) rfl) ?_
 refine a_v 0 rfl (by kernel_rfl) (by kernel_rfl) (by kernel_rfl) rfl rfl rfl (v_ldA [.int .i64 1, .int .i64 1, .int .i64 2, .int .i64 2, .int .i64 1, .int .i64 1, .int .i64 9] 5 rfl Try.underlying23 rfl SZ23 rfl rfl rfl rfl) ?_
 refine a_v 1 rfl (by kernel_rfl) (by kernel_rfl) (by kernel_rfl) rfl rfl rfl (v_move rfl rfl) ?_
 refine a_1 (i := 2) (by kernel_rfl) ?_
 refine i_e rfl rfl (e_callF [4] #[.agg #[.int .i64 1, .int .i64 1, .int .i64 2, .int .i64 2, .int .i64 1, .int .i64 1, .int .i64 9], .slice A37_ t28_.length c38_] rfl rfl rfl rfl rfl Try.func17 rfl (by decide) rfl rfl rfl rfl (fun w ht => shape_Right_con _ 1 1 2 2 1 1 9 A37_ c38_ t28_ true e148_ w _)) ?_
 refine ⟨(mem_pick (idx := [0, 1, 2, 3, 4, 5]) rfl), ?_⟩
 refine a_v 3 rfl (by kernel_rfl) (by kernel_rfl) (by kernel_rfl) rfl rfl rfl (v_move rfl rfl) ?_
 refine a_v 4 rfl (by kernel_rfl) (by kernel_rfl) (by kernel_rfl) rfl rfl rfl (v_ldA [.int .i64 1, .int .i64 1, .int .i64 2, .int .i64 2, .int .i64 1, .int .i64 1, .int .i64 9] 5 rfl Try.underlying23 rfl SZ23 rfl rfl rfl rfl) ?_
 refine a_v 5 rfl (by kernel_rfl) (by kernel_rfl) (by kernel_rfl) rfl rfl rfl (v_move rfl rfl) ?_
 refine a_1 (i := 6) (by kernel_rfl) ?_
 refine i_knowT (KC_nil (Kd.slice 81 k81)) ?_
 refine i_e rfl rfl (e_callF [5, 0] #[.agg #[.int .i64 1, .int .i64 1, .int .i64 2, .int .i64 2, .int .i64 1, .int .i64 1, .int .i64 9], .slice A37_ t28_.length c38_, .slice none 0 0] rfl rfl rfl rfl rfl Try.func18 rfl (by decide) rfl rfl rfl rfl (fun w ht => shape_Rest_con _ 1 1 2 2 1 1 9 A37_ c38_ t28_ none 0 ([] : List (List S81)) true e151_ w _)) ?_
 refine ⟨(mem_pick (idx := [1, 2, 3, 4, 5, 6]) rfl), ?_⟩
 refine a_v 7 rfl (by kernel_rfl) (by kernel_rfl) (by kernel_rfl) rfl rfl rfl (v_pick rfl rfl rfl rfl) ?_
 refine a_v 8 rfl (by kernel_rfl) (by kernel_rfl) (by kernel_rfl) rfl rfl rfl (v_move rfl rfl) ?_
 refine a_v 9 rfl (by kernel_rfl) (by kernel_rfl) (by kernel_rfl) rfl rfl rfl (v_ldA [.int .i64 1, .int .i64 1, .int .i64 2, .int .i64 2, .int .i64 1, .int .i64 1, .int .i64 9] 5 rfl Try.underlying23 rfl SZ23 rfl rfl rfl rfl) ?_
 refine a_v 10 rfl (by kernel_rfl) (by kernel_rfl) (by kernel_rfl) rfl rfl rfl (v_move rfl rfl) ?_
 refine a_1 (i := 11) (by kernel_rfl) ?_
 refine i_e rfl rfl (e_callF [3] #[.agg #[.int .i64 1, .int .i64 1, .int .i64 2, .int .i64 2, .int .i64 1, .int .i64 1, .int .i64 9], .slice A47_ t45_.length c48_, .int .i64 0] rfl rfl rfl rfl rfl Try.func9 rfl (by decide) rfl rfl rfl rfl (fun w ht => shape_Level_con _ 1 1 2 2 1 1 9 A47_ c48_ t45_ 0 t153_ e154_ w _)) ?_
 intro A205_ c206_
 refine ⟨(mem_pick (idx := [2, 3, 4, 5, 6, 7]) rfl), ?_⟩
 refine a_v 12 rfl (by kernel_rfl) (by kernel_rfl) (by kernel_rfl) rfl rfl rfl (v_len rfl rfl rfl Try.underlying24 rfl rfl) ?_
 refine a_v 13 rfl (by kernel_rfl) (by kernel_rfl) (by kernel_rfl) rfl rfl rfl (OpV.cast (v := .bool true) (v_arith rfl rfl rfl rfl) (congrArg Value.bool h157_)) ?_
 refine a_v 14 rfl (by kernel_rfl) (by kernel_rfl) (by kernel_rfl) rfl rfl rfl (v_pick rfl rfl rfl rfl) ?_
 refine a_v 15 rfl (by kernel_rfl) (by kernel_rfl) (by kernel_rfl) rfl rfl rfl (v_move rfl rfl) ?_
 refine a_v 16 rfl (by kernel_rfl) (by kernel_rfl) (by kernel_rfl) rfl rfl rfl (v_ldA [.int .i64 1, .int .i64 1, .int .i64 2, .int .i64 2, .int .i64 1, .int .i64 1, .int .i64 9] 5 rfl Try.underlying23 rfl SZ23 rfl rfl rfl rfl) ?_
 refine a_v 17 rfl (by kernel_rfl) (by kernel_rfl) (by kernel_rfl) rfl rfl rfl (v_move rfl rfl) ?_
 refine a_1 (i := 18) (by kernel_rfl) ?_
 refine i_e rfl rfl (e_callF [4] #[.agg #[.int .i64 1, .int .i64 1, .int .i64 2, .int .i64 2, .int .i64 1, .int .i64 1, .int .i64 9], .slice A47_ t45_.length c48_, .int .i64 1] rfl rfl rfl rfl rfl Try.func9 rfl (by decide) rfl rfl rfl rfl (fun w ht => shape_Level_con _ 1 1 2 2 1 1 9 A47_ c48_ t45_ 1 t158_ e159_ w _)) ?_
 intro A207_ c208_
 refine ⟨(mem_pick (idx := [3, 4, 5, 6, 7, 8]) rfl), ?_⟩
 refine a_v 19 rfl (by kernel_rfl) (by kernel_rfl) (by kernel_rfl) rfl rfl rfl (v_len rfl rfl rfl Try.underlying24 rfl rfl) ?_
 refine a_v 20 rfl (by kernel_rfl) (by kernel_rfl) (by kernel_rfl) rfl rfl rfl (OpV.cast (v := .bool true) (v_arith rfl rfl rfl rfl) (congrArg Value.bool h162_)) ?_
 refine a_v 21 rfl (by kernel_rfl) (by kernel_rfl) (by kernel_rfl) rfl rfl rfl (v_pick rfl rfl rfl rfl) ?_
 refine a_v 22 rfl (by kernel_rfl) (by kernel_rfl) (by kernel_rfl) rfl rfl rfl (v_move rfl rfl) ?_
 refine a_v 23 rfl (by kernel_rfl) (by kernel_rfl) (by kernel_rfl) rfl rfl rfl (v_ldA [.int .i64 1, .int .i64 1, .int .i64 2, .int .i64 2, .int .i64 1, .int .i64 1, .int .i64 9] 5 rfl Try.underlying23 rfl SZ23 rfl rfl rfl rfl) ?_
 refine a_v 24 rfl (by kernel_rfl) (by kernel_rfl) (by kernel_rfl) rfl rfl rfl (v_move rfl rfl) ?_
 refine a_1 (i := 25) (by kernel_rfl) ?_
 refine i_e rfl rfl (e_callF [5] #[.agg #[.int .i64 1, .int .i64 1, .int .i64 2, .int .i64 2, .int .i64 1, .int .i64 1, .int .i64 9], .slice A47_ t45_.length c48_, .int .i64 2] rfl rfl rfl rfl rfl Try.func9 rfl (by decide) rfl rfl rfl rfl (fun w ht => shape_Level_con _ 1 1 2 2 1 1 9 A47_ c48_ t45_ 2 t163_ e164_ w _)) ?_
 intro A209_ c210_
 refine ⟨(mem_pick (idx := [4, 5, 6, 7, 8, 9]) rfl), ?_⟩
 refine a_v 26 rfl (by kernel_rfl) (by kernel_rfl) (by kernel_rfl) rfl rfl rfl (v_len rfl rfl rfl Try.underlying24 rfl rfl) ?_
 refine a_v 27 rfl (by kernel_rfl) (by kernel_rfl) (by kernel_rfl) rfl rfl rfl (OpV.cast (v := .bool true) (v_arith rfl rfl rfl rfl) (congrArg Value.bool h167_)) ?_
 refine a_v 28 rfl (by kernel_rfl) (by kernel_rfl) (by kernel_rfl) rfl rfl rfl (v_pick rfl rfl rfl rfl) ?_
 refine a_v 29 rfl (by kernel_rfl) (by kernel_rfl) (by kernel_rfl) rfl rfl rfl (v_move rfl rfl) ?_
 refine a_v 30 rfl (by kernel_rfl) (by kernel_rfl) (by kernel_rfl) rfl rfl rfl (v_move rfl rfl) ?_
 refine a_v 31 rfl (by kernel_rfl) (by kernel_rfl) (by kernel_rfl) rfl rfl rfl (v_len rfl rfl rfl Try.underlying35 rfl rfl) ?_
 refine a_v 32 rfl (by kernel_rfl) (by kernel_rfl) (by kernel_rfl) rfl rfl rfl (OpV.cast (v := .bool true) (v_arith rfl rfl rfl rfl) (congrArg Value.bool h168_)) ?_
 refine a_v 33 rfl (by kernel_rfl) (by kernel_rfl) (by kernel_rfl) rfl rfl rfl (v_pick rfl rfl rfl rfl) ?_
 refine a_v 34 rfl (by kernel_rfl) (by kernel_rfl) (by kernel_rfl) rfl rfl rfl (v_move rfl rfl) ?_
 refine a_v 35 rfl (by kernel_rfl) (by kernel_rfl) (by kernel_rfl) rfl rfl rfl (v_move rfl rfl) ?_
 refine a_v 36 rfl (by kernel_rfl) (by kernel_rfl) (by kernel_rfl) rfl rfl rfl (v_iaK (i := 0) rfl Try.underlying35 SZ61 rfl rfl rfl rfl (by decide) n169_) ?_
 refine a_v 37 rfl (by kernel_rfl) (by kernel_rfl) (by kernel_rfl) rfl rfl rfl (v_fax rfl Try.underlying61 rfl SZ25 rfl) ?_
 refine a_v 38 rfl (by kernel_rfl) (by kernel_rfl) (by kernel_rfl) rfl rfl rfl (v_ldKf (v := .int .u64 ((rd_T61 t60_ 0).f0)) z61 [.int .u64 ((rd_T61 t60_ 0).f0), .int .u64 ((rd_T61 t60_ 0).f1)] 0 rfl Try.underlying25 rfl rfl rfl rfl (by decide) n169_ (fun w K h => k61_open h) rfl) ?_
 refine a_v 39 rfl (by kernel_rfl) (by kernel_rfl) (by kernel_rfl) rfl rfl rfl (OpV.cast (v := .bool false) (v_arith rfl rfl rfl rfl) (congrArg Value.bool h170_)) ?_
 refine a_v 40 rfl (by kernel_rfl) (by kernel_rfl) (by kernel_rfl) rfl rfl rfl (v_pick rfl rfl rfl rfl) ?_
 refine a_v 41 rfl (by kernel_rfl) (by kernel_rfl) (by kernel_rfl) rfl rfl rfl (v_move rfl rfl) ?_
 refine a_no 42 rfl (by kernel_rfl) (by kernel_rfl) (by kernel_rfl) rfl rfl rfl ?_
 refine a_no 43 rfl (by kernel_rfl) (by kernel_rfl) (by kernel_rfl) rfl rfl rfl ?_
 refine a_no 44 rfl (by kernel_rfl) (by kernel_rfl) (by kernel_rfl) rfl rfl rfl ?_
 refine a_no 45 rfl (by kernel_rfl) (by kernel_rfl) (by kernel_rfl) rfl rfl rfl ?_
 refine a_no 46 rfl (by kernel_rfl) (by kernel_rfl) (by kernel_rfl) rfl rfl rfl ?_
 refine a_v 47 rfl (by kernel_rfl) (by kernel_rfl) (by kernel_rfl) rfl rfl rfl (v_pick rfl rfl rfl rfl) ?_
 refine a_v 48 rfl (by kernel_rfl) (by kernel_rfl) (by kernel_rfl) rfl rfl rfl (v_move rfl rfl) ?_
 refine a_no 49 rfl (by kernel_rfl) (by kernel_rfl) (by kernel_rfl) rfl rfl rfl ?_
 refine a_no 50 rfl (by kernel_rfl) (by kernel_rfl) (by kernel_rfl) rfl rfl rfl ?_
 refine a_no 51 rfl (by kernel_rfl) (by kernel_rfl) (by kernel_rfl) rfl rfl rfl ?_
 refine a_v 52 rfl (by kernel_rfl) (by kernel_rfl) (by kernel_rfl) rfl rfl rfl (v_pick rfl rfl rfl rfl) ?_
 refine a_v 53 rfl (by kernel_rfl) (by kernel_rfl) (by kernel_rfl) rfl rfl rfl (v_move rfl rfl) ?_
 refine a_no 54 rfl (by kernel_rfl) (by kernel_rfl) (by kernel_rfl) rfl rfl rfl ?_
 refine a_no 55 rfl (by kernel_rfl) (by kernel_rfl) (by kernel_rfl) rfl rfl rfl ?_
 refine a_no 56 rfl (by kernel_rfl) (by kernel_rfl) (by kernel_rfl) rfl rfl rfl ?_
 refine a_no 57 rfl (by kernel_rfl) (by kernel_rfl) (by kernel_rfl) rfl rfl rfl ?_
 refine a_v 58 rfl (by kernel_rfl) (by kernel_rfl) (by kernel_rfl) rfl rfl rfl (v_pick rfl rfl rfl rfl) ?_
 refine a_v 59 rfl (by kernel_rfl) (by kernel_rfl) (by kernel_rfl) rfl rfl rfl (v_move rfl rfl) ?_
 refine a_no 60 rfl (by kernel_rfl) (by kernel_rfl) (by kernel_rfl) rfl rfl rfl ?_
 refine a_no 61 rfl (by kernel_rfl) (by kernel_rfl) (by kernel_rfl) rfl rfl rfl ?_
 refine a_no 62 rfl (by kernel_rfl) (by kernel_rfl) (by kernel_rfl) rfl rfl rfl ?_
 refine a_no 63 rfl (by kernel_rfl) (by kernel_rfl) (by kernel_rfl) rfl rfl rfl ?_
 refine a_no 64 rfl (by kernel_rfl) (by kernel_rfl) (by kernel_rfl) rfl rfl rfl ?_
 refine a_v 65 rfl (by kernel_rfl) (by kernel_rfl) (by kernel_rfl) rfl rfl rfl (v_pick rfl rfl rfl rfl) ?_
 refine a_v 66 rfl (by kernel_rfl) (by kernel_rfl) (by kernel_rfl) rfl rfl rfl (v_assign rfl rfl) ?_
 refine a_end (by kernel_rfl) ?_
 have hq_0 := Option.some.inj H
 subst hq_0
 exact q_seq (c_frame (subF_spec (by exact ⟨rfl, trivial⟩)) (c_take [4, 5, 6, 7, 8, 9] rfl (by decide) (J_ () trivial)))
 replace H := ite_n (ibeq_f h168_) H
 refine r_any [.f (KC k61 z62_.1 z62_.2 t60_), .f (KC k61 A58_ c59_ t56_), .f (KC (Kd.int .u64) A47_ c48_ t45_), .f (KC k46 (some ⟨b44_, 0, none⟩) 2 ([(⟨3, 7, 2, 0, false⟩ : S46), (⟨5, 0, 1, 1, true⟩ : S46)] : List S46)), .f (KC (Kd.int .u64) A37_ c38_ t28_), .b b2_ (.cells #[.int .i64 1, .int .i64 1, .int .i64 2, .int .i64 2, .int .i64 1, .int .i64 1, .int .i64 9] 23 (0, 0))] (by kernel_rfl) rfl (by kernel_rfl) (mem_pick (idx := [0, 1, 2, 3, 4, 5]) rfl) ?_
 refine a_v 0 rfl (by kernel_rfl) (by kernel_rfl) (by kernel_rfl) rfl rfl rfl (v_ldA [.int .i64 1, .int .i64 1, .int .i64 2, .int .i64 2, .int .i64 1, .int .i64 1, .int .i64 9] 5 rfl Try.underlying23 rfl SZ23 rfl rfl rfl rfl) ?_
 refine a_v 1 rfl (by kernel_rfl) (by kernel_rfl) (by kernel_rfl) rfl rfl rfl (v_move rfl rfl) ?_
 refine a_1 (i := 2) (by kernel_rfl) ?_
 refine i_e rfl rfl (e_callF [4] #[.agg #[.int .i64 1, .int .i64 1, .int .i64 2, .int .i64 2, .int .i64 1, .int .i64 1, .int .i64 9], .slice A37_ t28_.length c38_] rfl rfl rfl rfl rfl Try.func17 rfl (by decide) rfl rfl rfl rfl (fun w ht => shape_Right_con _ 1 1 2 2 1 1 9 A37_ c38_ t28_ true e148_ w _)) ?_
 refine ⟨(mem_pick (idx := [0, 1, 2, 3, 4, 5]) rfl), ?_⟩
 refine a_v 3 rfl (by kernel_rfl) (by kernel_rfl) (by kernel_rfl) rfl rfl rfl (v_move rfl rfl) ?_
 refine a_v 4 rfl (by kernel_rfl) (by kernel_rfl) (by kernel_rfl) rfl rfl rfl (v_ldA [.int .i64 1, .int .i64 1, .int .i64 2, .int .i64 2, .int .i64 1, .int .i64 1, .int .i64 9] 5 rfl Try.underlying23 rfl SZ23 rfl rfl rfl rfl) ?_
 refine a_v 5 rfl (by kernel_rfl) (by kernel_rfl) (by kernel_rfl) rfl rfl rfl (v_move rfl rfl) ?_
 refine a_1 (i := 6) (by kernel_rfl) ?_
 refine i_knowT (KC_nil (Kd.slice 81 k81)) ?_
 refine i_e rfl rfl (e_callF [5, 0] #[.agg #[.int .i64 1, .int .i64 1, .int .i64 2, .int .i64 2, .int .i64 1, .int .i64 1, .int .i64 9], .slice A37_ t28_.length c38_, .slice none 0 0] rfl rfl rfl rfl rfl Try.func18 rfl (by decide) rfl rfl rfl rfl (fun w ht => shape_Rest_con _ 1 1 2 2 1 1 9 A37_ c38_ t28_ none 0 ([] : List (List S81)) true e151_ w _)) ?_
 refine ⟨(mem_pick (idx := [1, 2, 3, 4, 5, 6]) rfl), ?_⟩
 refine a_v 7 rfl (by kernel_rfl) (by kernel_rfl) (by kernel_rfl) rfl rfl rfl (v_pick rfl rfl rfl rfl) ?_
 refine a_v 8 rfl (by kernel_rfl) (by kernel_rfl) (by kernel_rfl) rfl rfl rfl (v_move rfl rfl) ?_
 refine a_v 9 rfl (by kernel_rfl) (by kernel_rfl) (by kernel_rfl) rfl rfl rfl (v_ldA [.int .i64 1, .int .i64 1, .int .i64 2, .int .i64 2, .int .i64 1, .int .i64 1, .int .i64 9] 5 rfl Try.underlying23 rfl SZ23 rfl rfl rfl rfl) ?_
 refine a_v 10 rfl (by kernel_rfl) (by kernel_rfl) (by kernel_rfl) rfl rfl rfl (v_move rfl rfl) ?_
 refine a_1 (i := 11) (by kernel_rfl) ?_
 refine i_e rfl rfl (e_callF [3] #[.agg #[.int .i64 1, .int .i64 1, .int .i64 2, .int .i64 2, .int .i64 1, .int .i64 1, .int .i64 9], .slice A47_ t45_.length c48_, .int .i64 0] rfl rfl rfl rfl rfl Try.func9 rfl (by decide) rfl rfl rfl rfl (fun w ht => shape_Level_con _ 1 1 2 2 1 1 9 A47_ c48_ t45_ 0 t153_ e154_ w _)) ?_
 intro A211_ c212_
 refine ⟨(mem_pick (idx := [2, 3, 4, 5, 6, 7]) rfl), ?_⟩
 refine a_v 12 rfl (by kernel_rfl) (by kernel_rfl) (by kernel_rfl) rfl rfl rfl (v_len rfl rfl rfl Try.underlying24 rfl rfl) ?_
 refine a_v 13 rfl (by kernel_rfl) (by kernel_rfl) (by kernel_rfl) rfl rfl rfl (OpV.cast (v := .bool true) (v_arith rfl rfl rfl rfl) (congrArg Value.bool h157_)) ?_
 refine a_v 14 rfl (by kernel_rfl) (by kernel_rfl) (by kernel_rfl) rfl rfl rfl (v_pick rfl rfl rfl rfl) ?_
 refine a_v 15 rfl (by kernel_rfl) (by kernel_rfl) (by kernel_rfl) rfl rfl rfl (v_move rfl rfl) ?_
 refine a_v 16 rfl (by kernel_rfl) (by kernel_rfl) (by kernel_rfl) rfl rfl rfl (v_ldA [.int .i64 1, .int .i64 1, .int .i64 2, .int .i64 2, .int .i64 1, .int .i64 1, .int .i64 9] 5 rfl Try.underlying23 rfl SZ23 rfl rfl rfl rfl) ?_
 refine a_v 17 rfl (by kernel_rfl) (by kernel_rfl) (by kernel_rfl) rfl rfl rfl (v_move rfl rfl) ?_
 refine a_1 (i := 18) (by kernel_rfl) ?_
 refine i_e rfl rfl (e_callF [4] #[.agg #[.int .i64 1, .int .i64 1, .int .i64 2, .int .i64 2, .int .i64 1, .int .i64 1, .int .i64 9], .slice A47_ t45_.length c48_, .int .i64 1] rfl rfl rfl rfl rfl Try.func9 rfl (by decide) rfl rfl rfl rfl (fun w ht => shape_Level_con _ 1 1 2 2 1 1 9 A47_ c48_ t45_ 1 t158_ e159_ w _)) ?_
 intro A213_ c214_
 refine ⟨(mem_pick (idx := [3, 4, 5, 6, 7, 8]) rfl), ?_⟩
 refine a_v 19 rfl (by kernel_rfl) (by kernel_rfl) (by kernel_rfl) rfl rfl rfl (v_len rfl rfl rfl Try.underlying24 rfl rfl) ?_
 refine a_v 20 rfl (by kernel_rfl) (by kernel_rfl) (by kernel_rfl) rfl rfl rfl (OpV.cast (v := .bool true) (v_arith rfl rfl rfl rfl) (congrArg Value.bool h162_)) ?_
 refine a_v 21 rfl (by kernel_rfl) (by kernel_rfl) (by kernel_rfl) rfl rfl rfl (v_pick rfl rfl rfl rfl) ?_
 refine a_v 22 rfl (by kernel_rfl) (by kernel_rfl) (by kernel_rfl) rfl rfl rfl (v_move rfl rfl) ?_
 refine a_v 23 rfl (by kernel_rfl) (by kernel_rfl) (by kernel_rfl) rfl rfl rfl (v_ldA [.int .i64 1, .int .i64 1, .int .i64 2, .int .i64 2, .int .i64 1, .int .i64 1, .int .i64 9] 5 rfl Try.underlying23 rfl SZ23 rfl rfl rfl rfl) ?_
 refine a_v 24 rfl (by kernel_rfl) (by kernel_rfl) (by kernel_rfl) rfl rfl rfl (v_move rfl rfl) ?_
 refine a_1 (i := 25) (by kernel_rfl) ?_
 refine i_e rfl rfl (e_callF [5] #[.agg #[.int .i64 1, .int .i64 1, .int .i64 2, .int .i64 2, .int .i64 1, .int .i64 1, .int .i64 9], .slice A47_ t45_.length c48_, .int .i64 2] rfl rfl rfl rfl rfl Try.func9 rfl (by decide) rfl rfl rfl rfl (fun w ht => shape_Level_con _ 1 1 2 2 1 1 9 A47_ c48_ t45_ 2 t163_ e164_ w _)) ?_
 intro A215_ c216_
 refine ⟨(mem_pick (idx := [4, 5, 6, 7, 8, 9]) rfl), ?_⟩
 refine a_v 26 rfl (by kernel_rfl) (by kernel_rfl) (by kernel_rfl) rfl rfl rfl (v_len rfl rfl rfl Try.underlying24 rfl rfl) ?_
 refine a_v 27 rfl (by kernel_rfl) (by kernel_rfl) (by kernel_rfl) rfl rfl rfl (OpV.cast (v := .bool true) (v_arith rfl rfl rfl rfl) (congrArg Value.bool h167_)) ?_
 refine a_v 28 rfl (by kernel_rfl) (by kernel_rfl) (by kernel_rfl) rfl rfl rfl (v_pick rfl rfl rfl rfl) ?_
 refine a_v 29 rfl (by kernel_rfl) (by kernel_rfl) (by kernel_rfl) rfl rfl rfl (v_move rfl rfl) ?_
 refine a_v 30 rfl (by kernel_rfl) (by kernel_rfl) (by kernel_rfl) rfl rfl rfl (v_move rfl rfl) ?_
 refine a_v 31 rfl (by kernel_rfl) (by kernel_rfl) (by kernel_rfl) rfl rfl rfl (v_len rfl rfl rfl Try.underlying35 rfl rfl) ?_
 refine a_v 32 rfl (by kernel_rfl) (by kernel_rfl) (by kernel_rfl) rfl rfl rfl (OpV.cast (v := .bool false) (v_arith rfl rfl rfl rfl) (congrArg Value.bool h168_)) ?_
 refine a_v 33 rfl (by kernel_rfl) (by kernel_rfl) (by kernel_rfl) rfl rfl rfl (v_pick rfl rfl rfl rfl) ?_
 refine a_v 34 rfl (by kernel_rfl) (by kernel_rfl) (by kernel_rfl) rfl rfl rfl (v_move rfl rfl) ?_
 refine a_no 35 rfl (by kernel_rfl) (by kernel_rfl) (by kernel_rfl) rfl rfl rfl ?_
 refine a_no 36 rfl (by kernel_rfl) (by kernel_rfl) (by kernel_rfl) rfl rfl rfl ?_
 refine a_no 37 rfl (by kernel_rfl) (by kernel_rfl) (by kernel_rfl) rfl rfl rfl ?_
 refine a_no 38 rfl (by kernel_rfl) (by kernel_rfl) (by kernel_rfl) rfl rfl rfl ?_
 refine a_no 39 rfl (by kernel_rfl) (by kernel_rfl) (by kernel_rfl) rfl rfl rfl ?_
 refine a_v 40 rfl (by kernel_rfl) (by kernel_rfl) (by kernel_rfl) rfl rfl rfl (v_pick rfl rfl rfl rfl) ?_
 refine a_v 41 rfl (by kernel_rfl) (by kernel_rfl) (by kernel_rfl) rfl rfl rfl (v_move rfl rfl) ?_
 refine a_no 42 rfl (by kernel_rfl) (by kernel_rfl) (by kernel_rfl) rfl rfl rfl ?_
 refine a_no 43 rfl (by kernel_rfl) (by kernel_rfl) (by kernel_rfl) rfl rfl rfl ?_
 refine a_no 44 rfl (by kernel_rfl) (by kernel_rfl) (by kernel_rfl) rfl rfl rfl ?_
 refine a_no 45 rfl (by kernel_rfl) (by kernel_rfl) (by kernel_rfl) rfl rfl rfl ?_
 refine a_no 46 rfl (by kernel_rfl) (by kernel_rfl) (by kernel_rfl) rfl rfl rfl ?_
 refine a_v 47 rfl (by kernel_rfl) (by kernel_rfl) (by kernel_rfl) rfl rfl rfl (v_pick rfl rfl rfl rfl) ?_
 refine a_v 48 rfl (by kernel_rfl) (by kernel_rfl) (by kernel_rfl) rfl rfl rfl (v_move rfl rfl) ?_
 refine a_no 49 rfl (by kernel_rfl) (by kernel_rfl) (by kernel_rfl) rfl rfl rfl ?_
 refine a_no 50 rfl (by kernel_rfl) (by kernel_rfl) (by kernel_rfl) rfl rfl rfl ?_
 refine a_no 51 rfl (by kernel_rfl) (by kernel_rfl) (by kernel_rfl) rfl rfl rfl ?_
 refine a_v 52 rfl (by kernel_rfl) (by kernel_rfl) (by kernel_rfl) rfl rfl rfl (v_pick rfl rfl rfl rfl) ?_
 refine a_v 53 rfl (by kernel_rfl) (by kernel_rfl) (by kernel_rfl) rfl rfl rfl (v_move rfl rfl) ?_
 refine a_no 54 rfl (by kernel_rfl) (by kernel_rfl) (by kernel_rfl) rfl rfl rfl ?_
 refine a_no 55 rfl (by kernel_rfl) (by kernel_rfl) (by kernel_rfl) rfl rfl rfl ?_
 refine a_no 56 rfl (by kernel_rfl) (by kernel_rfl) (by kernel_rfl) rfl rfl rfl ?_
 refine a_no 57 rfl (by kernel_rfl) (by kernel_rfl) (by kernel_rfl) rfl rfl rfl ?_
 refine a_v 58 rfl (by kernel_rfl) (by kernel_rfl) (by kernel_rfl) rfl rfl rfl (v_pick rfl rfl rfl rfl) ?_
 refine a_v 59 rfl (by kernel_rfl) (by kernel_rfl) (by kernel_rfl) rfl rfl rfl (v_move rfl rfl) ?_
 refine a_no 60 rfl (by kernel_rfl) (by kernel_rfl) (by kernel_rfl) rfl rfl rfl ?_
 refine a_no 61 rfl (by kernel_rfl) (by kernel_rfl) (by kernel_rfl) rfl rfl rfl ?_
 refine a_no 62 rfl (by kernel_rfl) (by kernel_rfl) (by kernel_rfl) rfl rfl rfl ?_
 refine a_no 63 rfl (by kernel_rfl) (by kernel_rfl) (by kernel_rfl) rfl rfl rfl ?_
 refine a_no 64 rfl (by kernel_rfl) (by kernel_rfl) (by kernel_rfl) rfl rfl rfl ?_
 refine a_v 65 rfl (by kernel_rfl) (by kernel_rfl) (by kernel_rfl) rfl rfl rfl (v_pick rfl rfl rfl rfl) ?_
 refine a_v 66 rfl (by kernel_rfl) (by kernel_rfl) (by kernel_rfl) rfl rfl rfl (v_assign rfl rfl) ?_
 refine a_end (by kernel_rfl) ?_
 have hq_0 := Option.some.inj H
 subst hq_0
 exact q_seq (c_frame (subF_spec (by exact ⟨rfl, trivial⟩)) (c_take [4, 5, 6, 7, 8, 9] rfl (by decide) (J_ () trivial)))
 replace H := ite_n (ibeq_f h167_) H
 refine r_any [.f (KC k61 z62_.1 z62_.2 t60_), .f (KC k61 A58_ c59_ t56_), .f (KC (Kd.int .u64) A47_ c48_ t45_), .f (KC k46 (some ⟨b44_, 0, none⟩) 2 ([(⟨3, 7, 2, 0, false⟩ : S46), (⟨5, 0, 1, 1, true⟩ : S46)] : List S46)), .f (KC (Kd.int .u64) A37_ c38_ t28_), .b b2_ (.cells #[.int .i64 1, .int .i64 1, .int .i64 2, .int .i64 2, .int .i64 1, .int .i64 1, .int .i64 9] 23 (0, 0))] (by kernel_rfl) rfl (by kernel_rfl) (mem_pick (idx := [0, 1, 2, 3, 4, 5]) rfl) ?_
 refine a_v 0 rfl (by kernel_rfl) (by kernel_rfl) (by kernel_rfl) rfl rfl rfl (v_ldA [.int .i64 1, .int .i64 1, .int .i64 2, .int .i64 2, .int .i64 1, .int .i64 1, .int .i64 9] 5 rfl Try.underlying23 rfl SZ23 rfl rfl rfl rfl) ?_
 refine a_v 1 rfl (by kernel_rfl) (by kernel_rfl) (by kernel_rfl) rfl rfl rfl (v_move rfl rfl) ?_
 refine a_1 (i := 2) (by kernel_rfl) ?_
 refine i_e rfl rfl (e_callF [4] #[.agg #[.int .i64 1, .int .i64 1, .int .i64 2, .int .i64 2, .int .i64 1, .int .i64 1, .int .i64 9], .slice A37_ t28_.length c38_] rfl rfl rfl rfl rfl Try.func17 rfl (by decide) rfl rfl rfl rfl (fun w ht => shape_Right_con _ 1 1 2 2 1 1 9 A37_ c38_ t28_ true e148_ w _)) ?_
 refine ⟨(mem_pick (idx := [0, 1, 2, 3, 4, 5]) rfl), ?_⟩
 refine a_v 3 rfl (by kernel_rfl) (by kernel_rfl) (by kernel_rfl) rfl rfl rfl (v_move rfl rfl) ?_
 refine a_v 4 rfl (by kernel_rfl) (by kernel_rfl) (by kernel_rfl) rfl rfl rfl (v_ldA [.int .i64 1, .int .i64 1, .int .i64 2, .int .i64 2, .int .i64 1, .int .i64 1, .int .i64 9] 5 rfl Try.underlying23 rfl SZ23 rfl rfl rfl rfl) ?_
 refine a_v 5 rfl (by kernel_rfl) (by kernel_rfl) (by kernel_rfl) rfl rfl rfl (v_move rfl rfl) ?_
 refine a_1 (i := 6) (by kernel_rfl) ?_
 refine i_knowT (KC_nil (Kd.slice 81 k81)) ?_
 refine i_e rfl rfl (e_callF [5, 0] #[.agg #[.int .i64 1, .int .i64 1, .int .i64 2, .int .i64 2, .int .i64 1, .int .i64 1, .int .i64 9], .slice A37_ t28_.length c38_, .slice none 0 0] rfl rfl rfl rfl rfl Try.func18 rfl (by decide) rfl rfl rfl rfl (fun w ht => shape_Rest_con _ 1 1 2 2 1 1 9 A37_ c38_ t28_ none 0 ([] : List (List S81)) true e151_ w _)) ?_
 refine ⟨(mem_pick (idx := [1, 2, 3, 4, 5, 6]) rfl), ?_⟩
 refine a_v 7 rfl (by kernel_rfl) (by kernel_rfl) (by kernel_rfl) rfl rfl rfl (v_pick rfl rfl rfl rfl) ?_
 refine a_v 8 rfl (by kernel_rfl) (by kernel_rfl) (by kernel_rfl) rfl rfl rfl (v_move rfl rfl) ?_
 refine a_v 9 rfl (by kernel_rfl) (by kernel_rfl) (by kernel_rfl) rfl rfl rfl (v_ldA [.int .i64 1, .int .i64 1, .int .i64 2, .int .i64 2, .int .i64 1, .int .i64 1, .int .i64 9] 5 rfl Try.underlying23 rfl SZ23 rfl rfl rfl rfl) ?_
 refine a_v 10 rfl (by kernel_rfl) (by kernel_rfl) (by kernel_rfl) rfl rfl rfl (v_move rfl rfl) ?_
 refine a_1 (i := 11) (by kernel_rfl) ?_
 refine i_e rfl rfl (e_callF [3] #[.agg #[.int .i64 1, .int .i64 1, .int .i64 2, .int .i64 2, .int .i64 1, .int .i64 1, .int .i64 9], .slice A47_ t45_.length c48_, .int .i64 0] rfl rfl rfl rfl rfl Try.func9 rfl (by decide) rfl rfl rfl rfl (fun w ht => shape_Level_con _ 1 1 2 2 1 1 9 A47_ c48_ t45_ 0 t153_ e154_ w _)) ?_
 intro A217_ c218_
 refine ⟨(mem_pick (idx := [2, 3, 4, 5, 6, 7]) rfl), ?_⟩
 refine a_v 12 rfl (by kernel_rfl) (by kernel_rfl) (by kernel_rfl) rfl rfl rfl (v_len rfl rfl rfl Try.underlying24 rfl rfl) ?_
 refine a_v 13 rfl (by kernel_rfl) (by kernel_rfl) (by kernel_rfl) rfl rfl rfl (OpV.cast (v := .bool true) (v_arith rfl rfl rfl rfl) (congrArg Value.bool h157_)) ?_
 refine a_v 14 rfl (by kernel_rfl) (by kernel_rfl) (by kernel_rfl) rfl rfl rfl (v_pick rfl rfl rfl rfl) ?_
 refine a_v 15 rfl (by kernel_rfl) (by kernel_rfl) (by kernel_rfl) rfl rfl rfl (v_move rfl rfl) ?_
 refine a_v 16 rfl (by kernel_rfl) (by kernel_rfl) (by kernel_rfl) rfl rfl rfl (v_ldA [.int .i64 1, .int .i64 1, .int .i64 2, .int .i64 2, .int .i64 1, .int .i64 1, .int .i64 9] 5 rfl Try.underlying23 rfl SZ23 rfl rfl rfl rfl) ?_
 refine a_v 17 rfl (by kernel_rfl) (by kernel_rfl) (by kernel_rfl) rfl rfl rfl (v_move rfl rfl) ?_
 refine a_1 (i := 18) (by kernel_rfl) ?_
 refine i_e rfl rfl (e_callF [4] #[.agg #[.int .i64 1, .int .i64 1, .int .i64 2, .int .i64 2, .int .i64 1, .int .i64 1, .int .i64 9], .slice A47_ t45_.length c48_, .int .i64 1] rfl rfl rfl rfl rfl Try.func9 rfl (by decide) rfl rfl rfl rfl (fun w ht => shape_Level_con _ 1 1 2 2 1 1 9 A47_ c48_ t45_ 1 t158_ e159_ w _)) ?_
 intro A219_ c220_
 refine ⟨(mem_pick (idx := [3, 4, 5, 6, 7, 8]) rfl), ?_⟩
 refine a_v 19 rfl (by kernel_rfl) (by kernel_rfl) (by kernel_rfl) rfl rfl rfl (v_len rfl rfl rfl Try.underlying24 rfl rfl) ?_
 refine a_v 20 rfl (by kernel_rfl) (by kernel_rfl) (by kernel_rfl) rfl rfl rfl (OpV.cast (v := .bool true) (v_arith rfl rfl rfl rfl) (congrArg Value.bool h162_)) ?_
 refine a_v 21 rfl (by kernel_rfl) (by kernel_rfl) (by kernel_rfl) rfl rfl rfl (v_pick rfl rfl rfl rfl) ?_
 refine a_v 22 rfl (by kernel_rfl) (by kernel_rfl) (by kernel_rfl) rfl rfl rfl (v_move rfl rfl) ?_
 refine a_v 23 rfl (by kernel_rfl) (by kernel_rfl) (by kernel_rfl) rfl rfl rfl (v_ldA [.int .i64 1, .int .i64 1, .int .i64 2, .int .i64 2, .int .i64 1, .int .i64 1, .int .i64 9] 5 rfl Try.underlying23 rfl SZ23 rfl rfl rfl rfl) ?_
 refine a_v 24 rfl (by kernel_rfl) (by kernel_rfl) (by kernel_rfl) rfl rfl rfl (v_move rfl rfl) ?_
 refine a_1 (i := 25) (by kernel_rfl) ?_
 refine i_e rfl rfl (e_callF [5] #[.agg #[.int .i64 1, .int .i64 1, .int .i64 2, .int .i64 2, .int .i64 1, .int .i64 1, .int .i64 9], .slice A47_ t45_.length c48_, .int .i64 2] rfl rfl rfl rfl rfl Try.func9 rfl (by decide) rfl rfl rfl rfl (fun w ht => shape_Level_con _ 1 1 2 2 1 1 9 A47_ c48_ t45_ 2 t163_ e164_ w _)) ?_
 intro A221_ c222_
 refine ⟨(mem_pick (idx := [4, 5, 6, 7, 8, 9]) rfl), ?_⟩
 refine a_v 26 rfl (by kernel_rfl) (by kernel_rfl) (by kernel_rfl) rfl rfl rfl (v_len rfl rfl rfl Try.underlying24 rfl rfl) ?_
 refine a_v 27 rfl (by kernel_rfl) (by kernel_rfl) (by kernel_rfl) rfl rfl rfl (OpV.cast (v := .bool false) (v_arith rfl rfl rfl rfl) (congrArg Value.bool h167_)) ?_
 refine a_v 28 rfl (by kernel_rfl) (by kernel_rfl) (by kernel_rfl) rfl rfl rfl (v_pick rfl rfl rfl rfl) ?_
 refine a_v 29 rfl (by kernel_rfl) (by kernel_rfl) (by kernel_rfl) rfl rfl rfl (v_move rfl rfl) ?_
 refine a_no 30 rfl (by kernel_rfl) (by kernel_rfl) (by kernel_rfl) rfl rfl rfl ?_
 refine a_no 31 rfl (by kernel_rfl) (by kernel_rfl) (by kernel_rfl) rfl rfl rfl ?_
 refine a_no 32 rfl (by kernel_rfl) (by kernel_rfl) (by kernel_rfl) rfl rfl rfl ?_
 refine a_v 33 rfl (by kernel_rfl) (by kernel_rfl) (by kernel_rfl) rfl rfl rfl (v_pick rfl rfl rfl rfl) ?_
 refine a_v 34 rfl (by kernel_rfl) (by kernel_rfl) (by kernel_rfl) rfl rfl rfl (v_move rfl rfl) ?_
 refine a_no 35 rfl (by kernel_rfl) (by kernel_rfl) (by kernel_rfl) rfl rfl rfl ?_
 refine a_no 36 rfl (by kernel_rfl) (by kernel_rfl) (by kernel_rfl) rfl rfl rfl ?_
 refine a_no 37 rfl (by kernel_rfl) (by kernel_rfl) (by kernel_rfl) rfl rfl rfl ?_
 refine a_no 38 rfl (by kernel_rfl) (by kernel_rfl) (by kernel_rfl) rfl rfl rfl ?_
 refine a_no 39 rfl (by kernel_rfl) (by kernel_rfl) (by kernel_rfl) rfl rfl rfl ?_
 refine a_v 40 rfl (by kernel_rfl) (by kernel_rfl) (by kernel_rfl) rfl rfl rfl (v_pick rfl rfl rfl rfl) ?_
 refine a_v 41 rfl (by kernel_rfl) (by kernel_rfl) (by kernel_rfl) rfl rfl rfl (v_move rfl rfl) ?_
 refine a_no 42 rfl (by kernel_rfl) (by kernel_rfl) (by kernel_rfl) rfl rfl rfl ?_
 refine a_no 43 rfl (by kernel_rfl) (by kernel_rfl) (by kernel_rfl) rfl rfl rfl ?_
 refine a_no 44 rfl (by kernel_rfl) (by kernel_rfl) (by kernel_rfl) rfl rfl rfl ?_
 refine a_no 45 rfl (by kernel_rfl) (by kernel_rfl) (by kernel_rfl) rfl rfl rfl ?_
 refine a_no 46 rfl (by kernel_rfl) (by kernel_rfl) (by kernel_rfl) rfl rfl rfl ?_
 refine a_v 47 rfl (by kernel_rfl) (by kernel_rfl) (by kernel_rfl) rfl rfl rfl (v_pick rfl rfl rfl rfl) ?_
 refine a_v 48 rfl (by kernel_rfl) (by kernel_rfl) (by kernel_rfl) rfl rfl rfl (v_move rfl rfl) ?_
 refine a_no 49 rfl (by kernel_rfl) (by kernel_rfl) (by kernel_rfl) rfl rfl rfl ?_
 refine a_no 50 rfl (by kernel_rfl) (by kernel_rfl) (by kernel_rfl) rfl rfl rfl ?_
 refine a_no 51 rfl (by kernel_rfl) (by kernel_rfl) (by kernel_rfl) rfl rfl rfl ?_
 refine a_v 52 rfl (by kernel_rfl) (by kernel_rfl) (by kernel_rfl) rfl rfl rfl (v_pick rfl rfl rfl rfl) ?_
 refine a_v 53 rfl (by kernel_rfl) (by kernel_rfl) (by kernel_rfl) rfl rfl rfl (v_move rfl rfl) ?_
 refine a_no 54 rfl (by kernel_rfl) (by kernel_rfl) (by kernel_rfl) rfl rfl rfl ?_
 refine a_no 55 rfl (by kernel_rfl) (by kernel_rfl) (by kernel_rfl) rfl rfl rfl ?_
 refine a_no 56 rfl (by kernel_rfl) (by kernel_rfl) (by kernel_rfl) rfl rfl rfl ?_
 refine a_no 57 rfl (by kernel_rfl) (by kernel_rfl) (by kernel_rfl) rfl rfl rfl ?_
 refine a_v 58 rfl (by kernel_rfl) (by kernel_rfl) (by kernel_rfl) rfl rfl rfl (v_pick rfl rfl rfl rfl) ?_
 refine a_v 59 rfl (by kernel_rfl) (by kernel_rfl) (by kernel_rfl) rfl rfl rfl (v_move rfl rfl) ?_
 refine a_no 60 rfl (by kernel_rfl) (by kernel_rfl) (by kernel_rfl) rfl rfl rfl ?_
 refine a_no 61 rfl (by kernel_rfl) (by kernel_rfl) (by kernel_rfl) rfl rfl rfl ?_
 refine a_no 62 rfl (by kernel_rfl) (by kernel_rfl) (by kernel_rfl) rfl rfl rfl ?_
 refine a_no 63 rfl (by kernel_rfl) (by kernel_rfl) (by kernel_rfl) rfl rfl rfl ?_
 refine a_no 64 rfl (by kernel_rfl) (by kernel_rfl) (by kernel_rfl) rfl rfl rfl ?_
 refine a_v 65 rfl (by kernel_rfl) (by kernel_rfl) (by kernel_rfl) rfl rfl rfl (v_pick rfl rfl rfl rfl) ?_
 refine a_v 66 rfl (by kernel_rfl) (by kernel_rfl) (by kernel_rfl) rfl rfl rfl (v_assign rfl rfl) ?_
 refine a_end (by kernel_rfl) ?_
 have hq_0 := Option.some.inj H
 subst hq_0
 exact q_seq (c_frame (subF_spec (by exact ⟨rfl, trivial⟩)) (c_take [4, 5, 6, 7, 8, 9] rfl (by decide) (J_ () trivial)))
 replace H := ite_n (ibeq_f h162_) H
 refine r_any [.f (KC k61 z62_.1 z62_.2 t60_), .f (KC k61 A58_ c59_ t56_), .f (KC (Kd.int .u64) A47_ c48_ t45_), .f (KC k46 (some ⟨b44_, 0, none⟩) 2 ([(⟨3, 7, 2, 0, false⟩ : S46), (⟨5, 0, 1, 1, true⟩ : S46)] : List S46)), .f (KC (Kd.int .u64) A37_ c38_ t28_), .b b2_ (.cells #[.int .i64 1, .int .i64 1, .int .i64 2, .int .i64 2, .int .i64 1, .int .i64 1, .int .i64 9] 23 (0, 0))] (by kernel_rfl) rfl (by kernel_rfl) (mem_pick (idx := [0, 1, 2, 3, 4, 5]) rfl) ?_
 refine a_v 0 rfl (by kernel_rfl) (by kernel_rfl) (by kernel_rfl) rfl rfl rfl (v_ldA [.int .i64 1, .int .i64 1, .int .i64 2, .int .i64 2, .int .i64 1, .int .i64 1, .int .i64 9] 5 rfl Try.underlying23 rfl SZ23 rfl rfl rfl rfl) ?_
 refine a_v 1 rfl (by kernel_rfl) (by kernel_rfl) (by kernel_rfl) rfl rfl rfl (v_move rfl rfl) ?_
 refine a_1 (i := 2) (by kernel_rfl) ?_
 refine i_e rfl rfl (e_callF [4] #[.agg #[.int .i64 1, .int .i64 1, .int .i64 2, .int .i64 2, .int .i64 1, .int .i64 1, .int .i64 9], .slice A37_ t28_.length c38_] rfl rfl rfl rfl rfl Try.func17 rfl (by decide) rfl rfl rfl rfl (fun w ht => shape_Right_con _ 1 1 2 2 1 1 9 A37_ c38_ t28_ true e148_ w _)) ?_
 refine ⟨(mem_pick (idx := [0, 1, 2, 3, 4, 5]) rfl), ?_⟩
 refine a_v 3 rfl (by kernel_rfl) (by kernel_rfl) (by kernel_rfl) rfl rfl rfl (v_move rfl rfl) ?_
 refine a_v 4 rfl (by kernel_rfl) (by kernel_rfl) (by kernel_rfl) rfl rfl rfl (v_ldA [.int .i64 1, .int .i64 1, .int .i64 2, .int .i64 2, .int .i64 1, .int .i64 1, .int .i64 9] 5 rfl Try.underlying23 rfl SZ23 rfl rfl rfl rfl) ?_
 refine a_v 5 rfl (by kernel_rfl) (by kernel_rfl) (by kernel_rfl) rfl rfl rfl (v_move rfl rfl) ?_
 refine a_1 (i := 6) (by kernel_rfl) ?_
 refine i_knowT (KC_nil (Kd.slice 81 k81)) ?_
 refine i_e rfl rfl (e_callF [5, 0] #[.agg #[.int .i64 1, .int .i64 1, .int .i64 2, .int .i64 2, .int .i64 1, .int .i64 1, .int .i64 9], .slice A37_ t28_.length c38_, .slice none 0 0] rfl rfl rfl rfl rfl Try.func18 rfl (by decide) rfl rfl rfl rfl (fun w ht => shape_Rest_con _ 1 1 2 2 1 1 9 A37_ c38_ t28_ none 0 ([] : List (List S81)) true e151_ w _)) ?_
 refine ⟨(mem_pick (idx := [1, 2, 3, 4, 5, 6]) rfl), ?_⟩
 refine a_v 7 rfl (by kernel_rfl) (by kernel_rfl) (by kernel_rfl) rfl rfl rfl (v_pick rfl rfl rfl rfl) ?_
 refine a_v 8 rfl (by kernel_rfl) (by kernel_rfl) (by kernel_rfl) rfl rfl rfl (v_move rfl rfl) ?_
 refine a_v 9 rfl (by kernel_rfl) (by kernel_rfl) (by kernel_rfl) rfl rfl rfl (v_ldA [.int .i64 1, .int .i64 1, .int .i64 2, .int .i64 2, .int .i64 1, .int .i64 1, .int .i64 9] 5 rfl Try.underlying23 rfl SZ23 rfl rfl rfl rfl) ?_
 refine a_v 10 rfl (by kernel_rfl) (by kernel_rfl) (by kernel_rfl) rfl rfl rfl (v_move rfl rfl) ?_
 refine a_1 (i := 11) (by kernel_rfl) ?_
 refine i_e rfl rfl (e_callF [3] #[.agg #[.int .i64 1, .int .i64 1, .int .i64 2, .int .i64 2, .int .i64 1, .int .i64 1, .int .i64 9], .slice A47_ t45_.length c48_, .int .i64 0] rfl rfl rfl rfl rfl Try.func9 rfl (by decide) rfl rfl rfl rfl (fun w ht => shape_Level_con _ 1 1 2 2 1 1 9 A47_ c48_ t45_ 0 t153_ e154_ w _)) ?_
 intro A223_ c224_
 refine ⟨(mem_pick (idx := [2, 3, 4, 5, 6, 7]) rfl), ?_⟩
 refine a_v 12 rfl (by kernel_rfl) (by kernel_rfl) (by kernel_rfl) rfl rfl rfl (v_len rfl rfl rfl Try.underlying24 rfl rfl) ?_
 refine a_v 13 rfl (by kernel_rfl) (by kernel_rfl) (by kernel_rfl) rfl rfl rfl (OpV.cast (v := .bool true) (v_arith rfl rfl rfl rfl) (congrArg Value.bool h157_)) ?_
 refine a_v 14 rfl (by kernel_rfl) (by kernel_rfl) (by kernel_rfl) rfl rfl rfl (v_pick rfl rfl rfl rfl) ?_
 refine a_v 15 rfl (by kernel_rfl) (by kernel_rfl) (by kernel_rfl) rfl rfl rfl (v_move rfl rfl) ?_
 refine a_v 16 rfl (by kernel_rfl) (by kernel_rfl) (by kernel_rfl) rfl rfl rfl (v_ldA [.int .i64 1, .int .i64 1, .int .i64 2, .int .i64 2, .int .i64 1, .int .i64 1, .int .i64 9] 5 rfl Try.underlying23 rfl SZ23 rfl rfl rfl rfl) ?_
 refine a_v 17 rfl (by kernel_rfl) (by kernel_rfl) (by kernel_rfl) rfl rfl rfl (v_move rfl rfl) ?_
 refine a_1 (i := 18) (by kernel_rfl) ?_
 refine i_e rfl rfl (e_callF [4] #[.agg #[.int .i64 1, .int .i64 1, .int .i64 2, .int .i64 2, .int .i64 1, .int .i64 1, .int .i64 9], .slice A47_ t45_.length c48_, .int .i64 1] rfl rfl rfl rfl rfl Try.func9 rfl (by decide) rfl rfl rfl rfl (fun w ht => shape_Level_con _ 1 1 2 2 1 1 9 A47_ c48_ t45_ 1 t158_ e159_ w _)) ?_
 intro A225_ c226_
 refine ⟨(mem_pick (idx := [3, 4, 5, 6, 7, 8]) rfl), ?_⟩
 refine a_v 19 rfl (by kernel_rfl) (by kernel_rfl) (by kernel_rfl) rfl rfl rfl (v_len rfl rfl rfl Try.underlying24 rfl rfl) ?_
 refine a_v 20 rfl (by kernel_rfl) (by kernel_rfl) (by kernel_rfl) rfl rfl rfl (OpV.cast (v := .bool false) (v_arith rfl rfl rfl rfl) (congrArg Value.bool h162_)) ?_
 refine a_v 21 rfl (by kernel_rfl) (by kernel_rfl) (by kernel_rfl) rfl rfl rfl (v_pick rfl rfl rfl rfl) ?_
 refine a_v 22 rfl (by kernel_rfl) (by kernel_rfl) (by kernel_rfl) rfl rfl rfl (v_move rfl rfl) ?_
 refine a_no 23 rfl (by kernel_rfl) (by kernel_rfl) (by kernel_rfl) rfl rfl rfl ?_
 refine a_no 24 rfl (by kernel_rfl) (by kernel_rfl) (by kernel_rfl) rfl rfl rfl ?_
 refine a_no 25 rfl (by kernel_rfl) (by kernel_rfl) (by kernel_rfl) rfl rfl rfl ?_
 refine a_no 26 rfl (by kernel_rfl) (by kernel_rfl) (by kernel_rfl) rfl rfl rfl ?_
 refine a_no 27 rfl (by kernel_rfl) (by kernel_rfl) (by kernel_rfl) rfl rfl rfl ?_
 refine a_v 28 rfl (by kernel_rfl) (by kernel_rfl) (by kernel_rfl) rfl rfl rfl (v_pick rfl rfl rfl rfl) ?_
 refine a_v 29 rfl (by kernel_rfl) (by kernel_rfl) (by kernel_rfl) rfl rfl rfl (v_move rfl rfl) ?_
 refine a_no 30 rfl (by kernel_rfl) (by kernel_rfl) (by kernel_rfl) rfl rfl rfl ?_
 refine a_no 31 rfl (by kernel_rfl) (by kernel_rfl) (by kernel_rfl) rfl rfl rfl ?_
 refine a_no 32 rfl (by kernel_rfl) (by kernel_rfl) (by kernel_rfl) rfl rfl rfl ?_
 refine a_v 33 rfl (by kernel_rfl) (by kernel_rfl) (by kernel_rfl) rfl rfl rfl (v_pick rfl rfl rfl rfl) ?_
 refine a_v 34 rfl (by kernel_rfl) (by kernel_rfl) (by kernel_rfl) rfl rfl rfl (v_move rfl rfl) ?_
 refine a_no 35 rfl (by kernel_rfl) (by kernel_rfl) (by kernel_rfl) rfl rfl rfl ?_
 refine a_no 36 rfl (by kernel_rfl) (by kernel_rfl) (by kernel_rfl) rfl rfl rfl ?_
 refine a_no 37 rfl (by kernel_rfl) (by kernel_rfl) (by kernel_rfl) rfl rfl rfl ?_
 refine a_no 38 rfl (by kernel_rfl) (by kernel_rfl) (by kernel_rfl) rfl rfl rfl ?_
 refine a_no 39 rfl (by kernel_rfl) (by kernel_rfl) (by kernel_rfl) rfl rfl rfl ?_
 refine a_v 40 rfl (by kernel_rfl) (by kernel_rfl) (by kernel_rfl) rfl rfl rfl (v_pick rfl rfl rfl rfl) ?_
 refine a_v 41 rfl (by kernel_rfl) (by kernel_rfl) (by kernel_rfl) rfl rfl rfl (v_move rfl rfl) ?_
 refine a_no 42 rfl (by kernel_rfl) (by kernel_rfl) (by kernel_rfl) rfl rfl rfl ?_
 refine a_no 43 rfl (by kernel_rfl) (by kernel_rfl) (by kernel_rfl) rfl rfl rfl ?_
 refine a_no 44 rfl (by kernel_rfl) (by kernel_rfl) (by kernel_rfl) rfl rfl rfl ?_
 refine a_no 45 rfl (by kernel_rfl) (by kernel_rfl) (by kernel_rfl) rfl rfl rfl ?_
 refine a_no 46 rfl (by kernel_rfl) (by kernel_rfl) (by kernel_rfl) rfl rfl rfl ?_
 refine a_v 47 rfl (by kernel_rfl) (by kernel_rfl) (by kernel_rfl) rfl rfl rfl (v_pick rfl rfl rfl rfl) ?_
 refine a_v 48 rfl (by kernel_rfl) (by kernel_rfl) (by kernel_rfl) rfl rfl rfl (v_move rfl rfl) ?_
 refine a_no 49 rfl (by kernel_rfl) (by kernel_rfl) (by kernel_rfl) rfl rfl rfl ?_
 refine a_no 50 rfl (by kernel_rfl) (by kernel_rfl) (by kernel_rfl) rfl rfl rfl ?_
 refine a_no 51 rfl (by kernel_rfl) (by kernel_rfl) (by kernel_rfl) rfl rfl rfl ?_
 refine a_v 52 rfl (by kernel_rfl) (by kernel_rfl) (by kernel_rfl) rfl rfl rfl (v_pick rfl rfl rfl rfl) ?_
 refine a_v 53 rfl (by kernel_rfl) (by kernel_rfl) (by kernel_rfl) rfl rfl rfl (v_move rfl rfl) ?_
 refine a_no 54 rfl (by kernel_rfl) (by kernel_rfl) (by kernel_rfl) rfl rfl rfl ?_
 refine a_no 55 rfl (by kernel_rfl) (by kernel_rfl) (by kernel_rfl) rfl rfl rfl ?_
 refine a_no 56 rfl (by kernel_rfl) (by kernel_rfl) (by kernel_rfl) rfl rfl rfl ?_
 refine a_no 57 rfl (by kernel_rfl) (by kernel_rfl) (by kernel_rfl) rfl rfl rfl ?_
 refine a_v 58 rfl (by kernel_rfl) (by kernel_rfl) (by kernel_rfl) rfl rfl rfl (v_pick rfl rfl rfl rfl) ?_
 refine a_v 59 rfl (by kernel_rfl) (by kernel_rfl) (by kernel_rfl) rfl rfl rfl (v_move rfl rfl) ?_
 refine a_no 60 rfl (by kernel_rfl) (by kernel_rfl) (by kernel_rfl) rfl rfl rfl ?_
 refine a_no 61 rfl (by kernel_rfl) (by kernel_rfl) (by kernel_rfl) rfl rfl rfl ?_
 refine a_no 62 rfl (by kernel_rfl) (by kernel_rfl) (by kernel_rfl) rfl rfl rfl ?_
 refine a_no 63 rfl (by kernel_rfl) (by kernel_rfl) (by kernel_rfl) rfl rfl rfl ?_
 refine a_no 64 rfl (by kernel_rfl) (by kernel_rfl) (by kernel_rfl) rfl rfl rfl ?_
 refine a_v 65 rfl (by kernel_rfl) (by kernel_rfl) (by kernel_rfl) rfl rfl rfl (v_pick rfl rfl rfl rfl) ?_
 refine a_v 66 rfl (by kernel_rfl) (by kernel_rfl) (by kernel_rfl) rfl rfl rfl (v_assign rfl rfl) ?_
 refine a_end (by kernel_rfl) ?_
 have hq_0 := Option.some.inj H
 subst hq_0
 exact q_seq (c_frame (subF_spec (by exact ⟨rfl, trivial⟩)) (c_take [3, 4, 5, 6, 7, 8] rfl (by decide) (J_ () trivial)))
 replace H := ite_n (ibeq_f h157_) H
 refine r_any [.f (KC k61 z62_.1 z62_.2 t60_), .f (KC k61 A58_ c59_ t56_), .f (KC (Kd.int .u64) A47_ c48_ t45_), .f (KC k46 (some ⟨b44_, 0, none⟩) 2 ([(⟨3, 7, 2, 0, false⟩ : S46), (⟨5, 0, 1, 1, true⟩ : S46)] : List S46)), .f (KC (Kd.int .u64) A37_ c38_ t28_), .b b2_ (.cells #[.int .i64 1, .int .i64 1, .int .i64 2, .int .i64 2, .int .i64 1, .int .i64 1, .int .i64 9] 23 (0, 0))] (by kernel_rfl) rfl (by kernel_rfl) (mem_pick (idx := [0, 1, 2, 3, 4, 5]) rfl) ?_
 refine a_v 0 rfl (by kernel_rfl) (by kernel_rfl) (by kernel_rfl) rfl rfl rfl (v_ldA [.int .i64 1, .int .i64 1, .int .i64 2, .int .i64 2, .int .i64 1, .int .i64 1, .int .i64 9] 5 rfl Try.underlying23 rfl SZ23 rfl rfl rfl rfl) ?_
 refine a_v 1 rfl (by kernel_rfl) (by kernel_rfl) (by kernel_rfl) rfl rfl rfl (v_move rfl rfl) ?_
 refine a_1 (i := 2) (by kernel_rfl) ?_
 refine i_e rfl rfl (e_callF [4] #[.agg #[.int .i64 1, .int .i64 1, .int .i64 2, .int .i64 2, .int .i64 1, .int .i64 1, .int .i64 9], .slice A37_ t28_.length c38_] rfl rfl rfl rfl rfl Try.func17 rfl (by decide) rfl rfl rfl rfl (fun w ht => shape_Right_con _ 1 1 2 2 1 1 9 A37_ c38_ t28_ true e148_ w _)) ?_
 refine ⟨(mem_pick (idx := [0, 1, 2, 3, 4, 5]) rfl), ?_⟩
 refine a_v 3 rfl (by kernel_rfl) (by kernel_rfl) (by kernel_rfl) rfl rfl rfl (v_move rfl rfl) ?_
 refine a_v 4 rfl (by kernel_rfl) (by kernel_rfl) (by kernel_rfl) rfl rfl rfl (v_ldA [.int .i64 1, .int .i64 1, .int .i64 2, .int .i64 2, .int .i64 1, .int .i64 1, .int .i64 9] 5 rfl Try.underlying23 rfl SZ23 rfl rfl rfl rfl) ?_
 refine a_v 5 rfl (by kernel_rfl) (by kernel_rfl) (by kernel_rfl) rfl rfl rfl (v_move rfl rfl) ?_
 refine a_1 (i := 6) (by kernel_rfl) ?_
 refine i_knowT (KC_nil (Kd.slice 81 k81)) ?_
 refine i_e rfl rfl (e_callF [5, 0] #[.agg #[.int .i64 1, .int .i64 1, .int .i64 2, .int .i64 2, .int .i64 1, .int .i64 1, .int .i64 9], .slice A37_ t28_.length c38_, .slice none 0 0] rfl rfl rfl rfl rfl Try.func18 rfl (by decide) rfl rfl rfl rfl (fun w ht => shape_Rest_con _ 1 1 2 2 1 1 9 A37_ c38_ t28_ none 0 ([] : List (List S81)) true e151_ w _)) ?_
 refine ⟨(mem_pick (idx := [1, 2, 3, 4, 5, 6]) rfl), ?_⟩
 refine a_v 7 rfl (by kernel_rfl) (by kernel_rfl) (by kernel_rfl) rfl rfl rfl (v_pick rfl rfl rfl rfl) ?_
 refine a_v 8 rfl (by kernel_rfl) (by kernel_rfl) (by kernel_rfl) rfl rfl rfl (v_move rfl rfl) ?_
 refine a_v 9 rfl (by kernel_rfl) (by kernel_rfl) (by kernel_rfl) rfl rfl rfl (v_ldA [.int .i64 1, .int .i64 1, .int .i64 2, .int .i64 2, .int .i64 1, .int .i64 1, .int .i64 9] 5 rfl Try.underlying23 rfl SZ23 rfl rfl rfl rfl) ?_
 refine a_v 10 rfl (by kernel_rfl) (by kernel_rfl) (by kernel_rfl) rfl rfl rfl (v_move rfl rfl) ?_
 refine a_1 (i := 11) (by kernel_rfl) ?_
 refine i_e rfl rfl (e_callF [3] #[.agg #[.int .i64 1, .int .i64 1, .int .i64 2, .int .i64 2, .int .i64 1, .int .i64 1, .int .i64 9], .slice A47_ t45_.length c48_, .int .i64 0] rfl rfl rfl rfl rfl Try.func9 rfl (by decide) rfl rfl rfl rfl (fun w ht => shape_Level_con _ 1 1 2 2 1 1 9 A47_ c48_ t45_ 0 t153_ e154_ w _)) ?_
 intro A227_ c228_
 refine ⟨(mem_pick (idx := [2, 3, 4, 5, 6, 7]) rfl), ?_⟩
 refine a_v 12 rfl (by kernel_rfl) (by kernel_rfl) (by kernel_rfl) rfl rfl rfl (v_len rfl rfl rfl Try.underlying24 rfl rfl) ?_
 refine a_v 13 rfl (by kernel_rfl) (by kernel_rfl) (by kernel_rfl) rfl rfl rfl (OpV.cast (v := .bool false) (v_arith rfl rfl rfl rfl) (congrArg Value.bool h157_)) ?_
 refine a_v 14 rfl (by kernel_rfl) (by kernel_rfl) (by kernel_rfl) rfl rfl rfl (v_pick rfl rfl rfl rfl) ?_
 refine a_v 15 rfl (by kernel_rfl) (by kernel_rfl) (by kernel_rfl) rfl rfl rfl (v_move rfl rfl) ?_
 refine a_no 16 rfl (by kernel_rfl) (by kernel_rfl) (by kernel_rfl) rfl rfl rfl ?_
 refine a_no 17 rfl (by kernel_rfl) (by kernel_rfl) (by kernel_rfl) rfl rfl rfl ?_
 refine a_no 18 rfl (by kernel_rfl) (by kernel_rfl) (by kernel_rfl) rfl rfl rfl ?_
 refine a_no 19 rfl (by kernel_rfl) (by kernel_rfl) (by kernel_rfl) rfl rfl rfl ?_
 refine a_no 20 rfl (by kernel_rfl) (by kernel_rfl) (by kernel_rfl) rfl rfl rfl ?_
 refine a_v 21 rfl (by kernel_rfl) (by kernel_rfl) (by kernel_rfl) rfl rfl rfl (v_pick rfl rfl rfl rfl) ?_
 refine a_v 22 rfl (by kernel_rfl) (by kernel_rfl) (by kernel_rfl) rfl rfl rfl (v_move rfl rfl) ?_
 refine a_no 23 rfl (by kernel_rfl) (by kernel_rfl) (by kernel_rfl) rfl rfl rfl ?_
 refine a_no 24 rfl (by kernel_rfl) (by kernel_rfl) (by kernel_rfl) rfl rfl rfl ?_
 refine a_no 25 rfl (by kernel_rfl) (by kernel_rfl) (by kernel_rfl) rfl rfl rfl ?_
 refine a_no 26 rfl (by kernel_rfl) (by kernel_rfl) (by kernel_rfl) rfl rfl rfl ?_
 refine a_no 27 rfl (by kernel_rfl) (by kernel_rfl) (by kernel_rfl) rfl rfl rfl ?_
 refine a_v 28 rfl (by kernel_rfl) (by kernel_rfl) (by kernel_rfl) rfl rfl rfl (v_pick rfl rfl rfl rfl) ?_
 refine a_v 29 rfl (by kernel_rfl) (by kernel_rfl) (by kernel_rfl) rfl rfl rfl (v_move rfl rfl) ?_
 refine a_no 30 rfl (by kernel_rfl) (by kernel_rfl) (by kernel_rfl) rfl rfl rfl ?_
 refine a_no 31 rfl (by kernel_rfl) (by kernel_rfl) (by kernel_rfl) rfl rfl rfl ?_
 refine a_no 32 rfl (by kernel_rfl) (by kernel_rfl) (by kernel_rfl) rfl rfl rfl ?_
 refine a_v 33 rfl (by kernel_rfl) (by kernel_rfl) (by kernel_rfl) rfl rfl rfl (v_pick rfl rfl rfl rfl) ?_
 refine a_v 34 rfl (by kernel_rfl) (by kernel_rfl) (by kernel_rfl) rfl rfl rfl (v_move rfl rfl) ?_
 refine a_no 35 rfl (by kernel_rfl) (by kernel_rfl) (by kernel_rfl) rfl rfl rfl ?_
 refine a_no 36 rfl (by kernel_rfl) (by kernel_rfl) (by kernel_rfl) rfl rfl rfl ?_
 refine a_no 37 rfl (by kernel_rfl) (by kernel_rfl) (by kernel_rfl) rfl rfl rfl ?_
 refine a_no 38 rfl (by kernel_rfl) (by kernel_rfl) (by kernel_rfl) rfl rfl rfl ?_
 refine a_no 39 rfl (by kernel_rfl) (by kernel_rfl) (by kernel_rfl) rfl rfl rfl ?_
 refine a_v 40 rfl (by kernel_rfl) (by kernel_rfl) (by kernel_rfl) rfl rfl rfl (v_pick rfl rfl rfl rfl) ?_
 refine a_v 41 rfl (by kernel_rfl) (by kernel_rfl) (by kernel_rfl) rfl rfl rfl (v_move rfl rfl) ?_
 refine a_no 42 rfl (by kernel_rfl) (by kernel_rfl) (by kernel_rfl) rfl rfl rfl ?_
 refine a_no 43 rfl (by kernel_rfl) (by kernel_rfl) (by kernel_rfl) rfl rfl rfl ?_
 refine a_no 44 rfl (by kernel_rfl) (by kernel_rfl) (by kernel_rfl) rfl rfl rfl ?_
 refine a_no 45 rfl (by kernel_rfl) (by kernel_rfl) (by kernel_rfl) rfl rfl rfl ?_
 refine a_no 46 rfl (by kernel_rfl) (by kernel_rfl) (by kernel_rfl) rfl rfl rfl ?_
 refine a_v 47 rfl (by kernel_rfl) (by kernel_rfl) (by kernel_rfl) rfl rfl rfl (v_pick rfl rfl rfl rfl) ?_
 refine a_v 48 rfl (by kernel_rfl) (by kernel_rfl) (by kernel_rfl) rfl rfl rfl (v_move rfl rfl) ?_
 refine a_no 49 rfl (by kernel_rfl) (by kernel_rfl) (by kernel_rfl) rfl rfl rfl ?_
 refine a_no 50 rfl (by kernel_rfl) (by kernel_rfl) (by kernel_rfl) rfl rfl rfl ?_
 refine a_no 51 rfl (by kernel_rfl) (by kernel_rfl) (by kernel_rfl) rfl rfl rfl ?_
 refine a_v 52 rfl (by kernel_rfl) (by kernel_rfl) (by kernel_rfl) rfl rfl rfl (v_pick rfl rfl rfl rfl) ?_
 refine a_v 53 rfl (by kernel_rfl) (by kernel_rfl) (by kernel_rfl) rfl rfl rfl (v_move rfl rfl) ?_
 refine a_no 54 rfl (by kernel_rfl) (by kernel_rfl) (by kernel_rfl) rfl rfl rfl ?_
 refine a_no 55 rfl (by kernel_rfl) (by kernel_rfl) (by kernel_rfl) rfl rfl rfl ?_
 refine a_no 56 rfl (by kernel_rfl) (by kernel_rfl) (by kernel_rfl) rfl rfl rfl ?_
 refine a_no 57 rfl (by kernel_rfl) (by kernel_rfl) (by kernel_rfl) rfl rfl rfl ?_
 refine a_v 58 rfl (by kernel_rfl) (by kernel_rfl) (by kernel_rfl) rfl rfl rfl (v_pick rfl rfl rfl rfl) ?_
 refine a_v 59 rfl (by kernel_rfl) (by kernel_rfl) (by kernel_rfl) rfl rfl rfl (v_move rfl rfl) ?_
 refine a_no 60 rfl (by kernel_rfl) (by kernel_rfl) (by kernel_rfl) rfl rfl rfl ?_
 refine a_no 61 rfl (by kernel_rfl) (by kernel_rfl) (by kernel_rfl) rfl rfl rfl ?_
 refine a_no 62 rfl (by kernel_rfl) (by kernel_rfl) (by kernel_rfl) rfl rfl rfl ?_
 refine a_no 63 rfl (by kernel_rfl) (by kernel_rfl) (by kernel_rfl) rfl rfl rfl ?_
 refine a_no 64 rfl (by kernel_rfl) (by kernel_rfl) (by kernel_rfl) rfl rfl rfl ?_
 refine a_v 65 rfl (by kernel_rfl) (by kernel_rfl) (by kernel_rfl) rfl rfl rfl (v_pick rfl rfl rfl rfl) ?_
 refine a_v 66 rfl (by kernel_rfl) (by kernel_rfl) (by kernel_rfl) rfl rfl rfl (v_assign rfl rfl) ?_
 refine a_end (by kernel_rfl) ?_
 have hq_0 := Option.some.inj H
 subst hq_0
 exact q_seq (c_frame (subF_spec (by exact ⟨rfl, trivial⟩)) (c_take [2, 3, 4, 5, 6, 7] rfl (by decide) (J_ () trivial)))
 subst h152_
 replace H := ite_n (by decide) H
 refine r_any [.f (KC k61 z62_.1 z62_.2 t60_), .f (KC k61 A58_ c59_ t56_), .f (KC (Kd.int .u64) A47_ c48_ t45_), .f (KC k46 (some ⟨b44_, 0, none⟩) 2 ([(⟨3, 7, 2, 0, false⟩ : S46), (⟨5, 0, 1, 1, true⟩ : S46)] : List S46)), .f (KC (Kd.int .u64) A37_ c38_ t28_), .b b2_ (.cells #[.int .i64 1, .int .i64 1, .int .i64 2, .int .i64 2, .int .i64 1, .int .i64 1, .int .i64 9] 23 (0, 0))] (by kernel_rfl) rfl (by kernel_rfl) (mem_pick (idx := [0, 1, 2, 3, 4, 5]) rfl) ?_
 refine a_v 0 rfl (by kernel_rfl) (by kernel_rfl) (by kernel_rfl) rfl rfl rfl (v_ldA [.int .i64 1, .int .i64 1, .int .i64 2, .int .i64 2, .int .i64 1, .int .i64 1, .int .i64 9] 5 rfl Try.underlying23 rfl SZ23 rfl rfl rfl rfl) ?_
 refine a_v 1 rfl (by kernel_rfl) (by kernel_rfl) (by kernel_rfl) rfl rfl rfl (v_move rfl rfl) ?_
 refine a_1 (i := 2) (by kernel_rfl) ?_
 refine i_e rfl rfl (e_callF [4] #[.agg #[.int .i64 1, .int .i64 1, .int .i64 2, .int .i64 2, .int .i64 1, .int .i64 1, .int .i64 9], .slice A37_ t28_.length c38_] rfl rfl rfl rfl rfl Try.func17 rfl (by decide) rfl rfl rfl rfl (fun w ht => shape_Right_con _ 1 1 2 2 1 1 9 A37_ c38_ t28_ true e148_ w _)) ?_
 refine ⟨(mem_pick (idx := [0, 1, 2, 3, 4, 5]) rfl), ?_⟩
 refine a_v 3 rfl (by kernel_rfl) (by kernel_rfl) (by kernel_rfl) rfl rfl rfl (v_move rfl rfl) ?_
 refine a_v 4 rfl (by kernel_rfl) (by kernel_rfl) (by kernel_rfl) rfl rfl rfl (v_ldA [.int .i64 1, .int .i64 1, .int .i64 2, .int .i64 2, .int .i64 1, .int .i64 1, .int .i64 9] 5 rfl Try.underlying23 rfl SZ23 rfl rfl rfl rfl) ?_
 refine a_v 5 rfl (by kernel_rfl) (by kernel_rfl) (by kernel_rfl) rfl rfl rfl (v_move rfl rfl) ?_
 refine a_1 (i := 6) (by kernel_rfl) ?_
 refine i_knowT (KC_nil (Kd.slice 81 k81)) ?_
 refine i_e rfl rfl (e_callF [5, 0] #[.agg #[.int .i64 1, .int .i64 1, .int .i64 2, .int .i64 2, .int .i64 1, .int .i64 1, .int .i64 9], .slice A37_ t28_.length c38_, .slice none 0 0] rfl rfl rfl rfl rfl Try.func18 rfl (by decide) rfl rfl rfl rfl (fun w ht => shape_Rest_con _ 1 1 2 2 1 1 9 A37_ c38_ t28_ none 0 ([] : List (List S81)) false e151_ w _)) ?_
 refine ⟨(mem_pick (idx := [1, 2, 3, 4, 5, 6]) rfl), ?_⟩
 refine a_v 7 rfl (by kernel_rfl) (by kernel_rfl) (by kernel_rfl) rfl rfl rfl (v_pick rfl rfl rfl rfl) ?_
 refine a_v 8 rfl (by kernel_rfl) (by kernel_rfl) (by kernel_rfl) rfl rfl rfl (v_move rfl rfl) ?_
 refine a_no 9 rfl (by kernel_rfl) (by kernel_rfl) (by kernel_rfl) rfl rfl rfl ?_
 refine a_no 10 rfl (by kernel_rfl) (by kernel_rfl) (by kernel_rfl) rfl rfl rfl ?_
 refine a_no 11 rfl (by kernel_rfl) (by kernel_rfl) (by kernel_rfl) rfl rfl rfl ?_
 refine a_no 12 rfl (by kernel_rfl) (by kernel_rfl) (by kernel_rfl) rfl rfl rfl ?_
 refine a_no 13 rfl (by kernel_rfl) (by kernel_rfl) (by kernel_rfl) rfl rfl rfl ?_
 refine a_v 14 rfl (by kernel_rfl) (by kernel_rfl) (by kernel_rfl) rfl rfl rfl (v_pick rfl rfl rfl rfl) ?_
 refine a_v 15 rfl (by kernel_rfl) (by kernel_rfl) (by kernel_rfl) rfl rfl rfl (v_move rfl rfl) ?_
 refine a_no 16 rfl (by kernel_rfl) (by kernel_rfl) (by kernel_rfl) rfl rfl rfl ?_
 refine a_no 17 rfl (by kernel_rfl) (by kernel_rfl) (by kernel_rfl) rfl rfl rfl ?_
 refine a_no 18 rfl (by kernel_rfl) (by kernel_rfl) (by kernel_rfl) rfl rfl rfl ?_
 refine a_no 19 rfl (by kernel_rfl) (by kernel_rfl) (by kernel_rfl) rfl rfl rfl ?_
 refine a_no 20 rfl (by kernel_rfl) (by kernel_rfl) (by kernel_rfl) rfl rfl rfl ?_
 refine a_v 21 rfl (by kernel_rfl) (by kernel_rfl) (by kernel_rfl) rfl rfl rfl (v_pick rfl rfl rfl rfl) ?_
 refine a_v 22 rfl (by kernel_rfl) (by kernel_rfl) (by kernel_rfl) rfl rfl rfl (v_move rfl rfl) ?_
 refine a_no 23 rfl (by kernel_rfl) (by kernel_rfl) (by kernel_rfl) rfl rfl rfl ?_
 refine a_no 24 rfl (by kernel_rfl) (by kernel_rfl) (by kernel_rfl) rfl rfl rfl ?_
 refine a_no 25 rfl (by kernel_rfl) (by kernel_rfl) (by kernel_rfl) rfl rfl rfl ?_
 refine a_no 26 rfl (by kernel_rfl) (by kernel_rfl) (by kernel_rfl) rfl rfl rfl ?_
 refine a_no 27 rfl (by kernel_rfl) (by kernel_rfl) (by kernel_rfl) rfl rfl rfl ?_
 refine a_v 28 rfl (by kernel_rfl) (by kernel_rfl) (by kernel_rfl) rfl rfl rfl (v_pick rfl rfl rfl rfl) ?_
 refine a_v 29 rfl (by kernel_rfl) (by kernel_rfl) (by kernel_rfl) rfl rfl rfl (v_move rfl rfl) ?_
 refine a_no 30 rfl (by kernel_rfl) (by kernel_rfl) (by kernel_rfl) rfl rfl rfl ?_
 refine a_no 31 rfl (by kernel_rfl) (by kernel_rfl) (by kernel_rfl) rfl rfl rfl ?_
 refine a_no 32 rfl (by kernel_rfl) (by kernel_rfl) (by kernel_rfl) rfl rfl rfl ?_
 refine a_v 33 rfl (by kernel_rfl) (by kernel_rfl) (by kernel_rfl) rfl rfl rfl (v_pick rfl rfl rfl rfl) ?_
 refine a_v 34 rfl (by kernel_rfl) (by kernel_rfl) (by kernel_rfl) rfl rfl rfl (v_move rfl rfl) ?_
 refine a_no 35 rfl (by kernel_rfl) (by kernel_rfl) (by kernel_rfl) rfl rfl rfl ?_
 refine a_no 36 rfl (by kernel_rfl) (by kernel_rfl) (by kernel_rfl) rfl rfl rfl ?_
 refine a_no 37 rfl (by kernel_rfl) (by kernel_rfl) (by kernel_rfl) rfl rfl rfl ?_
 refine a_no 38 rfl (by kernel_rfl) (by kernel_rfl) (by kernel_rfl) rfl rfl rfl ?_
 refine a_no 39 rfl (by kernel_rfl) (by kernel_rfl) (by kernel_rfl) rfl rfl rfl ?_
 refine a_v 40 rfl (by kernel_rfl) (by kernel_rfl) (by kernel_rfl) rfl rfl rfl (v_pick rfl rfl rfl rfl) ?_
 refine a_v 41 rfl (by kernel_rfl) (by kernel_rfl) (by kernel_rfl) rfl rfl rfl (v_move rfl rfl) ?_
 refine a_no 42 rfl (by kernel_rfl) (by kernel_rfl) (by kernel_rfl) rfl rfl rfl ?_
 refine a_no 43 rfl (by kernel_rfl) (by kernel_rfl) (by kernel_rfl) rfl rfl rfl ?_
 refine a_no 44 rfl (by kernel_rfl) (by kernel_rfl) (by kernel_rfl) rfl rfl rfl ?_
 refine a_no 45 rfl (by kernel_rfl) (by kernel_rfl) (by kernel_rfl) rfl rfl rfl ?_
 refine a_no 46 rfl (by kernel_rfl) (by kernel_rfl) (by kernel_rfl) rfl rfl rfl ?_
 refine a_v 47 rfl (by kernel_rfl) (by kernel_rfl) (by kernel_rfl) rfl rfl rfl (v_pick rfl rfl rfl rfl) ?_
 refine a_v 48 rfl (by kernel_rfl) (by kernel_rfl) (by kernel_rfl) rfl rfl rfl (v_move rfl rfl) ?_
 refine a_no 49 rfl (by kernel_rfl) (by kernel_rfl) (by kernel_rfl) rfl rfl rfl ?_
 refine a_no 50 rfl (by kernel_rfl) (by kernel_rfl) (by kernel_rfl) rfl rfl rfl ?_
 refine a_no 51 rfl (by kernel_rfl) (by kernel_rfl) (by kernel_rfl) rfl rfl rfl ?_
 refine a_v 52 rfl (by kernel_rfl) (by kernel_rfl) (by kernel_rfl) rfl rfl rfl (v_pick rfl rfl rfl rfl) ?_
 refine a_v 53 rfl (by kernel_rfl) (by kernel_rfl) (by kernel_rfl) rfl rfl rfl (v_move rfl rfl) ?_
 refine a_no 54 rfl (by kernel_rfl) (by kernel_rfl) (by kernel_rfl) rfl rfl rfl ?_
 refine a_no 55 rfl (by kernel_rfl) (by kernel_rfl) (by kernel_rfl) rfl rfl rfl ?_
 refine a_no 56 rfl (by kernel_rfl) (by kernel_rfl) (by kernel_rfl) rfl rfl rfl ?_
 refine a_no 57 rfl (by kernel_rfl) (by kernel_rfl) (by kernel_rfl) rfl rfl rfl ?_
 refine a_v 58 rfl (by kernel_rfl) (by kernel_rfl) (by kernel_rfl) rfl rfl rfl (v_pick rfl rfl rfl rfl) ?_
 refine a_v 59 rfl (by kernel_rfl) (by kernel_rfl) (by kernel_rfl) rfl rfl rfl (v_move rfl rfl) ?_
 refine a_no 60 rfl (by kernel_rfl) (by kernel_rfl) (by kernel_rfl) rfl rfl rfl ?_
 refine a_no 61 rfl (by kernel_rfl) (by kernel_rfl) (by kernel_rfl) rfl rfl rfl ?_
 refine a_no 62 rfl (by kernel_rfl) (by kernel_rfl) (by kernel_rfl) rfl rfl rfl ?_
 refine a_no 63 rfl (by kernel_rfl) (by kernel_rfl) (by kernel_rfl) rfl rfl rfl ?_
 refine a_no 64 rfl (by kernel_rfl) (by kernel_rfl) (by kernel_rfl) rfl rfl rfl ?_
 refine a_v 65 rfl (by kernel_rfl) (by kernel_rfl) (by kernel_rfl) rfl rfl rfl (v_pick rfl rfl rfl rfl) ?_
 refine a_v 66 rfl (by kernel_rfl) (by kernel_rfl) (by kernel_rfl) rfl rfl rfl (v_assign rfl rfl) ?_
 refine a_end (by kernel_rfl) ?_
 have hq_0 := Option.some.inj H
 subst hq_0
 exact q_seq (c_frame (subF_spec (by exact ⟨rfl, trivial⟩)) (c_take [1, 2, 3, 4, 5, 6] rfl (by decide) (J_ () trivial)))
 subst h149_
 replace H := ite_n (by decide) H
 refine r_any [.f (KC k61 z62_.1 z62_.2 t60_), .f (KC k61 A58_ c59_ t56_), .f (KC (Kd.int .u64) A47_ c48_ t45_), .f (KC k46 (some ⟨b44_, 0, none⟩) 2 ([(⟨3, 7, 2, 0, false⟩ : S46), (⟨5, 0, 1, 1, true⟩ : S46)] : List S46)), .f (KC (Kd.int .u64) A37_ c38_ t28_), .b b2_ (.cells #[.int .i64 1, .int .i64 1, .int .i64 2, .int .i64 2, .int .i64 1, .int .i64 1, .int .i64 9] 23 (0, 0))] (by kernel_rfl) rfl (by kernel_rfl) (mem_pick (idx := [0, 1, 2, 3, 4, 5]) rfl) ?_
 refine a_v 0 rfl (by kernel_rfl) (by kernel_rfl) (by kernel_rfl) rfl rfl rfl (v_ldA [.int .i64 1, .int .i64 1, .int .i64 2, .int .i64 2, .int .i64 1, .int .i64 1, .int .i64 9] 5 rfl Try.underlying23 rfl SZ23 rfl rfl rfl rfl) ?_
 refine a_v 1 rfl (by kernel_rfl) (by kernel_rfl) (by kernel_rfl) rfl rfl rfl (v_move rfl rfl) ?_
 refine a_1 (i := 2) (by kernel_rfl) ?_
 refine i_e rfl rfl (e_callF [4] #[.agg #[.int .i64 1, .int .i64 1, .int .i64 2, .int .i64 2, .int .i64 1, .int .i64 1, .int .i64 9], .slice A37_ t28_.length c38_] rfl rfl rfl rfl rfl Try.func17 rfl (by decide) rfl rfl rfl rfl (fun w ht => shape_Right_con _ 1 1 2 2 1 1 9 A37_ c38_ t28_ false e148_ w _)) ?_
 refine ⟨(mem_pick (idx := [0, 1, 2, 3, 4, 5]) rfl), ?_⟩
 refine a_v 3 rfl (by kernel_rfl) (by kernel_rfl) (by kernel_rfl) rfl rfl rfl (v_move rfl rfl) ?_
 refine a_no 4 rfl (by kernel_rfl) (by kernel_rfl) (by kernel_rfl) rfl rfl rfl ?_
 refine a_no 5 rfl (by kernel_rfl) (by kernel_rfl) (by kernel_rfl) rfl rfl rfl ?_
 refine a_no 6 rfl (by kernel_rfl) (by kernel_rfl) (by kernel_rfl) rfl rfl rfl ?_
 refine a_v 7 rfl (by kernel_rfl) (by kernel_rfl) (by kernel_rfl) rfl rfl rfl (v_pick rfl rfl rfl rfl) ?_
 refine a_v 8 rfl (by kernel_rfl) (by kernel_rfl) (by kernel_rfl) rfl rfl rfl (v_move rfl rfl) ?_
 refine a_no 9 rfl (by kernel_rfl) (by kernel_rfl) (by kernel_rfl) rfl rfl rfl ?_
 refine a_no 10 rfl (by kernel_rfl) (by kernel_rfl) (by kernel_rfl) rfl rfl rfl ?_
 refine a_no 11 rfl (by kernel_rfl) (by kernel_rfl) (by kernel_rfl) rfl rfl rfl ?_
 refine a_no 12 rfl (by kernel_rfl) (by kernel_rfl) (by kernel_rfl) rfl rfl rfl ?_
 refine a_no 13 rfl (by kernel_rfl) (by kernel_rfl) (by kernel_rfl) rfl rfl rfl ?_
 refine a_v 14 rfl (by kernel_rfl) (by kernel_rfl) (by kernel_rfl) rfl rfl rfl (v_pick rfl rfl rfl rfl) ?_
 refine a_v 15 rfl (by kernel_rfl) (by kernel_rfl) (by kernel_rfl) rfl rfl rfl (v_move rfl rfl) ?_
 refine a_no 16 rfl (by kernel_rfl) (by kernel_rfl) (by kernel_rfl) rfl rfl rfl ?_
 refine a_no 17 rfl (by kernel_rfl) (by kernel_rfl) (by kernel_rfl) rfl rfl rfl ?_
 refine a_no 18 rfl (by kernel_rfl) (by kernel_rfl) (by kernel_rfl) rfl rfl rfl ?_
 refine a_no 19 rfl (by kernel_rfl) (by kernel_rfl) (by kernel_rfl) rfl rfl rfl ?_
 refine a_no 20 rfl (by kernel_rfl) (by kernel_rfl) (by kernel_rfl) rfl rfl rfl ?_
 refine a_v 21 rfl (by kernel_rfl) (by kernel_rfl) (by kernel_rfl) rfl rfl rfl (v_pick rfl rfl rfl rfl) ?_
 refine a_v 22 rfl (by kernel_rfl) (by kernel_rfl) (by kernel_rfl) rfl rfl rfl (v_move rfl rfl) ?_
 refine a_no 23 rfl (by kernel_rfl) (by kernel_rfl) (by kernel_rfl) rfl rfl rfl ?_
 refine a_no 24 rfl (by kernel_rfl) (by kernel_rfl) (by kernel_rfl) rfl rfl rfl ?_
 refine a_no 25 rfl (by kernel_rfl) (by kernel_rfl) (by kernel_rfl) rfl rfl rfl ?_
 refine a_no 26 rfl (by kernel_rfl) (by kernel_rfl) (by kernel_rfl) rfl rfl rfl ?_
 refine a_no 27 rfl (by kernel_rfl) (by kernel_rfl) (by kernel_rfl) rfl rfl rfl ?_
 refine a_v 28 rfl (by kernel_rfl) (by kernel_rfl) (by kernel_rfl) rfl rfl rfl (v_pick rfl rfl rfl rfl) ?_
 refine a_v 29 rfl (by kernel_rfl) (by kernel_rfl) (by kernel_rfl) rfl rfl rfl (v_move rfl rfl) ?_
 refine a_no 30 rfl (by kernel_rfl) (by kernel_rfl) (by kernel_rfl) rfl rfl rfl ?_
 refine a_no 31 rfl (by kernel_rfl) (by kernel_rfl) (by kernel_rfl) rfl rfl rfl ?_
 refine a_no 32 rfl (by kernel_rfl) (by kernel_rfl) (by kernel_rfl) rfl rfl rfl ?_
 refine a_v 33 rfl (by kernel_rfl) (by kernel_rfl) (by kernel_rfl) rfl rfl rfl (v_pick rfl rfl rfl rfl) ?_
 refine a_v 34 rfl (by kernel_rfl) (by kernel_rfl) (by kernel_rfl) rfl rfl rfl (v_move rfl rfl) ?_
 refine a_no 35 rfl (by kernel_rfl) (by kernel_rfl) (by kernel_rfl) rfl rfl rfl ?_
 refine a_no 36 rfl (by kernel_rfl) (by kernel_rfl) (by kernel_rfl) rfl rfl rfl ?_
 refine a_no 37 rfl (by kernel_rfl) (by kernel_rfl) (by kernel_rfl) rfl rfl rfl ?_
 refine a_no 38 rfl (by kernel_rfl) (by kernel_rfl) (by kernel_rfl) rfl rfl rfl ?_
 refine a_no 39 rfl (by kernel_rfl) (by kernel_rfl) (by kernel_rfl) rfl rfl rfl ?_
 refine a_v 40 rfl (by kernel_rfl) (by kernel_rfl) (by kernel_rfl) rfl rfl rfl (v_pick rfl rfl rfl rfl) ?_
 refine a_v 41 rfl (by kernel_rfl) (by kernel_rfl) (by kernel_rfl) rfl rfl rfl (v_move rfl rfl) ?_
 refine a_no 42 rfl (by kernel_rfl) (by kernel_rfl) (by kernel_rfl) rfl rfl rfl ?_
 refine a_no 43 rfl (by kernel_rfl) (by kernel_rfl) (by kernel_rfl) rfl rfl rfl ?_
 refine a_no 44 rfl (by kernel_rfl) (by kernel_rfl) (by kernel_rfl) rfl rfl rfl ?_
 refine a_no 45 rfl (by kernel_rfl) (by kernel_rfl) (by kernel_rfl) rfl rfl rfl ?_
 refine a_no 46 rfl (by kernel_rfl) (by kernel_rfl) (by kernel_rfl) rfl rfl rfl ?_
 refine a_v 47 rfl (by kernel_rfl) (by kernel_rfl) (by kernel_rfl) rfl rfl rfl (v_pick rfl rfl rfl rfl) ?_
 refine a_v 48 rfl (by kernel_rfl) (by kernel_rfl) (by kernel_rfl) rfl rfl rfl (v_move rfl rfl) ?_
 refine a_no 49 rfl (by kernel_rfl) (by kernel_rfl) (by kernel_rfl) rfl rfl rfl ?_
 refine a_no 50 rfl (by kernel_rfl) (by kernel_rfl) (by kernel_rfl) rfl rfl rfl ?_
 refine a_no 51 rfl (by kernel_rfl) (by kernel_rfl) (by kernel_rfl) rfl rfl rfl ?_
 refine a_v 52 rfl (by kernel_rfl) (by kernel_rfl) (by kernel_rfl) rfl rfl rfl (v_pick rfl rfl rfl rfl) ?_
 refine a_v 53 rfl (by kernel_rfl) (by kernel_rfl) (by kernel_rfl) rfl rfl rfl (v_move rfl rfl) ?_
 refine a_no 54 rfl (by kernel_rfl) (by kernel_rfl) (by kernel_rfl) rfl rfl rfl ?_
 refine a_no 55 rfl (by kernel_rfl) (by kernel_rfl) (by kernel_rfl) rfl rfl rfl ?_
 refine a_no 56 rfl (by kernel_rfl) (by kernel_rfl) (by kernel_rfl) rfl rfl rfl ?_
 refine a_no 57 rfl (by kernel_rfl) (by kernel_rfl) (by kernel_rfl) rfl rfl rfl ?_
 refine a_v 58 rfl (by kernel_rfl) (by kernel_rfl) (by kernel_rfl) rfl rfl rfl (v_pick rfl rfl rfl rfl) ?_
 refine a_v 59 rfl (by kernel_rfl) (by kernel_rfl) (by kernel_rfl) rfl rfl rfl (v_move rfl rfl) ?_
 refine a_no 60 rfl (by kernel_rfl) (by kernel_rfl) (by kernel_rfl) rfl rfl rfl ?_
 refine a_no 61 rfl (by kernel_rfl) (by kernel_rfl) (by kernel_rfl) rfl rfl rfl ?_
 refine a_no 62 rfl (by kernel_rfl) (by kernel_rfl) (by kernel_rfl) rfl rfl rfl ?_
 refine a_no 63 rfl (by kernel_rfl) (by kernel_rfl) (by kernel_rfl) rfl rfl rfl ?_
 refine a_no 64 rfl (by kernel_rfl) (by kernel_rfl) (by kernel_rfl) rfl rfl rfl ?_
 refine a_v 65 rfl (by kernel_rfl) (by kernel_rfl) (by kernel_rfl) rfl rfl rfl (v_pick rfl rfl rfl rfl) ?_
 refine a_v 66 rfl (by kernel_rfl) (by kernel_rfl) (by kernel_rfl) rfl rfl rfl (v_assign rfl rfl) ?_
 refine a_end (by kernel_rfl) ?_
 have hq_0 := Option.some.inj H
 subst hq_0
 exact q_seq (c_frame (subF_spec (by exact ⟨rfl, trivial⟩)) (c_take [0, 1, 2, 3, 4, 5] rfl (by decide) (J_ () trivial)))
end Go.Eng
namespace Go.Eng
open Go.Proofs Go.RowKit Go.Proofs.YtbonlagecjealaaW.PrintWords
theorem alive_true : stepstonelaw21_alive.f 3000 = some true := by kernel_rfl
end Go.Eng
namespace Go.Eng
open Go.Proofs Go.RowKit Go.Proofs.YtbonlagecjealaaW.PrintWords Go.Proofs.Ytbonlagecjealaa.GSeq
set_option linter.unusedVariables false
set_option linter.unusedSimpArgs false
def stepstonelaw21_ShapeLevels.f (k : Nat) (a0_0 : Int) (a0_1 : Int) (a0_2 : Int) (a0_3 : Int) (a0_4 : Int) (a0_5 : Int) (a0_6 : Int) (l1 : List Int) (a2 : Int) : Option Bool := (stepstoneref21_Level.f k a0_0 a0_1 a0_2 a0_3 a0_4 a0_5 a0_6 l1 a2).bind fun (t8_, t9_) => ((stepstonelaw21_alive.f k).bind fun t24_ => (if t24_ = true then (shape_Level.f k a0_0 a0_1 a0_2 a0_3 a0_4 a0_5 a0_6 l1 a2).bind fun t27_ => (stepstoneref03_Same.f k t27_ t8_).bind fun t31_ => some t31_ else some false) : Option Bool).bind fun j22_ => some j22_
def stepstonelaw21_ShapeMaps.f (k : Nat) (a0_0 : Int) (a0_1 : Int) (a0_2 : Int) (a0_3 : Int) (a0_4 : Int) (a0_5 : Int) (a0_6 : Int) (l1 : List Int) : Option Bool := ((stepstonelaw21_alive.f k).bind fun t32_ => (if t32_ = true then (shape_Map.f k a0_0 a0_1 a0_2 a0_3 a0_4 a0_5 a0_6 l1).bind fun t35_ => (seq_Map_Pairs.f t35_).bind fun t39_ => (stepstonelaw07_Olds.f k t39_).bind fun t42_ => (stepstoneref21_Map.f k a0_0 a0_1 a0_2 a0_3 a0_4 a0_5 a0_6 l1).bind fun t46_ => (stepstoneref07_Equal.f k t42_ t46_).bind fun t50_ => some t50_ else some false) : Option Bool).bind fun j30_ => some j30_
set_option maxRecDepth 100000 in
set_option maxHeartbeats 4000000 in
theorem stepstonelaw21_ShapeMaps_con (k : Nat) (a0_0 : Int) (a0_1 : Int) (a0_2 : Int) (a0_3 : Int) (a0_4 : Int) (a0_5 : Int) (a0_6 : Int) (A1 : Option Addr) (c1 : Nat) (l1 : List Int) (r0 : Bool) (h : stepstonelaw21_ShapeMaps.f k a0_0 a0_1 a0_2 a0_3 a0_4 a0_5 a0_6 l1 = some r0) (w0 : World) (Hs : List Nat) : Con Try.prog 4 #[.agg #[.int .i64 a0_0, .int .i64 a0_1, .int .i64 a0_2, .int .i64 a0_3, .int .i64 a0_4, .int .i64 a0_5, .int .i64 a0_6], .slice A1 l1.length c1] w0 Hs [.f (KC (Kd.int .u64) A1 c1 l1)] (fun X => X (.bool r0) []) := by
 refine con_enter (c := bodyOf Try.f4) Try.func4 rfl (m := 17) rfl rfl rfl ?_
 intro X hX _
 have H := h
 unfold stepstonelaw21_ShapeMaps.f at H
 clear h
 refine c_seq rfl ?_
 refine r_ord (l := [0, 1]) rfl (by kernel_rfl) (by kernel_rfl) ?_
 refine s_e rfl rfl (e_box rfl rfl rfl rfl) ?_
 intro b2_
 refine s_v rfl rfl rfl rfl (v_assign rfl rfl) ?_
 refine s_end ?_
 refine q_seq ?_
 obtain ⟨j30_, e31_, H⟩ := bind_s H
 refine c_join (β := Unit) (fun _ => True) (fun _ => [(4, .bool j30_)]) (fun _ => [.b b2_ (.cells #[.int .i64 a0_0, .int .i64 a0_1, .int .i64 a0_2, .int .i64 a0_3, .int .i64 a0_4, .int .i64 a0_5, .int .i64 a0_6] 23 (0, 0)), .f (KC (Kd.int .u64) A1 c1 l1)]) rfl (fun _ _ => ?_) (fun J_ => ?_)
 refine c_ret rfl ?_
 have e_ := Option.some.inj H
 subst e_
 exact q_ret (vs := [.bool j30_]) rfl (.tmp rfl .nil) [] rfl (by decide) (hX)
 clear H
 have H := e31_
 clear e31_
 obtain ⟨t32_, e33_, H⟩ := bind_s H
 rcases Bool.eq_false_or_eq_true t32_ with h34_ | h34_
 subst h34_
 replace H := ite_y rfl H
 obtain ⟨t35_, e36_, H⟩ := bind_s H
 obtain ⟨t39_, e40_, H⟩ := bind_s H
 obtain ⟨t42_, e43_, H⟩ := bind_s H
 obtain ⟨t46_, e47_, H⟩ := bind_s H
 obtain ⟨t50_, e51_, H⟩ := bind_s H
 refine r_any [.b b2_ (.cells #[.int .i64 a0_0, .int .i64 a0_1, .int .i64 a0_2, .int .i64 a0_3, .int .i64 a0_4, .int .i64 a0_5, .int .i64 a0_6] 23 (0, 0)), .f (KC (Kd.int .u64) A1 c1 l1)] (by kernel_rfl) rfl (by kernel_rfl) (mem_pick (idx := [0, 1]) rfl) ?_
 refine a_1 (i := 0) (by kernel_rfl) ?_
 refine i_e rfl rfl (e_callF [] #[] rfl rfl rfl rfl rfl Try.func7 rfl (by decide) rfl rfl rfl rfl (fun w ht => stepstonelaw21_alive_con _ true e33_ w _)) ?_
 refine ⟨(mem_pick (idx := [0, 1]) rfl), ?_⟩
 refine a_v 1 rfl (by kernel_rfl) (by kernel_rfl) (by kernel_rfl) rfl rfl rfl (v_move rfl rfl) ?_
 refine a_v 2 rfl (by kernel_rfl) (by kernel_rfl) (by kernel_rfl) rfl rfl rfl (v_ldA [.int .i64 a0_0, .int .i64 a0_1, .int .i64 a0_2, .int .i64 a0_3, .int .i64 a0_4, .int .i64 a0_5, .int .i64 a0_6] 0 rfl Try.underlying23 rfl SZ23 rfl rfl rfl rfl) ?_
 refine a_v 3 rfl (by kernel_rfl) (by kernel_rfl) (by kernel_rfl) rfl rfl rfl (v_move rfl rfl) ?_
 refine a_v 7 rfl (by kernel_rfl) (by kernel_rfl) (by kernel_rfl) rfl rfl rfl (v_ldA [.int .i64 a0_0, .int .i64 a0_1, .int .i64 a0_2, .int .i64 a0_3, .int .i64 a0_4, .int .i64 a0_5, .int .i64 a0_6] 0 rfl Try.underlying23 rfl SZ23 rfl rfl rfl rfl) ?_
 refine a_v 8 rfl (by kernel_rfl) (by kernel_rfl) (by kernel_rfl) rfl rfl rfl (v_move rfl rfl) ?_
 refine a_1 (i := 4) (by kernel_rfl) ?_
 refine i_e rfl rfl (e_callF [1] #[.agg #[.int .i64 a0_0, .int .i64 a0_1, .int .i64 a0_2, .int .i64 a0_3, .int .i64 a0_4, .int .i64 a0_5, .int .i64 a0_6], .slice A1 l1.length c1] rfl rfl rfl rfl rfl Try.func12 rfl (by decide) rfl rfl rfl rfl (fun w ht => shape_Map_con _ a0_0 a0_1 a0_2 a0_3 a0_4 a0_5 a0_6 A1 c1 l1 t35_ e36_ w _)) ?_
 intro A52_ c53_
 refine ⟨(mem_pick (idx := [1, 2]) rfl), ?_⟩
 refine a_1 (i := 5) (by kernel_rfl) ?_
 refine i_e rfl rfl (e_callK (fun z : (Option Addr × Nat) => .slice z.1 t39_.length z.2) (fun z => [KC k61 z.1 z.2 t39_]) #[.agg #[.slice A52_ t35_.length c53_]] rfl rfl rfl rfl rfl Try.func13 rfl (by decide) rfl rfl (fun w ht => seq_Map_Pairs.con A52_ c53_ t35_ t39_ e40_ w (Tri.fact ht 0 rfl))) ?_
 intro z54_
 refine ⟨(mem_pick (idx := [2, 3]) rfl), ?_⟩
 refine a_1 (i := 6) (by kernel_rfl) ?_
 refine i_e rfl rfl (e_callF [0] #[.slice z54_.1 t39_.length z54_.2] rfl rfl rfl rfl rfl Try.func11 rfl (by decide) rfl rfl rfl rfl (fun w ht => stepstonelaw07_Olds_con _ z54_.1 z54_.2 t39_ t42_ e43_ w _)) ?_
 intro A55_ c56_
 refine ⟨(mem_pick (idx := [3, 4]) rfl), ?_⟩
 refine a_1 (i := 9) (by kernel_rfl) ?_
 refine i_e rfl rfl (e_callF [4] #[.agg #[.int .i64 a0_0, .int .i64 a0_1, .int .i64 a0_2, .int .i64 a0_3, .int .i64 a0_4, .int .i64 a0_5, .int .i64 a0_6], .slice A1 l1.length c1] rfl rfl rfl rfl rfl Try.func14 rfl (by decide) rfl rfl rfl rfl (fun w ht => stepstoneref21_Map_con _ a0_0 a0_1 a0_2 a0_3 a0_4 a0_5 a0_6 A1 c1 l1 t46_ e47_ w _)) ?_
 intro A57_ c58_
 refine ⟨(mem_pick (idx := [4, 5]) rfl), ?_⟩
 refine a_1 (i := 10) (by kernel_rfl) ?_
 refine i_e rfl rfl (e_callF [1, 0] #[.slice A55_ t42_.length c56_, .slice A57_ t46_.length c58_] rfl rfl rfl rfl rfl Try.func10 rfl (by decide) rfl rfl rfl rfl (fun w ht => stepstoneref07_Equal_con _ A55_ c56_ t42_ A57_ c58_ t46_ t50_ e51_ w _)) ?_
 refine ⟨(mem_pick (idx := [4, 5]) rfl), ?_⟩
 refine a_v 11 rfl (by kernel_rfl) (by kernel_rfl) (by kernel_rfl) rfl rfl rfl (v_pick rfl rfl rfl rfl) ?_
 refine a_v 12 rfl (by kernel_rfl) (by kernel_rfl) (by kernel_rfl) rfl rfl rfl (v_assign rfl rfl) ?_
 refine a_end (by kernel_rfl) ?_
 have hq_0 := Option.some.inj H
 subst hq_0
 exact q_seq (c_frame (subF_spec (by exact ⟨rfl, trivial⟩)) (c_take [4, 5] rfl (by decide) (J_ () trivial)))
 subst h34_
 replace H := ite_n (by decide) H
 refine r_any [.b b2_ (.cells #[.int .i64 a0_0, .int .i64 a0_1, .int .i64 a0_2, .int .i64 a0_3, .int .i64 a0_4, .int .i64 a0_5, .int .i64 a0_6] 23 (0, 0)), .f (KC (Kd.int .u64) A1 c1 l1)] (by kernel_rfl) rfl (by kernel_rfl) (mem_pick (idx := [0, 1]) rfl) ?_
 refine a_1 (i := 0) (by kernel_rfl) ?_
 refine i_e rfl rfl (e_callF [] #[] rfl rfl rfl rfl rfl Try.func7 rfl (by decide) rfl rfl rfl rfl (fun w ht => stepstonelaw21_alive_con _ false e33_ w _)) ?_
 refine ⟨(mem_pick (idx := [0, 1]) rfl), ?_⟩
 refine a_v 1 rfl (by kernel_rfl) (by kernel_rfl) (by kernel_rfl) rfl rfl rfl (v_move rfl rfl) ?_
 refine a_no 2 rfl (by kernel_rfl) (by kernel_rfl) (by kernel_rfl) rfl rfl rfl ?_
 refine a_no 3 rfl (by kernel_rfl) (by kernel_rfl) (by kernel_rfl) rfl rfl rfl ?_
 refine a_no 4 rfl (by kernel_rfl) (by kernel_rfl) (by kernel_rfl) rfl rfl rfl ?_
 refine a_no 5 rfl (by kernel_rfl) (by kernel_rfl) (by kernel_rfl) rfl rfl rfl ?_
 refine a_no 6 rfl (by kernel_rfl) (by kernel_rfl) (by kernel_rfl) rfl rfl rfl ?_
 refine a_no 7 rfl (by kernel_rfl) (by kernel_rfl) (by kernel_rfl) rfl rfl rfl ?_
 refine a_no 8 rfl (by kernel_rfl) (by kernel_rfl) (by kernel_rfl) rfl rfl rfl ?_
 refine a_no 9 rfl (by kernel_rfl) (by kernel_rfl) (by kernel_rfl) rfl rfl rfl ?_
 refine a_no 10 rfl (by kernel_rfl) (by kernel_rfl) (by kernel_rfl) rfl rfl rfl ?_
 refine a_v 11 rfl (by kernel_rfl) (by kernel_rfl) (by kernel_rfl) rfl rfl rfl (v_pick rfl rfl rfl rfl) ?_
 refine a_v 12 rfl (by kernel_rfl) (by kernel_rfl) (by kernel_rfl) rfl rfl rfl (v_assign rfl rfl) ?_
 refine a_end (by kernel_rfl) ?_
 have hq_0 := Option.some.inj H
 subst hq_0
 exact q_seq (c_frame (subF_spec (by exact ⟨rfl, trivial⟩)) (c_take [0, 1] rfl (by decide) (J_ () trivial)))
def stepstonelaw21_ShapeLaid.l0 : Nat → Int → Int → Int → Int → Int → Int → Int → List S46 → List Int → Bool → Int → List S48 → Option Bool
  | 0, _, _, _, _, _, _, _, _, _, _, _, _ => none
  | k + 1, a0_0, a0_1, a0_2, a0_3, a0_4, a0_5, a0_6, l1, t31_, x50_, x51_, xs48_ => (if (x51_ : Int) < (l1.length : Int) then (if 0 ≤ (x51_ : Int) then ((if x50_ = true then some (true, true, true, true) else some ((rd_T46 l1 x51_).f4, false, false, (rd_T46 l1 x51_).f4)) : Option (Bool × Bool × Bool × Bool)).bind fun (j104_, j105_, j106_, j107_) => (if ((rd_T46 l1 x51_).f4) = true then stepstonelaw21_ShapeLaid.l0 k a0_0 a0_1 a0_2 a0_3 a0_4 a0_5 a0_6 l1 t31_ j104_ (IntKind.wrap .i64 (x51_ + 1)) xs48_ else (if xs48_.length < 8796093022208 then stepstonelaw21_ShapeLaid.l0 k a0_0 a0_1 a0_2 a0_3 a0_4 a0_5 a0_6 l1 t31_ j104_ (IntKind.wrap .i64 (x51_ + 1)) (xs48_ ++ [(⟨(rd_T46 l1 x51_).f0, (rd_T46 l1 x51_).f1⟩ : S48)]) else none)) else none) else (stepstonelaw21_alive.f k).bind fun t141_ => (if t141_ = true then (shape_Right.f k a0_0 a0_1 a0_2 a0_3 a0_4 a0_5 a0_6 t31_).bind fun t144_ => (if t144_ = true then (shape_Map.f k a0_0 a0_1 a0_2 a0_3 a0_4 a0_5 a0_6 t31_).bind fun t147_ => (seq_Map_Pairs.f t147_).bind fun t151_ => (stepstonelaw07_Olds.f k t151_).bind fun t154_ => (stepstoneref07_Equal.f k t154_ xs48_).bind fun t158_ => (if t158_ = true then (shape_Rest.f k a0_0 a0_1 a0_2 a0_3 a0_4 a0_5 a0_6 t31_ ([] : List (List S81))).bind fun t161_ => some (t161_ == (!x50_)) else some false) else some false) else some false))
def stepstonelaw21_ShapeLaid.f (k : Nat) (a0_0 : Int) (a0_1 : Int) (a0_2 : Int) (a0_3 : Int) (a0_4 : Int) (a0_5 : Int) (a0_6 : Int) (l1 : List S46) : Option Bool := ((stepstoneref11_Right.f k a0_0 a0_1 a0_2 a0_3 a0_4 a0_5 a0_6 l1).bind fun t163_ => (if t163_ = true then some (decide ((a0_2 : Int) > 20)) else some true) : Option Bool).bind fun j20_ => (if j20_ = true then (stepstonelaw21_alive.f k).bind fun t25_ => some t25_ else (stepstoneref11_Lay.f k a0_0 a0_1 a0_2 a0_3 a0_4 a0_5 a0_6 l1).bind fun t31_ => stepstonelaw21_ShapeLaid.l0 k a0_0 a0_1 a0_2 a0_3 a0_4 a0_5 a0_6 l1 t31_ false 0 ([] : List S48))
end Go.Eng
namespace Go.Eng
open Go.Proofs Go.RowKit Go.Proofs.YtbonlagecjealaaW.PrintWords
set_option linter.unusedVariables false
set_option linter.unusedSimpArgs false
theorem ofInt_nat {x : Int} (h0 : 0 ≤ x) (h1 : x < 18446744073709551616) : ((BitVec.ofInt 64 x).toNat : Int) = x := by
  rw [BitVec.toNat_ofInt]
  have : 0 ≤ x % ((2 ^ 64 : Nat) : Int) := Int.emod_nonneg _ (by decide)
  rw [Int.toNat_of_nonneg this]
  exact Int.emod_eq_of_lt h0 h1
theorem and_pow (n i : Nat) : n &&& 2 ^ i = (n.testBit i).toNat * 2 ^ i := by
  apply Nat.eq_of_testBit_eq
  intro j
  rw [Nat.testBit_and, Nat.testBit_two_pow]
  cases h : n.testBit i
  · simp only [Bool.toNat_false, Nat.zero_mul, Nat.zero_testBit]
    by_cases hj : i = j
    · subst hj; simp [h]
    · simp [hj]
  · simp only [Bool.toNat_true, Nat.one_mul, Nat.testBit_two_pow]
    by_cases hj : i = j
    · subst hj; simp [h]
    · simp [hj]
theorem bit63 (b : BitVec 64) : ((b &&& BitVec.ofInt 64 9223372036854775808).toNat != 0) = decide (b.toNat ≥ 9223372036854775808) := by
  have hb := b.isLt
  have e : (BitVec.ofInt 64 9223372036854775808).toNat = 2 ^ 63 := by decide
  rw [BitVec.toNat_and, e, and_pow, Nat.testBit_eq_decide_div_mod_eq]
  by_cases h : b.toNat ≥ 9223372036854775808
  · have h2 : b.toNat / 2 ^ 63 % 2 = 1 := by omega
    rw [decide_eq_true h2, decide_eq_true h]
    decide
  · have h2 : ¬ b.toNat / 2 ^ 63 % 2 = 1 := by omega
    rw [decide_eq_false h2, decide_eq_false h]
    decide
theorem bit62 (b : BitVec 64) : (b &&& ~~~ BitVec.ofInt 64 4611686018427387904).toNat = if b.toNat / 4611686018427387904 % 2 = 1 then b.toNat - 4611686018427387904 else b.toNat := by
  generalize hc : BitVec.ofInt 64 4611686018427387904 = c
  have e : c.toNat = 2 ^ 62 := by rw [← hc]; decide
  have h1 : (b &&& ~~~c) + (b &&& c) = b := by
    rw [BitVec.add_eq_or_of_and_eq_zero]
    · ext i
      simp
      cases b[i] <;> cases c[i] <;> rfl
    · ext i
      simp
      cases b[i] <;> cases c[i] <;> simp
  have h2 := congrArg BitVec.toNat h1
  rw [BitVec.toNat_add] at h2
  have hq : (b &&& c).toNat = (b.toNat.testBit 62).toNat * 2 ^ 62 := by rw [BitVec.toNat_and, e, and_pow]
  have hp : (b &&& ~~~c).toNat ≤ b.toNat := by rw [BitVec.toNat_and]; exact Nat.and_le_left
  have hb := b.isLt
  rw [Nat.testBit_eq_decide_div_mod_eq] at hq
  by_cases h : b.toNat / 4611686018427387904 % 2 = 1
  · have h3 : b.toNat / 2 ^ 62 % 2 = 1 := h
    rw [decide_eq_true h3] at hq
    have hq2 : (b &&& c).toNat = 4611686018427387904 := hq
    rw [if_pos h]
    omega
  · have h3 : ¬ b.toNat / 2 ^ 62 % 2 = 1 := h
    rw [decide_eq_false h3] at hq
    have hq2 : (b &&& c).toNat = 0 := by rw [hq]; decide
    rw [if_neg h]
    omega
theorem valid_is {x : Int} (h0 : 0 ≤ x) (h1 : x < 18446744073709551616) : handle_Valid.f x = some (decide (x ≥ 9223372036854775808)) := by
  have key : ∀ n : Nat, n < 18446744073709551616 → ((IntKind.wrap .u64 (n : Int)) != 0) = (n != 0) := fun n hn => by
    rw [wu64 (by omega) (by omega), Bool.eq_iff_iff]
    simp
  have e := ofInt_nat h0 h1
  have e2 : decide ((BitVec.ofInt 64 x).toNat ≥ 9223372036854775808) = decide (x ≥ 9223372036854775808) := by
    rw [Bool.eq_iff_iff, decide_eq_true_eq, decide_eq_true_eq]; omega
  exact congrArg some ((key _ (BitVec.isLt _)).trans ((bit63 _).trans e2))
theorem plF_is {x : Int} (h0 : 0 ≤ x) (h1 : x < 18446744073709551616) : plF x = if x / 4611686018427387904 % 2 = 1 then x - 4611686018427387904 else x := by
  have key : ∀ m : Nat, m < 18446744073709551616 → (some (IntKind.wrap .u64 (m : Int))).getD 0 = (m : Int) := fun n hn => wu64 (by omega) (by omega)
  have e := ofInt_nat h0 h1
  refine (key _ (BitVec.isLt _)).trans ?_
  refine (congrArg (fun n : Nat => (n : Int)) (bit62 (BitVec.ofInt 64 x))).trans ?_
  generalize (BitVec.ofInt 64 x).toNat = n at e
  subst e
  by_cases h : n / 4611686018427387904 % 2 = 1
  · rw [if_pos (show (n : Int) / 4611686018427387904 % 2 = 1 by omega)]
    simp only [h, if_true]
    omega
  · rw [if_neg (show ¬ (n : Int) / 4611686018427387904 % 2 = 1 by omega)]
    simp only [h, if_false]
theorem ref_plain {x : Int} (h0 : 0 ≤ x) (h1 : x < 18446744073709551616) : stepstoneref01_Plain.f x = some (plF x) := by
  unfold stepstoneref01_Plain.f stepstoneref01_Marked.f
  rw [plF_is h0 h1, Int.tdiv_eq_ediv_of_nonneg h0, wu64 (n := x / 4611686018427387904) (by omega) (by omega), Int.tmod_eq_emod_of_nonneg (by omega)]
  simp only [Option.bind_some]
  by_cases h : x / 4611686018427387904 % 2 = 1
  · rw [if_pos h, h, if_pos (by decide), wu64 (by omega) (by omega)]
  · rw [if_neg h, if_neg (by simpa using h)]
theorem ref_index {x : Int} (h0 : 0 ≤ x) : stepstoneref01_Index.f x = some (x % 4294967296) := by
  unfold stepstoneref01_Index.f
  rw [Int.tmod_eq_emod_of_nonneg h0, wi64 (by omega) (by omega)]
section
variable {T S C H K V L : Int} {l : List Int}
theorem nm_is {x : Int} (h0 : 0 ≤ x) (h1 : x < 18446744073709551616) : nmF T S C H K V L l x = (decide (x ≥ 9223372036854775808) && decide (x % 4294967296 ≥ 1) && decide (x % 4294967296 ≤ C)) := by
  unfold nmF shape_words_names.f
  rw [valid_is h0 h1]
  simp only [Option.bind_some]
  by_cases h2 : x ≥ 9223372036854775808
  · rw [decide_eq_true h2]
    by_cases h3 : x % 4294967296 ≥ 1
    · rw [decide_eq_true h3]; simp [h3]
    · rw [decide_eq_false h3]; simp [h3]
  · rw [decide_eq_false h2]; simp
theorem ref_at (hr : R7 T S C H K V L) (hl : (l.length : Int) = lenI T S C H) {i f : Int} (hf : isF C H i f = true) : stepstoneref21_at.f T S C H K V L l i f = some (atF T S C H K V L l i f) := by
  obtain ⟨h1, h2, h3, h4⟩ := isF_iff.1 hf
  have hc := cells hr h1 h2 h3 h4
  unfold stepstoneref21_at.f atF
  rw [ref04_Cell_is, r7_iff.2 hr, hf, at_some hr hl hf]
  simp only [Bool.and_self, if_true, Option.bind_some]
  rw [if_pos hc.1, if_pos (by rw [hl]; exact hc.2.1)]
  rfl
theorem rd_u64 (hu : ∀ x ∈ l, 0 ≤ x ∧ x < 18446744073709551616) (j : Int) : 0 ≤ rd l j ∧ rd l j < 18446744073709551616 := by
  unfold rd
  rw [List.getD_eq_getElem?_getD]
  cases e : l[j.toNat]? with
  | none => exact ⟨Int.le_refl _, by decide⟩
  | some v => exact hu v (List.mem_of_getElem? e)
theorem at_u64 (hr : R7 T S C H K V L) (hl : (l.length : Int) = lenI T S C H) (hu : ∀ x ∈ l, 0 ≤ x ∧ x < 18446744073709551616) {i f : Int} (hf : isF C H i f = true) : 0 ≤ atF T S C H K V L l i f ∧ atF T S C H K V L l i f < 18446744073709551616 := by
  unfold atF
  rw [at_some hr hl hf]
  exact rd_u64 hu _
theorem refLevel_l0 (hr : R7 T S C H K V L) (hl : (l.length : Int) = lenI T S C H) (hu : ∀ x ∈ l, 0 ≤ x ∧ x < 18446744073709551616) {lev : Int} (h0 : 0 ≤ lev) (h1 : lev < H) : ∀ (m k : Nat) (x : Int) (xs : List Int), C + 1 - xs.length = m → m < k → 0 ≤ x → x < 18446744073709551616 →
    ∃ w, stepstoneref21_Level.l0 k T S C H K V L l lev x xs = some (xs ++ (ylF C (nmF T S C H K V L l) plF (fun x => atF T S C H K V L l (x % 4294967296) (IntKind.wrap .i64 (6 + lev))) m xs.length x).map (·.2), w)
  | 0, 0, x, xs, _, h, _, _ => absurd h (by decide)
  | m + 1, 0, x, xs, _, h, _, _ => absurd h (by omega)
  | 0, k + 1, x, xs, hm, _, _, _ => ⟨x, by rw [stepstoneref21_Level.l0, if_neg (by omega)]; simp [ylF]⟩
  | m + 1, k + 1, x, xs, hm, hk, hx0, hx1 => by
    have hC := hr.c
    have e5 : stepstoneref01_Valid.f x = some (decide (x ≥ 9223372036854775808)) := rfl
    have ey : ylF C (nmF T S C H K V L l) plF (fun x => atF T S C H K V L l (x % 4294967296) (IntKind.wrap .i64 (6 + lev))) (m + 1) xs.length x = if nmF T S C H K V L l x = true then ((xs.length : Int), plF x) :: ylF C (nmF T S C H K V L l) plF (fun x => atF T S C H K V L l (x % 4294967296) (IntKind.wrap .i64 (6 + lev))) m (xs.length + 1) (atF T S C H K V L l (x % 4294967296) (IntKind.wrap .i64 (6 + lev))) else [] := by
      rw [ylF, if_pos (by omega)]
    rw [stepstoneref21_Level.l0, if_pos (by omega), ref_index hx0, e5, ey, nm_is hx0 hx1, ref_plain hx0 hx1]
    simp only [Option.bind_some]
    by_cases h2 : x ≥ 9223372036854775808
    · rw [decide_eq_true h2]
      by_cases h3 : x % 4294967296 < 1
      · rw [decide_eq_false (show ¬ x % 4294967296 ≥ 1 by omega)]
        exact ⟨x, by simp [h3]⟩
      · rw [decide_eq_true (show x % 4294967296 ≥ 1 by omega)]
        by_cases h4 : x % 4294967296 > C
        · rw [decide_eq_false (show ¬ x % 4294967296 ≤ C by omega)]
          exact ⟨x, by simp [h3, h4]⟩
        · rw [decide_eq_true (show x % 4294967296 ≤ C by omega)]
          have hf := isF_lev hr (show 0 ≤ x % 4294967296 by omega) (show x % 4294967296 ≤ C by omega) h0 h1
          have hb := at_u64 hr hl hu hf
          obtain ⟨w, ew⟩ := refLevel_l0 hr hl hu h0 h1 m k (atF T S C H K V L l (x % 4294967296) (IntKind.wrap .i64 (6 + lev))) (xs ++ [plF x]) (by rw [List.length_append, List.length_singleton]; omega) (by omega) hb.1 hb.2
          refine ⟨w, ?_⟩
          rw [if_pos rfl, if_neg h3, decide_eq_false h4]
          simp only [Option.bind_some, Bool.false_eq_true, if_false]
          rw [if_pos (by omega), ref_at hr hl hf]
          simp only [Option.bind_some]
          rw [ew, List.length_append, List.length_singleton]
          simp
    · rw [decide_eq_false h2]
      exact ⟨x, by simp⟩
theorem refLevel_is (hu : ∀ x ∈ l, 0 ≤ x ∧ x < 18446744073709551616) (lev : Int) : ∃ w, stepstoneref21_Level.f 3000 T S C H K V L l lev = some ((if okB T S C H K V L l lev = true then (lvlF T S C H K V L l lev).map (·.2) else []), w) := by
  have hw : stepstoneref21_whole.f T S C H K V L l = some (r7 T S C H K V L && decide ((l.length : Int) = lenI T S C H)) := by
    unfold stepstoneref21_whole.f
    rw [ref04_Right_is, ref04_Len_is]
    simp only [Option.bind_some]
    by_cases h : r7 T S C H K V L = true
    · rw [if_pos h, if_pos h, h]
      simp only [Option.bind_some, Bool.true_and]
      rw [Bool.eq_iff_iff.2 (show ((l.length : Int) == lenI T S C H) = true ↔ decide ((l.length : Int) = lenI T S C H) = true by simp)]
    · rw [if_neg h]
      rw [Bool.not_eq_true] at h
      rw [h]
      rfl
  have hp : ∀ x ∈ l, 0 ≤ x := fun x hx => (hu x hx).1
  unfold stepstoneref21_Level.f
  rw [hw]
  simp only [Option.bind_some]
  by_cases h : okB T S C H K V L l lev = true
  · obtain ⟨h1, h2, h3, h4, _⟩ := okB_iff.1 h
    have hC := h1.c
    have hf := isF_lev h1 (Int.le_refl 0) (show (0 : Int) ≤ C by omega) h3 h4
    have hb := at_u64 h1 h2 hu hf
    obtain ⟨w, ew⟩ := refLevel_l0 h1 h2 hu h3 h4 (C.toNat + 1) 3000 _ [] (by simp only [List.length_nil]; omega) (by omega) hb.1 hb.2
    refine ⟨w, ?_⟩
    rw [if_pos h, r7_iff.2 h1, decide_eq_true h2, Bool.and_self, if_pos rfl, if_neg (by omega), decide_eq_false (by omega), ref_at h1 h2 hf]
    simp only [Option.bind_some, Bool.false_eq_true, if_false]
    rw [ew]
    rfl
  · refine ⟨0, ?_⟩
    rw [if_neg h]
    by_cases h1 : (r7 T S C H K V L && decide ((l.length : Int) = lenI T S C H)) = true
    · rw [if_pos h1]
      by_cases h2 : lev < 0
      · rw [if_pos h2]; rfl
      · rw [if_neg h2]
        have h3 : lev ≥ H := by
          rw [Bool.and_eq_true, r7_iff, decide_eq_true_eq] at h1
          rw [okB_iff] at h
          exact Int.not_lt.1 (fun h4 => h ⟨h1.1, h1.2, by omega, h4, hp⟩)
        rw [decide_eq_true h3]; rfl
    · rw [if_neg h1]; rfl
end
theorem u64_of {l : List Int} (hw : l.length ≤ maxLen ∧ ∀ x ∈ l, (Lit.int .u64 x).wf = true) : ∀ x ∈ l, 0 ≤ x ∧ x < 18446744073709551616 := fun x hx => by
  have h : IntKind.u64.min ≤ x ∧ x ≤ IntKind.u64.max := by simpa [Lit.wf] using hw.2 x hx
  have e : IntKind.u64.min = 0 := by decide
  have e2 : IntKind.u64.max = 18446744073709551615 := by decide
  omega
end Go.Eng
namespace Go.Eng
open Go.Proofs Go.RowKit Go.Proofs.YtbonlagecjealaaW.PrintWords Go.Proofs.Ytbonlagecjealaa.GSeq
set_option linter.unusedVariables false
set_option linter.unusedSimpArgs false
def Srt (l : List S61) : Prop := l.Pairwise (fun a b => a.f0 < b.f0)
def old (x : S61) : S48 := ⟨x.f0, x.f1⟩
def new (x : S48) : S61 := ⟨x.f0, x.f1⟩
def lb (l : List S61) (k : Int) : Nat := (l.takeWhile (fun p => decide (p.f0 < k))).length
def isIn (l : List S61) (k : Int) : Bool := l.any (fun p => p.f0 == k)
def del (l : List S61) (k : Int) : List S61 := l.filter (fun p => !(p.f0 == k))
def ins (l : List S61) (k v : Int) : List S61 := l.filter (fun p => decide (p.f0 < k)) ++ [⟨k, v⟩] ++ l.filter (fun p => decide (k < p.f0))
theorem w64 {i : Int} (h0 : 0 ≤ i) (h1 : i < 1000000) : wrap64 (i + 1) = i + 1 := by unfold wrap64; omega
theorem w64' {i : Int} (h0 : 0 ≤ i) (h1 : i < 10000000) : wrap64 i = i := by unfold wrap64; omega
theorem mid {a : Int} (h0 : 0 ≤ a) (h1 : a < 10000000) : wrap64 ((IntKind.u64.wrap (wrap64 a)) / 2) = a / 2 := by
  rw [w64' h0 h1]
  have : IntKind.u64.wrap a = a := by
    simp only [IntKind.wrap, IntKind.bits, IntKind.signed]
    simp
    omega
  rw [this, w64' (by omega) (by omega)]
theorem srt_cons {p : S61} {l : List S61} : Srt (p :: l) ↔ (∀ q ∈ l, p.f0 < q.f0) ∧ Srt l := List.pairwise_cons
theorem lb_lt {p : S61} {l : List S61} {k : Int} (h : p.f0 < k) : lb (p :: l) k = lb l k + 1 := by simp [lb, h]
theorem lb_ge {p : S61} {l : List S61} {k : Int} (h : ¬ p.f0 < k) : lb (p :: l) k = 0 := by simp [lb, h]
theorem lb_le (l : List S61) (k : Int) : lb l k ≤ l.length := by
  unfold lb
  exact List.IsPrefix.length_le (List.takeWhile_prefix _)
theorem lb_spec {l : List S61} (hs : Srt l) (k : Int) : ∀ i (h : i < l.length), (l[i]).f0 < k ↔ i < lb l k := by
  induction l with
  | nil => intro i h; cases h
  | cons p l ih =>
    obtain ⟨h1, h2⟩ := srt_cons.1 hs
    intro i h
    by_cases hp : p.f0 < k
    · rw [lb_lt hp]
      cases i with
      | zero => simp [hp]
      | succ i => simp only [List.getElem_cons_succ]; rw [ih h2 i (by simpa using h)]; omega
    · rw [lb_ge hp]
      cases i with
      | zero => simp [hp]
      | succ i =>
        simp only [List.getElem_cons_succ]
        have := h1 _ (List.getElem_mem (l := l) (n := i) (by simpa using h))
        constructor
        · intro hh; omega
        · intro hh; omega
theorem isIn_spec {l : List S61} (hs : Srt l) (k : Int) : isIn l k = if h : lb l k < l.length then (l[lb l k]).f0 == k else false := by
  induction l with
  | nil => rfl
  | cons p l ih =>
    obtain ⟨h1, h2⟩ := srt_cons.1 hs
    by_cases hp : p.f0 < k
    · have e : isIn (p :: l) k = isIn l k := by
        simp only [isIn, List.any_cons]
        have : (p.f0 == k) = false := by simp; omega
        rw [this, Bool.false_or]
      rw [e, ih h2]
      simp only [lb_lt hp, List.length_cons, Nat.add_lt_add_iff_right, List.getElem_cons_succ]
    · simp only [lb_ge hp, List.length_cons, Nat.zero_lt_succ, dite_true, List.getElem_cons_zero]
      simp only [isIn, List.any_cons]
      by_cases e : p.f0 = k
      · simp [e]
      · have : l.any (fun p => p.f0 == k) = false := by
          rw [List.any_eq_false]
          intro q hq
          have := h1 q hq
          simp; omega
        rw [this, Bool.or_false]
theorem to_f (a b k : Int) : seq_Pair_to.f a b k = some (if a < k then -1 else if a > k then 1 else 0) := by
  simp [seq_Pair_to.f, cmp_Compare_uint64.f, cmp_isNaN_uint64.f]
  split
  · rfl
  · split <;> rfl
theorem rd52 {l : List S61} {i : Nat} (h : i < l.length) : rd_T61 l (i : Int) = l[i] := by
  simp [rd_T61, List.getD_eq_getElem?_getD, h]
theorem place_l (l : List S61) (k : Int) (hs : Srt l) (hl : l.length ≤ 1000) : ∀ (d f lo hi : Nat), hi - lo ≤ d → d < f → lo ≤ lb l k → lb l k ≤ hi → hi ≤ l.length →
    seq_Pair_uint64.l0 f l k (l.length : Int) (lo : Int) (hi : Int) = some (((lb l k : Nat) : Int), isIn l k) := by
  intro d
  induction d with
  | zero =>
    intro f lo hi hd hf h1 h2 h3
    obtain ⟨f, rfl⟩ : ∃ m, f = m + 1 := ⟨f - 1, by omega⟩
    have e : lo = lb l k := by omega
    subst e
    simp only [seq_Pair_uint64.l0]
    rw [if_neg (by omega), isIn_spec hs]
    by_cases hlt : lb l k < l.length
    · rw [if_pos (by omega), if_pos (by omega), if_pos (by omega), to_f, rd52 hlt, dif_pos hlt]
      have := (lb_spec hs k _ hlt)
      have h4 : ¬ (l[lb l k]).f0 < k := by rw [this]; omega
      rw [if_neg h4]
      simp only [Option.bind_some]
      by_cases h5 : (l[lb l k]).f0 > k
      · rw [if_pos h5]
        have : ((l[lb l k]).f0 == k) = false := by simp; omega
        rw [this]; rfl
      · rw [if_neg h5]
        have : ((l[lb l k]).f0 == k) = true := by simp; omega
        rw [this]; rfl
    · rw [if_neg (by omega), dif_neg hlt]
  | succ d ih =>
    intro f lo hi hd hf h1 h2 h3
    by_cases hlt : lo < hi
    · obtain ⟨f, rfl⟩ : ∃ m, f = m + 1 := ⟨f - 1, by omega⟩
      simp only [seq_Pair_uint64.l0]
      have hm : wrap64 ((IntKind.u64.wrap (wrap64 ((lo : Int) + hi))) / 2) = (((lo + hi) / 2 : Nat) : Int) := by rw [mid (by omega) (by omega)]; omega
      have hb : (lo + hi) / 2 < l.length := by omega
      rw [if_pos (by omega), hm, if_pos (by omega), if_pos (by omega), to_f, rd52 hb]
      simp only [Option.bind_some]
      have hsp := lb_spec hs k _ hb
      by_cases hc : (l[(lo + hi) / 2]).f0 < k
      · rw [if_pos hc, if_pos (by decide), show ((((lo + hi) / 2 : Nat) : Int) + 1) = (((lo + hi) / 2 + 1 : Nat) : Int) by omega, w64' (by omega) (by omega)]
        exact ih f _ hi (by omega) (by omega) (by have := hsp.1 hc; omega) h2 h3
      · have hneg : ¬ ((if (l[(lo + hi) / 2]).f0 < k then (-1 : Int) else if (l[(lo + hi) / 2]).f0 > k then 1 else 0) < 0) := by rw [if_neg hc]; split <;> decide
        rw [if_neg hneg]
        exact ih f lo _ (by omega) (by omega) h1 (by have : ¬ (lo + hi) / 2 < lb l k := fun h => hc (hsp.2 h); omega) (by omega)
    · exact ih f lo hi (by omega) (by omega) h1 h2 h3
theorem place (l : List S61) (k : Int) (hs : Srt l) (hl : l.length ≤ 1000) (f : Nat) (hf : 1000 < f) : seq_Map_place.f f l k = some (((lb l k : Nat) : Int), isIn l k) := by
  have := place_l l k hs hl l.length f 0 l.length (by omega) (by omega) (by omega) (lb_le l k) (by omega)
  unfold seq_Map_place.f seq_Pair_uint64.f
  simp only [Int.natCast_zero] at this
  rw [this]; rfl
theorem del_eq {l : List S61} (hs : Srt l) (k : Int) : (if isIn l k = true then l.eraseIdx (lb l k) else l) = del l k := by
  induction l with
  | nil => rfl
  | cons p l ih =>
    obtain ⟨h1, h2⟩ := srt_cons.1 hs
    by_cases hp : p.f0 < k
    · have e : (p.f0 == k) = false := by simp; omega
      have e1 : isIn (p :: l) k = isIn l k := by simp only [isIn, List.any_cons, e, Bool.false_or]
      have e2 : del (p :: l) k = p :: del l k := by simp [del, List.filter_cons, e]
      rw [e1, e2, lb_lt hp, ← ih h2]
      by_cases h : isIn l k = true
      · rw [if_pos h, if_pos h, List.eraseIdx_cons_succ]
      · rw [if_neg h, if_neg h]
    · have hall : del l k = l := by
        rw [del, List.filter_eq_self]
        intro q hq
        have := h1 q hq
        simp; omega
      have hno : isIn l k = false := by
        rw [isIn, List.any_eq_false]
        intro q hq
        have := h1 q hq
        simp; omega
      rw [lb_ge hp]
      by_cases e : p.f0 = k
      · rw [if_pos (by simp [isIn, e]), List.eraseIdx_cons_zero]
        conv => lhs; rw [← hall]
        simp [del, List.filter_cons, e]
      · have e' : (p.f0 == k) = false := by simpa using e
        have : isIn (p :: l) k = false := by simp only [isIn, List.any_cons, e', Bool.false_or]; exact hno
        rw [if_neg (by rw [this]; decide)]
        have : del (p :: l) k = p :: del l k := by simp [del, List.filter_cons, e']
        rw [this, hall]
theorem del_take {l : List S61} (hs : Srt l) (k : Int) : (del l k).take (lb l k) = l.filter (fun p => decide (p.f0 < k)) ∧ (del l k).drop (lb l k) = l.filter (fun p => decide (k < p.f0)) := by
  induction l with
  | nil => exact ⟨rfl, rfl⟩
  | cons p l ih =>
    obtain ⟨h1, h2⟩ := srt_cons.1 hs
    obtain ⟨i1, i2⟩ := ih h2
    by_cases hp : p.f0 < k
    · have e : (p.f0 == k) = false := by simp; omega
      have e2 : del (p :: l) k = p :: del l k := by simp [del, List.filter_cons, e]
      have hn : ¬ k < p.f0 := by omega
      rw [e2, lb_lt hp]
      simp only [List.take_succ_cons, List.drop_succ_cons, List.filter_cons, hp, hn, decide_true, decide_false, if_true, i1, i2]
      simp
    · rw [lb_ge hp]
      have f1 : (p :: l).filter (fun p => decide (p.f0 < k)) = [] := by
        rw [List.filter_eq_nil_iff]
        intro q hq
        rcases List.mem_cons.1 hq with rfl | hq
        · simpa using hp
        · have := h1 q hq; simp; omega
      refine ⟨by rw [f1]; rfl, ?_⟩
      rw [List.drop_zero, del]
      apply List.filter_congr
      intro q hq
      have : k ≤ q.f0 := by
        rcases List.mem_cons.1 hq with rfl | hq
        · omega
        · have := h1 q hq; omega
      by_cases e : q.f0 = k
      · simp [e]
      · have : k < q.f0 := by omega
        simp [e, this]
theorem without_f (l : List S61) (k : Int) (hs : Srt l) (hl : l.length ≤ 1000) (f : Nat) (hf : 1000 < f) : seq_Map_without.f f l k = some (del l k, ((lb l k : Nat) : Int)) := by
  unfold seq_Map_without.f
  rw [place l k hs hl f hf, Option.bind_some, if_pos (by omega), if_pos (by omega), ← del_eq hs k]
  by_cases e : isIn l k = true
  · have h := e
    rw [isIn_spec hs] at h
    have hlt : lb l k < l.length := by
      by_cases hh : lb l k < l.length
      · exact hh
      · rw [dif_neg hh] at h; cases h
    simp only [if_pos e]
    rw [if_pos (by omega), Int.toNat_natCast]
  · simp only [if_neg e]
theorem del_len (l : List S61) (k : Int) : (del l k).length ≤ l.length := List.length_filter_le _ _
theorem lb_del {l : List S61} (hs : Srt l) (k : Int) : lb l k ≤ (del l k).length := by
  induction l with
  | nil => exact Nat.le_refl _
  | cons p l ih =>
    obtain ⟨h1, h2⟩ := srt_cons.1 hs
    by_cases hp : p.f0 < k
    · have e : (p.f0 == k) = false := by simp; omega
      have e2 : del (p :: l) k = p :: del l k := by simp [del, List.filter_cons, e]
      rw [e2, lb_lt hp, List.length_cons]
      have := ih h2
      omega
    · rw [lb_ge hp]; exact Nat.zero_le _
theorem with_f (l : List S61) (k v : Int) (hs : Srt l) (hl : l.length ≤ 1000) (f : Nat) (hf : 1000 < f) : seq_Map_with.f f l k v = some (ins l k v) := by
  unfold seq_Map_with.f
  have h1 := del_len l k
  have h2 := lb_del hs k
  obtain ⟨h3, h4⟩ := del_take hs k
  rw [without_f l k hs hl f hf, Option.bind_some, if_pos (by omega), if_pos (by show ((lb l k : Nat) : Int) ≤ ((del l k).length : Int); omega), if_pos (by show (del l k).length ≤ 1000000; omega)]
  show some ((del l k).take (((lb l k : Nat) : Int)).toNat ++ [⟨k, v⟩] ++ (del l k).drop (((lb l k : Nat) : Int)).toNat) = _
  rw [Int.toNat_natCast, h3, h4]; rfl
theorem srt_filter {l : List S61} (hs : Srt l) (p : S61 → Bool) : Srt (l.filter p) := List.Pairwise.filter p hs
theorem srt_ins {l : List S61} (hs : Srt l) (k v : Int) : Srt (ins l k v) := by
  unfold ins Srt
  rw [List.append_assoc, List.pairwise_append]
  refine ⟨srt_filter hs _, ?_, ?_⟩
  · rw [List.singleton_append, List.pairwise_cons]
    refine ⟨fun q hq => ?_, srt_filter hs _⟩
    have := (List.mem_filter.1 hq).2
    simpa using this
  · intro a ha b hb
    have h1 : a.f0 < k := by simpa using (List.mem_filter.1 ha).2
    rw [List.singleton_append] at hb
    rcases List.mem_cons.1 hb with rfl | hb
    · exact h1
    · have h2 : k < b.f0 := by simpa using (List.mem_filter.1 hb).2
      omega
theorem ins_len (l : List S61) (k v : Int) : (ins l k v).length ≤ l.length + 1 := by
  have key : (l.filter (fun p => decide (p.f0 < k))).length + (l.filter (fun p => decide (k < p.f0))).length ≤ l.length := by
    induction l with
    | nil => exact Nat.le_refl _
    | cons p l ih =>
      simp only [List.filter_cons]
      by_cases h1 : p.f0 < k
      · have h2 : ¬ k < p.f0 := by omega
        simp only [h1, h2, decide_true, decide_false, if_true, List.length_cons]
        simp only [Bool.false_eq_true, if_false]
        omega
      · simp only [h1, decide_false, Bool.false_eq_true, if_false]
        split <;> simp only [List.length_cons] <;> omega
  unfold ins
  simp only [List.length_append, List.length_singleton]
  omega
theorem drop_get {α : Type} (l : List α) (z : α) (i : Int) (h0 : 0 ≤ i) (h1 : i < l.length) : l.drop i.toNat = l.getD i.toNat z :: l.drop (i + 1).toNat := by
  have h : i.toNat < l.length := by omega
  rw [List.drop_eq_getElem_cons h, List.getD_eq_getElem?_getD, List.getElem?_eq_getElem h, show (i + 1).toNat = i.toNat + 1 by omega]; rfl
theorem drop_end {α : Type} (l : List α) (i : Int) (h : i = l.length) : l.drop i.toNat = [] := by
  rw [h]; simp
def wr (k v : Int) : Bool → List S61 → List S61
  | done, [] => if done then [] else [⟨k, v⟩]
  | done, x :: r => (if k ≤ x.f0 ∧ done = false then [⟨k, v⟩] else []) ++ (if x.f0 = k then [] else [x]) ++ wr k v (done || decide (k ≤ x.f0)) r
theorem wr_done {l : List S61} (k v : Int) (h : ∀ q ∈ l, k < q.f0) : wr k v true l = l := by
  induction l with
  | nil => rfl
  | cons x r ih =>
    have h1 := h x List.mem_cons_self
    have h2 : ¬ x.f0 = k := by omega
    simp only [wr, Bool.true_eq_false, and_false, if_false, List.nil_append, Bool.true_or, if_neg h2, ih (fun q hq => h q (List.mem_cons_of_mem _ hq)), List.singleton_append]
theorem wr_ins {l : List S61} (hs : Srt l) (k v : Int) : wr k v false l = ins l k v := by
  induction l with
  | nil => rfl
  | cons x r ih =>
    obtain ⟨h1, h2⟩ := srt_cons.1 hs
    by_cases hge : k ≤ x.f0
    · have hr : wr k v true r = r := wr_done k v (fun q hq => by have := h1 q hq; omega)
      have f1 : (x :: r).filter (fun p => decide (p.f0 < k)) = [] := by
        rw [List.filter_eq_nil_iff]
        intro q hq
        rcases List.mem_cons.1 hq with rfl | hq
        · simp; omega
        · have := h1 q hq; simp; omega
      have f2 : r.filter (fun p => decide (k < p.f0)) = r := by
        rw [List.filter_eq_self]
        intro q hq
        have := h1 q hq; simp; omega
      simp only [wr, hge, and_self, if_true, decide_true, Bool.or_true, hr, ins, f1, List.nil_append]
      by_cases he : x.f0 = k
      · simp [he, f2]
      · have : k < x.f0 := by omega
        simp [he, f2, this]
    · have he : ¬ x.f0 = k := by omega
      have hlt : x.f0 < k := by omega
      have hn : ¬ k < x.f0 := by omega
      simp only [wr, hge, false_and, if_false, decide_false, Bool.or_false, ih h2, he, List.nil_append]
      simp [ins, hlt, hn]
def ofL (acc l : List S61) : List S61 := l.foldl (fun m p => ins m p.f0 p.f1) acc
theorem ofL_len (l : List S61) : ∀ acc, (ofL acc l).length ≤ acc.length + l.length := by
  induction l with
  | nil => exact fun acc => Nat.le_refl _
  | cons x r ih =>
    intro acc
    have h1 := ih (ins acc x.f0 x.f1)
    have h2 := ins_len acc x.f0 x.f1
    simp only [ofL, List.foldl_cons, List.length_cons] at h1 ⊢
    omega
theorem of_l (l : List S61) (hl : l.length ≤ 500) (d : Nat) : ∀ (k : Nat) (acc : List S61) (i : Int), Srt acc → acc.length + (l.length - i.toNat) ≤ 1000 → 0 ≤ i → i ≤ l.length → (l.length : Int) - i = d → d + 1001 < k →
    seq_Of.l0 k l (l.length : Int) i acc = some (ofL acc (l.drop i.toNat)) := by
  induction d with
  | zero =>
    intro k acc i hs ha h0 h1 hd hk
    obtain ⟨k, rfl⟩ : ∃ m, k = m + 1 := ⟨k - 1, by omega⟩
    simp only [seq_Of.l0]; rw [if_neg (by omega), drop_end l i (by omega)]; rfl
  | succ d ih =>
    intro k acc i hs ha h0 h1 hd hk
    obtain ⟨k, rfl⟩ : ∃ m, k = m + 1 := ⟨k - 1, by omega⟩
    simp only [seq_Of.l0]
    have h3 := ins_len acc (rd_T61 l i).f0 (rd_T61 l i).f1
    rw [if_pos (by omega), if_pos h0, if_pos (by omega), with_f acc _ _ hs (by omega) k (by omega), Option.bind_some, w64 h0 (by omega), ih k _ (i + 1) (srt_ins hs _ _) (by omega) (by omega) (by omega) (by omega) (by omega), drop_get l z61 i h0 (by omega)]
    rfl
theorem of_f (l : List S61) (hl : l.length ≤ 500) (k : Nat) (hk : 2000 < k) : seq_Of.f k l = some (ofL [] l) := by
  have := of_l l hl l.length k [] 0 List.Pairwise.nil (by simp; omega) (by omega) (by omega) (by omega) (by omega)
  unfold seq_Of.f
  simpa using this
end Go.Eng
namespace Go.Eng
open Go.Proofs Go.RowKit Go.Proofs.YtbonlagecjealaaW.PrintWords Go.Proofs.Ytbonlagecjealaa.GSeq
set_option linter.unusedVariables false
set_option linter.unusedSimpArgs false
theorem drop_cons' {α : Type} {l : List α} {i : Nat} {x : α} {r : List α} (h : l.drop i = x :: r) : i < l.length ∧ l[i]? = some x ∧ l.drop (i + 1) = r := by
  have h1 : i < l.length := by
    rcases Nat.lt_or_ge i l.length with h1 | h1
    · exact h1
    · rw [List.drop_eq_nil_of_le h1] at h; cases h
  have h2 := List.drop_eq_getElem_cons h1
  rw [h] at h2
  injection h2 with h3 h4
  exact ⟨h1, by rw [List.getElem?_eq_getElem h1, h3], h4.symm⟩
theorem bit0 (b : BitVec 64) : (b &&& BitVec.ofInt 64 1).toNat = b.toNat % 2 := by
  have e : (BitVec.ofInt 64 1).toNat = 2 ^ 0 := by decide
  rw [BitVec.toNat_and, e, and_pow, Nat.testBit_eq_decide_div_mod_eq]
  by_cases h : b.toNat % 2 = 1
  · rw [decide_eq_true (show b.toNat / 2 ^ 0 % 2 = 1 by simpa using h), h]; decide
  · rw [decide_eq_false (show ¬ b.toNat / 2 ^ 0 % 2 = 1 by simpa using h), show b.toNat % 2 = 0 by omega]; decide
theorem dead_is {x : Int} (h0 : 0 ≤ x) (h1 : x < 18446744073709551616) : slot_Dead.f x = some (decide (x % 2 = 1)) := by
  have key : ∀ n : Nat, n < 18446744073709551616 → ((IntKind.wrap .u64 (n : Int)) == 1) = decide (n = 1) := fun n hn => by
    rw [wu64 (by omega) (by omega), Bool.eq_iff_iff]
    simp
    omega
  have e := ofInt_nat h0 h1
  have e2 : decide ((BitVec.ofInt 64 x &&& BitVec.ofInt 64 1).toNat = 1) = decide (x % 2 = 1) := by
    rw [bit0, Bool.eq_iff_iff, decide_eq_true_eq, decide_eq_true_eq]; omega
  exact congrArg some ((key _ (BitVec.isLt _)).trans e2)
theorem ref_dead {x : Int} (h0 : 0 ≤ x) : stepstoneref02_Dead.f x = some (decide (x % 2 = 1)) := by
  unfold stepstoneref02_Dead.f
  rw [Int.tmod_eq_emod_of_nonneg h0]
  rfl
theorem of_is {x : Int} (h0 : 0 ≤ x) : slot_Of.f x = some (x / 2) := by
  unfold slot_Of.f
  have e : ((2 : Int) ^ (min (Int.toNat 1) (IntKind.bits .u64))) = 2 := by decide
  rw [e, Int.fdiv_eq_ediv_of_nonneg _ (by decide)]
theorem ref_of {x : Int} (h0 : 0 ≤ x) (h1 : x < 18446744073709551616) : stepstoneref02_Of.f x = some (x / 2) := by
  unfold stepstoneref02_Of.f
  rw [Int.tdiv_eq_ediv_of_nonneg h0, wu64 (by omega) (by omega)]
def livP (T S C H K V L : Int) (l : List Int) (h : Int) : Option S61 := if atF T S C H K V L l (h % 4294967296) 2 % 2 = 1 then none else some ⟨atF T S C H K V L l (h % 4294967296) 1, atF T S C H K V L l (h % 4294967296) 2 / 2⟩
section
variable {T S C H K V L : Int} {l : List Int}
theorem map_l0 (hr : R7 T S C H K V L) (hl : (l.length : Int) = lenI T S C H) (hu : ∀ x ∈ l, 0 ≤ x ∧ x < 18446744073709551616) {hs : List Int} (hh : ∀ h ∈ hs, 0 ≤ h % 4294967296 ∧ h % 4294967296 ≤ C) (hb : hs.length ≤ 100) : ∀ (rest : List Int) (k i : Nat) (xs : List S61), hs.drop i = rest → rest.length + 2100 ≤ k → xs.length + rest.length ≤ 200 →
    shape_Map.l0 k T S C H K V L l hs (i : Int) xs = some (ofL [] (xs ++ rest.filterMap (livP T S C H K V L l)))
  | rest, 0, i, xs, _, h, _ => absurd h (by omega)
  | [], k + 1, i, xs, hd, hk, hx => by
    have h1 : hs.length ≤ i := List.drop_eq_nil_iff.1 hd
    simp only [List.length_nil] at hk hx
    rw [shape_Map.l0, if_neg (by omega), of_f xs (by omega) k (by omega)]
    simp
  | r :: rest, k + 1, i, xs, hd, hk, hx => by
    obtain ⟨h1, h2, h3⟩ := drop_cons' hd
    have e1 : rd hs (i : Int) = r := by unfold rd; rw [Int.toNat_natCast, List.getD_eq_getElem?_getD, h2]; rfl
    have e2 : IntKind.wrap .i64 ((i : Int) + 1) = ((i + 1 : Nat) : Int) := by rw [wi64 (by omega) (by omega)]; rfl
    have hm := hh r (List.mem_of_getElem? h2)
    have hH := hr.h
    have f2 : isF C H (r % 4294967296) 2 = true := isF_iff.2 ⟨hm.1, hm.2, by omega, by omega⟩
    have f1 : isF C H (r % 4294967296) 1 = true := isF_iff.2 ⟨hm.1, hm.2, by omega, by omega⟩
    have b2 := at_u64 hr hl hu f2
    simp only [List.length_cons] at hk hx
    rw [shape_Map.l0, if_pos (by omega), if_pos (by omega), e1, e2, at_eq hr hl f2, at_eq hr hl f1]
    simp only [Option.bind_some]
    rw [dead_is b2.1 b2.2, of_is b2.1]
    simp only [Option.bind_some]
    by_cases hd2 : atF T S C H K V L l (r % 4294967296) 2 % 2 = 1
    · rw [if_pos (decide_eq_true hd2), map_l0 hr hl hu hh hb rest k (i + 1) xs h3 (by omega) (by omega)]
      have : livP T S C H K V L l r = none := if_pos hd2
      rw [List.filterMap_cons_none this]
    · rw [if_neg (by simpa using hd2), if_pos (by omega), map_l0 hr hl hu hh hb rest k (i + 1) _ h3 (by omega) (by rw [List.length_append, List.length_singleton]; omega)]
      have : livP T S C H K V L l r = some ⟨atF T S C H K V L l (r % 4294967296) 1, atF T S C H K V L l (r % 4294967296) 2 / 2⟩ := if_neg hd2
      rw [List.filterMap_cons_some this, List.append_assoc]
      rfl
end
theorem rd48 {l : List S61} {i : Nat} {x : S61} (h : l[i]? = some x) : rd_T48 (l.map old) (i : Int) = old x := by
  unfold rd_T48
  rw [Int.toNat_natCast, List.getD_eq_getElem?_getD, List.getElem?_map, h]
  rfl
theorem with_l0 {l : List S61} (hb : l.length ≤ 1000) (a b : Int) : ∀ (rest : List S61) (k i : Nat) (done : Bool) (acc : List S48), l.drop i = rest → rest.length < k → acc.length + 2 * rest.length ≤ 10000 →
    stepstoneref07_With.l0 k (l.map old) a b done (i : Int) acc = some (acc ++ (wr a b done rest).map old)
  | rest, 0, i, done, acc, _, h, _ => absurd h (by omega)
  | [], k + 1, i, done, acc, hd, hk, hx => by
    have h1 : l.length ≤ i := List.drop_eq_nil_iff.1 hd
    have hm : (l.map old).length = l.length := List.length_map ..
    simp only [List.length_nil] at hx
    rw [stepstoneref07_With.l0, if_neg (by rw [hm]; omega)]
    cases done with
    | true => rw [if_pos rfl]; simp [wr]
    | false => rw [if_neg (by decide), if_pos (by omega)]; simp [wr, old]
  | r :: rest, k + 1, i, done, acc, hd, hk, hx => by
    obtain ⟨h1, h2, h3⟩ := drop_cons' hd
    have hm : (l.map old).length = l.length := List.length_map ..
    have e2 : IntKind.wrap .i64 ((i : Int) + 1) = ((i + 1 : Nat) : Int) := by rw [wi64 (by omega) (by omega)]; rfl
    have e1 := rd48 h2
    have eo : (old r).f0 = r.f0 := rfl
    simp only [List.length_cons] at hk hx
    have IH := fun done' acc' (h : acc'.length + 2 * rest.length ≤ 10000) => with_l0 hb a b rest k (i + 1) done' acc' h3 (by omega) h
    rw [stepstoneref07_With.l0, if_pos (by rw [hm]; omega), if_pos (by omega), e1, e2, eo]
    have hi0 : (0 : Int) ≤ (i : Int) := by omega
    by_cases hge : r.f0 ≥ a
    · rw [if_pos hge]
      simp only [Option.bind_some]
      have hle : a ≤ r.f0 := hge
      cases done with
      | true =>
        rw [if_neg (by decide), if_pos hi0]
        by_cases heq : r.f0 = a
        · rw [if_pos heq, IH true acc (by omega)]; simp [wr, heq]
        · rw [if_neg heq, if_pos (by omega), IH true (acc ++ [old r]) (by rw [List.length_append, List.length_singleton]; omega)]; simp [wr, heq]
      | false =>
        rw [if_pos (by decide), if_pos (by omega), if_pos hi0]
        by_cases heq : r.f0 = a
        · rw [if_pos heq, IH true _ (by rw [List.length_append, List.length_singleton]; omega)]; simp [wr, heq, old]
        · rw [if_neg heq, if_pos (by rw [List.length_append, List.length_singleton]; omega), IH true _ (by simp only [List.length_append, List.length_singleton]; omega)]; simp [wr, heq, hle, old]
    · rw [if_neg hge]
      simp only [Option.bind_some]
      have heq : ¬ r.f0 = a := by omega
      have hle : ¬ a ≤ r.f0 := hge
      rw [if_neg (by decide), if_pos hi0, if_neg heq, if_pos (by omega), IH done (acc ++ [old r]) (by rw [List.length_append, List.length_singleton]; omega)]
      simp [wr, heq, hle]
theorem refWith_f {l : List S61} (hs : Srt l) (hb : l.length ≤ 1000) (a b : Int) {k : Nat} (hk : 1000 < k) : stepstoneref07_With.f k (l.map old) a b = some ((ins l a b).map old) := by
  unfold stepstoneref07_With.f
  have h := with_l0 hb a b l k 0 false [] rfl (by omega) (by simp only [List.length_nil]; omega)
  rw [wr_ins hs] at h
  exact h
section
variable {T S C H K V L : Int} {l : List Int}
theorem refMap_l0 (hr : R7 T S C H K V L) (hl : (l.length : Int) = lenI T S C H) (hu : ∀ x ∈ l, 0 ≤ x ∧ x < 18446744073709551616) {hs : List Int} (hh : ∀ h ∈ hs, 0 ≤ h ∧ 0 ≤ h % 4294967296 ∧ h % 4294967296 ≤ C) (hb : hs.length ≤ 100) : ∀ (rest : List Int) (k i : Nat) (acc : List S61), hs.drop i = rest → rest.length + 2100 ≤ k → acc.length + rest.length ≤ 200 → Srt acc →
    stepstoneref21_Map.l0 k T S C H K V L l hs (i : Int) (acc.map old) = some ((ofL acc (rest.filterMap (livP T S C H K V L l))).map old)
  | rest, 0, i, acc, _, h, _, _ => absurd h (by omega)
  | [], k + 1, i, acc, hd, hk, hx, _ => by
    have h1 : hs.length ≤ i := List.drop_eq_nil_iff.1 hd
    rw [stepstoneref21_Map.l0, if_neg (by omega)]
    rfl
  | r :: rest, k + 1, i, acc, hd, hk, hx, hsrt => by
    obtain ⟨h1, h2, h3⟩ := drop_cons' hd
    have e1 : rd hs (i : Int) = r := by unfold rd; rw [Int.toNat_natCast, List.getD_eq_getElem?_getD, h2]; rfl
    have e2 : IntKind.wrap .i64 ((i : Int) + 1) = ((i + 1 : Nat) : Int) := by rw [wi64 (by omega) (by omega)]; rfl
    have hm := hh r (List.mem_of_getElem? h2)
    have hH := hr.h
    have f2 : isF C H (r % 4294967296) 2 = true := isF_iff.2 ⟨hm.2.1, hm.2.2, by omega, by omega⟩
    have f1 : isF C H (r % 4294967296) 1 = true := isF_iff.2 ⟨hm.2.1, hm.2.2, by omega, by omega⟩
    have b2 := at_u64 hr hl hu f2
    simp only [List.length_cons] at hk hx
    rw [stepstoneref21_Map.l0, if_pos (by omega), if_pos (by omega), e1, e2, ref_index hm.1]
    simp only [Option.bind_some]
    rw [ref_at hr hl f2, ref_at hr hl f1]
    simp only [Option.bind_some]
    rw [ref_dead b2.1, ref_of b2.1 b2.2]
    simp only [Option.bind_some]
    by_cases hd2 : atF T S C H K V L l (r % 4294967296) 2 % 2 = 1
    · rw [if_pos (decide_eq_true hd2), refMap_l0 hr hl hu hh hb rest k (i + 1) acc h3 (by omega) (by omega) hsrt]
      have : livP T S C H K V L l r = none := if_pos hd2
      rw [List.filterMap_cons_none this]
    · have : livP T S C H K V L l r = some ⟨atF T S C H K V L l (r % 4294967296) 1, atF T S C H K V L l (r % 4294967296) 2 / 2⟩ := if_neg hd2
      have hil := ins_len acc (atF T S C H K V L l (r % 4294967296) 1) (atF T S C H K V L l (r % 4294967296) 2 / 2)
      rw [if_neg (by simpa using hd2), refWith_f hsrt (by omega) _ _ (by omega)]
      simp only [Option.bind_some]
      rw [refMap_l0 hr hl hu hh hb rest k (i + 1) _ h3 (by omega) (by omega) (srt_ins hsrt _ _), List.filterMap_cons_some this]
      rfl
end
end Go.Eng
namespace Go.Eng
open Go.Proofs Go.RowKit Go.Proofs.YtbonlagecjealaaW.PrintWords Go.Proofs.Ytbonlagecjealaa.GSeq
set_option linter.unusedVariables false
set_option linter.unusedSimpArgs false
theorem olds_l0 {l : List S61} (hb : l.length ≤ 1000) : ∀ (rest : List S61) (k i : Nat) (xs : List S48), l.drop i = rest → rest.length < k → xs.length + rest.length ≤ 1000 →
    stepstonelaw07_Olds.l0 k l (i : Int) xs = some (xs ++ rest.map old)
  | rest, 0, i, xs, _, h, _ => absurd h (by omega)
  | [], k + 1, i, xs, hd, _, _ => by
    have h1 : l.length ≤ i := List.drop_eq_nil_iff.1 hd
    rw [stepstonelaw07_Olds.l0, if_neg (by omega)]
    simp
  | r :: rest, k + 1, i, xs, hd, hk, hl => by
    obtain ⟨h1, h2, h3⟩ := drop_cons' hd
    have e1 : rd_T61 l (i : Int) = r := by unfold rd_T61; rw [Int.toNat_natCast, List.getD_eq_getElem?_getD, h2]; rfl
    have e2 : IntKind.wrap .i64 ((i : Int) + 1) = ((i + 1 : Nat) : Int) := by rw [wi64 (by omega) (by omega)]; rfl
    rw [List.length_cons] at hk hl
    rw [stepstonelaw07_Olds.l0, if_pos (by omega), if_pos (by omega), if_pos (by omega), e1, e2, olds_l0 hb rest k (i + 1) _ h3 (by omega) (by rw [List.length_append, List.length_singleton]; omega), List.append_assoc]
    rfl
theorem olds_is {l : List S61} (hb : l.length ≤ 1000) : stepstonelaw07_Olds.f 3000 l = some (l.map old) := by
  unfold stepstonelaw07_Olds.f
  exact olds_l0 hb l 3000 0 [] rfl (by omega) (by simp only [List.length_nil]; omega)
theorem equal_l0 {l : List S48} (hb : l.length ≤ 1000) : ∀ (m k i : Nat), l.length = i + m → m < k → stepstoneref07_Equal.l0 k l l (i : Int) = some true
  | m, 0, i, _, h => absurd h (by omega)
  | 0, k + 1, i, hl, _ => by rw [stepstoneref07_Equal.l0, if_neg (by omega)]
  | m + 1, k + 1, i, hl, h => by
    have e2 : IntKind.wrap .i64 ((i : Int) + 1) = ((i + 1 : Nat) : Int) := by rw [wi64 (by omega) (by omega)]; rfl
    rw [stepstoneref07_Equal.l0, if_pos (by omega), if_pos (by omega), if_pos (by omega), if_pos (by simp), e2]
    exact equal_l0 hb m k (i + 1) (by omega) (by omega)
theorem equal_is {l : List S48} (hb : l.length ≤ 1000) : stepstoneref07_Equal.f 3000 l l = some true := by
  unfold stepstoneref07_Equal.f
  rw [if_pos rfl]
  exact equal_l0 hb l.length 3000 0 (by omega) (by omega)
theorem pairs_is {l : List S61} (hl : l.length ≤ 1000) : seq_Map_Pairs.f l = some l := by
  unfold seq_Map_Pairs.f seq_Pair_32.f
  simp only [Option.bind_some, List.length_nil, List.nil_append]
  rw [if_pos (by omega)]
  rfl
theorem plF_pos (x : Int) : 0 ≤ plF x := by
  have key : ∀ n : Nat, n < 18446744073709551616 → 0 ≤ (some (IntKind.wrap .u64 (n : Int))).getD 0 := fun n hn => by
    rw [wu64 (by omega) (by omega)]
    exact Int.natCast_nonneg n
  exact key _ (BitVec.isLt _)
theorem lvl_pos {T S C H K V L lev : Int} {l : List Int} {p : Int × Int} (hp : p ∈ lvlF T S C H K V L l lev) : 0 ≤ p.2 := by
  obtain ⟨_, _, y, _, h4⟩ := ylF_mem _ _ _ (Int.le_refl 0) p hp
  rw [h4]
  exact plF_pos y
theorem shapeMaps_is {T S C H K V L : Int} {l : List Int} (hu : ∀ x ∈ l, 0 ≤ x ∧ x < 18446744073709551616) : stepstonelaw21_ShapeMaps.f 3000 T S C H K V L l = some true := by
  obtain ⟨w, ew⟩ := refLevel_is (T := T) (S := S) (C := C) (H := H) (K := K) (V := V) (L := L) hu 0
  have main : ∃ m : List S61, m.length ≤ 1000 ∧ shape_Map.f 3000 T S C H K V L l = some m ∧ stepstoneref21_Map.f 3000 T S C H K V L l = some (m.map old) := by
    unfold shape_Map.f stepstoneref21_Map.f
    rw [ew, Level_is (by decide) T S C H K V L l (fun x hx => (hu x hx).1) 0]
    simp only [Option.bind_some]
    by_cases h : okB T S C H K V L l 0 = true
    · rw [if_pos h]
      obtain ⟨hr, hl, _⟩ := okB_iff.1 h
      have hlen := lvl_len h
      have hh : ∀ q ∈ (lvlF T S C H K V L l 0).map (·.2), 0 ≤ q ∧ 0 ≤ q % 4294967296 ∧ q % 4294967296 ≤ C := by
        intro q hq
        obtain ⟨p, hp, rfl⟩ := List.mem_map.1 hq
        have := lvl_mem hp
        exact ⟨lvl_pos hp, by omega, this.2.2.2⟩
      have hml : ((lvlF T S C H K V L l 0).map (·.2)).length ≤ 65 := by rw [List.length_map]; exact hlen
      have hfl : (((lvlF T S C H K V L l 0).map (·.2)).filterMap (livP T S C H K V L l)).length ≤ 65 := Nat.le_trans (List.length_filterMap_le _ _) hml
      have h1 := map_l0 hr hl hu (fun q hq => (hh q hq).2) (by omega) ((lvlF T S C H K V L l 0).map (·.2)) 3000 0 [] rfl (by omega) (by simp only [List.length_nil]; omega)
      have h2 := refMap_l0 hr hl hu hh (by omega) ((lvlF T S C H K V L l 0).map (·.2)) 3000 0 [] rfl (by omega) (by simp only [List.length_nil]; omega) List.Pairwise.nil
      refine ⟨_, ?_, h1, h2⟩
      have := ofL_len (((lvlF T S C H K V L l 0).map (·.2)).filterMap (livP T S C H K V L l)) []
      simp only [List.length_nil, List.nil_append] at this ⊢
      omega
    · rw [if_neg h]
      refine ⟨[], by simp, ?_, ?_⟩
      · rw [shape_Map.l0, if_neg (by simp), of_f [] (by simp) _ (by decide)]
        rfl
      · rw [stepstoneref21_Map.l0, if_neg (by simp)]
        rfl
  obtain ⟨m, hm, h1, h2⟩ := main
  unfold stepstonelaw21_ShapeMaps.f
  rw [alive_true, h1, h2]
  simp only [Option.bind_some, if_true]
  rw [pairs_is hm]
  simp only [Option.bind_some]
  rw [olds_is hm]
  simp only [Option.bind_some]
  rw [equal_is (by rw [List.length_map]; exact hm)]
  rfl
theorem shapeMaps_con (T S C H K V L : Int) (A1 : Option Addr) (c1 : Nat) (l : List Int) (hw : l.length ≤ maxLen ∧ ∀ x ∈ l, (Lit.int .u64 x).wf = true) (w0 : World) (Hs : List Nat) : Con Try.prog 4 #[.agg #[.int .i64 T, .int .i64 S, .int .i64 C, .int .i64 H, .int .i64 K, .int .i64 V, .int .i64 L], .slice A1 l.length c1] w0 Hs [.f (KC (Kd.int .u64) A1 c1 l)] (fun X => X (.bool true) []) :=
  stepstonelaw21_ShapeMaps_con 3000 T S C H K V L A1 c1 l true (shapeMaps_is (u64_of hw)) w0 Hs
end Go.Eng
