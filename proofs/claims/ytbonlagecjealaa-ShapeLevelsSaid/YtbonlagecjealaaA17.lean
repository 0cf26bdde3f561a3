/-
Own text, put together by an own program (shake.py) out of this claim's texts: what its theorem needs of them.
-/
import Derived.Test.YtbonlagecjealaaA16
namespace Go.Eng
open Go.Proofs Go.RowKit Go.Proofs.YtbonlagecjealaaW.PrintWords Go.Proofs.Ytbonlagecjealaa.GSeq
set_option linter.unusedVariables false
set_option linter.unusedSimpArgs false
def stepstonelaw21_alive.f (k : Nat) : Option Bool := (sr05_New.f 1 1 2 2 1 1 9).bind fun (t21_, t22_, t23_, t24_, t25_, t26_, t27_, t28_, t29_, t30_, t31_, t32_, t33_, t34_, t35_) => (sr11_Lay.f k 1 1 2 2 1 1 9 ([(⟨3, 7, 2, 0, false⟩ : S46), (⟨5, 0, 1, 1, true⟩ : S46)] : List S46)).bind fun t45_ => (shape_Map.f k 1 1 2 2 1 1 9 t45_).bind fun t56_ => (seq_Map_Pairs.f t56_).bind fun t60_ => ((shape_Right.f k 1 1 2 2 1 1 9 t28_).bind fun t147_ => (if t147_ = true then (shape_Rest.f k 1 1 2 2 1 1 9 t28_ ([] : List (List S81))).bind fun t150_ => (if t150_ = true then (shape_Level.f k 1 1 2 2 1 1 9 t45_ 0).bind fun t153_ => (if ((t153_.length : Int) : Int) = 2 then (shape_Level.f k 1 1 2 2 1 1 9 t45_ 1).bind fun t158_ => (if ((t158_.length : Int) : Int) = 1 then (shape_Level.f k 1 1 2 2 1 1 9 t45_ 2).bind fun t163_ => (if ((t163_.length : Int) : Int) = 0 then (if ((t60_.length : Int) : Int) = 1 then (if (0 : Int) < (t60_.length : Int) then (if ((rd_T61 t60_ 0).f0 : Int) = 3 then (if ((rd_T61 t60_ 0).f1 : Int) = 7 then (shape_Right.f k 1 1 2 2 1 1 9 t45_).bind fun t172_ => (if t172_ = true then (shape_Rest.f k 1 1 2 2 1 1 9 t45_ ([] : List (List S81))).bind fun t175_ => (if t175_ = true then some false else (if (1 : Int) ≤ (t45_.length : Int) then (shape_Right.f k 1 1 2 2 1 1 9 (t45_.drop (Int.toNat 1))).bind fun t179_ => some (!t179_) else none)) else some false) else some false) else some false) else none) else some false) else some false) else some false) else some false) else some false) else some false) : Option Bool).bind fun j145_ => some j145_
set_option maxRecDepth 100000 in
set_option maxHeartbeats 4000000 in
theorem stepstonelaw21_alive_con (k : Nat)  (r0 : Bool) (h : stepstonelaw21_alive.f k = some r0) (w0 : World) (Hs : List Nat) : Con Try.prog 7 #[] w0 Hs [] (fun X => X (.bool r0) []) := by
 refine con_enter (c := bodyOf Try.f7) Try.func7 rfl (m := 85) rfl rfl rfl ?_
 intro X hX _
 have H := h
 unfold stepstonelaw21_alive.f at H
 clear h
 refine c_seq rfl ?_
 refine r_ord (l := [0]) rfl (by kernel_rfl) (by kernel_rfl) ?_
 refine s_v rfl rfl rfl rfl (v_assign rfl rfl) ?_
 refine s_end ?_
 refine q_seq ?_
 refine c_seq rfl ?_
 refine r_ord (l := [0, 1, 2]) rfl (by kernel_rfl) (by kernel_rfl) ?_
 refine s_v rfl rfl rfl rfl (v_build (places := #[(0, 1), (1, 1), (2, 1), (3, 1), (4, 1), (5, 1), (6, 1)]) #[.int .i64 1, .int .i64 1, .int .i64 2, .int .i64 2, .int .i64 1, .int .i64 1, .int .i64 9] rfl ZR23 Try.underlying23 (by kernel_rfl) rfl (by kernel_rfl)) ?_
 refine s_e rfl rfl (e_alloc rfl rfl rfl ZR23) ?_
 intro b2_
 refine s_e rfl rfl (e_stA 0 rfl rfl SZ23 rfl rfl rfl rfl rfl rfl) ?_
 refine s_end ?_
 refine q_seq ?_
 refine c_seq rfl ?_
 refine r_ord (l := [0, 1, 2, 3, 4]) rfl (by kernel_rfl) (by kernel_rfl) ?_
 refine s_v rfl rfl rfl rfl (v_ldA [.int .i64 1, .int .i64 1, .int .i64 2, .int .i64 2, .int .i64 1, .int .i64 1, .int .i64 9] 0 rfl Try.underlying23 rfl SZ23 rfl rfl rfl rfl) ?_
 obtain ⟨⟨t21_, t22_, t23_, t24_, t25_, t26_, t27_, t28_, t29_, t30_, t31_, t32_, t33_, t34_, t35_⟩, e36_, H⟩ := bind_s H
 refine s_e rfl rfl (e_callF [] #[.agg #[.int .i64 1, .int .i64 1, .int .i64 2, .int .i64 2, .int .i64 1, .int .i64 1, .int .i64 9]] rfl rfl rfl rfl rfl Try.func24 rfl (by decide) rfl rfl rfl rfl (fun w ht => sr05_New_con 1 1 2 2 1 1 9 t21_ t22_ t23_ t24_ t25_ t26_ t27_ t28_ t29_ t30_ t31_ t32_ t33_ t34_ t35_ e36_ w _)) ?_
 intro A37_ c38_
 refine s_v rfl rfl rfl rfl (v_fldA #[.slice A37_ t28_.length c38_, .int .i64 t29_, .int .i64 t30_, .int .i64 t31_, .int .u64 t32_, .int .u64 t33_, .int .u64 t34_, .bool t35_] rfl Try.underlying59 rfl Try.underlying57 rfl SZ57 rfl rfl) ?_
 refine s_v rfl rfl rfl rfl (v_fld rfl Try.underlying57 rfl Try.underlying24 rfl rfl rfl) ?_
 refine s_v rfl rfl rfl rfl (v_assign rfl rfl) ?_
 refine s_end ?_
 refine q_seq ?_
 refine c_seq rfl ?_
 refine r_ord (l := [0, 1, 2, 3, 4, 5]) rfl (by kernel_rfl) (by kernel_rfl) ?_
 refine s_v rfl rfl rfl rfl (v_ldA [.int .i64 1, .int .i64 1, .int .i64 2, .int .i64 2, .int .i64 1, .int .i64 1, .int .i64 9] 1 rfl Try.underlying23 rfl SZ23 rfl rfl rfl rfl) ?_
 refine s_v rfl rfl rfl rfl (v_build (places := #[(0, 1), (1, 1), (2, 1), (3, 1), (4, 1)]) #[.int .u64 3, .int .u64 7, .int .i64 2, .int .i64 0, .bool false] rfl ZR46 Try.underlying46 (by kernel_rfl) rfl (by kernel_rfl)) ?_
 refine s_v rfl rfl rfl rfl (v_build (places := #[(0, 1), (1, 1), (2, 1), (3, 1), (4, 1)]) #[.int .u64 5, .int .u64 0, .int .i64 1, .int .i64 1, .bool true] rfl ZR46 Try.underlying46 (by kernel_rfl) rfl (by kernel_rfl)) ?_
 refine s_e rfl rfl (e_bslice #[.int .u64 3, .int .u64 7, .int .i64 2, .int .i64 0, .bool false, .int .u64 5, .int .u64 0, .int .i64 1, .int .i64 1, .bool true] (.agg #[.int .u64 0, .int .u64 0, .int .i64 0, .int .i64 0, .bool false]) rfl rfl rfl Try.underlying42 SZ46 ZR46 (by decide) rfl (by kernel_rfl)) ?_
 intro b44_
 refine s_give [0, 1, 2] rfl (by decide) (by simp [ids, Ent.id?]) (fun w_ h_ => KC_ofReps0 (xs := ([(⟨3, 7, 2, 0, false⟩ : S46), (⟨5, 0, 1, 1, true⟩ : S46)] : List S46)) (cap := 2) h_ ((reps_flat flat46).2 rfl) (by rfl) (by decide) (by decide)) ?_
 obtain ⟨t45_, e46_, H⟩ := bind_s H
 refine s_e rfl rfl (e_callF [0] #[.agg #[.int .i64 1, .int .i64 1, .int .i64 2, .int .i64 2, .int .i64 1, .int .i64 1, .int .i64 9], .slice (some ⟨b44_, 0, none⟩) 2 2] rfl rfl rfl rfl rfl Try.func16 rfl (by decide) rfl rfl rfl rfl (fun w ht => sr11_Lay_con _ 1 1 2 2 1 1 9 (some ⟨b44_, 0, none⟩) 2 ([(⟨3, 7, 2, 0, false⟩ : S46), (⟨5, 0, 1, 1, true⟩ : S46)] : List S46) t45_ e46_ w _)) ?_
 intro A47_ c48_
 refine s_v rfl rfl rfl rfl (v_assign rfl rfl) ?_
 refine s_end ?_
 refine q_seq ?_
 refine c_seq rfl ?_
 refine r_ord (l := [0, 1, 2, 3, 4]) rfl (by kernel_rfl) (by kernel_rfl) ?_
 refine s_v rfl rfl rfl rfl (v_ldA [.int .i64 1, .int .i64 1, .int .i64 2, .int .i64 2, .int .i64 1, .int .i64 1, .int .i64 9] 3 rfl Try.underlying23 rfl SZ23 rfl rfl rfl rfl) ?_
 refine s_v rfl rfl rfl rfl (v_move rfl rfl) ?_
 obtain ⟨t56_, e57_, H⟩ := bind_s H
 refine s_e rfl rfl (e_callF [0] #[.agg #[.int .i64 1, .int .i64 1, .int .i64 2, .int .i64 2, .int .i64 1, .int .i64 1, .int .i64 9], .slice A47_ t45_.length c48_] rfl rfl rfl rfl rfl Try.func12 rfl (by decide) rfl rfl rfl rfl (fun w ht => shape_Map_con _ 1 1 2 2 1 1 9 A47_ c48_ t45_ t56_ e57_ w _)) ?_
 intro A58_ c59_
 obtain ⟨t60_, e61_, H⟩ := bind_s H
 refine s_e rfl rfl (e_callK (fun z : (Option Addr × Nat) => .slice z.1 t60_.length z.2) (fun z => [KC k61 z.1 z.2 t60_]) #[.agg #[.slice A58_ t56_.length c59_]] rfl rfl rfl rfl rfl Try.func13 rfl (by decide) rfl rfl (fun w ht => seq_Map_Pairs.con A58_ c59_ t56_ t60_ e61_ w (Tri.fact ht 0 rfl))) ?_
 intro z62_
 refine s_v rfl rfl rfl rfl (v_assign rfl rfl) ?_
 refine s_end ?_
 refine q_seq ?_
 obtain ⟨j145_, e146_, H⟩ := bind_s H
 refine c_join (β := Unit) (fun _ => True) (fun _ => [(0, .bool j145_)]) (fun _ => [.f (KC k61 z62_.1 z62_.2 t60_), .f (KC k61 A58_ c59_ t56_), .f (KC (Kd.int .u64) A47_ c48_ t45_), .f (KC k46 (some ⟨b44_, 0, none⟩) 2 ([(⟨3, 7, 2, 0, false⟩ : S46), (⟨5, 0, 1, 1, true⟩ : S46)] : List S46)), .f (KC (Kd.int .u64) A37_ c38_ t28_), .b b2_ (.cells #[.int .i64 1, .int .i64 1, .int .i64 2, .int .i64 2, .int .i64 1, .int .i64 1, .int .i64 9] 23 (0, 0))]) rfl (fun _ _ => ?_) (fun J_ => ?_)
 refine c_ret rfl ?_
 have e_ := Option.some.inj H
 subst e_
 exact q_ret (vs := [.bool j145_]) rfl (.tmp rfl .nil) [] rfl (by decide) (hX)
 clear H
 have H := e146_
 clear e146_
 obtain ⟨t147_, e148_, H⟩ := bind_s H
 rcases Bool.eq_false_or_eq_true t147_ with h149_ | h149_
 subst h149_
 replace H := ite_y rfl H
 obtain ⟨t150_, e151_, H⟩ := bind_s H
 rcases Bool.eq_false_or_eq_true t150_ with h152_ | h152_
 subst h152_
 replace H := ite_y rfl H
 obtain ⟨t153_, e154_, H⟩ := bind_s H
 rcases Bool.eq_false_or_eq_true (((t153_.length : Int) : Int) == 2) with h157_ | h157_
 replace H := ite_y (ibeq_t h157_) H
 obtain ⟨t158_, e159_, H⟩ := bind_s H
 rcases Bool.eq_false_or_eq_true (((t158_.length : Int) : Int) == 1) with h162_ | h162_
 replace H := ite_y (ibeq_t h162_) H
 obtain ⟨t163_, e164_, H⟩ := bind_s H
 rcases Bool.eq_false_or_eq_true (((t163_.length : Int) : Int) == 0) with h167_ | h167_
 replace H := ite_y (ibeq_t h167_) H
 rcases Bool.eq_false_or_eq_true (((t60_.length : Int) : Int) == 1) with h168_ | h168_
 replace H := ite_y (ibeq_t h168_) H
 obtain ⟨n169_, H⟩ := ite_no H
 rcases Bool.eq_false_or_eq_true (((rd_T61 t60_ 0).f0 : Int) == 3) with h170_ | h170_
 replace H := ite_y (ibeq_t h170_) H
 rcases Bool.eq_false_or_eq_true (((rd_T61 t60_ 0).f1 : Int) == 7) with h171_ | h171_
 replace H := ite_y (ibeq_t h171_) H
 obtain ⟨t172_, e173_, H⟩ := bind_s H
 rcases Bool.eq_false_or_eq_true t172_ with h174_ | h174_
 subst h174_
 replace H := ite_y rfl H
 obtain ⟨t175_, e176_, H⟩ := bind_s H
 rcases Bool.eq_false_or_eq_true (!t175_) with h177_ | h177_
 replace H := ite_n (not_t (bnot_t h177_)) H
 obtain ⟨n178_, H⟩ := ite_no H
 obtain ⟨t179_, e180_, H⟩ := bind_s H
 refine r_any [.f (KC k61 z62_.1 z62_.2 t60_), .f (KC k61 A58_ c59_ t56_), .f (KC (Kd.int .u64) A47_ c48_ t45_), .f (KC k46 (some ⟨b44_, 0, none⟩) 2 ([(⟨3, 7, 2, 0, false⟩ : S46), (⟨5, 0, 1, 1, true⟩ : S46)] : List S46)), .f (KC (Kd.int .u64) A37_ c38_ t28_), .b b2_ (.cells #[.int .i64 1, .int .i64 1, .int .i64 2, .int .i64 2, .int .i64 1, .int .i64 1, .int .i64 9] 23 (0, 0))] (by kernel_rfl) rfl (by kernel_rfl) (mem_pick (idx := [0, 1, 2, 3, 4, 5]) rfl) ?_
 refine a_v 0 rfl (by kernel_rfl) (by kernel_rfl) (by kernel_rfl) rfl rfl rfl (v_ldA [.int .i64 1, .int .i64 1, .int .i64 2, .int .i64 2, .int .i64 1, .int .i64 1, .int .i64 9] 5 rfl Try.underlying23 rfl SZ23 rfl rfl rfl rfl) ?_
 refine a_v 1 rfl (by kernel_rfl) (by kernel_rfl) (by kernel_rfl) rfl rfl rfl (v_move rfl rfl) ?_
 refine a_1 (i := 2) (by kernel_rfl) ?_
 refine i_e rfl rfl (e_callF [4] #[.agg #[.int .i64 1, .int .i64 1, .int .i64 2, .int .i64 2, .int .i64 1, .int .i64 1, .int .i64 9], .slice A37_ t28_.length c38_] rfl rfl rfl rfl rfl Try.func17 rfl (by decide) rfl rfl rfl rfl (fun w ht => shape_Right_con _ 1 1 2 2 1 1 9 A37_ c38_ t28_ true e148_ w _)) ?_
 refine ⟨(mem_pick (idx := [0, 1, 2, 3, 4, 5]) rfl), ?_⟩
 refine a_v 3 rfl (by kernel_rfl) (by kernel_rfl) (by kernel_rfl) rfl rfl rfl (v_move rfl rfl) ?_
 refine a_v 4 rfl (by kernel_rfl) (by kernel_rfl) (by kernel_rfl) rfl rfl rfl (v_ldA [.int .i64 1, .int .i64 1, .int .i64 2, .int .i64 2, .int .i64 1, .int .i64 1, .int .i64 9] 5 rfl Try.underlying23 rfl SZ23 rfl rfl rfl rfl) ?_
 refine a_v 5 rfl (by kernel_rfl) (by kernel_rfl) (by kernel_rfl) rfl rfl rfl (v_move rfl rfl) ?_
 refine a_1 (i := 6) (by kernel_rfl) ?_
 refine i_knowT (KC_nil (Kd.slice 81 k81)) ?_
 refine i_e rfl rfl (e_callF [5, 0] #[.agg #[.int .i64 1, .int .i64 1, .int .i64 2, .int .i64 2, .int .i64 1, .int .i64 1, .int .i64 9], .slice A37_ t28_.length c38_, .slice none 0 0] rfl rfl rfl rfl rfl Try.func18 rfl (by decide) rfl rfl rfl rfl (fun w ht => shape_Rest_con _ 1 1 2 2 1 1 9 A37_ c38_ t28_ none 0 ([] : List (List S81)) true e151_ w _)) ?_
 refine ⟨(mem_pick (idx := [1, 2, 3, 4, 5, 6]) rfl), ?_⟩
 refine a_v 7 rfl (by kernel_rfl) (by kernel_rfl) (by kernel_rfl) rfl rfl rfl (v_pick rfl rfl rfl rfl) ?_
 refine a_v 8 rfl (by kernel_rfl) (by kernel_rfl) (by kernel_rfl) rfl rfl rfl (v_move rfl rfl) ?_
 refine a_v 9 rfl (by kernel_rfl) (by kernel_rfl) (by kernel_rfl) rfl rfl rfl (v_ldA [.int .i64 1, .int .i64 1, .int .i64 2, .int .i64 2, .int .i64 1, .int .i64 1, .int .i64 9] 5 rfl Try.underlying23 rfl SZ23 rfl rfl rfl rfl) ?_
 refine a_v 10 rfl (by kernel_rfl) (by kernel_rfl) (by kernel_rfl) rfl rfl rfl (v_move rfl rfl) ?_
 refine a_1 (i := 11) (by kernel_rfl) ?_
 refine i_e rfl rfl (e_callF [3] #[.agg #[.int .i64 1, .int .i64 1, .int .i64 2, .int .i64 2, .int .i64 1, .int .i64 1, .int .i64 9], .slice A47_ t45_.length c48_, .int .i64 0] rfl rfl rfl rfl rfl Try.func9 rfl (by decide) rfl rfl rfl rfl (fun w ht => shape_Level_con _ 1 1 2 2 1 1 9 A47_ c48_ t45_ 0 t153_ e154_ w _)) ?_
 intro A181_ c182_
 refine ⟨(mem_pick (idx := [2, 3, 4, 5, 6, 7]) rfl), ?_⟩
 refine a_v 12 rfl (by kernel_rfl) (by kernel_rfl) (by kernel_rfl) rfl rfl rfl (v_len rfl rfl rfl Try.underlying24 rfl rfl) ?_
 refine a_v 13 rfl (by kernel_rfl) (by kernel_rfl) (by kernel_rfl) rfl rfl rfl (OpV.cast (v := .bool true) (v_arith rfl rfl rfl rfl) (congrArg Value.bool h157_)) ?_
 refine a_v 14 rfl (by kernel_rfl) (by kernel_rfl) (by kernel_rfl) rfl rfl rfl (v_pick rfl rfl rfl rfl) ?_
 refine a_v 15 rfl (by kernel_rfl) (by kernel_rfl) (by kernel_rfl) rfl rfl rfl (v_move rfl rfl) ?_
 refine a_v 16 rfl (by kernel_rfl) (by kernel_rfl) (by kernel_rfl) rfl rfl rfl (v_ldA [.int .i64 1, .int .i64 1, .int .i64 2, .int .i64 2, .int .i64 1, .int .i64 1, .int .i64 9] 5 rfl Try.underlying23 rfl SZ23 rfl rfl rfl rfl) ?_
 refine a_v 17 rfl (by kernel_rfl) (by kernel_rfl) (by kernel_rfl) rfl rfl rfl (v_move rfl rfl) ?_
 refine a_1 (i := 18) (by kernel_rfl) ?_
 refine i_e rfl rfl (e_callF [4] #[.agg #[.int .i64 1, .int .i64 1, .int .i64 2, .int .i64 2, .int .i64 1, .int .i64 1, .int .i64 9], .slice A47_ t45_.length c48_, .int .i64 1] rfl rfl rfl rfl rfl Try.func9 rfl (by decide) rfl rfl rfl rfl (fun w ht => shape_Level_con _ 1 1 2 2 1 1 9 A47_ c48_ t45_ 1 t158_ e159_ w _)) ?_
 intro A183_ c184_
 refine ⟨(mem_pick (idx := [3, 4, 5, 6, 7, 8]) rfl), ?_⟩
 refine a_v 19 rfl (by kernel_rfl) (by kernel_rfl) (by kernel_rfl) rfl rfl rfl (v_len rfl rfl rfl Try.underlying24 rfl rfl) ?_
 refine a_v 20 rfl (by kernel_rfl) (by kernel_rfl) (by kernel_rfl) rfl rfl rfl (OpV.cast (v := .bool true) (v_arith rfl rfl rfl rfl) (congrArg Value.bool h162_)) ?_
 refine a_v 21 rfl (by kernel_rfl) (by kernel_rfl) (by kernel_rfl) rfl rfl rfl (v_pick rfl rfl rfl rfl) ?_
 refine a_v 22 rfl (by kernel_rfl) (by kernel_rfl) (by kernel_rfl) rfl rfl rfl (v_move rfl rfl) ?_
 refine a_v 23 rfl (by kernel_rfl) (by kernel_rfl) (by kernel_rfl) rfl rfl rfl (v_ldA [.int .i64 1, .int .i64 1, .int .i64 2, .int .i64 2, .int .i64 1, .int .i64 1, .int .i64 9] 5 rfl Try.underlying23 rfl SZ23 rfl rfl rfl rfl) ?_
 refine a_v 24 rfl (by kernel_rfl) (by kernel_rfl) (by kernel_rfl) rfl rfl rfl (v_move rfl rfl) ?_
 refine a_1 (i := 25) (by kernel_rfl) ?_
 refine i_e rfl rfl (e_callF [5] #[.agg #[.int .i64 1, .int .i64 1, .int .i64 2, .int .i64 2, .int .i64 1, .int .i64 1, .int .i64 9], .slice A47_ t45_.length c48_, .int .i64 2] rfl rfl rfl rfl rfl Try.func9 rfl (by decide) rfl rfl rfl rfl (fun w ht => shape_Level_con _ 1 1 2 2 1 1 9 A47_ c48_ t45_ 2 t163_ e164_ w _)) ?_
 intro A185_ c186_
 refine ⟨(mem_pick (idx := [4, 5, 6, 7, 8, 9]) rfl), ?_⟩
 refine a_v 26 rfl (by kernel_rfl) (by kernel_rfl) (by kernel_rfl) rfl rfl rfl (v_len rfl rfl rfl Try.underlying24 rfl rfl) ?_
 refine a_v 27 rfl (by kernel_rfl) (by kernel_rfl) (by kernel_rfl) rfl rfl rfl (OpV.cast (v := .bool true) (v_arith rfl rfl rfl rfl) (congrArg Value.bool h167_)) ?_
 refine a_v 28 rfl (by kernel_rfl) (by kernel_rfl) (by kernel_rfl) rfl rfl rfl (v_pick rfl rfl rfl rfl) ?_
 refine a_v 29 rfl (by kernel_rfl) (by kernel_rfl) (by kernel_rfl) rfl rfl rfl (v_move rfl rfl) ?_
 refine a_v 30 rfl (by kernel_rfl) (by kernel_rfl) (by kernel_rfl) rfl rfl rfl (v_move rfl rfl) ?_
 refine a_v 31 rfl (by kernel_rfl) (by kernel_rfl) (by kernel_rfl) rfl rfl rfl (v_len rfl rfl rfl Try.underlying35 rfl rfl) ?_
 refine a_v 32 rfl (by kernel_rfl) (by kernel_rfl) (by kernel_rfl) rfl rfl rfl (OpV.cast (v := .bool true) (v_arith rfl rfl rfl rfl) (congrArg Value.bool h168_)) ?_
 refine a_v 33 rfl (by kernel_rfl) (by kernel_rfl) (by kernel_rfl) rfl rfl rfl (v_pick rfl rfl rfl rfl) ?_
 refine a_v 34 rfl (by kernel_rfl) (by kernel_rfl) (by kernel_rfl) rfl rfl rfl (v_move rfl rfl) ?_
 refine a_v 35 rfl (by kernel_rfl) (by kernel_rfl) (by kernel_rfl) rfl rfl rfl (v_move rfl rfl) ?_
 refine a_v 36 rfl (by kernel_rfl) (by kernel_rfl) (by kernel_rfl) rfl rfl rfl (v_iaK (i := 0) rfl Try.underlying35 SZ61 rfl rfl rfl rfl (by decide) n169_) ?_
 refine a_v 37 rfl (by kernel_rfl) (by kernel_rfl) (by kernel_rfl) rfl rfl rfl (v_fax rfl Try.underlying61 rfl SZ25 rfl) ?_
 refine a_v 38 rfl (by kernel_rfl) (by kernel_rfl) (by kernel_rfl) rfl rfl rfl (v_ldKf (v := .int .u64 ((rd_T61 t60_ 0).f0)) z61 [.int .u64 ((rd_T61 t60_ 0).f0), .int .u64 ((rd_T61 t60_ 0).f1)] 0 rfl Try.underlying25 rfl rfl rfl rfl (by decide) n169_ (fun w K h => k61_open h) rfl) ?_
 refine a_v 39 rfl (by kernel_rfl) (by kernel_rfl) (by kernel_rfl) rfl rfl rfl (OpV.cast (v := .bool true) (v_arith rfl rfl rfl rfl) (congrArg Value.bool h170_)) ?_
 refine a_v 40 rfl (by kernel_rfl) (by kernel_rfl) (by kernel_rfl) rfl rfl rfl (v_pick rfl rfl rfl rfl) ?_
 refine a_v 41 rfl (by kernel_rfl) (by kernel_rfl) (by kernel_rfl) rfl rfl rfl (v_move rfl rfl) ?_
 refine a_v 42 rfl (by kernel_rfl) (by kernel_rfl) (by kernel_rfl) rfl rfl rfl (v_move rfl rfl) ?_
 refine a_v 43 rfl (by kernel_rfl) (by kernel_rfl) (by kernel_rfl) rfl rfl rfl (v_iaK (i := 0) rfl Try.underlying35 SZ61 rfl rfl rfl rfl (by decide) n169_) ?_
 refine a_v 44 rfl (by kernel_rfl) (by kernel_rfl) (by kernel_rfl) rfl rfl rfl (v_fax rfl Try.underlying61 rfl SZ25 rfl) ?_
 refine a_v 45 rfl (by kernel_rfl) (by kernel_rfl) (by kernel_rfl) rfl rfl rfl (v_ldKf (v := .int .u64 ((rd_T61 t60_ 0).f1)) z61 [.int .u64 ((rd_T61 t60_ 0).f0), .int .u64 ((rd_T61 t60_ 0).f1)] 0 rfl Try.underlying25 rfl rfl rfl rfl (by decide) n169_ (fun w K h => k61_open h) rfl) ?_
 refine a_v 46 rfl (by kernel_rfl) (by kernel_rfl) (by kernel_rfl) rfl rfl rfl (OpV.cast (v := .bool true) (v_arith rfl rfl rfl rfl) (congrArg Value.bool h171_)) ?_
 refine a_v 47 rfl (by kernel_rfl) (by kernel_rfl) (by kernel_rfl) rfl rfl rfl (v_pick rfl rfl rfl rfl) ?_
 refine a_v 48 rfl (by kernel_rfl) (by kernel_rfl) (by kernel_rfl) rfl rfl rfl (v_move rfl rfl) ?_
 refine a_v 49 rfl (by kernel_rfl) (by kernel_rfl) (by kernel_rfl) rfl rfl rfl (v_ldA [.int .i64 1, .int .i64 1, .int .i64 2, .int .i64 2, .int .i64 1, .int .i64 1, .int .i64 9] 5 rfl Try.underlying23 rfl SZ23 rfl rfl rfl rfl) ?_
 refine a_v 50 rfl (by kernel_rfl) (by kernel_rfl) (by kernel_rfl) rfl rfl rfl (v_move rfl rfl) ?_
 refine a_1 (i := 51) (by kernel_rfl) ?_
 refine i_e rfl rfl (e_callF [6] #[.agg #[.int .i64 1, .int .i64 1, .int .i64 2, .int .i64 2, .int .i64 1, .int .i64 1, .int .i64 9], .slice A47_ t45_.length c48_] rfl rfl rfl rfl rfl Try.func17 rfl (by decide) rfl rfl rfl rfl (fun w ht => shape_Right_con _ 1 1 2 2 1 1 9 A47_ c48_ t45_ true e173_ w _)) ?_
 refine ⟨(mem_pick (idx := [4, 5, 6, 7, 8, 9]) rfl), ?_⟩
 refine a_v 52 rfl (by kernel_rfl) (by kernel_rfl) (by kernel_rfl) rfl rfl rfl (v_pick rfl rfl rfl rfl) ?_
 refine a_v 53 rfl (by kernel_rfl) (by kernel_rfl) (by kernel_rfl) rfl rfl rfl (v_move rfl rfl) ?_
 refine a_v 54 rfl (by kernel_rfl) (by kernel_rfl) (by kernel_rfl) rfl rfl rfl (v_ldA [.int .i64 1, .int .i64 1, .int .i64 2, .int .i64 2, .int .i64 1, .int .i64 1, .int .i64 9] 5 rfl Try.underlying23 rfl SZ23 rfl rfl rfl rfl) ?_
 refine a_v 55 rfl (by kernel_rfl) (by kernel_rfl) (by kernel_rfl) rfl rfl rfl (v_move rfl rfl) ?_
 refine a_1 (i := 56) (by kernel_rfl) ?_
 refine i_e rfl rfl (e_callF [6, 3] #[.agg #[.int .i64 1, .int .i64 1, .int .i64 2, .int .i64 2, .int .i64 1, .int .i64 1, .int .i64 9], .slice A47_ t45_.length c48_, .slice none 0 0] rfl rfl rfl rfl rfl Try.func18 rfl (by decide) rfl rfl rfl rfl (fun w ht => shape_Rest_con _ 1 1 2 2 1 1 9 A47_ c48_ t45_ none 0 ([] : List (List S81)) t175_ e176_ w _)) ?_
 refine ⟨(mem_pick (idx := [4, 5, 6, 7, 8, 9]) rfl), ?_⟩
 refine a_v 57 rfl (by kernel_rfl) (by kernel_rfl) (by kernel_rfl) rfl rfl rfl (OpV.cast (v := .bool true) (v_not rfl rfl) (congrArg Value.bool h177_)) ?_
 refine a_v 58 rfl (by kernel_rfl) (by kernel_rfl) (by kernel_rfl) rfl rfl rfl (v_pick rfl rfl rfl rfl) ?_
 refine a_v 59 rfl (by kernel_rfl) (by kernel_rfl) (by kernel_rfl) rfl rfl rfl (v_move rfl rfl) ?_
 refine a_v 60 rfl (by kernel_rfl) (by kernel_rfl) (by kernel_rfl) rfl rfl rfl (v_ldA [.int .i64 1, .int .i64 1, .int .i64 2, .int .i64 2, .int .i64 1, .int .i64 1, .int .i64 9] 5 rfl Try.underlying23 rfl SZ23 rfl rfl rfl rfl) ?_
 refine a_v 61 rfl (by kernel_rfl) (by kernel_rfl) (by kernel_rfl) rfl rfl rfl (v_move rfl rfl) ?_
 refine a_1 (i := 62) (by kernel_rfl) ?_
 refine i_weak 6 rfl (fun w h => KC_drop (Int.toNat 1) 1 rfl (by omega) h) ?_
 refine i_v rfl rfl rfl rfl (OpV.cast (v := .slice (dropA A47_ c48_ (Int.toNat 1) 1) (t45_.drop (Int.toNat 1)).length (c48_ - (Int.toNat 1))) (v_slLo rfl Try.underlying24 SZ25 rfl rfl (by decide) n178_) (by rw [List.length_drop])) ?_
 refine a_1 (i := 63) (by kernel_rfl) ?_
 refine i_e rfl rfl (e_callF [0] #[.agg #[.int .i64 1, .int .i64 1, .int .i64 2, .int .i64 2, .int .i64 1, .int .i64 1, .int .i64 9], .slice (dropA A47_ c48_ (Int.toNat 1) 1) ((t45_.drop (Int.toNat 1)).length) (c48_ - (Int.toNat 1))] rfl rfl rfl rfl rfl Try.func17 rfl (by decide) rfl rfl rfl rfl (fun w ht => shape_Right_con _ 1 1 2 2 1 1 9 (dropA A47_ c48_ (Int.toNat 1) 1) (c48_ - (Int.toNat 1)) (t45_.drop (Int.toNat 1)) t179_ e180_ w _)) ?_
 refine ⟨(mem_pick (idx := [5, 6, 7, 8, 9, 10]) rfl), ?_⟩
 refine a_v 64 rfl (by kernel_rfl) (by kernel_rfl) (by kernel_rfl) rfl rfl rfl (v_not rfl rfl) ?_
 refine a_v 65 rfl (by kernel_rfl) (by kernel_rfl) (by kernel_rfl) rfl rfl rfl (v_pick rfl rfl rfl rfl) ?_
 refine a_v 66 rfl (by kernel_rfl) (by kernel_rfl) (by kernel_rfl) rfl rfl rfl (v_assign rfl rfl) ?_
 refine a_end (by kernel_rfl) ?_
 have hq_0 := Option.some.inj H
 subst hq_0
 exact q_seq (c_frame (subF_spec (by exact ⟨rfl, trivial⟩)) (c_take [5, 6, 7, 8, 9, 10] rfl (by decide) (J_ () trivial)))
 replace H := ite_y (bnot_f h177_) H
 refine r_any [.f (KC k61 z62_.1 z62_.2 t60_), .f (KC k61 A58_ c59_ t56_), .f (KC (Kd.int .u64) A47_ c48_ t45_), .f (KC k46 (some ⟨b44_, 0, none⟩) 2 ([(⟨3, 7, 2, 0, false⟩ : S46), (⟨5, 0, 1, 1, true⟩ : S46)] : List S46)), .f (KC (Kd.int .u64) A37_ c38_ t28_), .b b2_ (.cells #[.int .i64 1, .int .i64 1, .int .i64 2, .int .i64 2, .int .i64 1, .int .i64 1, .int .i64 9] 23 (0, 0))] (by kernel_rfl) rfl (by kernel_rfl) (mem_pick (idx := [0, 1, 2, 3, 4, 5]) rfl) ?_
 refine a_v 0 rfl (by kernel_rfl) (by kernel_rfl) (by kernel_rfl) rfl rfl rfl (v_ldA [.int .i64 1, .int .i64 1, .int .i64 2, .int .i64 2, .int .i64 1, .int .i64 1, .int .i64 9] 5 rfl Try.underlying23 rfl SZ23 rfl rfl rfl rfl) ?_
 refine a_v 1 rfl (by kernel_rfl) (by kernel_rfl) (by kernel_rfl) rfl rfl rfl (v_move rfl rfl) ?_
 refine a_1 (i := 2) (by kernel_rfl) ?_
 refine i_e rfl rfl (e_callF [4] #[.agg #[.int .i64 1, .int .i64 1, .int .i64 2, .int .i64 2, .int .i64 1, .int .i64 1, .int .i64 9], .slice A37_ t28_.length c38_] rfl rfl rfl rfl rfl Try.func17 rfl (by decide) rfl rfl rfl rfl (fun w ht => shape_Right_con _ 1 1 2 2 1 1 9 A37_ c38_ t28_ true e148_ w _)) ?_
 refine ⟨(mem_pick (idx := [0, 1, 2, 3, 4, 5]) rfl), ?_⟩
 refine a_v 3 rfl (by kernel_rfl) (by kernel_rfl) (by kernel_rfl) rfl rfl rfl (v_move rfl rfl) ?_
 refine a_v 4 rfl (by kernel_rfl) (by kernel_rfl) (by kernel_rfl) rfl rfl rfl (v_ldA [.int .i64 1, .int .i64 1, .int .i64 2, .int .i64 2, .int .i64 1, .int .i64 1, .int .i64 9] 5 rfl Try.underlying23 rfl SZ23 rfl rfl rfl rfl) ?_
 refine a_v 5 rfl (by kernel_rfl) (by kernel_rfl) (by kernel_rfl) rfl rfl rfl (v_move rfl rfl) ?_
 refine a_1 (i := 6) (by kernel_rfl) ?_
 refine i_knowT (KC_nil (Kd.slice 81 k81)) ?_
 refine i_e rfl rfl (e_callF [5, 0] #[.agg #[.int .i64 1, .int .i64 1, .int .i64 2, .int .i64 2, .int .i64 1, .int .i64 1, .int .i64 9], .slice A37_ t28_.length c38_, .slice none 0 0] rfl rfl rfl rfl rfl Try.func18 rfl (by decide) rfl rfl rfl rfl (fun w ht => shape_Rest_con _ 1 1 2 2 1 1 9 A37_ c38_ t28_ none 0 ([] : List (List S81)) true e151_ w _)) ?_
 refine ⟨(mem_pick (idx := [1, 2, 3, 4, 5, 6]) rfl), ?_⟩
 refine a_v 7 rfl (by kernel_rfl) (by kernel_rfl) (by kernel_rfl) rfl rfl rfl (v_pick rfl rfl rfl rfl) ?_
 refine a_v 8 rfl (by kernel_rfl) (by kernel_rfl) (by kernel_rfl) rfl rfl rfl (v_move rfl rfl) ?_
 refine a_v 9 rfl (by kernel_rfl) (by kernel_rfl) (by kernel_rfl) rfl rfl rfl (v_ldA [.int .i64 1, .int .i64 1, .int .i64 2, .int .i64 2, .int .i64 1, .int .i64 1, .int .i64 9] 5 rfl Try.underlying23 rfl SZ23 rfl rfl rfl rfl) ?_
 refine a_v 10 rfl (by kernel_rfl) (by kernel_rfl) (by kernel_rfl) rfl rfl rfl (v_move rfl rfl) ?_
 refine a_1 (i := 11) (by kernel_rfl) ?_
 refine i_e rfl rfl (e_callF [3] #[.agg #[.int .i64 1, .int .i64 1, .int .i64 2, .int .i64 2, .int .i64 1, .int .i64 1, .int .i64 9], .slice A47_ t45_.length c48_, .int .i64 0] rfl rfl rfl rfl rfl Try.func9 rfl (by decide) rfl rfl rfl rfl (fun w ht => shape_Level_con _ 1 1 2 2 1 1 9 A47_ c48_ t45_ 0 t153_ e154_ w _)) ?_
 intro A187_ c188_
 refine ⟨(mem_pick (idx := [2, 3, 4, 5, 6, 7]) rfl), ?_⟩
 refine a_v 12 rfl (by kernel_rfl) (by kernel_rfl) (by kernel_rfl) rfl rfl rfl (v_len rfl rfl rfl Try.underlying24 rfl rfl) ?_
 refine a_v 13 rfl (by kernel_rfl) (by kernel_rfl) (by kernel_rfl) rfl rfl rfl (OpV.cast (v := .bool true) (v_arith rfl rfl rfl rfl) (congrArg Value.bool h157_)) ?_
 refine a_v 14 rfl (by kernel_rfl) (by kernel_rfl) (by kernel_rfl) rfl rfl rfl (v_pick rfl rfl rfl rfl) ?_
 refine a_v 15 rfl (by kernel_rfl) (by kernel_rfl) (by kernel_rfl) rfl rfl rfl (v_move rfl rfl) ?_
 refine a_v 16 rfl (by kernel_rfl) (by kernel_rfl) (by kernel_rfl) rfl rfl rfl (v_ldA [.int .i64 1, .int .i64 1, .int .i64 2, .int .i64 2, .int .i64 1, .int .i64 1, .int .i64 9] 5 rfl Try.underlying23 rfl SZ23 rfl rfl rfl rfl) ?_
 refine a_v 17 rfl (by kernel_rfl) (by kernel_rfl) (by kernel_rfl) rfl rfl rfl (v_move rfl rfl) ?_
 refine a_1 (i := 18) (by kernel_rfl) ?_
 refine i_e rfl rfl (e_callF [4] #[.agg #[.int .i64 1, .int .i64 1, .int .i64 2, .int .i64 2, .int .i64 1, .int .i64 1, .int .i64 9], .slice A47_ t45_.length c48_, .int .i64 1] rfl rfl rfl rfl rfl Try.func9 rfl (by decide) rfl rfl rfl rfl (fun w ht => shape_Level_con _ 1 1 2 2 1 1 9 A47_ c48_ t45_ 1 t158_ e159_ w _)) ?_
 intro A189_ c190_
 refine ⟨(mem_pick (idx := [3, 4, 5, 6, 7, 8]) rfl), ?_⟩
 refine a_v 19 rfl (by kernel_rfl) (by kernel_rfl) (by kernel_rfl) rfl rfl rfl (v_len rfl rfl rfl Try.underlying24 rfl rfl) ?_
 refine a_v 20 rfl (by kernel_rfl) (by kernel_rfl) (by kernel_rfl) rfl rfl rfl (OpV.cast (v := .bool true) (v_arith rfl rfl rfl rfl) (congrArg Value.bool h162_)) ?_
 refine a_v 21 rfl (by kernel_rfl) (by kernel_rfl) (by kernel_rfl) rfl rfl rfl (v_pick rfl rfl rfl rfl) ?_
 refine a_v 22 rfl (by kernel_rfl) (by kernel_rfl) (by kernel_rfl) rfl rfl rfl (v_move rfl rfl) ?_
 refine a_v 23 rfl (by kernel_rfl) (by kernel_rfl) (by kernel_rfl) rfl rfl rfl (v_ldA [.int .i64 1, .int .i64 1, .int .i64 2, .int .i64 2, .int .i64 1, .int .i64 1, .int .i64 9] 5 rfl Try.underlying23 rfl SZ23 rfl rfl rfl rfl) ?_
 refine a_v 24 rfl (by kernel_rfl) (by kernel_rfl) (by kernel_rfl) rfl rfl rfl (v_move rfl rfl) ?_
 refine a_1 (i := 25) (by kernel_rfl) ?_
 refine i_e rfl rfl (e_callF [5] #[.agg #[.int .i64 1, .int .i64 1, .int .i64 2, .int .i64 2, .int .i64 1, .int .i64 1, .int .i64 9], .slice A47_ t45_.length c48_, .int .i64 2] rfl rfl rfl rfl rfl Try.func9 rfl (by decide) rfl rfl rfl rfl (fun w ht => shape_Level_con _ 1 1 2 2 1 1 9 A47_ c48_ t45_ 2 t163_ e164_ w _)) ?_
 intro A191_ c192_
 refine ⟨(mem_pick (idx := [4, 5, 6, 7, 8, 9]) rfl), ?_⟩
 refine a_v 26 rfl (by kernel_rfl) (by kernel_rfl) (by kernel_rfl) rfl rfl rfl (v_len rfl rfl rfl Try.underlying24 rfl rfl) ?_
 refine a_v 27 rfl (by kernel_rfl) (by kernel_rfl) (by kernel_rfl) rfl rfl rfl (OpV.cast (v := .bool true) (v_arith rfl rfl rfl rfl) (congrArg Value.bool h167_)) ?_
 refine a_v 28 rfl (by kernel_rfl) (by kernel_rfl) (by kernel_rfl) rfl rfl rfl (v_pick rfl rfl rfl rfl) ?_
 refine a_v 29 rfl (by kernel_rfl) (by kernel_rfl) (by kernel_rfl) rfl rfl rfl (v_move rfl rfl) ?_
 refine a_v 30 rfl (by kernel_rfl) (by kernel_rfl) (by kernel_rfl) rfl rfl rfl (v_move rfl rfl) ?_
 refine a_v 31 rfl (by kernel_rfl) (by kernel_rfl) (by kernel_rfl) rfl rfl rfl (v_len rfl rfl rfl Try.underlying35 rfl rfl) ?_
 refine a_v 32 rfl (by kernel_rfl) (by kernel_rfl) (by kernel_rfl) rfl rfl rfl (OpV.cast (v := .bool true) (v_arith rfl rfl rfl rfl) (congrArg Value.bool h168_)) ?_
 refine a_v 33 rfl (by kernel_rfl) (by kernel_rfl) (by kernel_rfl) rfl rfl rfl (v_pick rfl rfl rfl rfl) ?_
 refine a_v 34 rfl (by kernel_rfl) (by kernel_rfl) (by kernel_rfl) rfl rfl rfl (v_move rfl rfl) ?_
 refine a_v 35 rfl (by kernel_rfl) (by kernel_rfl) (by kernel_rfl) rfl rfl rfl (v_move rfl rfl) ?_
 refine a_v 36 rfl (by kernel_rfl) (by kernel_rfl) (by kernel_rfl) rfl rfl rfl (v_iaK (i := 0) rfl Try.underlying35 SZ61 rfl rfl rfl rfl (by decide) n169_) ?_
 refine a_v 37 rfl (by kernel_rfl) (by kernel_rfl) (by kernel_rfl) rfl rfl rfl (v_fax rfl Try.underlying61 rfl SZ25 rfl) ?_
 refine a_v 38 rfl (by kernel_rfl) (by kernel_rfl) (by kernel_rfl) rfl rfl rfl (v_ldKf (v := .int .u64 ((rd_T61 t60_ 0).f0)) z61 [.int .u64 ((rd_T61 t60_ 0).f0), .int .u64 ((rd_T61 t60_ 0).f1)] 0 rfl Try.underlying25 rfl rfl rfl rfl (by decide) n169_ (fun w K h => k61_open h) rfl) ?_
 refine a_v 39 rfl (by kernel_rfl) (by kernel_rfl) (by kernel_rfl) rfl rfl rfl (OpV.cast (v := .bool true) (v_arith rfl rfl rfl rfl) (congrArg Value.bool h170_)) ?_
 refine a_v 40 rfl (by kernel_rfl) (by kernel_rfl) (by kernel_rfl) rfl rfl rfl (v_pick rfl rfl rfl rfl) ?_
 refine a_v 41 rfl (by kernel_rfl) (by kernel_rfl) (by kernel_rfl) rfl rfl rfl (v_move rfl rfl) ?_
 refine a_v 42 rfl (by kernel_rfl) (by kernel_rfl) (by kernel_rfl) rfl rfl rfl (v_move rfl rfl) ?_
 refine a_v 43 rfl (by kernel_rfl) (by kernel_rfl) (by kernel_rfl) rfl rfl rfl (v_iaK (i := 0) rfl Try.underlying35 SZ61 rfl rfl rfl rfl (by decide) n169_) ?_
 refine a_v 44 rfl (by kernel_rfl) (by kernel_rfl) (by kernel_rfl) rfl rfl rfl (v_fax rfl Try.underlying61 rfl SZ25 rfl) ?_
 refine a_v 45 rfl (by kernel_rfl) (by kernel_rfl) (by kernel_rfl) rfl rfl rfl (v_ldKf (v := .int .u64 ((rd_T61 t60_ 0).f1)) z61 [.int .u64 ((rd_T61 t60_ 0).f0), .int .u64 ((rd_T61 t60_ 0).f1)] 0 rfl Try.underlying25 rfl rfl rfl rfl (by decide) n169_ (fun w K h => k61_open h) rfl) ?_
 refine a_v 46 rfl (by kernel_rfl) (by kernel_rfl) (by kernel_rfl) rfl rfl rfl (OpV.cast (v := .bool true) (v_arith rfl rfl rfl rfl) (congrArg Value.bool h171_)) ?_
 refine a_v 47 rfl (by kernel_rfl) (by kernel_rfl) (by kernel_rfl) rfl rfl rfl (v_pick rfl rfl rfl rfl) ?_
 refine a_v 48 rfl (by kernel_rfl) (by kernel_rfl) (by kernel_rfl) rfl rfl rfl (v_move rfl rfl) ?_
 refine a_v 49 rfl (by kernel_rfl) (by kernel_rfl) (by kernel_rfl) rfl rfl rfl (v_ldA [.int .i64 1, .int .i64 1, .int .i64 2, .int .i64 2, .int .i64 1, .int .i64 1, .int .i64 9] 5 rfl Try.underlying23 rfl SZ23 rfl rfl rfl rfl) ?_
 refine a_v 50 rfl (by kernel_rfl) (by kernel_rfl) (by kernel_rfl) rfl rfl rfl (v_move rfl rfl) ?_
 refine a_1 (i := 51) (by kernel_rfl) ?_
 refine i_e rfl rfl (e_callF [6] #[.agg #[.int .i64 1, .int .i64 1, .int .i64 2, .int .i64 2, .int .i64 1, .int .i64 1, .int .i64 9], .slice A47_ t45_.length c48_] rfl rfl rfl rfl rfl Try.func17 rfl (by decide) rfl rfl rfl rfl (fun w ht => shape_Right_con _ 1 1 2 2 1 1 9 A47_ c48_ t45_ true e173_ w _)) ?_
 refine ⟨(mem_pick (idx := [4, 5, 6, 7, 8, 9]) rfl), ?_⟩
 refine a_v 52 rfl (by kernel_rfl) (by kernel_rfl) (by kernel_rfl) rfl rfl rfl (v_pick rfl rfl rfl rfl) ?_
 refine a_v 53 rfl (by kernel_rfl) (by kernel_rfl) (by kernel_rfl) rfl rfl rfl (v_move rfl rfl) ?_
 refine a_v 54 rfl (by kernel_rfl) (by kernel_rfl) (by kernel_rfl) rfl rfl rfl (v_ldA [.int .i64 1, .int .i64 1, .int .i64 2, .int .i64 2, .int .i64 1, .int .i64 1, .int .i64 9] 5 rfl Try.underlying23 rfl SZ23 rfl rfl rfl rfl) ?_
 refine a_v 55 rfl (by kernel_rfl) (by kernel_rfl) (by kernel_rfl) rfl rfl rfl (v_move rfl rfl) ?_
 refine a_1 (i := 56) (by kernel_rfl) ?_
 refine i_e rfl rfl (e_callF [6, 3] #[.agg #[.int .i64 1, .int .i64 1, .int .i64 2, .int .i64 2, .int .i64 1, .int .i64 1, .int .i64 9], .slice A47_ t45_.length c48_, .slice none 0 0] rfl rfl rfl rfl rfl Try.func18 rfl (by decide) rfl rfl rfl rfl (fun w ht => shape_Rest_con _ 1 1 2 2 1 1 9 A47_ c48_ t45_ none 0 ([] : List (List S81)) t175_ e176_ w _)) ?_
 refine ⟨(mem_pick (idx := [4, 5, 6, 7, 8, 9]) rfl), ?_⟩
 refine a_v 57 rfl (by kernel_rfl) (by kernel_rfl) (by kernel_rfl) rfl rfl rfl (OpV.cast (v := .bool false) (v_not rfl rfl) (congrArg Value.bool h177_)) ?_
 refine a_v 58 rfl (by kernel_rfl) (by kernel_rfl) (by kernel_rfl) rfl rfl rfl (v_pick rfl rfl rfl rfl) ?_
 refine a_v 59 rfl (by kernel_rfl) (by kernel_rfl) (by kernel_rfl) rfl rfl rfl (v_move rfl rfl) ?_
 refine a_no 60 rfl (by kernel_rfl) (by kernel_rfl) (by kernel_rfl) rfl rfl rfl ?_
 refine a_no 61 rfl (by kernel_rfl) (by kernel_rfl) (by kernel_rfl) rfl rfl rfl ?_
 refine a_no 62 rfl (by kernel_rfl) (by kernel_rfl) (by kernel_rfl) rfl rfl rfl ?_
 refine a_no 63 rfl (by kernel_rfl) (by kernel_rfl) (by kernel_rfl) rfl rfl rfl ?_
 refine a_no 64 rfl (by kernel_rfl) (by kernel_rfl) (by kernel_rfl) rfl rfl rfl ?_
 refine a_v 65 rfl (by kernel_rfl) (by kernel_rfl) (by kernel_rfl) rfl rfl rfl (v_pick rfl rfl rfl rfl) ?_
 refine a_v 66 rfl (by kernel_rfl) (by kernel_rfl) (by kernel_rfl) rfl rfl rfl (v_assign rfl rfl) ?_
 refine a_end (by kernel_rfl) ?_
 have hq_0 := Option.some.inj H
 subst hq_0
 exact q_seq (c_frame (subF_spec (by exact ⟨rfl, trivial⟩)) (c_take [4, 5, 6, 7, 8, 9] rfl (by decide) (J_ () trivial)))
 subst h174_
 replace H := ite_n (by decide) H
 refine r_any [.f (KC k61 z62_.1 z62_.2 t60_), .f (KC k61 A58_ c59_ t56_), .f (KC (Kd.int .u64) A47_ c48_ t45_), .f (KC k46 (some ⟨b44_, 0, none⟩) 2 ([(⟨3, 7, 2, 0, false⟩ : S46), (⟨5, 0, 1, 1, true⟩ : S46)] : List S46)), .f (KC (Kd.int .u64) A37_ c38_ t28_), .b b2_ (.cells #[.int .i64 1, .int .i64 1, .int .i64 2, .int .i64 2, .int .i64 1, .int .i64 1, .int .i64 9] 23 (0, 0))] (by kernel_rfl) rfl (by kernel_rfl) (mem_pick (idx := [0, 1, 2, 3, 4, 5]) rfl) ?_
 refine a_v 0 rfl (by kernel_rfl) (by kernel_rfl) (by kernel_rfl) rfl rfl rfl (v_ldA [.int .i64 1, .int .i64 1, .int .i64 2, .int .i64 2, .int .i64 1, .int .i64 1, .int .i64 9] 5 rfl Try.underlying23 rfl SZ23 rfl rfl rfl rfl) ?_
 refine a_v 1 rfl (by kernel_rfl) (by kernel_rfl) (by kernel_rfl) rfl rfl rfl (v_move rfl rfl) ?_
 refine a_1 (i := 2) (by kernel_rfl) ?_
 refine i_e rfl rfl (e_callF [4] #[.agg #[.int .i64 1, .int .i64 1, .int .i64 2, .int .i64 2, .int .i64 1, .int .i64 1, .int .i64 9], .slice A37_ t28_.length c38_] rfl rfl rfl rfl rfl Try.func17 rfl (by decide) rfl rfl rfl rfl (fun w ht => shape_Right_con _ 1 1 2 2 1 1 9 A37_ c38_ t28_ true e148_ w _)) ?_
 refine ⟨(mem_pick (idx := [0, 1, 2, 3, 4, 5]) rfl), ?_⟩
 refine a_v 3 rfl (by kernel_rfl) (by kernel_rfl) (by kernel_rfl) rfl rfl rfl (v_move rfl rfl) ?_
 refine a_v 4 rfl (by kernel_rfl) (by kernel_rfl) (by kernel_rfl) rfl rfl rfl (v_ldA [.int .i64 1, .int .i64 1, .int .i64 2, .int .i64 2, .int .i64 1, .int .i64 1, .int .i64 9] 5 rfl Try.underlying23 rfl SZ23 rfl rfl rfl rfl) ?_
 refine a_v 5 rfl (by kernel_rfl) (by kernel_rfl) (by kernel_rfl) rfl rfl rfl (v_move rfl rfl) ?_
 refine a_1 (i := 6) (by kernel_rfl) ?_
 refine i_knowT (KC_nil (Kd.slice 81 k81)) ?_
 refine i_e rfl rfl (e_callF [5, 0] #[.agg #[.int .i64 1, .int .i64 1, .int .i64 2, .int .i64 2, .int .i64 1, .int .i64 1, .int .i64 9], .slice A37_ t28_.length c38_, .slice none 0 0] rfl rfl rfl rfl rfl Try.func18 rfl (by decide) rfl rfl rfl rfl (fun w ht => shape_Rest_con _ 1 1 2 2 1 1 9 A37_ c38_ t28_ none 0 ([] : List (List S81)) true e151_ w _)) ?_
 refine ⟨(mem_pick (idx := [1, 2, 3, 4, 5, 6]) rfl), ?_⟩
 refine a_v 7 rfl (by kernel_rfl) (by kernel_rfl) (by kernel_rfl) rfl rfl rfl (v_pick rfl rfl rfl rfl) ?_
 refine a_v 8 rfl (by kernel_rfl) (by kernel_rfl) (by kernel_rfl) rfl rfl rfl (v_move rfl rfl) ?_
 refine a_v 9 rfl (by kernel_rfl) (by kernel_rfl) (by kernel_rfl) rfl rfl rfl (v_ldA [.int .i64 1, .int .i64 1, .int .i64 2, .int .i64 2, .int .i64 1, .int .i64 1, .int .i64 9] 5 rfl Try.underlying23 rfl SZ23 rfl rfl rfl rfl) ?_
 refine a_v 10 rfl (by kernel_rfl) (by kernel_rfl) (by kernel_rfl) rfl rfl rfl (v_move rfl rfl) ?_
 refine a_1 (i := 11) (by kernel_rfl) ?_
 refine i_e rfl rfl (e_callF [3] #[.agg #[.int .i64 1, .int .i64 1, .int .i64 2, .int .i64 2, .int .i64 1, .int .i64 1, .int .i64 9], .slice A47_ t45_.length c48_, .int .i64 0] rfl rfl rfl rfl rfl Try.func9 rfl (by decide) rfl rfl rfl rfl (fun w ht => shape_Level_con _ 1 1 2 2 1 1 9 A47_ c48_ t45_ 0 t153_ e154_ w _)) ?_
 intro A193_ c194_
 refine ⟨(mem_pick (idx := [2, 3, 4, 5, 6, 7]) rfl), ?_⟩
 refine a_v 12 rfl (by kernel_rfl) (by kernel_rfl) (by kernel_rfl) rfl rfl rfl (v_len rfl rfl rfl Try.underlying24 rfl rfl) ?_
 refine a_v 13 rfl (by kernel_rfl) (by kernel_rfl) (by kernel_rfl) rfl rfl rfl (OpV.cast (v := .bool true) (v_arith rfl rfl rfl rfl) (congrArg Value.bool h157_)) ?_
 refine a_v 14 rfl (by kernel_rfl) (by kernel_rfl) (by kernel_rfl) rfl rfl rfl (v_pick rfl rfl rfl rfl) ?_
 refine a_v 15 rfl (by kernel_rfl) (by kernel_rfl) (by kernel_rfl) rfl rfl rfl (v_move rfl rfl) ?_
 refine a_v 16 rfl (by kernel_rfl) (by kernel_rfl) (by kernel_rfl) rfl rfl rfl (v_ldA [.int .i64 1, .int .i64 1, .int .i64 2, .int .i64 2, .int .i64 1, .int .i64 1, .int .i64 9] 5 rfl Try.underlying23 rfl SZ23 rfl rfl rfl rfl) ?_
 refine a_v 17 rfl (by kernel_rfl) (by kernel_rfl) (by kernel_rfl) rfl rfl rfl (v_move rfl rfl) ?_
 refine a_1 (i := 18) (by kernel_rfl) ?_
 refine i_e rfl rfl (e_callF [4] #[.agg #[.int .i64 1, .int .i64 1, .int .i64 2, .int .i64 2, .int .i64 1, .int .i64 1, .int .i64 9], .slice A47_ t45_.length c48_, .int .i64 1] rfl rfl rfl rfl rfl Try.func9 rfl (by decide) rfl rfl rfl rfl (fun w ht => shape_Level_con _ 1 1 2 2 1 1 9 A47_ c48_ t45_ 1 t158_ e159_ w _)) ?_
 intro A195_ c196_
 refine ⟨(mem_pick (idx := [3, 4, 5, 6, 7, 8]) rfl), ?_⟩
 refine a_v 19 rfl (by kernel_rfl) (by kernel_rfl) (by kernel_rfl) rfl rfl rfl (v_len rfl rfl rfl Try.underlying24 rfl rfl) ?_
 refine a_v 20 rfl (by kernel_rfl) (by kernel_rfl) (by kernel_rfl) rfl rfl rfl (OpV.cast (v := .bool true) (v_arith rfl rfl rfl rfl) (congrArg Value.bool h162_)) ?_
 refine a_v 21 rfl (by kernel_rfl) (by kernel_rfl) (by kernel_rfl) rfl rfl rfl (v_pick rfl rfl rfl rfl) ?_
 refine a_v 22 rfl (by kernel_rfl) (by kernel_rfl) (by kernel_rfl) rfl rfl rfl (v_move rfl rfl) ?_
 refine a_v 23 rfl (by kernel_rfl) (by kernel_rfl) (by kernel_rfl) rfl rfl rfl (v_ldA [.int .i64 1, .int .i64 1, .int .i64 2, .int .i64 2, .int .i64 1, .int .i64 1, .int .i64 9] 5 rfl Try.underlying23 rfl SZ23 rfl rfl rfl rfl) ?_
 refine a_v 24 rfl (by kernel_rfl) (by kernel_rfl) (by kernel_rfl) rfl rfl rfl (v_move rfl rfl) ?_
 refine a_1 (i := 25) (by kernel_rfl) ?_
 refine i_e rfl rfl (e_callF [5] #[.agg #[.int .i64 1, .int .i64 1, .int .i64 2, .int .i64 2, .int .i64 1, .int .i64 1, .int .i64 9], .slice A47_ t45_.length c48_, .int .i64 2] rfl rfl rfl rfl rfl Try.func9 rfl (by decide) rfl rfl rfl rfl (fun w ht => shape_Level_con _ 1 1 2 2 1 1 9 A47_ c48_ t45_ 2 t163_ e164_ w _)) ?_
 intro A197_ c198_
 refine ⟨(mem_pick (idx := [4, 5, 6, 7, 8, 9]) rfl), ?_⟩
 refine a_v 26 rfl (by kernel_rfl) (by kernel_rfl) (by kernel_rfl) rfl rfl rfl (v_len rfl rfl rfl Try.underlying24 rfl rfl) ?_
 refine a_v 27 rfl (by kernel_rfl) (by kernel_rfl) (by kernel_rfl) rfl rfl rfl (OpV.cast (v := .bool true) (v_arith rfl rfl rfl rfl) (congrArg Value.bool h167_)) ?_
 refine a_v 28 rfl (by kernel_rfl) (by kernel_rfl) (by kernel_rfl) rfl rfl rfl (v_pick rfl rfl rfl rfl) ?_
 refine a_v 29 rfl (by kernel_rfl) (by kernel_rfl) (by kernel_rfl) rfl rfl rfl (v_move rfl rfl) ?_
 refine a_v 30 rfl (by kernel_rfl) (by kernel_rfl) (by kernel_rfl) rfl rfl rfl (v_move rfl rfl) ?_
 refine a_v 31 rfl (by kernel_rfl) (by kernel_rfl) (by kernel_rfl) rfl rfl rfl (v_len rfl rfl rfl Try.underlying35 rfl rfl) ?_
 refine a_v 32 rfl (by kernel_rfl) (by kernel_rfl) (by kernel_rfl) rfl rfl rfl (OpV.cast (v := .bool true) (v_arith rfl rfl rfl rfl) (congrArg Value.bool h168_)) ?_
 refine a_v 33 rfl (by kernel_rfl) (by kernel_rfl) (by kernel_rfl) rfl rfl rfl (v_pick rfl rfl rfl rfl) ?_
 refine a_v 34 rfl (by kernel_rfl) (by kernel_rfl) (by kernel_rfl) rfl rfl rfl (v_move rfl rfl) ?_
 refine a_v 35 rfl (by kernel_rfl) (by kernel_rfl) (by kernel_rfl) rfl rfl rfl (v_move rfl rfl) ?_
 refine a_v 36 rfl (by kernel_rfl) (by kernel_rfl) (by kernel_rfl) rfl rfl rfl (v_iaK (i := 0) rfl Try.underlying35 SZ61 rfl rfl rfl rfl (by decide) n169_) ?_
 refine a_v 37 rfl (by kernel_rfl) (by kernel_rfl) (by kernel_rfl) rfl rfl rfl (v_fax rfl Try.underlying61 rfl SZ25 rfl) ?_
 refine a_v 38 rfl (by kernel_rfl) (by kernel_rfl) (by kernel_rfl) rfl rfl rfl (v_ldKf (v := .int .u64 ((rd_T61 t60_ 0).f0)) z61 [.int .u64 ((rd_T61 t60_ 0).f0), .int .u64 ((rd_T61 t60_ 0).f1)] 0 rfl Try.underlying25 rfl rfl rfl rfl (by decide) n169_ (fun w K h => k61_open h) rfl) ?_
 refine a_v 39 rfl (by kernel_rfl) (by kernel_rfl) (by kernel_rfl) rfl rfl rfl (OpV.cast (v := .bool true) (v_arith rfl rfl rfl rfl) (congrArg Value.bool h170_)) ?_
 refine a_v 40 rfl (by kernel_rfl) (by kernel_rfl) (by kernel_rfl) rfl rfl rfl (v_pick rfl rfl rfl rfl) ?_
 refine a_v 41 rfl (by kernel_rfl) (by kernel_rfl) (by kernel_rfl) rfl rfl rfl (v_move rfl rfl) ?_
 refine a_v 42 rfl (by kernel_rfl) (by kernel_rfl) (by kernel_rfl) rfl rfl rfl (v_move rfl rfl) ?_
 refine a_v 43 rfl (by kernel_rfl) (by kernel_rfl) (by kernel_rfl) rfl rfl rfl (v_iaK (i := 0) rfl Try.underlying35 SZ61 rfl rfl rfl rfl (by decide) n169_) ?_
 refine a_v 44 rfl (by kernel_rfl) (by kernel_rfl) (by kernel_rfl) rfl rfl rfl (v_fax rfl Try.underlying61 rfl SZ25 rfl) ?_
 refine a_v 45 rfl (by kernel_rfl) (by kernel_rfl) (by kernel_rfl) rfl rfl rfl (v_ldKf (v := .int .u64 ((rd_T61 t60_ 0).f1)) z61 [.int .u64 ((rd_T61 t60_ 0).f0), .int .u64 ((rd_T61 t60_ 0).f1)] 0 rfl Try.underlying25 rfl rfl rfl rfl (by decide) n169_ (fun w K h => k61_open h) rfl) ?_
 refine a_v 46 rfl (by kernel_rfl) (by kernel_rfl) (by kernel_rfl) rfl rfl rfl (OpV.cast (v := .bool true) (v_arith rfl rfl rfl rfl) (congrArg Value.bool h171_)) ?_
 refine a_v 47 rfl (by kernel_rfl) (by kernel_rfl) (by kernel_rfl) rfl rfl rfl (v_pick rfl rfl rfl rfl) ?_
 refine a_v 48 rfl (by kernel_rfl) (by kernel_rfl) (by kernel_rfl) rfl rfl rfl (v_move rfl rfl) ?_
 refine a_v 49 rfl (by kernel_rfl) (by kernel_rfl) (by kernel_rfl) rfl rfl rfl (v_ldA [.int .i64 1, .int .i64 1, .int .i64 2, .int .i64 2, .int .i64 1, .int .i64 1, .int .i64 9] 5 rfl Try.underlying23 rfl SZ23 rfl rfl rfl rfl) ?_
 refine a_v 50 rfl (by kernel_rfl) (by kernel_rfl) (by kernel_rfl) rfl rfl rfl (v_move rfl rfl) ?_
 refine a_1 (i := 51) (by kernel_rfl) ?_
 refine i_e rfl rfl (e_callF [6] #[.agg #[.int .i64 1, .int .i64 1, .int .i64 2, .int .i64 2, .int .i64 1, .int .i64 1, .int .i64 9], .slice A47_ t45_.length c48_] rfl rfl rfl rfl rfl Try.func17 rfl (by decide) rfl rfl rfl rfl (fun w ht => shape_Right_con _ 1 1 2 2 1 1 9 A47_ c48_ t45_ false e173_ w _)) ?_
 refine ⟨(mem_pick (idx := [4, 5, 6, 7, 8, 9]) rfl), ?_⟩
 refine a_v 52 rfl (by kernel_rfl) (by kernel_rfl) (by kernel_rfl) rfl rfl rfl (v_pick rfl rfl rfl rfl) ?_
 refine a_v 53 rfl (by kernel_rfl) (by kernel_rfl) (by kernel_rfl) rfl rfl rfl (v_move rfl rfl) ?_
 refine a_no 54 rfl (by kernel_rfl) (by kernel_rfl) (by kernel_rfl) rfl rfl rfl ?_
 refine a_no 55 rfl (by kernel_rfl) (by kernel_rfl) (by kernel_rfl) rfl rfl rfl ?_
 refine a_no 56 rfl (by kernel_rfl) (by kernel_rfl) (by kernel_rfl) rfl rfl rfl ?_
 refine a_no 57 rfl (by kernel_rfl) (by kernel_rfl) (by kernel_rfl) rfl rfl rfl ?_
 refine a_v 58 rfl (by kernel_rfl) (by kernel_rfl) (by kernel_rfl) rfl rfl rfl (v_pick rfl rfl rfl rfl) ?_
 refine a_v 59 rfl (by kernel_rfl) (by kernel_rfl) (by kernel_rfl) rfl rfl rfl (v_move rfl rfl) ?_
 refine a_no 60 rfl (by kernel_rfl) (by kernel_rfl) (by kernel_rfl) rfl rfl rfl ?_
 refine a_no 61 rfl (by kernel_rfl) (by kernel_rfl) (by kernel_rfl) rfl rfl rfl ?_
 refine a_no 62 rfl (by kernel_rfl) (by kernel_rfl) (by kernel_rfl) rfl rfl rfl ?_
 refine a_no 63 rfl (by kernel_rfl) (by kernel_rfl) (by kernel_rfl) rfl rfl rfl ?_
 refine a_no 64 rfl (by kernel_rfl) (by kernel_rfl) (by kernel_rfl) rfl rfl rfl ?_
 refine a_v 65 rfl (by kernel_rfl) (by kernel_rfl) (by kernel_rfl) rfl rfl rfl (v_pick rfl rfl rfl rfl) ?_
 refine a_v 66 rfl (by kernel_rfl) (by kernel_rfl) (by kernel_rfl) rfl rfl rfl (v_assign rfl rfl) ?_
 refine a_end (by kernel_rfl) ?_
 have hq_0 := Option.some.inj H
 subst hq_0
 exact q_seq (c_frame (subF_spec (by exact ⟨rfl, trivial⟩)) (c_take [4, 5, 6, 7, 8, 9] rfl (by decide) (J_ () trivial)))
 replace H := ite_n (ibeq_f h171_) H
 refine r_any [.f (KC k61 z62_.1 z62_.2 t60_), .f (KC k61 A58_ c59_ t56_), .f (KC (Kd.int .u64) A47_ c48_ t45_), .f (KC k46 (some ⟨b44_, 0, none⟩) 2 ([(⟨3, 7, 2, 0, false⟩ : S46), (⟨5, 0, 1, 1, true⟩ : S46)] : List S46)), .f (KC (Kd.int .u64) A37_ c38_ t28_), .b b2_ (.cells #[.int .i64 1, .int .i64 1, .int .i64 2, .int .i64 2, .int .i64 1, .int .i64 1, .int .i64 9] 23 (0, 0))] (by kernel_rfl) rfl (by kernel_rfl) (mem_pick (idx := [0, 1, 2, 3, 4, 5]) rfl) ?_
 refine a_v 0 rfl (by kernel_rfl) (by kernel_rfl) (by kernel_rfl) rfl rfl rfl (v_ldA [.int .i64 1, .int .i64 1, .int .i64 2, .int .i64 2, .int .i64 1, .int .i64 1, .int .i64 9] 5 rfl Try.underlying23 rfl SZ23 rfl rfl rfl rfl) ?_
 refine a_v 1 rfl (by kernel_rfl) (by kernel_rfl) (by kernel_rfl) rfl rfl rfl (v_move rfl rfl) ?_
 refine a_1 (i := 2) (by kernel_rfl) ?_
 refine i_e rfl rfl (e_callF [4] #[.agg #[.int .i64 1, .int .i64 1, .int .i64 2, .int .i64 2, .int .i64 1, .int .i64 1, .int .i64 9], .slice A37_ t28_.length c38_] rfl rfl rfl rfl rfl Try.func17 rfl (by decide) rfl rfl rfl rfl (fun w ht => shape_Right_con _ 1 1 2 2 1 1 9 A37_ c38_ t28_ true e148_ w _)) ?_
 refine ⟨(mem_pick (idx := [0, 1, 2, 3, 4, 5]) rfl), ?_⟩
 refine a_v 3 rfl (by kernel_rfl) (by kernel_rfl) (by kernel_rfl) rfl rfl rfl (v_move rfl rfl) ?_
 refine a_v 4 rfl (by kernel_rfl) (by kernel_rfl) (by kernel_rfl) rfl rfl rfl (v_ldA [.int .i64 1, .int .i64 1, .int .i64 2, .int .i64 2, .int .i64 1, .int .i64 1, .int .i64 9] 5 rfl Try.underlying23 rfl SZ23 rfl rfl rfl rfl) ?_
 refine a_v 5 rfl (by kernel_rfl) (by kernel_rfl) (by kernel_rfl) rfl rfl rfl (v_move rfl rfl) ?_
 refine a_1 (i := 6) (by kernel_rfl) ?_
 refine i_knowT (KC_nil (Kd.slice 81 k81)) ?_
 refine i_e rfl rfl (e_callF [5, 0] #[.agg #[.int .i64 1, .int .i64 1, .int .i64 2, .int .i64 2, .int .i64 1, .int .i64 1, .int .i64 9], .slice A37_ t28_.length c38_, .slice none 0 0] rfl rfl rfl rfl rfl Try.func18 rfl (by decide) rfl rfl rfl rfl (fun w ht => shape_Rest_con _ 1 1 2 2 1 1 9 A37_ c38_ t28_ none 0 ([] : List (List S81)) true e151_ w _)) ?_
 refine ⟨(mem_pick (idx := [1, 2, 3, 4, 5, 6]) rfl), ?_⟩
 refine a_v 7 rfl (by kernel_rfl) (by kernel_rfl) (by kernel_rfl) rfl rfl rfl (v_pick rfl rfl rfl rfl) ?_
 refine a_v 8 rfl (by kernel_rfl) (by kernel_rfl) (by kernel_rfl) rfl rfl rfl (v_move rfl rfl) ?_
 refine a_v 9 rfl (by kernel_rfl) (by kernel_rfl) (by kernel_rfl) rfl rfl rfl (v_ldA [.int .i64 1, .int .i64 1, .int .i64 2, .int .i64 2, .int .i64 1, .int .i64 1, .int .i64 9] 5 rfl Try.underlying23 rfl SZ23 rfl rfl rfl rfl) ?_
 refine a_v 10 rfl (by kernel_rfl) (by kernel_rfl) (by kernel_rfl) rfl rfl rfl (v_move rfl rfl) ?_
 refine a_1 (i := 11) (by kernel_rfl) ?_
 refine i_e rfl rfl (e_callF [3] #[.agg #[.int .i64 1, .int .i64 1, .int .i64 2, .int .i64 2, .int .i64 1, .int .i64 1, .int .i64 9], .slice A47_ t45_.length c48_, .int .i64 0] rfl rfl rfl rfl rfl Try.func9 rfl (by decide) rfl rfl rfl rfl (fun w ht => shape_Level_con _ 1 1 2 2 1 1 9 A47_ c48_ t45_ 0 t153_ e154_ w _)) ?_
 intro A199_ c200_
 refine ⟨(mem_pick (idx := [2, 3, 4, 5, 6, 7]) rfl), ?_⟩
 refine a_v 12 rfl (by kernel_rfl) (by kernel_rfl) (by kernel_rfl) rfl rfl rfl (v_len rfl rfl rfl Try.underlying24 rfl rfl) ?_
 refine a_v 13 rfl (by kernel_rfl) (by kernel_rfl) (by kernel_rfl) rfl rfl rfl (OpV.cast (v := .bool true) (v_arith rfl rfl rfl rfl) (congrArg Value.bool h157_)) ?_
 refine a_v 14 rfl (by kernel_rfl) (by kernel_rfl) (by kernel_rfl) rfl rfl rfl (v_pick rfl rfl rfl rfl) ?_
 refine a_v 15 rfl (by kernel_rfl) (by kernel_rfl) (by kernel_rfl) rfl rfl rfl (v_move rfl rfl) ?_
 refine a_v 16 rfl (by kernel_rfl) (by kernel_rfl) (by kernel_rfl) rfl rfl rfl (v_ldA [.int .i64 1, .int .i64 1, .int .i64 2, .int .i64 2, .int .i64 1, .int .i64 1, .int .i64 9] 5 rfl Try.underlying23 rfl SZ23 rfl rfl rfl rfl) ?_
 refine a_v 17 rfl (by kernel_rfl) (by kernel_rfl) (by kernel_rfl) rfl rfl rfl (v_move rfl rfl) ?_
 refine a_1 (i := 18) (by kernel_rfl) ?_
 refine i_e rfl rfl (e_callF [4] #[.agg #[.int .i64 1, .int .i64 1, .int .i64 2, .int .i64 2, .int .i64 1, .int .i64 1, .int .i64 9], .slice A47_ t45_.length c48_, .int .i64 1] rfl rfl rfl rfl rfl Try.func9 rfl (by decide) rfl rfl rfl rfl (fun w ht => shape_Level_con _ 1 1 2 2 1 1 9 A47_ c48_ t45_ 1 t158_ e159_ w _)) ?_
 intro A201_ c202_
 refine ⟨(mem_pick (idx := [3, 4, 5, 6, 7, 8]) rfl), ?_⟩
 refine a_v 19 rfl (by kernel_rfl) (by kernel_rfl) (by kernel_rfl) rfl rfl rfl (v_len rfl rfl rfl Try.underlying24 rfl rfl) ?_
 refine a_v 20 rfl (by kernel_rfl) (by kernel_rfl) (by kernel_rfl) rfl rfl rfl (OpV.cast (v := .bool true) (v_arith rfl rfl rfl rfl) (congrArg Value.bool h162_)) ?_
 refine a_v 21 rfl (by kernel_rfl) (by kernel_rfl) (by kernel_rfl) rfl rfl rfl (v_pick rfl rfl rfl rfl) ?_
 refine a_v 22 rfl (by kernel_rfl) (by kernel_rfl) (by kernel_rfl) rfl rfl rfl (v_move rfl rfl) ?_
 refine a_v 23 rfl (by kernel_rfl) (by kernel_rfl) (by kernel_rfl) rfl rfl rfl (v_ldA [.int .i64 1, .int .i64 1, .int .i64 2, .int .i64 2, .int .i64 1, .int .i64 1, .int .i64 9] 5 rfl Try.underlying23 rfl SZ23 rfl rfl rfl rfl) ?_
 refine a_v 24 rfl (by kernel_rfl) (by kernel_rfl) (by kernel_rfl) rfl rfl rfl (v_move rfl rfl) ?_
 refine a_1 (i := 25) (by kernel_rfl) ?_
 refine i_e rfl rfl (e_callF [5] #[.agg #[.int .i64 1, .int .i64 1, .int .i64 2, .int .i64 2, .int .i64 1, .int .i64 1, .int .i64 9], .slice A47_ t45_.length c48_, .int .i64 2] rfl rfl rfl rfl rfl Try.func9 rfl (by decide) rfl rfl rfl rfl (fun w ht => shape_Level_con _ 1 1 2 2 1 1 9 A47_ c48_ t45_ 2 t163_ e164_ w _)) ?_
 intro A203_ c204_
 refine ⟨(mem_pick (idx := [4, 5, 6, 7, 8, 9]) rfl), ?_⟩
 refine a_v 26 rfl (by kernel_rfl) (by kernel_rfl) (by kernel_rfl) rfl rfl rfl (v_len rfl rfl rfl Try.underlying24 rfl rfl) ?_
 refine a_v 27 rfl (by kernel_rfl) (by kernel_rfl) (by kernel_rfl) rfl rfl rfl (OpV.cast (v := .bool true) (v_arith rfl rfl rfl rfl) (congrArg Value.bool h167_)) ?_
 refine a_v 28 rfl (by kernel_rfl) (by kernel_rfl) (by kernel_rfl) rfl rfl rfl (v_pick rfl rfl rfl rfl) ?_
 refine a_v 29 rfl (by kernel_rfl) (by kernel_rfl) (by kernel_rfl) rfl rfl rfl (v_move rfl rfl) ?_
 refine a_v 30 rfl (by kernel_rfl) (by kernel_rfl) (by kernel_rfl) rfl rfl rfl (v_move rfl rfl) ?_
 refine a_v 31 rfl (by kernel_rfl) (by kernel_rfl) (by kernel_rfl) rfl rfl rfl (v_len rfl rfl rfl Try.underlying35 rfl rfl) ?_
 refine a_v 32 rfl (by kernel_rfl) (by kernel_rfl) (by kernel_rfl) rfl rfl rfl (OpV.cast (v := .bool true) (v_arith rfl rfl rfl rfl) (congrArg Value.bool h168_)) ?_
 refine a_v 33 rfl (by kernel_rfl) (by kernel_rfl) (by kernel_rfl) rfl rfl rfl (v_pick rfl rfl rfl rfl) ?_
 refine a_v 34 rfl (by kernel_rfl) (by kernel_rfl) (by kernel_rfl) rfl rfl rfl (v_move rfl rfl) ?_
 refine a_v 35 rfl (by kernel_rfl) (by kernel_rfl) (by kernel_rfl) rfl rfl rfl (v_move rfl rfl) ?_
 refine a_v 36 rfl (by kernel_rfl) (by kernel_rfl) (by kernel_rfl) rfl rfl rfl (v_iaK (i := 0) rfl Try.underlying35 SZ61 rfl rfl rfl rfl (by decide) n169_) ?_
 refine a_v 37 rfl (by kernel_rfl) (by kernel_rfl) (by kernel_rfl) rfl rfl rfl (v_fax rfl Try.underlying61 rfl SZ25 rfl) ?_
 refine a_v 38 rfl (by kernel_rfl) (by kernel_rfl) (by kernel_rfl) rfl rfl rfl (v_ldKf (v := .int .u64 ((rd_T61 t60_ 0).f0)) z61 [.int .u64 ((rd_T61 t60_ 0).f0), .int .u64 ((rd_T61 t60_ 0).f1)] 0 rfl Try.underlying25 rfl rfl rfl rfl (by decide) n169_ (fun w K h => k61_open h) rfl) ?_
 refine a_v 39 rfl (by kernel_rfl) (by kernel_rfl) (by kernel_rfl) rfl rfl rfl (OpV.cast (v := .bool true) (v_arith rfl rfl rfl rfl) (congrArg Value.bool h170_)) ?_
 refine a_v 40 rfl (by kernel_rfl) (by kernel_rfl) (by kernel_rfl) rfl rfl rfl (v_pick rfl rfl rfl rfl) ?_
 refine a_v 41 rfl (by kernel_rfl) (by kernel_rfl) (by kernel_rfl) rfl rfl rfl (v_move rfl rfl) ?_
 refine a_v 42 rfl (by kernel_rfl) (by kernel_rfl) (by kernel_rfl) rfl rfl rfl (v_move rfl rfl) ?_
 refine a_v 43 rfl (by kernel_rfl) (by kernel_rfl) (by kernel_rfl) rfl rfl rfl (v_iaK (i := 0) rfl Try.underlying35 SZ61 rfl rfl rfl rfl (by decide) n169_) ?_
 refine a_v 44 rfl (by kernel_rfl) (by kernel_rfl) (by kernel_rfl) rfl rfl rfl (v_fax rfl Try.underlying61 rfl SZ25 rfl) ?_
 refine a_v 45 rfl (by kernel_rfl) (by kernel_rfl) (by kernel_rfl) rfl rfl rfl (v_ldKf (v := .int .u64 ((rd_T61 t60_ 0).f1)) z61 [.int .u64 ((rd_T61 t60_ 0).f0), .int .u64 ((rd_T61 t60_ 0).f1)] 0 rfl Try.underlying25 rfl rfl rfl rfl (by decide) n169_ (fun w K h => k61_open h) rfl) ?_
 refine a_v 46 rfl (by kernel_rfl) (by kernel_rfl) (by kernel_rfl) rfl rfl rfl (OpV.cast (v := .bool false) (v_arith rfl rfl rfl rfl) (congrArg Value.bool h171_)) ?_
 refine a_v 47 rfl (by kernel_rfl) (by kernel_rfl) (by kernel_rfl) rfl rfl rfl (v_pick rfl rfl rfl rfl) ?_
 refine a_v 48 rfl (by kernel_rfl) (by kernel_rfl) (by kernel_rfl) rfl rfl rfl (v_move rfl rfl) ?_
 refine a_no 49 rfl (by kernel_rfl) (by kernel_rfl) (by kernel_rfl) rfl rfl rfl ?_
 refine a_no 50 rfl (by kernel_rfl) (by kernel_rfl) (by kernel_rfl) rfl rfl rfl ?_
 refine a_no 51 rfl (by kernel_rfl) (by kernel_rfl) (by kernel_rfl) rfl rfl rfl ?_
 refine a_v 52 rfl (by kernel_rfl) (by kernel_rfl) (by kernel_rfl) rfl rfl rfl (v_pick rfl rfl rfl rfl) ?_
 refine a_v 53 rfl (by kernel_rfl) (by kernel_rfl) (by kernel_rfl) rfl rfl rfl (v_move rfl rfl) ?_
 refine a_no 54 rfl (by kernel_rfl) (by kernel_rfl) (by kernel_rfl) rfl rfl rfl ?_
 refine a_no 55 rfl (by kernel_rfl) (by kernel_rfl) (by kernel_rfl) rfl rfl rfl ?_
 refine a_no 56 rfl (by kernel_rfl) (by kernel_rfl) (by kernel_rfl) rfl rfl rfl ?_
 refine a_no 57 rfl (by kernel_rfl) (by kernel_rfl) (by kernel_rfl) rfl rfl rfl ?_
 refine a_v 58 rfl (by kernel_rfl) (by kernel_rfl) (by kernel_rfl) rfl rfl rfl (v_pick rfl rfl rfl rfl) ?_
 refine a_v 59 rfl (by kernel_rfl) (by kernel_rfl) (by kernel_rfl) rfl rfl rfl (v_move rfl rfl) ?_
 refine a_no 60 rfl (by kernel_rfl) (by kernel_rfl) (by kernel_rfl) rfl rfl rfl ?_
 refine a_no 61 rfl (by kernel_rfl) (by kernel_rfl) (by kernel_rfl) rfl rfl rfl ?_
 refine a_no 62 rfl (by kernel_rfl) (by kernel_rfl) (by kernel_rfl) rfl rfl rfl ?_
 refine a_no 63 rfl (by kernel_rfl) (by kernel_rfl) (by kernel_rfl) rfl rfl rfl ?_
 refine a_no 64 rfl (by kernel_rfl) (by kernel_rfl) (by kernel_rfl) rfl rfl rfl ?_
 refine a_v 65 rfl (by kernel_rfl) (by kernel_rfl) (by kernel_rfl) rfl rfl rfl (v_pick rfl rfl rfl rfl) ?_
 refine a_v 66 rfl (by kernel_rfl) (by kernel_rfl) (by kernel_rfl) rfl rfl rfl (v_assign rfl rfl) ?_
 refine a_end (by kernel_rfl) ?_
 have hq_0 := Option.some.inj H
 subst hq_0
 exact q_seq (c_frame (subF_spec (by exact ⟨rfl, trivial⟩)) (c_take [4, 5, 6, 7, 8, 9] rfl (by decide) (J_ () trivial)))
 replace H := ite_n (ibeq_f h170_) H
 refine r_any [.f (KC k61 z62_.1 z62_.2 t60_), .f (KC k61 A58_ c59_ t56_), .f (KC (Kd.int .u64) A47_ c48_ t45_), .f (KC k46 (some ⟨b44_, 0, none⟩) 2 ([(⟨3, 7, 2, 0, false⟩ : S46), (⟨5, 0, 1, 1, true⟩ : S46)] : List S46)), .f (KC (Kd.int .u64) A37_ c38_ t28_), .b b2_ (.cells #[.int .i64 1, .int .i64 1, .int .i64 2, .int .i64 2, .int .i64 1, .int .i64 1, .int .i64 9] 23 (0, 0))] (by kernel_rfl) rfl (by kernel_rfl) (mem_pick (idx := [0, 1, 2, 3, 4, 5]) rfl) ?_
 refine a_v 0 rfl (by kernel_rfl) (by kernel_rfl) (by kernel_rfl) rfl rfl rfl (v_ldA [.int .i64 1, .int .i64 1, .int .i64 2, .int .i64 2, .int .i64 1, .int .i64 1, .int .i64 9] 5 rfl Try.underlying23 rfl SZ23 rfl rfl rfl rfl) ?_
 refine a_v 1 rfl (by kernel_rfl) (by kernel_rfl) (by kernel_rfl) rfl rfl rfl (v_move rfl rfl) ?_
 refine a_1 (i := 2) (by kernel_rfl) ?_
 refine i_e rfl rfl (e_callF [4] #[.agg #[.int .i64 1, .int .i64 1, .int .i64 2, .int .i64 2, .int .i64 1, .int .i64 1, .int .i64 9], .slice A37_ t28_.length c38_] rfl rfl rfl rfl rfl Try.func17 rfl (by decide) rfl rfl rfl rfl (fun w ht => shape_Right_con _ 1 1 2 2 1 1 9 A37_ c38_ t28_ true e148_ w _)) ?_
 refine ⟨(mem_pick (idx := [0, 1, 2, 3, 4, 5]) rfl), ?_⟩
 refine a_v 3 rfl (by kernel_rfl) (by kernel_rfl) (by kernel_rfl) rfl rfl rfl (v_move rfl rfl) ?_
 refine a_v 4 rfl (by kernel_rfl) (by kernel_rfl) (by kernel_rfl) rfl rfl rfl (v_ldA [.int .i64 1, .int .i64 1, .int .i64 2, .int .i64 2, .int .i64 1, .int .i64 1, .int .i64 9] 5 rfl Try.underlying23 rfl SZ23 rfl rfl rfl rfl) ?_
 refine a_v 5 rfl (by kernel_rfl) (by kernel_rfl) (by kernel_rfl) rfl rfl rfl (v_move rfl rfl) ?_
 refine a_1 (i := 6) (by kernel_rfl) ?_
 refine i_knowT (KC_nil (Kd.slice 81 k81)) ?_
 refine i_e rfl rfl (e_callF [5, 0] #[.agg #[.int .i64 1, .int .i64 1, .int .i64 2, .int .i64 2, .int .i64 1, .int .i64 1, .int .i64 9], .slice A37_ t28_.length c38_, .slice none 0 0] rfl rfl rfl rfl rfl Try.func18 rfl (by decide) rfl rfl rfl rfl (fun w ht => shape_Rest_con _ 1 1 2 2 1 1 9 A37_ c38_ t28_ none 0 ([] : List (List S81)) true e151_ w _)) ?_
 refine ⟨(mem_pick (idx := [1, 2, 3, 4, 5, 6]) rfl), ?_⟩
 refine a_v 7 rfl (by kernel_rfl) (by kernel_rfl) (by kernel_rfl) rfl rfl rfl (v_pick rfl rfl rfl rfl) ?_
 refine a_v 8 rfl (by kernel_rfl) (by kernel_rfl) (by kernel_rfl) rfl rfl rfl (v_move rfl rfl) ?_
 refine a_v 9 rfl (by kernel_rfl) (by kernel_rfl) (by kernel_rfl) rfl rfl rfl (v_ldA [.int .i64 1, .int .i64 1, .int .i64 2, .int .i64 2, .int .i64 1, .int .i64 1, .int .i64 9] 5 rfl Try.underlying23 rfl SZ23 rfl rfl rfl rfl) ?_
 refine a_v 10 rfl (by kernel_rfl) (by kernel_rfl) (by kernel_rfl) rfl rfl rfl (v_move rfl rfl) ?_
 refine a_1 (i := 11) (by kernel_rfl) ?_
 refine i_e rfl rfl (e_callF [3] #[.agg #[.int .i64 1, .int .i64 1, .int .i64 2, .int .i64 2, .int .i64 1, .int .i64 1, .int .i64 9], .slice A47_ t45_.length c48_, .int .i64 0] rfl rfl rfl rfl rfl Try.func9 rfl (by decide) rfl rfl rfl rfl (fun w ht => shape_Level_con _ 1 1 2 2 1 1 9 A47_ c48_ t45_ 0 t153_ e154_ w _)) ?_
 intro A205_ c206_
 refine ⟨(mem_pick (idx := [2, 3, 4, 5, 6, 7]) rfl), ?_⟩
 refine a_v 12 rfl (by kernel_rfl) (by kernel_rfl) (by kernel_rfl) rfl rfl rfl (v_len rfl rfl rfl Try.underlying24 rfl rfl) ?_
 refine a_v 13 rfl (by kernel_rfl) (by kernel_rfl) (by kernel_rfl) rfl rfl rfl (OpV.cast (v := .bool true) (v_arith rfl rfl rfl rfl) (congrArg Value.bool h157_)) ?_
 refine a_v 14 rfl (by kernel_rfl) (by kernel_rfl) (by kernel_rfl) rfl rfl rfl (v_pick rfl rfl rfl rfl) ?_
 refine a_v 15 rfl (by kernel_rfl) (by kernel_rfl) (by kernel_rfl) rfl rfl rfl (v_move rfl rfl) ?_
 refine a_v 16 rfl (by kernel_rfl) (by kernel_rfl) (by kernel_rfl) rfl rfl rfl (v_ldA [.int .i64 1, .int .i64 1, .int .i64 2, .int .i64 2, .int .i64 1, .int .i64 1, .int .i64 9] 5 rfl Try.underlying23 rfl SZ23 rfl rfl rfl rfl) ?_
 refine a_v 17 rfl (by kernel_rfl) (by kernel_rfl) (by kernel_rfl) rfl rfl rfl (v_move rfl rfl) ?_
 refine a_1 (i := 18) (by kernel_rfl) ?_
 refine i_e rfl rfl (e_callF [4] #[.agg #[.int .i64 1, .int .i64 1, .int .i64 2, .int .i64 2, .int .i64 1, .int .i64 1, .int .i64 9], .slice A47_ t45_.length c48_, .int .i64 1] rfl rfl rfl rfl rfl Try.func9 rfl (by decide) rfl rfl rfl rfl (fun w ht => shape_Level_con _ 1 1 2 2 1 1 9 A47_ c48_ t45_ 1 t158_ e159_ w _)) ?_
 intro A207_ c208_
 refine ⟨(mem_pick (idx := [3, 4, 5, 6, 7, 8]) rfl), ?_⟩
 refine a_v 19 rfl (by kernel_rfl) (by kernel_rfl) (by kernel_rfl) rfl rfl rfl (v_len rfl rfl rfl Try.underlying24 rfl rfl) ?_
 refine a_v 20 rfl (by kernel_rfl) (by kernel_rfl) (by kernel_rfl) rfl rfl rfl (OpV.cast (v := .bool true) (v_arith rfl rfl rfl rfl) (congrArg Value.bool h162_)) ?_
 refine a_v 21 rfl (by kernel_rfl) (by kernel_rfl) (by kernel_rfl) rfl rfl rfl (v_pick rfl rfl rfl rfl) ?_
 refine a_v 22 rfl (by kernel_rfl) (by kernel_rfl) (by kernel_rfl) rfl rfl rfl (v_move rfl rfl) ?_
 refine a_v 23 rfl (by kernel_rfl) (by kernel_rfl) (by kernel_rfl) rfl rfl rfl (v_ldA [.int .i64 1, .int .i64 1, .int .i64 2, .int .i64 2, .int .i64 1, .int .i64 1, .int .i64 9] 5 rfl Try.underlying23 rfl SZ23 rfl rfl rfl rfl) ?_
 refine a_v 24 rfl (by kernel_rfl) (by kernel_rfl) (by kernel_rfl) rfl rfl rfl (v_move rfl rfl) ?_
 refine a_1 (i := 25) (by kernel_rfl) ?_
 refine i_e rfl rfl (e_callF [5] #[.agg #[.int .i64 1, .int .i64 1, .int .i64 2, .int .i64 2, .int .i64 1, .int .i64 1, .int .i64 9], .slice A47_ t45_.length c48_, .int .i64 2] rfl rfl rfl rfl rfl Try.func9 rfl (by decide) rfl rfl rfl rfl (fun w ht => shape_Level_con _ 1 1 2 2 1 1 9 A47_ c48_ t45_ 2 t163_ e164_ w _)) ?_
 intro A209_ c210_
 refine ⟨(mem_pick (idx := [4, 5, 6, 7, 8, 9]) rfl), ?_⟩
 refine a_v 26 rfl (by kernel_rfl) (by kernel_rfl) (by kernel_rfl) rfl rfl rfl (v_len rfl rfl rfl Try.underlying24 rfl rfl) ?_
 refine a_v 27 rfl (by kernel_rfl) (by kernel_rfl) (by kernel_rfl) rfl rfl rfl (OpV.cast (v := .bool true) (v_arith rfl rfl rfl rfl) (congrArg Value.bool h167_)) ?_
 refine a_v 28 rfl (by kernel_rfl) (by kernel_rfl) (by kernel_rfl) rfl rfl rfl (v_pick rfl rfl rfl rfl) ?_
 refine a_v 29 rfl (by kernel_rfl) (by kernel_rfl) (by kernel_rfl) rfl rfl rfl (v_move rfl rfl) ?_
 refine a_v 30 rfl (by kernel_rfl) (by kernel_rfl) (by kernel_rfl) rfl rfl rfl (v_move rfl rfl) ?_
 refine a_v 31 rfl (by kernel_rfl) (by kernel_rfl) (by kernel_rfl) rfl rfl rfl (v_len rfl rfl rfl Try.underlying35 rfl rfl) ?_
 refine a_v 32 rfl (by kernel_rfl) (by kernel_rfl) (by kernel_rfl) rfl rfl rfl (OpV.cast (v := .bool true) (v_arith rfl rfl rfl rfl) (congrArg Value.bool h168_)) ?_
 refine a_v 33 rfl (by kernel_rfl) (by kernel_rfl) (by kernel_rfl) rfl rfl rfl (v_pick rfl rfl rfl rfl) ?_
 refine a_v 34 rfl (by kernel_rfl) (by kernel_rfl) (by kernel_rfl) rfl rfl rfl (v_move rfl rfl) ?_
 refine a_v 35 rfl (by kernel_rfl) (by kernel_rfl) (by kernel_rfl) rfl rfl rfl (v_move rfl rfl) ?_
 refine a_v 36 rfl (by kernel_rfl) (by kernel_rfl) (by kernel_rfl) rfl rfl rfl (v_iaK (i := 0) rfl Try.underlying35 SZ61 rfl rfl rfl rfl (by decide) n169_) ?_
 refine a_v 37 rfl (by kernel_rfl) (by kernel_rfl) (by kernel_rfl) rfl rfl rfl (v_fax rfl Try.underlying61 rfl SZ25 rfl) ?_
 refine a_v 38 rfl (by kernel_rfl) (by kernel_rfl) (by kernel_rfl) rfl rfl rfl (v_ldKf (v := .int .u64 ((rd_T61 t60_ 0).f0)) z61 [.int .u64 ((rd_T61 t60_ 0).f0), .int .u64 ((rd_T61 t60_ 0).f1)] 0 rfl Try.underlying25 rfl rfl rfl rfl (by decide) n169_ (fun w K h => k61_open h) rfl) ?_
 refine a_v 39 rfl (by kernel_rfl) (by kernel_rfl) (by kernel_rfl) rfl rfl rfl (OpV.cast (v := .bool false) (v_arith rfl rfl rfl rfl) (congrArg Value.bool h170_)) ?_
 refine a_v 40 rfl (by kernel_rfl) (by kernel_rfl) (by kernel_rfl) rfl rfl rfl (v_pick rfl rfl rfl rfl) ?_
 refine a_v 41 rfl (by kernel_rfl) (by kernel_rfl) (by kernel_rfl) rfl rfl rfl (v_move rfl rfl) ?_
 refine a_no 42 rfl (by kernel_rfl) (by kernel_rfl) (by kernel_rfl) rfl rfl rfl ?_
 refine a_no 43 rfl (by kernel_rfl) (by kernel_rfl) (by kernel_rfl) rfl rfl rfl ?_
 refine a_no 44 rfl (by kernel_rfl) (by kernel_rfl) (by kernel_rfl) rfl rfl rfl ?_
 refine a_no 45 rfl (by kernel_rfl) (by kernel_rfl) (by kernel_rfl) rfl rfl rfl ?_
 refine a_no 46 rfl (by kernel_rfl) (by kernel_rfl) (by kernel_rfl) rfl rfl rfl ?_
 refine a_v 47 rfl (by kernel_rfl) (by kernel_rfl) (by kernel_rfl) rfl rfl rfl (v_pick rfl rfl rfl rfl) ?_
 refine a_v 48 rfl (by kernel_rfl) (by kernel_rfl) (by kernel_rfl) rfl rfl rfl (v_move rfl rfl) ?_
 refine a_no 49 rfl (by kernel_rfl) (by kernel_rfl) (by kernel_rfl) rfl rfl rfl ?_
 refine a_no 50 rfl (by kernel_rfl) (by kernel_rfl) (by kernel_rfl) rfl rfl rfl ?_
 refine a_no 51 rfl (by kernel_rfl) (by kernel_rfl) (by kernel_rfl) rfl rfl rfl ?_
 refine a_v 52 rfl (by kernel_rfl) (by kernel_rfl) (by kernel_rfl) rfl rfl rfl (v_pick rfl rfl rfl rfl) ?_
 refine a_v 53 rfl (by kernel_rfl) (by kernel_rfl) (by kernel_rfl) rfl rfl rfl (v_move rfl rfl) ?_
 refine a_no 54 rfl (by kernel_rfl) (by kernel_rfl) (by kernel_rfl) rfl rfl rfl ?_
 refine a_no 55 rfl (by kernel_rfl) (by kernel_rfl) (by kernel_rfl) rfl rfl rfl ?_
 refine a_no 56 rfl (by kernel_rfl) (by kernel_rfl) (by kernel_rfl) rfl rfl rfl ?_
 refine a_no 57 rfl (by kernel_rfl) (by kernel_rfl) (by kernel_rfl) rfl rfl rfl ?_
 refine a_v 58 rfl (by kernel_rfl) (by kernel_rfl) (by kernel_rfl) rfl rfl rfl (v_pick rfl rfl rfl rfl) ?_
 refine a_v 59 rfl (by kernel_rfl) (by kernel_rfl) (by kernel_rfl) rfl rfl rfl (v_move rfl rfl) ?_
 refine a_no 60 rfl (by kernel_rfl) (by kernel_rfl) (by kernel_rfl) rfl rfl rfl ?_
 refine a_no 61 rfl (by kernel_rfl) (by kernel_rfl) (by kernel_rfl) rfl rfl rfl ?_
 refine a_no 62 rfl (by kernel_rfl) (by kernel_rfl) (by kernel_rfl) rfl rfl rfl ?_
 refine a_no 63 rfl (by kernel_rfl) (by kernel_rfl) (by kernel_rfl) rfl rfl rfl ?_
 refine a_no 64 rfl (by kernel_rfl) (by kernel_rfl) (by kernel_rfl) rfl rfl rfl ?_
 refine a_v 65 rfl (by kernel_rfl) (by kernel_rfl) (by kernel_rfl) rfl rfl rfl (v_pick rfl rfl rfl rfl) ?_
 refine a_v 66 rfl (by kernel_rfl) (by kernel_rfl) (by kernel_rfl) rfl rfl rfl (v_assign rfl rfl) ?_
 refine a_end (by kernel_rfl) ?_
 have hq_0 := Option.some.inj H
 subst hq_0
 exact q_seq (c_frame (subF_spec (by exact ⟨rfl, trivial⟩)) (c_take [4, 5, 6, 7, 8, 9] rfl (by decide) (J_ () trivial)))
 replace H := ite_n (ibeq_f h168_) H
 refine r_any [.f (KC k61 z62_.1 z62_.2 t60_), .f (KC k61 A58_ c59_ t56_), .f (KC (Kd.int .u64) A47_ c48_ t45_), .f (KC k46 (some ⟨b44_, 0, none⟩) 2 ([(⟨3, 7, 2, 0, false⟩ : S46), (⟨5, 0, 1, 1, true⟩ : S46)] : List S46)), .f (KC (Kd.int .u64) A37_ c38_ t28_), .b b2_ (.cells #[.int .i64 1, .int .i64 1, .int .i64 2, .int .i64 2, .int .i64 1, .int .i64 1, .int .i64 9] 23 (0, 0))] (by kernel_rfl) rfl (by kernel_rfl) (mem_pick (idx := [0, 1, 2, 3, 4, 5]) rfl) ?_
 refine a_v 0 rfl (by kernel_rfl) (by kernel_rfl) (by kernel_rfl) rfl rfl rfl (v_ldA [.int .i64 1, .int .i64 1, .int .i64 2, .int .i64 2, .int .i64 1, .int .i64 1, .int .i64 9] 5 rfl Try.underlying23 rfl SZ23 rfl rfl rfl rfl) ?_
 refine a_v 1 rfl (by kernel_rfl) (by kernel_rfl) (by kernel_rfl) rfl rfl rfl (v_move rfl rfl) ?_
 refine a_1 (i := 2) (by kernel_rfl) ?_
 refine i_e rfl rfl (e_callF [4] #[.agg #[.int .i64 1, .int .i64 1, .int .i64 2, .int .i64 2, .int .i64 1, .int .i64 1, .int .i64 9], .slice A37_ t28_.length c38_] rfl rfl rfl rfl rfl Try.func17 rfl (by decide) rfl rfl rfl rfl (fun w ht => shape_Right_con _ 1 1 2 2 1 1 9 A37_ c38_ t28_ true e148_ w _)) ?_
 refine ⟨(mem_pick (idx := [0, 1, 2, 3, 4, 5]) rfl), ?_⟩
 refine a_v 3 rfl (by kernel_rfl) (by kernel_rfl) (by kernel_rfl) rfl rfl rfl (v_move rfl rfl) ?_
 refine a_v 4 rfl (by kernel_rfl) (by kernel_rfl) (by kernel_rfl) rfl rfl rfl (v_ldA [.int .i64 1, .int .i64 1, .int .i64 2, .int .i64 2, .int .i64 1, .int .i64 1, .int .i64 9] 5 rfl Try.underlying23 rfl SZ23 rfl rfl rfl rfl) ?_
 refine a_v 5 rfl (by kernel_rfl) (by kernel_rfl) (by kernel_rfl) rfl rfl rfl (v_move rfl rfl) ?_
 refine a_1 (i := 6) (by kernel_rfl) ?_
 refine i_knowT (KC_nil (Kd.slice 81 k81)) ?_
 refine i_e rfl rfl (e_callF [5, 0] #[.agg #[.int .i64 1, .int .i64 1, .int .i64 2, .int .i64 2, .int .i64 1, .int .i64 1, .int .i64 9], .slice A37_ t28_.length c38_, .slice none 0 0] rfl rfl rfl rfl rfl Try.func18 rfl (by decide) rfl rfl rfl rfl (fun w ht => shape_Rest_con _ 1 1 2 2 1 1 9 A37_ c38_ t28_ none 0 ([] : List (List S81)) true e151_ w _)) ?_
 refine ⟨(mem_pick (idx := [1, 2, 3, 4, 5, 6]) rfl), ?_⟩
 refine a_v 7 rfl (by kernel_rfl) (by kernel_rfl) (by kernel_rfl) rfl rfl rfl (v_pick rfl rfl rfl rfl) ?_
 refine a_v 8 rfl (by kernel_rfl) (by kernel_rfl) (by kernel_rfl) rfl rfl rfl (v_move rfl rfl) ?_
 refine a_v 9 rfl (by kernel_rfl) (by kernel_rfl) (by kernel_rfl) rfl rfl rfl (v_ldA [.int .i64 1, .int .i64 1, .int .i64 2, .int .i64 2, .int .i64 1, .int .i64 1, .int .i64 9] 5 rfl Try.underlying23 rfl SZ23 rfl rfl rfl rfl) ?_
 refine a_v 10 rfl (by kernel_rfl) (by kernel_rfl) (by kernel_rfl) rfl rfl rfl (v_move rfl rfl) ?_
 refine a_1 (i := 11) (by kernel_rfl) ?_
 refine i_e rfl rfl (e_callF [3] #[.agg #[.int .i64 1, .int .i64 1, .int .i64 2, .int .i64 2, .int .i64 1, .int .i64 1, .int .i64 9], .slice A47_ t45_.length c48_, .int .i64 0] rfl rfl rfl rfl rfl Try.func9 rfl (by decide) rfl rfl rfl rfl (fun w ht => shape_Level_con _ 1 1 2 2 1 1 9 A47_ c48_ t45_ 0 t153_ e154_ w _)) ?_
 intro A211_ c212_
 refine ⟨(mem_pick (idx := [2, 3, 4, 5, 6, 7]) rfl), ?_⟩
 refine a_v 12 rfl (by kernel_rfl) (by kernel_rfl) (by kernel_rfl) rfl rfl rfl (v_len rfl rfl rfl Try.underlying24 rfl rfl) ?_
 refine a_v 13 rfl (by kernel_rfl) (by kernel_rfl) (by kernel_rfl) rfl rfl rfl (OpV.cast (v := .bool true) (v_arith rfl rfl rfl rfl) (congrArg Value.bool h157_)) ?_
 refine a_v 14 rfl (by kernel_rfl) (by kernel_rfl) (by kernel_rfl) rfl rfl rfl (v_pick rfl rfl rfl rfl) ?_
 refine a_v 15 rfl (by kernel_rfl) (by kernel_rfl) (by kernel_rfl) rfl rfl rfl (v_move rfl rfl) ?_
 refine a_v 16 rfl (by kernel_rfl) (by kernel_rfl) (by kernel_rfl) rfl rfl rfl (v_ldA [.int .i64 1, .int .i64 1, .int .i64 2, .int .i64 2, .int .i64 1, .int .i64 1, .int .i64 9] 5 rfl Try.underlying23 rfl SZ23 rfl rfl rfl rfl) ?_
 refine a_v 17 rfl (by kernel_rfl) (by kernel_rfl) (by kernel_rfl) rfl rfl rfl (v_move rfl rfl) ?_
 refine a_1 (i := 18) (by kernel_rfl) ?_
 refine i_e rfl rfl (e_callF [4] #[.agg #[.int .i64 1, .int .i64 1, .int .i64 2, .int .i64 2, .int .i64 1, .int .i64 1, .int .i64 9], .slice A47_ t45_.length c48_, .int .i64 1] rfl rfl rfl rfl rfl Try.func9 rfl (by decide) rfl rfl rfl rfl (fun w ht => shape_Level_con _ 1 1 2 2 1 1 9 A47_ c48_ t45_ 1 t158_ e159_ w _)) ?_
 intro A213_ c214_
 refine ⟨(mem_pick (idx := [3, 4, 5, 6, 7, 8]) rfl), ?_⟩
 refine a_v 19 rfl (by kernel_rfl) (by kernel_rfl) (by kernel_rfl) rfl rfl rfl (v_len rfl rfl rfl Try.underlying24 rfl rfl) ?_
 refine a_v 20 rfl (by kernel_rfl) (by kernel_rfl) (by kernel_rfl) rfl rfl rfl (OpV.cast (v := .bool true) (v_arith rfl rfl rfl rfl) (congrArg Value.bool h162_)) ?_
 refine a_v 21 rfl (by kernel_rfl) (by kernel_rfl) (by kernel_rfl) rfl rfl rfl (v_pick rfl rfl rfl rfl) ?_
 refine a_v 22 rfl (by kernel_rfl) (by kernel_rfl) (by kernel_rfl) rfl rfl rfl (v_move rfl rfl) ?_
 refine a_v 23 rfl (by kernel_rfl) (by kernel_rfl) (by kernel_rfl) rfl rfl rfl (v_ldA [.int .i64 1, .int .i64 1, .int .i64 2, .int .i64 2, .int .i64 1, .int .i64 1, .int .i64 9] 5 rfl Try.underlying23 rfl SZ23 rfl rfl rfl rfl) ?_
 refine a_v 24 rfl (by kernel_rfl) (by kernel_rfl) (by kernel_rfl) rfl rfl rfl (v_move rfl rfl) ?_
 refine a_1 (i := 25) (by kernel_rfl) ?_
 refine i_e rfl rfl (e_callF [5] #[.agg #[.int .i64 1, .int .i64 1, .int .i64 2, .int .i64 2, .int .i64 1, .int .i64 1, .int .i64 9], .slice A47_ t45_.length c48_, .int .i64 2] rfl rfl rfl rfl rfl Try.func9 rfl (by decide) rfl rfl rfl rfl (fun w ht => shape_Level_con _ 1 1 2 2 1 1 9 A47_ c48_ t45_ 2 t163_ e164_ w _)) ?_
 intro A215_ c216_
 refine ⟨(mem_pick (idx := [4, 5, 6, 7, 8, 9]) rfl), ?_⟩
 refine a_v 26 rfl (by kernel_rfl) (by kernel_rfl) (by kernel_rfl) rfl rfl rfl (v_len rfl rfl rfl Try.underlying24 rfl rfl) ?_
 refine a_v 27 rfl (by kernel_rfl) (by kernel_rfl) (by kernel_rfl) rfl rfl rfl (OpV.cast (v := .bool true) (v_arith rfl rfl rfl rfl) (congrArg Value.bool h167_)) ?_
 refine a_v 28 rfl (by kernel_rfl) (by kernel_rfl) (by kernel_rfl) rfl rfl rfl (v_pick rfl rfl rfl rfl) ?_
 refine a_v 29 rfl (by kernel_rfl) (by kernel_rfl) (by kernel_rfl) rfl rfl rfl (v_move rfl rfl) ?_
 refine a_v 30 rfl (by kernel_rfl) (by kernel_rfl) (by kernel_rfl) rfl rfl rfl (v_move rfl rfl) ?_
 refine a_v 31 rfl (by kernel_rfl) (by kernel_rfl) (by kernel_rfl) rfl rfl rfl (v_len rfl rfl rfl Try.underlying35 rfl rfl) ?_
 refine a_v 32 rfl (by kernel_rfl) (by kernel_rfl) (by kernel_rfl) rfl rfl rfl (OpV.cast (v := .bool false) (v_arith rfl rfl rfl rfl) (congrArg Value.bool h168_)) ?_
 refine a_v 33 rfl (by kernel_rfl) (by kernel_rfl) (by kernel_rfl) rfl rfl rfl (v_pick rfl rfl rfl rfl) ?_
 refine a_v 34 rfl (by kernel_rfl) (by kernel_rfl) (by kernel_rfl) rfl rfl rfl (v_move rfl rfl) ?_
 refine a_no 35 rfl (by kernel_rfl) (by kernel_rfl) (by kernel_rfl) rfl rfl rfl ?_
 refine a_no 36 rfl (by kernel_rfl) (by kernel_rfl) (by kernel_rfl) rfl rfl rfl ?_
 refine a_no 37 rfl (by kernel_rfl) (by kernel_rfl) (by kernel_rfl) rfl rfl rfl ?_
 refine a_no 38 rfl (by kernel_rfl) (by kernel_rfl) (by kernel_rfl) rfl rfl rfl ?_
 refine a_no 39 rfl (by kernel_rfl) (by kernel_rfl) (by kernel_rfl) rfl rfl rfl ?_
 refine a_v 40 rfl (by kernel_rfl) (by kernel_rfl) (by kernel_rfl) rfl rfl rfl (v_pick rfl rfl rfl rfl) ?_
 refine a_v 41 rfl (by kernel_rfl) (by kernel_rfl) (by kernel_rfl) rfl rfl rfl (v_move rfl rfl) ?_
 refine a_no 42 rfl (by kernel_rfl) (by kernel_rfl) (by kernel_rfl) rfl rfl rfl ?_
 refine a_no 43 rfl (by kernel_rfl) (by kernel_rfl) (by kernel_rfl) rfl rfl rfl ?_
 refine a_no 44 rfl (by kernel_rfl) (by kernel_rfl) (by kernel_rfl) rfl rfl rfl ?_
 refine a_no 45 rfl (by kernel_rfl) (by kernel_rfl) (by kernel_rfl) rfl rfl rfl ?_
 refine a_no 46 rfl (by kernel_rfl) (by kernel_rfl) (by kernel_rfl) rfl rfl rfl ?_
 refine a_v 47 rfl (by kernel_rfl) (by kernel_rfl) (by kernel_rfl) rfl rfl rfl (v_pick rfl rfl rfl rfl) ?_
 refine a_v 48 rfl (by kernel_rfl) (by kernel_rfl) (by kernel_rfl) rfl rfl rfl (v_move rfl rfl) ?_
 refine a_no 49 rfl (by kernel_rfl) (by kernel_rfl) (by kernel_rfl) rfl rfl rfl ?_
 refine a_no 50 rfl (by kernel_rfl) (by kernel_rfl) (by kernel_rfl) rfl rfl rfl ?_
 refine a_no 51 rfl (by kernel_rfl) (by kernel_rfl) (by kernel_rfl) rfl rfl rfl ?_
 refine a_v 52 rfl (by kernel_rfl) (by kernel_rfl) (by kernel_rfl) rfl rfl rfl (v_pick rfl rfl rfl rfl) ?_
 refine a_v 53 rfl (by kernel_rfl) (by kernel_rfl) (by kernel_rfl) rfl rfl rfl (v_move rfl rfl) ?_
 refine a_no 54 rfl (by kernel_rfl) (by kernel_rfl) (by kernel_rfl) rfl rfl rfl ?_
 refine a_no 55 rfl (by kernel_rfl) (by kernel_rfl) (by kernel_rfl) rfl rfl rfl ?_
 refine a_no 56 rfl (by kernel_rfl) (by kernel_rfl) (by kernel_rfl) rfl rfl rfl ?_
 refine a_no 57 rfl (by kernel_rfl) (by kernel_rfl) (by kernel_rfl) rfl rfl rfl ?_
 refine a_v 58 rfl (by kernel_rfl) (by kernel_rfl) (by kernel_rfl) rfl rfl rfl (v_pick rfl rfl rfl rfl) ?_
 refine a_v 59 rfl (by kernel_rfl) (by kernel_rfl) (by kernel_rfl) rfl rfl rfl (v_move rfl rfl) ?_
 refine a_no 60 rfl (by kernel_rfl) (by kernel_rfl) (by kernel_rfl) rfl rfl rfl ?_
 refine a_no 61 rfl (by kernel_rfl) (by kernel_rfl) (by kernel_rfl) rfl rfl rfl ?_
 refine a_no 62 rfl (by kernel_rfl) (by kernel_rfl) (by kernel_rfl) rfl rfl rfl ?_
 refine a_no 63 rfl (by kernel_rfl) (by kernel_rfl) (by kernel_rfl) rfl rfl rfl ?_
 refine a_no 64 rfl (by kernel_rfl) (by kernel_rfl) (by kernel_rfl) rfl rfl rfl ?_
 refine a_v 65 rfl (by kernel_rfl) (by kernel_rfl) (by kernel_rfl) rfl rfl rfl (v_pick rfl rfl rfl rfl) ?_
 refine a_v 66 rfl (by kernel_rfl) (by kernel_rfl) (by kernel_rfl) rfl rfl rfl (v_assign rfl rfl) ?_
 refine a_end (by kernel_rfl) ?_
 have hq_0 := Option.some.inj H
 subst hq_0
 exact q_seq (c_frame (subF_spec (by exact ⟨rfl, trivial⟩)) (c_take [4, 5, 6, 7, 8, 9] rfl (by decide) (J_ () trivial)))
 replace H := ite_n (ibeq_f h167_) H
 refine r_any [.f (KC k61 z62_.1 z62_.2 t60_), .f (KC k61 A58_ c59_ t56_), .f (KC (Kd.int .u64) A47_ c48_ t45_), .f (KC k46 (some ⟨b44_, 0, none⟩) 2 ([(⟨3, 7, 2, 0, false⟩ : S46), (⟨5, 0, 1, 1, true⟩ : S46)] : List S46)), .f (KC (Kd.int .u64) A37_ c38_ t28_), .b b2_ (.cells #[.int .i64 1, .int .i64 1, .int .i64 2, .int .i64 2, .int .i64 1, .int .i64 1, .int .i64 9] 23 (0, 0))] (by kernel_rfl) rfl (by kernel_rfl) (mem_pick (idx := [0, 1, 2, 3, 4, 5]) rfl) ?_
 refine a_v 0 rfl (by kernel_rfl) (by kernel_rfl) (by kernel_rfl) rfl rfl rfl (v_ldA [.int .i64 1, .int .i64 1, .int .i64 2, .int .i64 2, .int .i64 1, .int .i64 1, .int .i64 9] 5 rfl Try.underlying23 rfl SZ23 rfl rfl rfl rfl) ?_
 refine a_v 1 rfl (by kernel_rfl) (by kernel_rfl) (by kernel_rfl) rfl rfl rfl (v_move rfl rfl) ?_
 refine a_1 (i := 2) (by kernel_rfl) ?_
 refine i_e rfl rfl (e_callF [4] #[.agg #[.int .i64 1, .int .i64 1, .int .i64 2, .int .i64 2, .int .i64 1, .int .i64 1, .int .i64 9], .slice A37_ t28_.length c38_] rfl rfl rfl rfl rfl Try.func17 rfl (by decide) rfl rfl rfl rfl (fun w ht => shape_Right_con _ 1 1 2 2 1 1 9 A37_ c38_ t28_ true e148_ w _)) ?_
 refine ⟨(mem_pick (idx := [0, 1, 2, 3, 4, 5]) rfl), ?_⟩
 refine a_v 3 rfl (by kernel_rfl) (by kernel_rfl) (by kernel_rfl) rfl rfl rfl (v_move rfl rfl) ?_
 refine a_v 4 rfl (by kernel_rfl) (by kernel_rfl) (by kernel_rfl) rfl rfl rfl (v_ldA [.int .i64 1, .int .i64 1, .int .i64 2, .int .i64 2, .int .i64 1, .int .i64 1, .int .i64 9] 5 rfl Try.underlying23 rfl SZ23 rfl rfl rfl rfl) ?_
 refine a_v 5 rfl (by kernel_rfl) (by kernel_rfl) (by kernel_rfl) rfl rfl rfl (v_move rfl rfl) ?_
 refine a_1 (i := 6) (by kernel_rfl) ?_
 refine i_knowT (KC_nil (Kd.slice 81 k81)) ?_
 refine i_e rfl rfl (e_callF [5, 0] #[.agg #[.int .i64 1, .int .i64 1, .int .i64 2, .int .i64 2, .int .i64 1, .int .i64 1, .int .i64 9], .slice A37_ t28_.length c38_, .slice none 0 0] rfl rfl rfl rfl rfl Try.func18 rfl (by decide) rfl rfl rfl rfl (fun w ht => shape_Rest_con _ 1 1 2 2 1 1 9 A37_ c38_ t28_ none 0 ([] : List (List S81)) true e151_ w _)) ?_
 refine ⟨(mem_pick (idx := [1, 2, 3, 4, 5, 6]) rfl), ?_⟩
 refine a_v 7 rfl (by kernel_rfl) (by kernel_rfl) (by kernel_rfl) rfl rfl rfl (v_pick rfl rfl rfl rfl) ?_
 refine a_v 8 rfl (by kernel_rfl) (by kernel_rfl) (by kernel_rfl) rfl rfl rfl (v_move rfl rfl) ?_
 refine a_v 9 rfl (by kernel_rfl) (by kernel_rfl) (by kernel_rfl) rfl rfl rfl (v_ldA [.int .i64 1, .int .i64 1, .int .i64 2, .int .i64 2, .int .i64 1, .int .i64 1, .int .i64 9] 5 rfl Try.underlying23 rfl SZ23 rfl rfl rfl rfl) ?_
 refine a_v 10 rfl (by kernel_rfl) (by kernel_rfl) (by kernel_rfl) rfl rfl rfl (v_move rfl rfl) ?_
 refine a_1 (i := 11) (by kernel_rfl) ?_
 refine i_e rfl rfl (e_callF [3] #[.agg #[.int .i64 1, .int .i64 1, .int .i64 2, .int .i64 2, .int .i64 1, .int .i64 1, .int .i64 9], .slice A47_ t45_.length c48_, .int .i64 0] rfl rfl rfl rfl rfl Try.func9 rfl (by decide) rfl rfl rfl rfl (fun w ht => shape_Level_con _ 1 1 2 2 1 1 9 A47_ c48_ t45_ 0 t153_ e154_ w _)) ?_
 intro A217_ c218_
 refine ⟨(mem_pick (idx := [2, 3, 4, 5, 6, 7]) rfl), ?_⟩
 refine a_v 12 rfl (by kernel_rfl) (by kernel_rfl) (by kernel_rfl) rfl rfl rfl (v_len rfl rfl rfl Try.underlying24 rfl rfl) ?_
 refine a_v 13 rfl (by kernel_rfl) (by kernel_rfl) (by kernel_rfl) rfl rfl rfl (OpV.cast (v := .bool true) (v_arith rfl rfl rfl rfl) (congrArg Value.bool h157_)) ?_
 refine a_v 14 rfl (by kernel_rfl) (by kernel_rfl) (by kernel_rfl) rfl rfl rfl (v_pick rfl rfl rfl rfl) ?_
 refine a_v 15 rfl (by kernel_rfl) (by kernel_rfl) (by kernel_rfl) rfl rfl rfl (v_move rfl rfl) ?_
 refine a_v 16 rfl (by kernel_rfl) (by kernel_rfl) (by kernel_rfl) rfl rfl rfl (v_ldA [.int .i64 1, .int .i64 1, .int .i64 2, .int .i64 2, .int .i64 1, .int .i64 1, .int .i64 9] 5 rfl Try.underlying23 rfl SZ23 rfl rfl rfl rfl) ?_
 refine a_v 17 rfl (by kernel_rfl) (by kernel_rfl) (by kernel_rfl) rfl rfl rfl (v_move rfl rfl) ?_
 refine a_1 (i := 18) (by kernel_rfl) ?_
 refine i_e rfl rfl (e_callF [4] #[.agg #[.int .i64 1, .int .i64 1, .int .i64 2, .int .i64 2, .int .i64 1, .int .i64 1, .int .i64 9], .slice A47_ t45_.length c48_, .int .i64 1] rfl rfl rfl rfl rfl Try.func9 rfl (by decide) rfl rfl rfl rfl (fun w ht => shape_Level_con _ 1 1 2 2 1 1 9 A47_ c48_ t45_ 1 t158_ e159_ w _)) ?_
 intro A219_ c220_
 refine ⟨(mem_pick (idx := [3, 4, 5, 6, 7, 8]) rfl), ?_⟩
 refine a_v 19 rfl (by kernel_rfl) (by kernel_rfl) (by kernel_rfl) rfl rfl rfl (v_len rfl rfl rfl Try.underlying24 rfl rfl) ?_
 refine a_v 20 rfl (by kernel_rfl) (by kernel_rfl) (by kernel_rfl) rfl rfl rfl (OpV.cast (v := .bool true) (v_arith rfl rfl rfl rfl) (congrArg Value.bool h162_)) ?_
 refine a_v 21 rfl (by kernel_rfl) (by kernel_rfl) (by kernel_rfl) rfl rfl rfl (v_pick rfl rfl rfl rfl) ?_
 refine a_v 22 rfl (by kernel_rfl) (by kernel_rfl) (by kernel_rfl) rfl rfl rfl (v_move rfl rfl) ?_
 refine a_v 23 rfl (by kernel_rfl) (by kernel_rfl) (by kernel_rfl) rfl rfl rfl (v_ldA [.int .i64 1, .int .i64 1, .int .i64 2, .int .i64 2, .int .i64 1, .int .i64 1, .int .i64 9] 5 rfl Try.underlying23 rfl SZ23 rfl rfl rfl rfl) ?_
 refine a_v 24 rfl (by kernel_rfl) (by kernel_rfl) (by kernel_rfl) rfl rfl rfl (v_move rfl rfl) ?_
 refine a_1 (i := 25) (by kernel_rfl) ?_
 refine i_e rfl rfl (e_callF [5] #[.agg #[.int .i64 1, .int .i64 1, .int .i64 2, .int .i64 2, .int .i64 1, .int .i64 1, .int .i64 9], .slice A47_ t45_.length c48_, .int .i64 2] rfl rfl rfl rfl rfl Try.func9 rfl (by decide) rfl rfl rfl rfl (fun w ht => shape_Level_con _ 1 1 2 2 1 1 9 A47_ c48_ t45_ 2 t163_ e164_ w _)) ?_
 intro A221_ c222_
 refine ⟨(mem_pick (idx := [4, 5, 6, 7, 8, 9]) rfl), ?_⟩
 refine a_v 26 rfl (by kernel_rfl) (by kernel_rfl) (by kernel_rfl) rfl rfl rfl (v_len rfl rfl rfl Try.underlying24 rfl rfl) ?_
 refine a_v 27 rfl (by kernel_rfl) (by kernel_rfl) (by kernel_rfl) rfl rfl rfl (OpV.cast (v := .bool false) (v_arith rfl rfl rfl rfl) (congrArg Value.bool h167_)) ?_
 refine a_v 28 rfl (by kernel_rfl) (by kernel_rfl) (by kernel_rfl) rfl rfl rfl (v_pick rfl rfl rfl rfl) ?_
 refine a_v 29 rfl (by kernel_rfl) (by kernel_rfl) (by kernel_rfl) rfl rfl rfl (v_move rfl rfl) ?_
 refine a_no 30 rfl (by kernel_rfl) (by kernel_rfl) (by kernel_rfl) rfl rfl rfl ?_
 refine a_no 31 rfl (by kernel_rfl) (by kernel_rfl) (by kernel_rfl) rfl rfl rfl ?_
 refine a_no 32 rfl (by kernel_rfl) (by kernel_rfl) (by kernel_rfl) rfl rfl rfl ?_
 refine a_v 33 rfl (by kernel_rfl) (by kernel_rfl) (by kernel_rfl) rfl rfl rfl (v_pick rfl rfl rfl rfl) ?_
 refine a_v 34 rfl (by kernel_rfl) (by kernel_rfl) (by kernel_rfl) rfl rfl rfl (v_move rfl rfl) ?_
 refine a_no 35 rfl (by kernel_rfl) (by kernel_rfl) (by kernel_rfl) rfl rfl rfl ?_
 refine a_no 36 rfl (by kernel_rfl) (by kernel_rfl) (by kernel_rfl) rfl rfl rfl ?_
 refine a_no 37 rfl (by kernel_rfl) (by kernel_rfl) (by kernel_rfl) rfl rfl rfl ?_
 refine a_no 38 rfl (by kernel_rfl) (by kernel_rfl) (by kernel_rfl) rfl rfl rfl ?_
 refine a_no 39 rfl (by kernel_rfl) (by kernel_rfl) (by kernel_rfl) rfl rfl rfl ?_
 refine a_v 40 rfl (by kernel_rfl) (by kernel_rfl) (by kernel_rfl) rfl rfl rfl (v_pick rfl rfl rfl rfl) ?_
 refine a_v 41 rfl (by kernel_rfl) (by kernel_rfl) (by kernel_rfl) rfl rfl rfl (v_move rfl rfl) ?_
 refine a_no 42 rfl (by kernel_rfl) (by kernel_rfl) (by kernel_rfl) rfl rfl rfl ?_
 refine a_no 43 rfl (by kernel_rfl) (by kernel_rfl) (by kernel_rfl) rfl rfl rfl ?_
 refine a_no 44 rfl (by kernel_rfl) (by kernel_rfl) (by kernel_rfl) rfl rfl rfl ?_
 refine a_no 45 rfl (by kernel_rfl) (by kernel_rfl) (by kernel_rfl) rfl rfl rfl ?_
 refine a_no 46 rfl (by kernel_rfl) (by kernel_rfl) (by kernel_rfl) rfl rfl rfl ?_
 refine a_v 47 rfl (by kernel_rfl) (by kernel_rfl) (by kernel_rfl) rfl rfl rfl (v_pick rfl rfl rfl rfl) ?_
 refine a_v 48 rfl (by kernel_rfl) (by kernel_rfl) (by kernel_rfl) rfl rfl rfl (v_move rfl rfl) ?_
 refine a_no 49 rfl (by kernel_rfl) (by kernel_rfl) (by kernel_rfl) rfl rfl rfl ?_
 refine a_no 50 rfl (by kernel_rfl) (by kernel_rfl) (by kernel_rfl) rfl rfl rfl ?_
 refine a_no 51 rfl (by kernel_rfl) (by kernel_rfl) (by kernel_rfl) rfl rfl rfl ?_
 refine a_v 52 rfl (by kernel_rfl) (by kernel_rfl) (by kernel_rfl) rfl rfl rfl (v_pick rfl rfl rfl rfl) ?_
 refine a_v 53 rfl (by kernel_rfl) (by kernel_rfl) (by kernel_rfl) rfl rfl rfl (v_move rfl rfl) ?_
 refine a_no 54 rfl (by kernel_rfl) (by kernel_rfl) (by kernel_rfl) rfl rfl rfl ?_
 refine a_no 55 rfl (by kernel_rfl) (by kernel_rfl) (by kernel_rfl) rfl rfl rfl ?_
 refine a_no 56 rfl (by kernel_rfl) (by kernel_rfl) (by kernel_rfl) rfl rfl rfl ?_
 refine a_no 57 rfl (by kernel_rfl) (by kernel_rfl) (by kernel_rfl) rfl rfl rfl ?_
 refine a_v 58 rfl (by kernel_rfl) (by kernel_rfl) (by kernel_rfl) rfl rfl rfl (v_pick rfl rfl rfl rfl) ?_
 refine a_v 59 rfl (by kernel_rfl) (by kernel_rfl) (by kernel_rfl) rfl rfl rfl (v_move rfl rfl) ?_
 refine a_no 60 rfl (by kernel_rfl) (by kernel_rfl) (by kernel_rfl) rfl rfl rfl ?_
 refine a_no 61 rfl (by kernel_rfl) (by kernel_rfl) (by kernel_rfl) rfl rfl rfl ?_
 refine a_no 62 rfl (by kernel_rfl) (by kernel_rfl) (by kernel_rfl) rfl rfl rfl ?_
 refine a_no 63 rfl (by kernel_rfl) (by kernel_rfl) (by kernel_rfl) rfl rfl rfl ?_
 refine a_no 64 rfl (by kernel_rfl) (by kernel_rfl) (by kernel_rfl) rfl rfl rfl ?_
 refine a_v 65 rfl (by kernel_rfl) (by kernel_rfl) (by kernel_rfl) rfl rfl rfl (v_pick rfl rfl rfl rfl) ?_
 refine a_v 66 rfl (by kernel_rfl) (by kernel_rfl) (by kernel_rfl) rfl rfl rfl (v_assign rfl rfl) ?_
 refine a_end (by kernel_rfl) ?_
 have hq_0 := Option.some.inj H
 subst hq_0
 exact q_seq (c_frame (subF_spec (by exact ⟨rfl, trivial⟩)) (c_take [4, 5, 6, 7, 8, 9] rfl (by decide) (J_ () trivial)))
 replace H := ite_n (ibeq_f h162_) H
 refine r_any [.f (KC k61 z62_.1 z62_.2 t60_), .f (KC k61 A58_ c59_ t56_), .f (KC (Kd.int .u64) A47_ c48_ t45_), .f (KC k46 (some ⟨b44_, 0, none⟩) 2 ([(⟨3, 7, 2, 0, false⟩ : S46), (⟨5, 0, 1, 1, true⟩ : S46)] : List S46)), .f (KC (Kd.int .u64) A37_ c38_ t28_), .b b2_ (.cells #[.int .i64 1, .int .i64 1, .int .i64 2, .int .i64 2, .int .i64 1, .int .i64 1, .int .i64 9] 23 (0, 0))] (by kernel_rfl) rfl (by kernel_rfl) (mem_pick (idx := [0, 1, 2, 3, 4, 5]) rfl) ?_
 refine a_v 0 rfl (by kernel_rfl) (by kernel_rfl) (by kernel_rfl) rfl rfl rfl (v_ldA [.int .i64 1, .int .i64 1, .int .i64 2, .int .i64 2, .int .i64 1, .int .i64 1, .int .i64 9] 5 rfl Try.underlying23 rfl SZ23 rfl rfl rfl rfl) ?_
 refine a_v 1 rfl (by kernel_rfl) (by kernel_rfl) (by kernel_rfl) rfl rfl rfl (v_move rfl rfl) ?_
 refine a_1 (i := 2) (by kernel_rfl) ?_
 refine i_e rfl rfl (e_callF [4] #[.agg #[.int .i64 1, .int .i64 1, .int .i64 2, .int .i64 2, .int .i64 1, .int .i64 1, .int .i64 9], .slice A37_ t28_.length c38_] rfl rfl rfl rfl rfl Try.func17 rfl (by decide) rfl rfl rfl rfl (fun w ht => shape_Right_con _ 1 1 2 2 1 1 9 A37_ c38_ t28_ true e148_ w _)) ?_
 refine ⟨(mem_pick (idx := [0, 1, 2, 3, 4, 5]) rfl), ?_⟩
 refine a_v 3 rfl (by kernel_rfl) (by kernel_rfl) (by kernel_rfl) rfl rfl rfl (v_move rfl rfl) ?_
 refine a_v 4 rfl (by kernel_rfl) (by kernel_rfl) (by kernel_rfl) rfl rfl rfl (v_ldA [.int .i64 1, .int .i64 1, .int .i64 2, .int .i64 2, .int .i64 1, .int .i64 1, .int .i64 9] 5 rfl Try.underlying23 rfl SZ23 rfl rfl rfl rfl) ?_
 refine a_v 5 rfl (by kernel_rfl) (by kernel_rfl) (by kernel_rfl) rfl rfl rfl (v_move rfl rfl) ?_
 refine a_1 (i := 6) (by kernel_rfl) ?_
 refine i_knowT (KC_nil (Kd.slice 81 k81)) ?_
 refine i_e rfl rfl (e_callF [5, 0] #[.agg #[.int .i64 1, .int .i64 1, .int .i64 2, .int .i64 2, .int .i64 1, .int .i64 1, .int .i64 9], .slice A37_ t28_.length c38_, .slice none 0 0] rfl rfl rfl rfl rfl Try.func18 rfl (by decide) rfl rfl rfl rfl (fun w ht => shape_Rest_con _ 1 1 2 2 1 1 9 A37_ c38_ t28_ none 0 ([] : List (List S81)) true e151_ w _)) ?_
 refine ⟨(mem_pick (idx := [1, 2, 3, 4, 5, 6]) rfl), ?_⟩
 refine a_v 7 rfl (by kernel_rfl) (by kernel_rfl) (by kernel_rfl) rfl rfl rfl (v_pick rfl rfl rfl rfl) ?_
 refine a_v 8 rfl (by kernel_rfl) (by kernel_rfl) (by kernel_rfl) rfl rfl rfl (v_move rfl rfl) ?_
 refine a_v 9 rfl (by kernel_rfl) (by kernel_rfl) (by kernel_rfl) rfl rfl rfl (v_ldA [.int .i64 1, .int .i64 1, .int .i64 2, .int .i64 2, .int .i64 1, .int .i64 1, .int .i64 9] 5 rfl Try.underlying23 rfl SZ23 rfl rfl rfl rfl) ?_
 refine a_v 10 rfl (by kernel_rfl) (by kernel_rfl) (by kernel_rfl) rfl rfl rfl (v_move rfl rfl) ?_
 refine a_1 (i := 11) (by kernel_rfl) ?_
 refine i_e rfl rfl (e_callF [3] #[.agg #[.int .i64 1, .int .i64 1, .int .i64 2, .int .i64 2, .int .i64 1, .int .i64 1, .int .i64 9], .slice A47_ t45_.length c48_, .int .i64 0] rfl rfl rfl rfl rfl Try.func9 rfl (by decide) rfl rfl rfl rfl (fun w ht => shape_Level_con _ 1 1 2 2 1 1 9 A47_ c48_ t45_ 0 t153_ e154_ w _)) ?_
 intro A223_ c224_
 refine ⟨(mem_pick (idx := [2, 3, 4, 5, 6, 7]) rfl), ?_⟩
 refine a_v 12 rfl (by kernel_rfl) (by kernel_rfl) (by kernel_rfl) rfl rfl rfl (v_len rfl rfl rfl Try.underlying24 rfl rfl) ?_
 refine a_v 13 rfl (by kernel_rfl) (by kernel_rfl) (by kernel_rfl) rfl rfl rfl (OpV.cast (v := .bool true) (v_arith rfl rfl rfl rfl) (congrArg Value.bool h157_)) ?_
 refine a_v 14 rfl (by kernel_rfl) (by kernel_rfl) (by kernel_rfl) rfl rfl rfl (v_pick rfl rfl rfl rfl) ?_
 refine a_v 15 rfl (by kernel_rfl) (by kernel_rfl) (by kernel_rfl) rfl rfl rfl (v_move rfl rfl) ?_
 refine a_v 16 rfl (by kernel_rfl) (by kernel_rfl) (by kernel_rfl) rfl rfl rfl (v_ldA [.int .i64 1, .int .i64 1, .int .i64 2, .int .i64 2, .int .i64 1, .int .i64 1, .int .i64 9] 5 rfl Try.underlying23 rfl SZ23 rfl rfl rfl rfl) ?_
 refine a_v 17 rfl (by kernel_rfl) (by kernel_rfl) (by kernel_rfl) rfl rfl rfl (v_move rfl rfl) ?_
 refine a_1 (i := 18) (by kernel_rfl) ?_
 refine i_e rfl rfl (e_callF [4] #[.agg #[.int .i64 1, .int .i64 1, .int .i64 2, .int .i64 2, .int .i64 1, .int .i64 1, .int .i64 9], .slice A47_ t45_.length c48_, .int .i64 1] rfl rfl rfl rfl rfl Try.func9 rfl (by decide) rfl rfl rfl rfl (fun w ht => shape_Level_con _ 1 1 2 2 1 1 9 A47_ c48_ t45_ 1 t158_ e159_ w _)) ?_
 intro A225_ c226_
 refine ⟨(mem_pick (idx := [3, 4, 5, 6, 7, 8]) rfl), ?_⟩
 refine a_v 19 rfl (by kernel_rfl) (by kernel_rfl) (by kernel_rfl) rfl rfl rfl (v_len rfl rfl rfl Try.underlying24 rfl rfl) ?_
 refine a_v 20 rfl (by kernel_rfl) (by kernel_rfl) (by kernel_rfl) rfl rfl rfl (OpV.cast (v := .bool false) (v_arith rfl rfl rfl rfl) (congrArg Value.bool h162_)) ?_
 refine a_v 21 rfl (by kernel_rfl) (by kernel_rfl) (by kernel_rfl) rfl rfl rfl (v_pick rfl rfl rfl rfl) ?_
 refine a_v 22 rfl (by kernel_rfl) (by kernel_rfl) (by kernel_rfl) rfl rfl rfl (v_move rfl rfl) ?_
 refine a_no 23 rfl (by kernel_rfl) (by kernel_rfl) (by kernel_rfl) rfl rfl rfl ?_
 refine a_no 24 rfl (by kernel_rfl) (by kernel_rfl) (by kernel_rfl) rfl rfl rfl ?_
 refine a_no 25 rfl (by kernel_rfl) (by kernel_rfl) (by kernel_rfl) rfl rfl rfl ?_
 refine a_no 26 rfl (by kernel_rfl) (by kernel_rfl) (by kernel_rfl) rfl rfl rfl ?_
 refine a_no 27 rfl (by kernel_rfl) (by kernel_rfl) (by kernel_rfl) rfl rfl rfl ?_
 refine a_v 28 rfl (by kernel_rfl) (by kernel_rfl) (by kernel_rfl) rfl rfl rfl (v_pick rfl rfl rfl rfl) ?_
 refine a_v 29 rfl (by kernel_rfl) (by kernel_rfl) (by kernel_rfl) rfl rfl rfl (v_move rfl rfl) ?_
 refine a_no 30 rfl (by kernel_rfl) (by kernel_rfl) (by kernel_rfl) rfl rfl rfl ?_
 refine a_no 31 rfl (by kernel_rfl) (by kernel_rfl) (by kernel_rfl) rfl rfl rfl ?_
 refine a_no 32 rfl (by kernel_rfl) (by kernel_rfl) (by kernel_rfl) rfl rfl rfl ?_
 refine a_v 33 rfl (by kernel_rfl) (by kernel_rfl) (by kernel_rfl) rfl rfl rfl (v_pick rfl rfl rfl rfl) ?_
 refine a_v 34 rfl (by kernel_rfl) (by kernel_rfl) (by kernel_rfl) rfl rfl rfl (v_move rfl rfl) ?_
 refine a_no 35 rfl (by kernel_rfl) (by kernel_rfl) (by kernel_rfl) rfl rfl rfl ?_
 refine a_no 36 rfl (by kernel_rfl) (by kernel_rfl) (by kernel_rfl) rfl rfl rfl ?_
 refine a_no 37 rfl (by kernel_rfl) (by kernel_rfl) (by kernel_rfl) rfl rfl rfl ?_
 refine a_no 38 rfl (by kernel_rfl) (by kernel_rfl) (by kernel_rfl) rfl rfl rfl ?_
 refine a_no 39 rfl (by kernel_rfl) (by kernel_rfl) (by kernel_rfl) rfl rfl rfl ?_
 refine a_v 40 rfl (by kernel_rfl) (by kernel_rfl) (by kernel_rfl) rfl rfl rfl (v_pick rfl rfl rfl rfl) ?_
 refine a_v 41 rfl (by kernel_rfl) (by kernel_rfl) (by kernel_rfl) rfl rfl rfl (v_move rfl rfl) ?_
 refine a_no 42 rfl (by kernel_rfl) (by kernel_rfl) (by kernel_rfl) rfl rfl rfl ?_
 refine a_no 43 rfl (by kernel_rfl) (by kernel_rfl) (by kernel_rfl) rfl rfl rfl ?_
 refine a_no 44 rfl (by kernel_rfl) (by kernel_rfl) (by kernel_rfl) rfl rfl rfl ?_
 refine a_no 45 rfl (by kernel_rfl) (by kernel_rfl) (by kernel_rfl) rfl rfl rfl ?_
 refine a_no 46 rfl (by kernel_rfl) (by kernel_rfl) (by kernel_rfl) rfl rfl rfl ?_
 refine a_v 47 rfl (by kernel_rfl) (by kernel_rfl) (by kernel_rfl) rfl rfl rfl (v_pick rfl rfl rfl rfl) ?_
 refine a_v 48 rfl (by kernel_rfl) (by kernel_rfl) (by kernel_rfl) rfl rfl rfl (v_move rfl rfl) ?_
 refine a_no 49 rfl (by kernel_rfl) (by kernel_rfl) (by kernel_rfl) rfl rfl rfl ?_
 refine a_no 50 rfl (by kernel_rfl) (by kernel_rfl) (by kernel_rfl) rfl rfl rfl ?_
 refine a_no 51 rfl (by kernel_rfl) (by kernel_rfl) (by kernel_rfl) rfl rfl rfl ?_
 refine a_v 52 rfl (by kernel_rfl) (by kernel_rfl) (by kernel_rfl) rfl rfl rfl (v_pick rfl rfl rfl rfl) ?_
 refine a_v 53 rfl (by kernel_rfl) (by kernel_rfl) (by kernel_rfl) rfl rfl rfl (v_move rfl rfl) ?_
 refine a_no 54 rfl (by kernel_rfl) (by kernel_rfl) (by kernel_rfl) rfl rfl rfl ?_
 refine a_no 55 rfl (by kernel_rfl) (by kernel_rfl) (by kernel_rfl) rfl rfl rfl ?_
 refine a_no 56 rfl (by kernel_rfl) (by kernel_rfl) (by kernel_rfl) rfl rfl rfl ?_
 refine a_no 57 rfl (by kernel_rfl) (by kernel_rfl) (by kernel_rfl) rfl rfl rfl ?_
 refine a_v 58 rfl (by kernel_rfl) (by kernel_rfl) (by kernel_rfl) rfl rfl rfl (v_pick rfl rfl rfl rfl) ?_
 refine a_v 59 rfl (by kernel_rfl) (by kernel_rfl) (by kernel_rfl) rfl rfl rfl (v_move rfl rfl) ?_
 refine a_no 60 rfl (by kernel_rfl) (by kernel_rfl) (by kernel_rfl) rfl rfl rfl ?_
 refine a_no 61 rfl (by kernel_rfl) (by kernel_rfl) (by kernel_rfl) rfl rfl rfl ?_
 refine a_no 62 rfl (by kernel_rfl) (by kernel_rfl) (by kernel_rfl) rfl rfl rfl ?_
 refine a_no 63 rfl (by kernel_rfl) (by kernel_rfl) (by kernel_rfl) rfl rfl rfl ?_
 refine a_no 64 rfl (by kernel_rfl) (by kernel_rfl) (by kernel_rfl) rfl rfl rfl ?_
 refine a_v 65 rfl (by kernel_rfl) (by kernel_rfl) (by kernel_rfl) rfl rfl rfl (v_pick rfl rfl rfl rfl) ?_
 refine a_v 66 rfl (by kernel_rfl) (by kernel_rfl) (by kernel_rfl) rfl rfl rfl (v_assign rfl rfl) ?_
 refine a_end (by kernel_rfl) ?_
 have hq_0 := Option.some.inj H
 subst hq_0
 exact q_seq (c_frame (subF_spec (by exact ⟨rfl, trivial⟩)) (c_take [3, 4, 5, 6, 7, 8] rfl (by decide) (J_ () trivial)))
 replace H := ite_n (ibeq_f h157_) H
 refine r_any [.f (KC k61 z62_.1 z62_.2 t60_), .f (KC k61 A58_ c59_ t56_), .f (KC (Kd.int .u64) A47_ c48_ t45_), .f (KC k46 (some ⟨b44_, 0, none⟩) 2 ([(⟨3, 7, 2, 0, false⟩ : S46), (⟨5, 0, 1, 1, true⟩ : S46)] : List S46)), .f (KC (Kd.int .u64) A37_ c38_ t28_), .b b2_ (.cells #[.int .i64 1, .int .i64 1, .int .i64 2, .int .i64 2, .int .i64 1, .int .i64 1, .int .i64 9] 23 (0, 0))] (by kernel_rfl) rfl (by kernel_rfl) (mem_pick (idx := [0, 1, 2, 3, 4, 5]) rfl) ?_
 refine a_v 0 rfl (by kernel_rfl) (by kernel_rfl) (by kernel_rfl) rfl rfl rfl (v_ldA [.int .i64 1, .int .i64 1, .int .i64 2, .int .i64 2, .int .i64 1, .int .i64 1, .int .i64 9] 5 rfl Try.underlying23 rfl SZ23 rfl rfl rfl rfl) ?_
 refine a_v 1 rfl (by kernel_rfl) (by kernel_rfl) (by kernel_rfl) rfl rfl rfl (v_move rfl rfl) ?_
 refine a_1 (i := 2) (by kernel_rfl) ?_
 refine i_e rfl rfl (e_callF [4] #[.agg #[.int .i64 1, .int .i64 1, .int .i64 2, .int .i64 2, .int .i64 1, .int .i64 1, .int .i64 9], .slice A37_ t28_.length c38_] rfl rfl rfl rfl rfl Try.func17 rfl (by decide) rfl rfl rfl rfl (fun w ht => shape_Right_con _ 1 1 2 2 1 1 9 A37_ c38_ t28_ true e148_ w _)) ?_
 refine ⟨(mem_pick (idx := [0, 1, 2, 3, 4, 5]) rfl), ?_⟩
 refine a_v 3 rfl (by kernel_rfl) (by kernel_rfl) (by kernel_rfl) rfl rfl rfl (v_move rfl rfl) ?_
 refine a_v 4 rfl (by kernel_rfl) (by kernel_rfl) (by kernel_rfl) rfl rfl rfl (v_ldA [.int .i64 1, .int .i64 1, .int .i64 2, .int .i64 2, .int .i64 1, .int .i64 1, .int .i64 9] 5 rfl Try.underlying23 rfl SZ23 rfl rfl rfl rfl) ?_
 refine a_v 5 rfl (by kernel_rfl) (by kernel_rfl) (by kernel_rfl) rfl rfl rfl (v_move rfl rfl) ?_
 refine a_1 (i := 6) (by kernel_rfl) ?_
 refine i_knowT (KC_nil (Kd.slice 81 k81)) ?_
 refine i_e rfl rfl (e_callF [5, 0] #[.agg #[.int .i64 1, .int .i64 1, .int .i64 2, .int .i64 2, .int .i64 1, .int .i64 1, .int .i64 9], .slice A37_ t28_.length c38_, .slice none 0 0] rfl rfl rfl rfl rfl Try.func18 rfl (by decide) rfl rfl rfl rfl (fun w ht => shape_Rest_con _ 1 1 2 2 1 1 9 A37_ c38_ t28_ none 0 ([] : List (List S81)) true e151_ w _)) ?_
 refine ⟨(mem_pick (idx := [1, 2, 3, 4, 5, 6]) rfl), ?_⟩
 refine a_v 7 rfl (by kernel_rfl) (by kernel_rfl) (by kernel_rfl) rfl rfl rfl (v_pick rfl rfl rfl rfl) ?_
 refine a_v 8 rfl (by kernel_rfl) (by kernel_rfl) (by kernel_rfl) rfl rfl rfl (v_move rfl rfl) ?_
 refine a_v 9 rfl (by kernel_rfl) (by kernel_rfl) (by kernel_rfl) rfl rfl rfl (v_ldA [.int .i64 1, .int .i64 1, .int .i64 2, .int .i64 2, .int .i64 1, .int .i64 1, .int .i64 9] 5 rfl Try.underlying23 rfl SZ23 rfl rfl rfl rfl) ?_
 refine a_v 10 rfl (by kernel_rfl) (by kernel_rfl) (by kernel_rfl) rfl rfl rfl (v_move rfl rfl) ?_
 refine a_1 (i := 11) (by kernel_rfl) ?_
 refine i_e rfl rfl (e_callF [3] #[.agg #[.int .i64 1, .int .i64 1, .int .i64 2, .int .i64 2, .int .i64 1, .int .i64 1, .int .i64 9], .slice A47_ t45_.length c48_, .int .i64 0] rfl rfl rfl rfl rfl Try.func9 rfl (by decide) rfl rfl rfl rfl (fun w ht => shape_Level_con _ 1 1 2 2 1 1 9 A47_ c48_ t45_ 0 t153_ e154_ w _)) ?_
 intro A227_ c228_
 refine ⟨(mem_pick (idx := [2, 3, 4, 5, 6, 7]) rfl), ?_⟩
 refine a_v 12 rfl (by kernel_rfl) (by kernel_rfl) (by kernel_rfl) rfl rfl rfl (v_len rfl rfl rfl Try.underlying24 rfl rfl) ?_
 refine a_v 13 rfl (by kernel_rfl) (by kernel_rfl) (by kernel_rfl) rfl rfl rfl (OpV.cast (v := .bool false) (v_arith rfl rfl rfl rfl) (congrArg Value.bool h157_)) ?_
 refine a_v 14 rfl (by kernel_rfl) (by kernel_rfl) (by kernel_rfl) rfl rfl rfl (v_pick rfl rfl rfl rfl) ?_
 refine a_v 15 rfl (by kernel_rfl) (by kernel_rfl) (by kernel_rfl) rfl rfl rfl (v_move rfl rfl) ?_
 refine a_no 16 rfl (by kernel_rfl) (by kernel_rfl) (by kernel_rfl) rfl rfl rfl ?_
 refine a_no 17 rfl (by kernel_rfl) (by kernel_rfl) (by kernel_rfl) rfl rfl rfl ?_
 refine a_no 18 rfl (by kernel_rfl) (by kernel_rfl) (by kernel_rfl) rfl rfl rfl ?_
 refine a_no 19 rfl (by kernel_rfl) (by kernel_rfl) (by kernel_rfl) rfl rfl rfl ?_
 refine a_no 20 rfl (by kernel_rfl) (by kernel_rfl) (by kernel_rfl) rfl rfl rfl ?_
 refine a_v 21 rfl (by kernel_rfl) (by kernel_rfl) (by kernel_rfl) rfl rfl rfl (v_pick rfl rfl rfl rfl) ?_
 refine a_v 22 rfl (by kernel_rfl) (by kernel_rfl) (by kernel_rfl) rfl rfl rfl (v_move rfl rfl) ?_
 refine a_no 23 rfl (by kernel_rfl) (by kernel_rfl) (by kernel_rfl) rfl rfl rfl ?_
 refine a_no 24 rfl (by kernel_rfl) (by kernel_rfl) (by kernel_rfl) rfl rfl rfl ?_
 refine a_no 25 rfl (by kernel_rfl) (by kernel_rfl) (by kernel_rfl) rfl rfl rfl ?_
 refine a_no 26 rfl (by kernel_rfl) (by kernel_rfl) (by kernel_rfl) rfl rfl rfl ?_
 refine a_no 27 rfl (by kernel_rfl) (by kernel_rfl) (by kernel_rfl) rfl rfl rfl ?_
 refine a_v 28 rfl (by kernel_rfl) (by kernel_rfl) (by kernel_rfl) rfl rfl rfl (v_pick rfl rfl rfl rfl) ?_
 refine a_v 29 rfl (by kernel_rfl) (by kernel_rfl) (by kernel_rfl) rfl rfl rfl (v_move rfl rfl) ?_
 refine a_no 30 rfl (by kernel_rfl) (by kernel_rfl) (by kernel_rfl) rfl rfl rfl ?_
 refine a_no 31 rfl (by kernel_rfl) (by kernel_rfl) (by kernel_rfl) rfl rfl rfl ?_
 refine a_no 32 rfl (by kernel_rfl) (by kernel_rfl) (by kernel_rfl) rfl rfl rfl ?_
 refine a_v 33 rfl (by kernel_rfl) (by kernel_rfl) (by kernel_rfl) rfl rfl rfl (v_pick rfl rfl rfl rfl) ?_
 refine a_v 34 rfl (by kernel_rfl) (by kernel_rfl) (by kernel_rfl) rfl rfl rfl (v_move rfl rfl) ?_
 refine a_no 35 rfl (by kernel_rfl) (by kernel_rfl) (by kernel_rfl) rfl rfl rfl ?_
 refine a_no 36 rfl (by kernel_rfl) (by kernel_rfl) (by kernel_rfl) rfl rfl rfl ?_
 refine a_no 37 rfl (by kernel_rfl) (by kernel_rfl) (by kernel_rfl) rfl rfl rfl ?_
 refine a_no 38 rfl (by kernel_rfl) (by kernel_rfl) (by kernel_rfl) rfl rfl rfl ?_
 refine a_no 39 rfl (by kernel_rfl) (by kernel_rfl) (by kernel_rfl) rfl rfl rfl ?_
 refine a_v 40 rfl (by kernel_rfl) (by kernel_rfl) (by kernel_rfl) rfl rfl rfl (v_pick rfl rfl rfl rfl) ?_
 refine a_v 41 rfl (by kernel_rfl) (by kernel_rfl) (by kernel_rfl) rfl rfl rfl (v_move rfl rfl) ?_
 refine a_no 42 rfl (by kernel_rfl) (by kernel_rfl) (by kernel_rfl) rfl rfl rfl ?_
 refine a_no 43 rfl (by kernel_rfl) (by kernel_rfl) (by kernel_rfl) rfl rfl rfl ?_
 refine a_no 44 rfl (by kernel_rfl) (by kernel_rfl) (by kernel_rfl) rfl rfl rfl ?_
 refine a_no 45 rfl (by kernel_rfl) (by kernel_rfl) (by kernel_rfl) rfl rfl rfl ?_
 refine a_no 46 rfl (by kernel_rfl) (by kernel_rfl) (by kernel_rfl) rfl rfl rfl ?_
 refine a_v 47 rfl (by kernel_rfl) (by kernel_rfl) (by kernel_rfl) rfl rfl rfl (v_pick rfl rfl rfl rfl) ?_
 refine a_v 48 rfl (by kernel_rfl) (by kernel_rfl) (by kernel_rfl) rfl rfl rfl (v_move rfl rfl) ?_
 refine a_no 49 rfl (by kernel_rfl) (by kernel_rfl) (by kernel_rfl) rfl rfl rfl ?_
 refine a_no 50 rfl (by kernel_rfl) (by kernel_rfl) (by kernel_rfl) rfl rfl rfl ?_
 refine a_no 51 rfl (by kernel_rfl) (by kernel_rfl) (by kernel_rfl) rfl rfl rfl ?_
 refine a_v 52 rfl (by kernel_rfl) (by kernel_rfl) (by kernel_rfl) rfl rfl rfl (v_pick rfl rfl rfl rfl) ?_
 refine a_v 53 rfl (by kernel_rfl) (by kernel_rfl) (by kernel_rfl) rfl rfl rfl (v_move rfl rfl) ?_
 refine a_no 54 rfl (by kernel_rfl) (by kernel_rfl) (by kernel_rfl) rfl rfl rfl ?_
 refine a_no 55 rfl (by kernel_rfl) (by kernel_rfl) (by kernel_rfl) rfl rfl rfl ?_
 refine a_no 56 rfl (by kernel_rfl) (by kernel_rfl) (by kernel_rfl) rfl rfl rfl ?_
 refine a_no 57 rfl (by kernel_rfl) (by kernel_rfl) (by kernel_rfl) rfl rfl rfl ?_
 refine a_v 58 rfl (by kernel_rfl) (by kernel_rfl) (by kernel_rfl) rfl rfl rfl (v_pick rfl rfl rfl rfl) ?_
 refine a_v 59 rfl (by kernel_rfl) (by kernel_rfl) (by kernel_rfl) rfl rfl rfl (v_move rfl rfl) ?_
 refine a_no 60 rfl (by kernel_rfl) (by kernel_rfl) (by kernel_rfl) rfl rfl rfl ?_
 refine a_no 61 rfl (by kernel_rfl) (by kernel_rfl) (by kernel_rfl) rfl rfl rfl ?_
 refine a_no 62 rfl (by kernel_rfl) (by kernel_rfl) (by kernel_rfl) rfl rfl rfl ?_
 refine a_no 63 rfl (by kernel_rfl) (by kernel_rfl) (by kernel_rfl) rfl rfl rfl ?_
 refine a_no 64 rfl (by kernel_rfl) (by kernel_rfl) (by kernel_rfl) rfl rfl rfl ?_
 refine a_v 65 rfl (by kernel_rfl) (by kernel_rfl) (by kernel_rfl) rfl rfl rfl (v_pick rfl rfl rfl rfl) ?_
 refine a_v 66 rfl (by kernel_rfl) (by kernel_rfl) (by kernel_rfl) rfl rfl rfl (v_assign rfl rfl) ?_
 refine a_end (by kernel_rfl) ?_
 have hq_0 := Option.some.inj H
 subst hq_0
 exact q_seq (c_frame (subF_spec (by exact ⟨rfl, trivial⟩)) (c_take [2, 3, 4, 5, 6, 7] rfl (by decide) (J_ () trivial)))
 subst h152_
 replace H := ite_n (by decide) H
 refine r_any [.f (KC k61 z62_.1 z62_.2 t60_), .f (KC k61 A58_ c59_ t56_), .f (KC (Kd.int .u64) A47_ c48_ t45_), .f (KC k46 (some ⟨b44_, 0, none⟩) 2 ([(⟨3, 7, 2, 0, false⟩ : S46), (⟨5, 0, 1, 1, true⟩ : S46)] : List S46)), .f (KC (Kd.int .u64) A37_ c38_ t28_), .b b2_ (.cells #[.int .i64 1, .int .i64 1, .int .i64 2, .int .i64 2, .int .i64 1, .int .i64 1, .int .i64 9] 23 (0, 0))] (by kernel_rfl) rfl (by kernel_rfl) (mem_pick (idx := [0, 1, 2, 3, 4, 5]) rfl) ?_
 refine a_v 0 rfl (by kernel_rfl) (by kernel_rfl) (by kernel_rfl) rfl rfl rfl (v_ldA [.int .i64 1, .int .i64 1, .int .i64 2, .int .i64 2, .int .i64 1, .int .i64 1, .int .i64 9] 5 rfl Try.underlying23 rfl SZ23 rfl rfl rfl rfl) ?_
 refine a_v 1 rfl (by kernel_rfl) (by kernel_rfl) (by kernel_rfl) rfl rfl rfl (v_move rfl rfl) ?_
 refine a_1 (i := 2) (by kernel_rfl) ?_
 refine i_e rfl rfl (e_callF [4] #[.agg #[.int .i64 1, .int .i64 1, .int .i64 2, .int .i64 2, .int .i64 1, .int .i64 1, .int .i64 9], .slice A37_ t28_.length c38_] rfl rfl rfl rfl rfl Try.func17 rfl (by decide) rfl rfl rfl rfl (fun w ht => shape_Right_con _ 1 1 2 2 1 1 9 A37_ c38_ t28_ true e148_ w _)) ?_
 refine ⟨(mem_pick (idx := [0, 1, 2, 3, 4, 5]) rfl), ?_⟩
 refine a_v 3 rfl (by kernel_rfl) (by kernel_rfl) (by kernel_rfl) rfl rfl rfl (v_move rfl rfl) ?_
 refine a_v 4 rfl (by kernel_rfl) (by kernel_rfl) (by kernel_rfl) rfl rfl rfl (v_ldA [.int .i64 1, .int .i64 1, .int .i64 2, .int .i64 2, .int .i64 1, .int .i64 1, .int .i64 9] 5 rfl Try.underlying23 rfl SZ23 rfl rfl rfl rfl) ?_
 refine a_v 5 rfl (by kernel_rfl) (by kernel_rfl) (by kernel_rfl) rfl rfl rfl (v_move rfl rfl) ?_
 refine a_1 (i := 6) (by kernel_rfl) ?_
 refine i_knowT (KC_nil (Kd.slice 81 k81)) ?_
 refine i_e rfl rfl (e_callF [5, 0] #[.agg #[.int .i64 1, .int .i64 1, .int .i64 2, .int .i64 2, .int .i64 1, .int .i64 1, .int .i64 9], .slice A37_ t28_.length c38_, .slice none 0 0] rfl rfl rfl rfl rfl Try.func18 rfl (by decide) rfl rfl rfl rfl (fun w ht => shape_Rest_con _ 1 1 2 2 1 1 9 A37_ c38_ t28_ none 0 ([] : List (List S81)) false e151_ w _)) ?_
 refine ⟨(mem_pick (idx := [1, 2, 3, 4, 5, 6]) rfl), ?_⟩
 refine a_v 7 rfl (by kernel_rfl) (by kernel_rfl) (by kernel_rfl) rfl rfl rfl (v_pick rfl rfl rfl rfl) ?_
 refine a_v 8 rfl (by kernel_rfl) (by kernel_rfl) (by kernel_rfl) rfl rfl rfl (v_move rfl rfl) ?_
 refine a_no 9 rfl (by kernel_rfl) (by kernel_rfl) (by kernel_rfl) rfl rfl rfl ?_
 refine a_no 10 rfl (by kernel_rfl) (by kernel_rfl) (by kernel_rfl) rfl rfl rfl ?_
 refine a_no 11 rfl (by kernel_rfl) (by kernel_rfl) (by kernel_rfl) rfl rfl rfl ?_
 refine a_no 12 rfl (by kernel_rfl) (by kernel_rfl) (by kernel_rfl) rfl rfl rfl ?_
 refine a_no 13 rfl (by kernel_rfl) (by kernel_rfl) (by kernel_rfl) rfl rfl rfl ?_
 refine a_v 14 rfl (by kernel_rfl) (by kernel_rfl) (by kernel_rfl) rfl rfl rfl (v_pick rfl rfl rfl rfl) ?_
 refine a_v 15 rfl (by kernel_rfl) (by kernel_rfl) (by kernel_rfl) rfl rfl rfl (v_move rfl rfl) ?_
 refine a_no 16 rfl (by kernel_rfl) (by kernel_rfl) (by kernel_rfl) rfl rfl rfl ?_
 refine a_no 17 rfl (by kernel_rfl) (by kernel_rfl) (by kernel_rfl) rfl rfl rfl ?_
 refine a_no 18 rfl (by kernel_rfl) (by kernel_rfl) (by kernel_rfl) rfl rfl rfl ?_
 refine a_no 19 rfl (by kernel_rfl) (by kernel_rfl) (by kernel_rfl) rfl rfl rfl ?_
 refine a_no 20 rfl (by kernel_rfl) (by kernel_rfl) (by kernel_rfl) rfl rfl rfl ?_
 refine a_v 21 rfl (by kernel_rfl) (by kernel_rfl) (by kernel_rfl) rfl rfl rfl (v_pick rfl rfl rfl rfl) ?_
 refine a_v 22 rfl (by kernel_rfl) (by kernel_rfl) (by kernel_rfl) rfl rfl rfl (v_move rfl rfl) ?_
 refine a_no 23 rfl (by kernel_rfl) (by kernel_rfl) (by kernel_rfl) rfl rfl rfl ?_
 refine a_no 24 rfl (by kernel_rfl) (by kernel_rfl) (by kernel_rfl) rfl rfl rfl ?_
 refine a_no 25 rfl (by kernel_rfl) (by kernel_rfl) (by kernel_rfl) rfl rfl rfl ?_
 refine a_no 26 rfl (by kernel_rfl) (by kernel_rfl) (by kernel_rfl) rfl rfl rfl ?_
 refine a_no 27 rfl (by kernel_rfl) (by kernel_rfl) (by kernel_rfl) rfl rfl rfl ?_
 refine a_v 28 rfl (by kernel_rfl) (by kernel_rfl) (by kernel_rfl) rfl rfl rfl (v_pick rfl rfl rfl rfl) ?_
 refine a_v 29 rfl (by kernel_rfl) (by kernel_rfl) (by kernel_rfl) rfl rfl rfl (v_move rfl rfl) ?_
 refine a_no 30 rfl (by kernel_rfl) (by kernel_rfl) (by kernel_rfl) rfl rfl rfl ?_
 refine a_no 31 rfl (by kernel_rfl) (by kernel_rfl) (by kernel_rfl) rfl rfl rfl ?_
 refine a_no 32 rfl (by kernel_rfl) (by kernel_rfl) (by kernel_rfl) rfl rfl rfl ?_
 refine a_v 33 rfl (by kernel_rfl) (by kernel_rfl) (by kernel_rfl) rfl rfl rfl (v_pick rfl rfl rfl rfl) ?_
 refine a_v 34 rfl (by kernel_rfl) (by kernel_rfl) (by kernel_rfl) rfl rfl rfl (v_move rfl rfl) ?_
 refine a_no 35 rfl (by kernel_rfl) (by kernel_rfl) (by kernel_rfl) rfl rfl rfl ?_
 refine a_no 36 rfl (by kernel_rfl) (by kernel_rfl) (by kernel_rfl) rfl rfl rfl ?_
 refine a_no 37 rfl (by kernel_rfl) (by kernel_rfl) (by kernel_rfl) rfl rfl rfl ?_
 refine a_no 38 rfl (by kernel_rfl) (by kernel_rfl) (by kernel_rfl) rfl rfl rfl ?_
 refine a_no 39 rfl (by kernel_rfl) (by kernel_rfl) (by kernel_rfl) rfl rfl rfl ?_
 refine a_v 40 rfl (by kernel_rfl) (by kernel_rfl) (by kernel_rfl) rfl rfl rfl (v_pick rfl rfl rfl rfl) ?_
 refine a_v 41 rfl (by kernel_rfl) (by kernel_rfl) (by kernel_rfl) rfl rfl rfl (v_move rfl rfl) ?_
 refine a_no 42 rfl (by kernel_rfl) (by kernel_rfl) (by kernel_rfl) rfl rfl rfl ?_
 refine a_no 43 rfl (by kernel_rfl) (by kernel_rfl) (by kernel_rfl) rfl rfl rfl ?_
 refine a_no 44 rfl (by kernel_rfl) (by kernel_rfl) (by kernel_rfl) rfl rfl rfl ?_
 refine a_no 45 rfl (by kernel_rfl) (by kernel_rfl) (by kernel_rfl) rfl rfl rfl ?_
 refine a_no 46 rfl (by kernel_rfl) (by kernel_rfl) (by kernel_rfl) rfl rfl rfl ?_
 refine a_v 47 rfl (by kernel_rfl) (by kernel_rfl) (by kernel_rfl) rfl rfl rfl (v_pick rfl rfl rfl rfl) ?_
 refine a_v 48 rfl (by kernel_rfl) (by kernel_rfl) (by kernel_rfl) rfl rfl rfl (v_move rfl rfl) ?_
 refine a_no 49 rfl (by kernel_rfl) (by kernel_rfl) (by kernel_rfl) rfl rfl rfl ?_
 refine a_no 50 rfl (by kernel_rfl) (by kernel_rfl) (by kernel_rfl) rfl rfl rfl ?_
 refine a_no 51 rfl (by kernel_rfl) (by kernel_rfl) (by kernel_rfl) rfl rfl rfl ?_
 refine a_v 52 rfl (by kernel_rfl) (by kernel_rfl) (by kernel_rfl) rfl rfl rfl (v_pick rfl rfl rfl rfl) ?_
 refine a_v 53 rfl (by kernel_rfl) (by kernel_rfl) (by kernel_rfl) rfl rfl rfl (v_move rfl rfl) ?_
 refine a_no 54 rfl (by kernel_rfl) (by kernel_rfl) (by kernel_rfl) rfl rfl rfl ?_
 refine a_no 55 rfl (by kernel_rfl) (by kernel_rfl) (by kernel_rfl) rfl rfl rfl ?_
 refine a_no 56 rfl (by kernel_rfl) (by kernel_rfl) (by kernel_rfl) rfl rfl rfl ?_
 refine a_no 57 rfl (by kernel_rfl) (by kernel_rfl) (by kernel_rfl) rfl rfl rfl ?_
 refine a_v 58 rfl (by kernel_rfl) (by kernel_rfl) (by kernel_rfl) rfl rfl rfl (v_pick rfl rfl rfl rfl) ?_
 refine a_v 59 rfl (by kernel_rfl) (by kernel_rfl) (by kernel_rfl) rfl rfl rfl (v_move rfl rfl) ?_
 refine a_no 60 rfl (by kernel_rfl) (by kernel_rfl) (by kernel_rfl) rfl rfl rfl ?_
 refine a_no 61 rfl (by kernel_rfl) (by kernel_rfl) (by kernel_rfl) rfl rfl rfl ?_
 refine a_no 62 rfl (by kernel_rfl) (by kernel_rfl) (by kernel_rfl) rfl rfl rfl ?_
 refine a_no 63 rfl (by kernel_rfl) (by kernel_rfl) (by kernel_rfl) rfl rfl rfl ?_
 refine a_no 64 rfl (by kernel_rfl) (by kernel_rfl) (by kernel_rfl) rfl rfl rfl ?_
 refine a_v 65 rfl (by kernel_rfl) (by kernel_rfl) (by kernel_rfl) rfl rfl rfl (v_pick rfl rfl rfl rfl) ?_
 refine a_v 66 rfl (by kernel_rfl) (by kernel_rfl) (by kernel_rfl) rfl rfl rfl (v_assign rfl rfl) ?_
 refine a_end (by kernel_rfl) ?_
 have hq_0 := Option.some.inj H
 subst hq_0
 exact q_seq (c_frame (subF_spec (by exact ⟨rfl, trivial⟩)) (c_take [1, 2, 3, 4, 5, 6] rfl (by decide) (J_ () trivial)))
 subst h149_
 replace H := ite_n (by decide) H
 refine r_any [.f (KC k61 z62_.1 z62_.2 t60_), .f (KC k61 A58_ c59_ t56_), .f (KC (Kd.int .u64) A47_ c48_ t45_), .f (KC k46 (some ⟨b44_, 0, none⟩) 2 ([(⟨3, 7, 2, 0, false⟩ : S46), (⟨5, 0, 1, 1, true⟩ : S46)] : List S46)), .f (KC (Kd.int .u64) A37_ c38_ t28_), .b b2_ (.cells #[.int .i64 1, .int .i64 1, .int .i64 2, .int .i64 2, .int .i64 1, .int .i64 1, .int .i64 9] 23 (0, 0))] (by kernel_rfl) rfl (by kernel_rfl) (mem_pick (idx := [0, 1, 2, 3, 4, 5]) rfl) ?_
 refine a_v 0 rfl (by kernel_rfl) (by kernel_rfl) (by kernel_rfl) rfl rfl rfl (v_ldA [.int .i64 1, .int .i64 1, .int .i64 2, .int .i64 2, .int .i64 1, .int .i64 1, .int .i64 9] 5 rfl Try.underlying23 rfl SZ23 rfl rfl rfl rfl) ?_
 refine a_v 1 rfl (by kernel_rfl) (by kernel_rfl) (by kernel_rfl) rfl rfl rfl (v_move rfl rfl) ?_
 refine a_1 (i := 2) (by kernel_rfl) ?_
 refine i_e rfl rfl (e_callF [4] #[.agg #[.int .i64 1, .int .i64 1, .int .i64 2, .int .i64 2, .int .i64 1, .int .i64 1, .int .i64 9], .slice A37_ t28_.length c38_] rfl rfl rfl rfl rfl Try.func17 rfl (by decide) rfl rfl rfl rfl (fun w ht => shape_Right_con _ 1 1 2 2 1 1 9 A37_ c38_ t28_ false e148_ w _)) ?_
 refine ⟨(mem_pick (idx := [0, 1, 2, 3, 4, 5]) rfl), ?_⟩
 refine a_v 3 rfl (by kernel_rfl) (by kernel_rfl) (by kernel_rfl) rfl rfl rfl (v_move rfl rfl) ?_
 refine a_no 4 rfl (by kernel_rfl) (by kernel_rfl) (by kernel_rfl) rfl rfl rfl ?_
 refine a_no 5 rfl (by kernel_rfl) (by kernel_rfl) (by kernel_rfl) rfl rfl rfl ?_
 refine a_no 6 rfl (by kernel_rfl) (by kernel_rfl) (by kernel_rfl) rfl rfl rfl ?_
 refine a_v 7 rfl (by kernel_rfl) (by kernel_rfl) (by kernel_rfl) rfl rfl rfl (v_pick rfl rfl rfl rfl) ?_
 refine a_v 8 rfl (by kernel_rfl) (by kernel_rfl) (by kernel_rfl) rfl rfl rfl (v_move rfl rfl) ?_
 refine a_no 9 rfl (by kernel_rfl) (by kernel_rfl) (by kernel_rfl) rfl rfl rfl ?_
 refine a_no 10 rfl (by kernel_rfl) (by kernel_rfl) (by kernel_rfl) rfl rfl rfl ?_
 refine a_no 11 rfl (by kernel_rfl) (by kernel_rfl) (by kernel_rfl) rfl rfl rfl ?_
 refine a_no 12 rfl (by kernel_rfl) (by kernel_rfl) (by kernel_rfl) rfl rfl rfl ?_
 refine a_no 13 rfl (by kernel_rfl) (by kernel_rfl) (by kernel_rfl) rfl rfl rfl ?_
 refine a_v 14 rfl (by kernel_rfl) (by kernel_rfl) (by kernel_rfl) rfl rfl rfl (v_pick rfl rfl rfl rfl) ?_
 refine a_v 15 rfl (by kernel_rfl) (by kernel_rfl) (by kernel_rfl) rfl rfl rfl (v_move rfl rfl) ?_
 refine a_no 16 rfl (by kernel_rfl) (by kernel_rfl) (by kernel_rfl) rfl rfl rfl ?_
 refine a_no 17 rfl (by kernel_rfl) (by kernel_rfl) (by kernel_rfl) rfl rfl rfl ?_
 refine a_no 18 rfl (by kernel_rfl) (by kernel_rfl) (by kernel_rfl) rfl rfl rfl ?_
 refine a_no 19 rfl (by kernel_rfl) (by kernel_rfl) (by kernel_rfl) rfl rfl rfl ?_
 refine a_no 20 rfl (by kernel_rfl) (by kernel_rfl) (by kernel_rfl) rfl rfl rfl ?_
 refine a_v 21 rfl (by kernel_rfl) (by kernel_rfl) (by kernel_rfl) rfl rfl rfl (v_pick rfl rfl rfl rfl) ?_
 refine a_v 22 rfl (by kernel_rfl) (by kernel_rfl) (by kernel_rfl) rfl rfl rfl (v_move rfl rfl) ?_
 refine a_no 23 rfl (by kernel_rfl) (by kernel_rfl) (by kernel_rfl) rfl rfl rfl ?_
 refine a_no 24 rfl (by kernel_rfl) (by kernel_rfl) (by kernel_rfl) rfl rfl rfl ?_
 refine a_no 25 rfl (by kernel_rfl) (by kernel_rfl) (by kernel_rfl) rfl rfl rfl ?_
 refine a_no 26 rfl (by kernel_rfl) (by kernel_rfl) (by kernel_rfl) rfl rfl rfl ?_
 refine a_no 27 rfl (by kernel_rfl) (by kernel_rfl) (by kernel_rfl) rfl rfl rfl ?_
 refine a_v 28 rfl (by kernel_rfl) (by kernel_rfl) (by kernel_rfl) rfl rfl rfl (v_pick rfl rfl rfl rfl) ?_
 refine a_v 29 rfl (by kernel_rfl) (by kernel_rfl) (by kernel_rfl) rfl rfl rfl (v_move rfl rfl) ?_
 refine a_no 30 rfl (by kernel_rfl) (by kernel_rfl) (by kernel_rfl) rfl rfl rfl ?_
 refine a_no 31 rfl (by kernel_rfl) (by kernel_rfl) (by kernel_rfl) rfl rfl rfl ?_
 refine a_no 32 rfl (by kernel_rfl) (by kernel_rfl) (by kernel_rfl) rfl rfl rfl ?_
 refine a_v 33 rfl (by kernel_rfl) (by kernel_rfl) (by kernel_rfl) rfl rfl rfl (v_pick rfl rfl rfl rfl) ?_
 refine a_v 34 rfl (by kernel_rfl) (by kernel_rfl) (by kernel_rfl) rfl rfl rfl (v_move rfl rfl) ?_
 refine a_no 35 rfl (by kernel_rfl) (by kernel_rfl) (by kernel_rfl) rfl rfl rfl ?_
 refine a_no 36 rfl (by kernel_rfl) (by kernel_rfl) (by kernel_rfl) rfl rfl rfl ?_
 refine a_no 37 rfl (by kernel_rfl) (by kernel_rfl) (by kernel_rfl) rfl rfl rfl ?_
 refine a_no 38 rfl (by kernel_rfl) (by kernel_rfl) (by kernel_rfl) rfl rfl rfl ?_
 refine a_no 39 rfl (by kernel_rfl) (by kernel_rfl) (by kernel_rfl) rfl rfl rfl ?_
 refine a_v 40 rfl (by kernel_rfl) (by kernel_rfl) (by kernel_rfl) rfl rfl rfl (v_pick rfl rfl rfl rfl) ?_
 refine a_v 41 rfl (by kernel_rfl) (by kernel_rfl) (by kernel_rfl) rfl rfl rfl (v_move rfl rfl) ?_
 refine a_no 42 rfl (by kernel_rfl) (by kernel_rfl) (by kernel_rfl) rfl rfl rfl ?_
 refine a_no 43 rfl (by kernel_rfl) (by kernel_rfl) (by kernel_rfl) rfl rfl rfl ?_
 refine a_no 44 rfl (by kernel_rfl) (by kernel_rfl) (by kernel_rfl) rfl rfl rfl ?_
 refine a_no 45 rfl (by kernel_rfl) (by kernel_rfl) (by kernel_rfl) rfl rfl rfl ?_
 refine a_no 46 rfl (by kernel_rfl) (by kernel_rfl) (by kernel_rfl) rfl rfl rfl ?_
 refine a_v 47 rfl (by kernel_rfl) (by kernel_rfl) (by kernel_rfl) rfl rfl rfl (v_pick rfl rfl rfl rfl) ?_
 refine a_v 48 rfl (by kernel_rfl) (by kernel_rfl) (by kernel_rfl) rfl rfl rfl (v_move rfl rfl) ?_
 refine a_no 49 rfl (by kernel_rfl) (by kernel_rfl) (by kernel_rfl) rfl rfl rfl ?_
 refine a_no 50 rfl (by kernel_rfl) (by kernel_rfl) (by kernel_rfl) rfl rfl rfl ?_
 refine a_no 51 rfl (by kernel_rfl) (by kernel_rfl) (by kernel_rfl) rfl rfl rfl ?_
 refine a_v 52 rfl (by kernel_rfl) (by kernel_rfl) (by kernel_rfl) rfl rfl rfl (v_pick rfl rfl rfl rfl) ?_
 refine a_v 53 rfl (by kernel_rfl) (by kernel_rfl) (by kernel_rfl) rfl rfl rfl (v_move rfl rfl) ?_
 refine a_no 54 rfl (by kernel_rfl) (by kernel_rfl) (by kernel_rfl) rfl rfl rfl ?_
 refine a_no 55 rfl (by kernel_rfl) (by kernel_rfl) (by kernel_rfl) rfl rfl rfl ?_
 refine a_no 56 rfl (by kernel_rfl) (by kernel_rfl) (by kernel_rfl) rfl rfl rfl ?_
 refine a_no 57 rfl (by kernel_rfl) (by kernel_rfl) (by kernel_rfl) rfl rfl rfl ?_
 refine a_v 58 rfl (by kernel_rfl) (by kernel_rfl) (by kernel_rfl) rfl rfl rfl (v_pick rfl rfl rfl rfl) ?_
 refine a_v 59 rfl (by kernel_rfl) (by kernel_rfl) (by kernel_rfl) rfl rfl rfl (v_move rfl rfl) ?_
 refine a_no 60 rfl (by kernel_rfl) (by kernel_rfl) (by kernel_rfl) rfl rfl rfl ?_
 refine a_no 61 rfl (by kernel_rfl) (by kernel_rfl) (by kernel_rfl) rfl rfl rfl ?_
 refine a_no 62 rfl (by kernel_rfl) (by kernel_rfl) (by kernel_rfl) rfl rfl rfl ?_
 refine a_no 63 rfl (by kernel_rfl) (by kernel_rfl) (by kernel_rfl) rfl rfl rfl ?_
 refine a_no 64 rfl (by kernel_rfl) (by kernel_rfl) (by kernel_rfl) rfl rfl rfl ?_
 refine a_v 65 rfl (by kernel_rfl) (by kernel_rfl) (by kernel_rfl) rfl rfl rfl (v_pick rfl rfl rfl rfl) ?_
 refine a_v 66 rfl (by kernel_rfl) (by kernel_rfl) (by kernel_rfl) rfl rfl rfl (v_assign rfl rfl) ?_
 refine a_end (by kernel_rfl) ?_
 have hq_0 := Option.some.inj H
 subst hq_0
 exact q_seq (c_frame (subF_spec (by exact ⟨rfl, trivial⟩)) (c_take [0, 1, 2, 3, 4, 5] rfl (by decide) (J_ () trivial)))
end Go.Eng
namespace Go.Eng
open Go.Proofs Go.RowKit Go.Proofs.YtbonlagecjealaaW.PrintWords
theorem alive_true : stepstonelaw21_alive.f 3000 = some true := by kernel_rfl
end Go.Eng
namespace Go.Eng
open Go.Proofs Go.RowKit Go.Proofs.YtbonlagecjealaaW.PrintWords Go.Proofs.Ytbonlagecjealaa.GSeq
set_option linter.unusedVariables false
set_option linter.unusedSimpArgs false
def stepstonelaw21_ShapeLevels.f (k : Nat) (p0 : Int) (p1 : Int) (p2 : Int) (p3 : Int) (p4 : Int) (p5 : Int) (p6 : Int) (l1 : List Int) (a2 : Int) : Option Bool := (sr21_Level.f k p0 p1 p2 p3 p4 p5 p6 l1 a2).bind fun (t8_, t9_) => ((stepstonelaw21_alive.f k).bind fun t24_ => (if t24_ = true then (shape_Level.f k p0 p1 p2 p3 p4 p5 p6 l1 a2).bind fun t27_ => (sr03_Same.f k t27_ t8_).bind fun t31_ => some t31_ else some false) : Option Bool).bind fun j22_ => some j22_
set_option maxRecDepth 100000 in
set_option maxHeartbeats 4000000 in
theorem stepstonelaw21_ShapeLevels_con (k : Nat) (p0 : Int) (p1 : Int) (p2 : Int) (p3 : Int) (p4 : Int) (p5 : Int) (p6 : Int) (A1 : Option Addr) (c1 : Nat) (l1 : List Int) (a2 : Int) (r0 : Bool) (h : stepstonelaw21_ShapeLevels.f k p0 p1 p2 p3 p4 p5 p6 l1 a2 = some r0) (w0 : World) (Hs : List Nat) : Con Try.prog 3 #[.agg #[.int .i64 p0, .int .i64 p1, .int .i64 p2, .int .i64 p3, .int .i64 p4, .int .i64 p5, .int .i64 p6], .slice A1 l1.length c1, .int .i64 a2] w0 Hs [.f (KC (Kd.int .u64) A1 c1 l1)] (fun X => X (.bool r0) []) := by
 refine con_enter (c := bodyOf Try.f3) Try.func3 rfl (m := 25) rfl rfl rfl ?_
 intro X hX _
 have H := h
 unfold stepstonelaw21_ShapeLevels.f at H
 clear h
 refine c_seq rfl ?_
 refine r_ord (l := [0, 1]) rfl (by kernel_rfl) (by kernel_rfl) ?_
 refine s_e rfl rfl (e_box rfl rfl rfl rfl) ?_
 intro b2_
 refine s_v rfl rfl rfl rfl (v_assign rfl rfl) ?_
 refine s_end ?_
 refine q_seq ?_
 refine c_seq rfl ?_
 refine r_ord (l := [0, 1, 2, 3, 4, 5, 6, 7, 8]) rfl (by kernel_rfl) (by kernel_rfl) ?_
 refine s_v rfl rfl rfl rfl (v_ldA [.int .i64 p0, .int .i64 p1, .int .i64 p2, .int .i64 p3, .int .i64 p4, .int .i64 p5, .int .i64 p6] 0 rfl Try.underlying23 rfl SZ23 rfl rfl rfl rfl) ?_
 refine s_v rfl rfl rfl rfl (v_move rfl rfl) ?_
 refine s_v rfl rfl rfl rfl (v_move rfl rfl) ?_
 obtain ⟨⟨t8_, t9_⟩, e10_, H⟩ := bind_s H
 refine s_e rfl rfl (e_callF [1] #[.agg #[.int .i64 p0, .int .i64 p1, .int .i64 p2, .int .i64 p3, .int .i64 p4, .int .i64 p5, .int .i64 p6], .slice A1 l1.length c1, .int .i64 a2] rfl rfl rfl rfl rfl Try.func6 rfl (by decide) rfl rfl rfl rfl (fun w ht => sr21_Level_con _ p0 p1 p2 p3 p4 p5 p6 A1 c1 l1 a2 t8_ t9_ e10_ w _)) ?_
 intro A11_ c12_
 refine s_v rfl rfl rfl rfl (v_move rfl rfl) ?_
 refine s_v rfl rfl rfl rfl (v_ext rfl rfl rfl) ?_
 refine s_v rfl rfl rfl rfl (v_ext rfl rfl rfl) ?_
 refine s_v rfl rfl rfl rfl (v_assign rfl rfl) ?_
 refine s_v rfl rfl rfl rfl (v_assign rfl rfl) ?_
 refine s_end ?_
 refine q_seq ?_
 obtain ⟨j22_, e23_, H⟩ := bind_s H
 refine c_join (β := Unit) (fun _ => True) (fun _ => [(6, .bool j22_)]) (fun _ => [.f (KC (Kd.int .u64) A11_ c12_ t8_), .b b2_ (.cells #[.int .i64 p0, .int .i64 p1, .int .i64 p2, .int .i64 p3, .int .i64 p4, .int .i64 p5, .int .i64 p6] 23 (0, 0)), .f (KC (Kd.int .u64) A1 c1 l1)]) rfl (fun _ _ => ?_) (fun J_ => ?_)
 refine c_ret rfl ?_
 have e_ := Option.some.inj H
 subst e_
 exact q_ret (vs := [.bool j22_]) rfl (.tmp rfl .nil) [] rfl (by decide) (hX)
 clear H
 have H := e23_
 clear e23_
 refine r_ord (l := [0, 1, 2, 3, 4, 5, 6, 7, 8, 9]) rfl (by kernel_rfl) (by kernel_rfl) ?_
 obtain ⟨t24_, e25_, H⟩ := bind_s H
 refine s_e rfl rfl (e_callF [] #[] rfl rfl rfl rfl rfl Try.func7 rfl (by decide) rfl rfl rfl rfl (fun w ht => stepstonelaw21_alive_con _ t24_ e25_ w _)) ?_
 refine s_v rfl rfl rfl rfl (v_move rfl rfl) ?_
 rcases Bool.eq_false_or_eq_true t24_ with h26_ | h26_
 subst h26_
 replace H := ite_y rfl H
 refine s_vg rfl rfl rfl rfl (v_ldA [.int .i64 p0, .int .i64 p1, .int .i64 p2, .int .i64 p3, .int .i64 p4, .int .i64 p5, .int .i64 p6] 1 rfl Try.underlying23 rfl SZ23 rfl rfl rfl rfl) ?_
 refine s_vg rfl rfl rfl rfl (v_move rfl rfl) ?_
 refine s_vg rfl rfl rfl rfl (v_move rfl rfl) ?_
 obtain ⟨t27_, e28_, H⟩ := bind_s H
 refine s_eg rfl rfl (e_callF [2] #[.agg #[.int .i64 p0, .int .i64 p1, .int .i64 p2, .int .i64 p3, .int .i64 p4, .int .i64 p5, .int .i64 p6], .slice A1 l1.length c1, .int .i64 a2] rfl rfl rfl rfl rfl Try.func9 rfl (by decide) rfl rfl rfl rfl (fun w ht => shape_Level_con _ p0 p1 p2 p3 p4 p5 p6 A1 c1 l1 a2 t27_ e28_ w _)) ?_
 intro A29_ c30_
 refine s_vg rfl rfl rfl rfl (v_move rfl rfl) ?_
 obtain ⟨t31_, e32_, H⟩ := bind_s H
 refine s_eg rfl rfl (e_callF [0, 1] #[.slice A29_ t27_.length c30_, .slice A11_ t8_.length c12_] rfl rfl rfl rfl rfl Try.func8 rfl (by decide) rfl rfl rfl rfl (fun w ht => sr03_Same_con _ A29_ c30_ t27_ A11_ c12_ t8_ t31_ e32_ w _)) ?_
 refine s_v rfl rfl rfl rfl (v_pick rfl rfl rfl rfl) ?_
 refine s_v rfl rfl rfl rfl (v_assign rfl rfl) ?_
 refine s_end ?_
 have hq_0 := Option.some.inj H
 subst hq_0
 exact q_seq (c_frame (subF_spec (by exact ⟨rfl, trivial⟩)) (c_take [1, 2, 3] rfl (by decide) (J_ () trivial)))
 subst h26_
 replace H := ite_n (by decide) H
 refine s_no rfl rfl rfl rfl ?_
 refine s_no rfl rfl rfl rfl ?_
 refine s_no rfl rfl rfl rfl ?_
 refine s_no rfl rfl rfl rfl ?_
 refine s_no rfl rfl rfl rfl ?_
 refine s_no rfl rfl rfl rfl ?_
 refine s_v rfl rfl rfl rfl (v_pick rfl rfl rfl rfl) ?_
 refine s_v rfl rfl rfl rfl (v_assign rfl rfl) ?_
 refine s_end ?_
 have hq_0 := Option.some.inj H
 subst hq_0
 exact q_seq (c_frame (subF_spec (by exact ⟨rfl, trivial⟩)) (c_take [0, 1, 2] rfl (by decide) (J_ () trivial)))
def stepstonelaw21_ShapeMaps.f (k : Nat) (p0 : Int) (p1 : Int) (p2 : Int) (p3 : Int) (p4 : Int) (p5 : Int) (p6 : Int) (l1 : List Int) : Option Bool := ((stepstonelaw21_alive.f k).bind fun t32_ => (if t32_ = true then (shape_Map.f k p0 p1 p2 p3 p4 p5 p6 l1).bind fun t35_ => (seq_Map_Pairs.f t35_).bind fun t39_ => (stepstonelaw07_Olds.f k t39_).bind fun t42_ => (sr21_Map.f k p0 p1 p2 p3 p4 p5 p6 l1).bind fun t46_ => (sr07_Equal.f k t42_ t46_).bind fun t50_ => some t50_ else some false) : Option Bool).bind fun j30_ => some j30_
def stepstonelaw21_ShapeLaid.l0 : Nat → Int → Int → Int → Int → Int → Int → Int → List S46 → List Int → Bool → Int → List S48 → Option Bool
  | 0, _, _, _, _, _, _, _, _, _, _, _, _ => none
  | k + 1, p0, p1, p2, p3, p4, p5, p6, l1, t31_, x50_, x51_, xs48_ => (if (x51_ : Int) < (l1.length : Int) then (if 0 ≤ (x51_ : Int) then ((if x50_ = true then some (true, true, true, true) else some ((rd_T46 l1 x51_).f4, false, false, (rd_T46 l1 x51_).f4)) : Option (Bool × Bool × Bool × Bool)).bind fun (j104_, j105_, j106_, j107_) => (if ((rd_T46 l1 x51_).f4) = true then stepstonelaw21_ShapeLaid.l0 k p0 p1 p2 p3 p4 p5 p6 l1 t31_ j104_ (IntKind.wrap .i64 (x51_ + 1)) xs48_ else (if xs48_.length < 8796093022208 then stepstonelaw21_ShapeLaid.l0 k p0 p1 p2 p3 p4 p5 p6 l1 t31_ j104_ (IntKind.wrap .i64 (x51_ + 1)) (xs48_ ++ [(⟨(rd_T46 l1 x51_).f0, (rd_T46 l1 x51_).f1⟩ : S48)]) else none)) else none) else (stepstonelaw21_alive.f k).bind fun t141_ => (if t141_ = true then (shape_Right.f k p0 p1 p2 p3 p4 p5 p6 t31_).bind fun t144_ => (if t144_ = true then (shape_Map.f k p0 p1 p2 p3 p4 p5 p6 t31_).bind fun t147_ => (seq_Map_Pairs.f t147_).bind fun t151_ => (stepstonelaw07_Olds.f k t151_).bind fun t154_ => (sr07_Equal.f k t154_ xs48_).bind fun t158_ => (if t158_ = true then (shape_Rest.f k p0 p1 p2 p3 p4 p5 p6 t31_ ([] : List (List S81))).bind fun t161_ => some (t161_ == (!x50_)) else some false) else some false) else some false))
def stepstonelaw21_ShapeLaid.f (k : Nat) (p0 : Int) (p1 : Int) (p2 : Int) (p3 : Int) (p4 : Int) (p5 : Int) (p6 : Int) (l1 : List S46) : Option Bool := ((sr11_Right.f k p0 p1 p2 p3 p4 p5 p6 l1).bind fun t163_ => (if t163_ = true then some (decide ((p2 : Int) > 20)) else some true) : Option Bool).bind fun j20_ => (if j20_ = true then (stepstonelaw21_alive.f k).bind fun t25_ => some t25_ else (sr11_Lay.f k p0 p1 p2 p3 p4 p5 p6 l1).bind fun t31_ => stepstonelaw21_ShapeLaid.l0 k p0 p1 p2 p3 p4 p5 p6 l1 t31_ false 0 ([] : List S48))
end Go.Eng
namespace Go.Eng
open Go.Proofs Go.RowKit Go.Proofs.YtbonlagecjealaaW.PrintWords
set_option linter.unusedVariables false
set_option linter.unusedSimpArgs false
theorem ofInt_nat {x : Int} (h0 : 0 ≤ x) (h1 : x < 18446744073709551616) : ((BitVec.ofInt 64 x).toNat : Int) = x := by
  rw [BitVec.toNat_ofInt]
  have : 0 ≤ x % ((2 ^ 64 : Nat) : Int) := Int.emod_nonneg _ (by decide)
  rw [Int.toNat_of_nonneg this]
  exact Int.emod_eq_of_lt h0 h1
theorem and_pow (n i : Nat) : n &&& 2 ^ i = (n.testBit i).toNat * 2 ^ i := by
  apply Nat.eq_of_testBit_eq
  intro j
  rw [Nat.testBit_and, Nat.testBit_two_pow]
  cases h : n.testBit i
  · simp only [Bool.toNat_false, Nat.zero_mul, Nat.zero_testBit]
    by_cases hj : i = j
    · subst hj; simp [h]
    · simp [hj]
  · simp only [Bool.toNat_true, Nat.one_mul, Nat.testBit_two_pow]
    by_cases hj : i = j
    · subst hj; simp [h]
    · simp [hj]
theorem bit63 (b : BitVec 64) : ((b &&& BitVec.ofInt 64 9223372036854775808).toNat != 0) = decide (b.toNat ≥ 9223372036854775808) := by
  have hb := b.isLt
  have e : (BitVec.ofInt 64 9223372036854775808).toNat = 2 ^ 63 := by decide
  rw [BitVec.toNat_and, e, and_pow, Nat.testBit_eq_decide_div_mod_eq]
  by_cases h : b.toNat ≥ 9223372036854775808
  · have h2 : b.toNat / 2 ^ 63 % 2 = 1 := by omega
    rw [decide_eq_true h2, decide_eq_true h]
    decide
  · have h2 : ¬ b.toNat / 2 ^ 63 % 2 = 1 := by omega
    rw [decide_eq_false h2, decide_eq_false h]
    decide
theorem bit62 (b : BitVec 64) : (b &&& ~~~ BitVec.ofInt 64 4611686018427387904).toNat = if b.toNat / 4611686018427387904 % 2 = 1 then b.toNat - 4611686018427387904 else b.toNat := by
  generalize hc : BitVec.ofInt 64 4611686018427387904 = c
  have e : c.toNat = 2 ^ 62 := by rw [← hc]; decide
  have h1 : (b &&& ~~~c) + (b &&& c) = b := by
    rw [BitVec.add_eq_or_of_and_eq_zero]
    · ext i
      simp
      cases b[i] <;> cases c[i] <;> rfl
    · ext i
      simp
      cases b[i] <;> cases c[i] <;> simp
  have h2 := congrArg BitVec.toNat h1
  rw [BitVec.toNat_add] at h2
  have hq : (b &&& c).toNat = (b.toNat.testBit 62).toNat * 2 ^ 62 := by rw [BitVec.toNat_and, e, and_pow]
  have hp : (b &&& ~~~c).toNat ≤ b.toNat := by rw [BitVec.toNat_and]; exact Nat.and_le_left
  have hb := b.isLt
  rw [Nat.testBit_eq_decide_div_mod_eq] at hq
  by_cases h : b.toNat / 4611686018427387904 % 2 = 1
  · have h3 : b.toNat / 2 ^ 62 % 2 = 1 := h
    rw [decide_eq_true h3] at hq
    have hq2 : (b &&& c).toNat = 4611686018427387904 := hq
    rw [if_pos h]
    omega
  · have h3 : ¬ b.toNat / 2 ^ 62 % 2 = 1 := h
    rw [decide_eq_false h3] at hq
    have hq2 : (b &&& c).toNat = 0 := by rw [hq]; decide
    rw [if_neg h]
    omega
theorem valid_is {x : Int} (h0 : 0 ≤ x) (h1 : x < 18446744073709551616) : handle_Valid.f x = some (decide (x ≥ 9223372036854775808)) := by
  have key : ∀ n : Nat, n < 18446744073709551616 → ((IntKind.wrap .u64 (n : Int)) != 0) = (n != 0) := fun n hn => by
    rw [wu64 (by omega) (by omega), Bool.eq_iff_iff]
    simp
  have e := ofInt_nat h0 h1
  have e2 : decide ((BitVec.ofInt 64 x).toNat ≥ 9223372036854775808) = decide (x ≥ 9223372036854775808) := by
    rw [Bool.eq_iff_iff, decide_eq_true_eq, decide_eq_true_eq]; omega
  exact congrArg some ((key _ (BitVec.isLt _)).trans ((bit63 _).trans e2))
theorem plF_is {x : Int} (h0 : 0 ≤ x) (h1 : x < 18446744073709551616) : plF x = if x / 4611686018427387904 % 2 = 1 then x - 4611686018427387904 else x := by
  have key : ∀ m : Nat, m < 18446744073709551616 → (some (IntKind.wrap .u64 (m : Int))).getD 0 = (m : Int) := fun n hn => wu64 (by omega) (by omega)
  have e := ofInt_nat h0 h1
  refine (key _ (BitVec.isLt _)).trans ?_
  refine (congrArg (fun n : Nat => (n : Int)) (bit62 (BitVec.ofInt 64 x))).trans ?_
  generalize (BitVec.ofInt 64 x).toNat = n at e
  subst e
  by_cases h : n / 4611686018427387904 % 2 = 1
  · rw [if_pos (show (n : Int) / 4611686018427387904 % 2 = 1 by omega)]
    simp only [h, if_true]
    omega
  · rw [if_neg (show ¬ (n : Int) / 4611686018427387904 % 2 = 1 by omega)]
    simp only [h, if_false]
theorem ref_plain {x : Int} (h0 : 0 ≤ x) (h1 : x < 18446744073709551616) : sr01_Plain.f x = some (plF x) := by
  unfold sr01_Plain.f sr01_Marked.f
  rw [plF_is h0 h1, Int.tdiv_eq_ediv_of_nonneg h0, wu64 (n := x / 4611686018427387904) (by omega) (by omega), Int.tmod_eq_emod_of_nonneg (by omega)]
  simp only [Option.bind_some]
  by_cases h : x / 4611686018427387904 % 2 = 1
  · rw [if_pos h, h, if_pos (by decide), wu64 (by omega) (by omega)]
  · rw [if_neg h, if_neg (by simpa using h)]
theorem ref_index {x : Int} (h0 : 0 ≤ x) : sr01_Index.f x = some (x % 4294967296) := by
  unfold sr01_Index.f
  rw [Int.tmod_eq_emod_of_nonneg h0, wi64 (by omega) (by omega)]
section
variable {T S C H K V L : Int} {l : List Int}
theorem nm_is {x : Int} (h0 : 0 ≤ x) (h1 : x < 18446744073709551616) : nmF T S C H K V L l x = (decide (x ≥ 9223372036854775808) && decide (x % 4294967296 ≥ 1) && decide (x % 4294967296 ≤ C)) := by
  unfold nmF sw_names.f
  rw [valid_is h0 h1]
  simp only [Option.bind_some]
  by_cases h2 : x ≥ 9223372036854775808
  · rw [decide_eq_true h2]
    by_cases h3 : x % 4294967296 ≥ 1
    · rw [decide_eq_true h3]; simp [h3]
    · rw [decide_eq_false h3]; simp [h3]
  · rw [decide_eq_false h2]; simp
theorem ref_at (hr : R7 T S C H K V L) (hl : (l.length : Int) = lenI T S C H) {i f : Int} (hf : isF C H i f = true) : sr21_at.f T S C H K V L l i f = some (atF T S C H K V L l i f) := by
  obtain ⟨h1, h2, h3, h4⟩ := isF_iff.1 hf
  have hc := cells hr h1 h2 h3 h4
  unfold sr21_at.f atF
  rw [ref04_Cell_is, r7_iff.2 hr, hf, at_some hr hl hf]
  simp only [Bool.and_self, if_true, Option.bind_some]
  rw [if_pos hc.1, if_pos (by rw [hl]; exact hc.2.1)]
  rfl
theorem rd_u64 (hu : ∀ x ∈ l, 0 ≤ x ∧ x < 18446744073709551616) (j : Int) : 0 ≤ rd l j ∧ rd l j < 18446744073709551616 := by
  unfold rd
  rw [List.getD_eq_getElem?_getD]
  cases e : l[j.toNat]? with
  | none => exact ⟨Int.le_refl _, by decide⟩
  | some v => exact hu v (List.mem_of_getElem? e)
theorem at_u64 (hr : R7 T S C H K V L) (hl : (l.length : Int) = lenI T S C H) (hu : ∀ x ∈ l, 0 ≤ x ∧ x < 18446744073709551616) {i f : Int} (hf : isF C H i f = true) : 0 ≤ atF T S C H K V L l i f ∧ atF T S C H K V L l i f < 18446744073709551616 := by
  unfold atF
  rw [at_some hr hl hf]
  exact rd_u64 hu _
theorem refLevel_l0 (hr : R7 T S C H K V L) (hl : (l.length : Int) = lenI T S C H) (hu : ∀ x ∈ l, 0 ≤ x ∧ x < 18446744073709551616) {lev : Int} (h0 : 0 ≤ lev) (h1 : lev < H) : ∀ (m k : Nat) (x : Int) (xs : List Int), C + 1 - xs.length = m → m < k → 0 ≤ x → x < 18446744073709551616 →
    ∃ w, sr21_Level.l0 k T S C H K V L l lev x xs = some (xs ++ (ylF C (nmF T S C H K V L l) plF (fun x => atF T S C H K V L l (x % 4294967296) (IntKind.wrap .i64 (6 + lev))) m xs.length x).map (·.2), w)
  | 0, 0, x, xs, _, h, _, _ => absurd h (by decide)
  | m + 1, 0, x, xs, _, h, _, _ => absurd h (by omega)
  | 0, k + 1, x, xs, hm, _, _, _ => ⟨x, by rw [sr21_Level.l0, if_neg (by omega)]; simp [ylF]⟩
  | m + 1, k + 1, x, xs, hm, hk, hx0, hx1 => by
    have hC := hr.c
    have e5 : sr01_Valid.f x = some (decide (x ≥ 9223372036854775808)) := rfl
    have ey : ylF C (nmF T S C H K V L l) plF (fun x => atF T S C H K V L l (x % 4294967296) (IntKind.wrap .i64 (6 + lev))) (m + 1) xs.length x = if nmF T S C H K V L l x = true then ((xs.length : Int), plF x) :: ylF C (nmF T S C H K V L l) plF (fun x => atF T S C H K V L l (x % 4294967296) (IntKind.wrap .i64 (6 + lev))) m (xs.length + 1) (atF T S C H K V L l (x % 4294967296) (IntKind.wrap .i64 (6 + lev))) else [] := by
      rw [ylF, if_pos (by omega)]
    rw [sr21_Level.l0, if_pos (by omega), ref_index hx0, e5, ey, nm_is hx0 hx1, ref_plain hx0 hx1]
    simp only [Option.bind_some]
    by_cases h2 : x ≥ 9223372036854775808
    · rw [decide_eq_true h2]
      by_cases h3 : x % 4294967296 < 1
      · rw [decide_eq_false (show ¬ x % 4294967296 ≥ 1 by omega)]
        exact ⟨x, by simp [h3]⟩
      · rw [decide_eq_true (show x % 4294967296 ≥ 1 by omega)]
        by_cases h4 : x % 4294967296 > C
        · rw [decide_eq_false (show ¬ x % 4294967296 ≤ C by omega)]
          exact ⟨x, by simp [h3, h4]⟩
        · rw [decide_eq_true (show x % 4294967296 ≤ C by omega)]
          have hf := isF_lev hr (show 0 ≤ x % 4294967296 by omega) (show x % 4294967296 ≤ C by omega) h0 h1
          have hb := at_u64 hr hl hu hf
          obtain ⟨w, ew⟩ := refLevel_l0 hr hl hu h0 h1 m k (atF T S C H K V L l (x % 4294967296) (IntKind.wrap .i64 (6 + lev))) (xs ++ [plF x]) (by rw [List.length_append, List.length_singleton]; omega) (by omega) hb.1 hb.2
          refine ⟨w, ?_⟩
          rw [if_pos rfl, if_neg h3, decide_eq_false h4]
          simp only [Option.bind_some, Bool.false_eq_true, if_false]
          rw [if_pos (by omega), ref_at hr hl hf]
          simp only [Option.bind_some]
          rw [ew, List.length_append, List.length_singleton]
          simp
    · rw [decide_eq_false h2]
      exact ⟨x, by simp⟩
theorem refLevel_is (hu : ∀ x ∈ l, 0 ≤ x ∧ x < 18446744073709551616) (lev : Int) : ∃ w, sr21_Level.f 3000 T S C H K V L l lev = some ((if okB T S C H K V L l lev = true then (lvlF T S C H K V L l lev).map (·.2) else []), w) := by
  have hw : sr21_whole.f T S C H K V L l = some (r7 T S C H K V L && decide ((l.length : Int) = lenI T S C H)) := by
    unfold sr21_whole.f
    rw [ref04_Right_is, ref04_Len_is]
    simp only [Option.bind_some]
    by_cases h : r7 T S C H K V L = true
    · rw [if_pos h, if_pos h, h]
      simp only [Option.bind_some, Bool.true_and]
      rw [Bool.eq_iff_iff.2 (show ((l.length : Int) == lenI T S C H) = true ↔ decide ((l.length : Int) = lenI T S C H) = true by simp)]
    · rw [if_neg h]
      rw [Bool.not_eq_true] at h
      rw [h]
      rfl
  have hp : ∀ x ∈ l, 0 ≤ x := fun x hx => (hu x hx).1
  unfold sr21_Level.f
  rw [hw]
  simp only [Option.bind_some]
  by_cases h : okB T S C H K V L l lev = true
  · obtain ⟨h1, h2, h3, h4, _⟩ := okB_iff.1 h
    have hC := h1.c
    have hf := isF_lev h1 (Int.le_refl 0) (show (0 : Int) ≤ C by omega) h3 h4
    have hb := at_u64 h1 h2 hu hf
    obtain ⟨w, ew⟩ := refLevel_l0 h1 h2 hu h3 h4 (C.toNat + 1) 3000 _ [] (by simp only [List.length_nil]; omega) (by omega) hb.1 hb.2
    refine ⟨w, ?_⟩
    rw [if_pos h, r7_iff.2 h1, decide_eq_true h2, Bool.and_self, if_pos rfl, if_neg (by omega), decide_eq_false (by omega), ref_at h1 h2 hf]
    simp only [Option.bind_some, Bool.false_eq_true, if_false]
    rw [ew]
    rfl
  · refine ⟨0, ?_⟩
    rw [if_neg h]
    by_cases h1 : (r7 T S C H K V L && decide ((l.length : Int) = lenI T S C H)) = true
    · rw [if_pos h1]
      by_cases h2 : lev < 0
      · rw [if_pos h2]; rfl
      · rw [if_neg h2]
        have h3 : lev ≥ H := by
          rw [Bool.and_eq_true, r7_iff, decide_eq_true_eq] at h1
          rw [okB_iff] at h
          exact Int.not_lt.1 (fun h4 => h ⟨h1.1, h1.2, by omega, h4, hp⟩)
        rw [decide_eq_true h3]; rfl
    · rw [if_neg h1]; rfl
end
theorem same_l0 {l : List Int} (hb : l.length ≤ 1000) : ∀ (m k i : Nat), l.length = i + m → m < k → sr03_Same.l0 k l l (i : Int) = some true
  | 0, 0, i, _, h => absurd h (by decide)
  | m + 1, 0, i, _, h => absurd h (by omega)
  | 0, k + 1, i, hl, _ => by rw [sr03_Same.l0, if_neg (by omega)]
  | m + 1, k + 1, i, hl, h => by
    have e2 : IntKind.wrap .i64 ((i : Int) + 1) = ((i + 1 : Nat) : Int) := by rw [wi64 (by omega) (by omega)]; rfl
    rw [sr03_Same.l0, if_pos (by omega), if_pos (by omega), if_pos (by omega), if_pos rfl, e2]
    exact same_l0 hb m k (i + 1) (by omega) (by omega)
theorem same_is {l : List Int} (hb : l.length ≤ 1000) : sr03_Same.f 3000 l l = some true := by
  unfold sr03_Same.f
  rw [if_pos rfl]
  exact same_l0 hb l.length 3000 0 (by omega) (by omega)
theorem shapeLevels_is {T S C H K V L : Int} {l : List Int} (hu : ∀ x ∈ l, 0 ≤ x ∧ x < 18446744073709551616) (lev : Int) : stepstonelaw21_ShapeLevels.f 3000 T S C H K V L l lev = some true := by
  obtain ⟨w, ew⟩ := refLevel_is (T := T) (S := S) (C := C) (H := H) (K := K) (V := V) (L := L) hu lev
  unfold stepstonelaw21_ShapeLevels.f
  rw [ew, alive_true, Level_is (by decide) T S C H K V L l (fun x hx => (hu x hx).1) lev]
  simp only [Option.bind_some, if_true]
  rw [same_is]
  · rfl
  · split
    · rename_i h
      have := lvl_len h
      rw [List.length_map]; omega
    · simp
theorem u64_of {l : List Int} (hw : l.length ≤ maxLen ∧ ∀ x ∈ l, (Lit.int .u64 x).wf = true) : ∀ x ∈ l, 0 ≤ x ∧ x < 18446744073709551616 := fun x hx => by
  have h : IntKind.u64.min ≤ x ∧ x ≤ IntKind.u64.max := by simpa [Lit.wf] using hw.2 x hx
  have e : IntKind.u64.min = 0 := by decide
  have e2 : IntKind.u64.max = 18446744073709551615 := by decide
  omega
theorem shapeLevels_con (T S C H K V L : Int) (A1 : Option Addr) (c1 : Nat) (l : List Int) (lev : Int) (hw : l.length ≤ maxLen ∧ ∀ x ∈ l, (Lit.int .u64 x).wf = true) (w0 : World) (Hs : List Nat) : Con Try.prog 3 #[.agg #[.int .i64 T, .int .i64 S, .int .i64 C, .int .i64 H, .int .i64 K, .int .i64 V, .int .i64 L], .slice A1 l.length c1, .int .i64 lev] w0 Hs [.f (KC (Kd.int .u64) A1 c1 l)] (fun X => X (.bool true) []) :=
  stepstonelaw21_ShapeLevels_con 3000 T S C H K V L A1 c1 l lev true (shapeLevels_is (u64_of hw) lev) w0 Hs
end Go.Eng
