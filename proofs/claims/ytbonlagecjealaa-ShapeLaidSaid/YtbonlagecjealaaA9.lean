/-
Own text, put together by an own program (shake.py) out of this claim's texts: what its theorem needs of them.
-/
import Derived.Test.YtbonlagecjealaaA8
namespace Go.Eng
open Go.Proofs Go.RowKit Go.Proofs.YtbonlagecjealaaW.PrintWords Go.Proofs.Ytbonlagecjealaa.GSeq
set_option linter.unusedVariables false
set_option linter.unusedSimpArgs false
def stepstoneref02_Taken.f (a0 : Int) : Option Int := (stepstoneref02_Meta.f 1 a0).bind fun (t4_, t5_) => some t4_
set_option maxRecDepth 100000 in
set_option maxHeartbeats 4000000 in
theorem stepstoneref02_Taken_con (a0 : Int) (r0 : Int) (h : stepstoneref02_Taken.f a0 = some r0) (w0 : World) (Hs : List Nat) : Con Try.prog 39 #[.int .i64 a0] w0 Hs [] (fun X => X (.int .u64 r0) []) := by
  refine con_enter (c := bodyOf Try.f39) Try.func39 rfl (m := 11) rfl rfl rfl ?_
  intro X hX _
  have H := h
  unfold stepstoneref02_Taken.f at H
  clear h
  refine c_seq rfl ?_
  refine r_ord (l := [0]) rfl (by kernel_rfl) (by kernel_rfl) ?_
  refine s_v rfl rfl rfl rfl (v_assign rfl rfl) ?_
  refine s_end ?_
  refine q_seq ?_
  refine c_seq rfl ?_
  refine r_ord (l := [0, 1, 2, 3, 4, 5, 6]) rfl (by kernel_rfl) (by kernel_rfl) ?_
  refine s_v rfl rfl rfl rfl (v_move rfl rfl) ?_
  obtain ⟨⟨t4_, t5_⟩, e6_, H⟩ := bind_s H
  refine s_e rfl rfl (e_callF [] #[.int .i64 1, .int .i64 a0] rfl rfl rfl rfl rfl Try.func63 rfl (by decide) rfl rfl rfl rfl (fun w ht => stepstoneref02_Meta_con 1 a0 t4_ t5_ e6_ w _)) ?_
  refine s_v rfl rfl rfl rfl (v_move rfl rfl) ?_
  refine s_v rfl rfl rfl rfl (v_ext rfl rfl rfl) ?_
  refine s_v rfl rfl rfl rfl (v_ext rfl rfl rfl) ?_
  refine s_v rfl rfl rfl rfl (v_assign rfl rfl) ?_
  refine s_v rfl rfl rfl rfl (v_assign rfl rfl) ?_
  refine s_end ?_
  refine q_seq ?_
  refine c_seq rfl ?_
  refine r_ord (l := [0, 1]) rfl (by kernel_rfl) (by kernel_rfl) ?_
  refine s_v rfl rfl rfl rfl (v_move rfl rfl) ?_
  refine s_v rfl rfl rfl rfl (v_assign rfl rfl) ?_
  refine s_end ?_
  refine q_seq ?_
  refine c_ret rfl ?_
  have e_ := Option.some.inj H
  subst e_
  exact q_ret (vs := [.int .u64 t4_]) rfl (.tmp rfl .nil) [] rfl (by decide) (hX)
def stepstoneref05_New.f (a0_0 : Int) (a0_1 : Int) (a0_2 : Int) (a0_3 : Int) (a0_4 : Int) (a0_5 : Int) (a0_6 : Int) : Option (Int × Int × Int × Int × Int × Int × Int × (List Int) × Int × Int × Int × Int × Int × Int × Bool) := (stepstoneref04_Len.f a0_0 a0_1 a0_2 a0_3 a0_4 a0_5 a0_6).bind fun t19_ => (stepstoneref03_New.f t19_).bind fun (t21_, t22_, t23_, t24_, t25_, t26_, t27_, t28_) => (if (0 : Int) < (t21_.length : Int) then (stepstoneref04_Cell.f a0_0 a0_1 a0_2 a0_3 a0_4 a0_5 a0_6 0 0).bind fun t41_ => (stepstoneref02_Taken.f 0).bind fun t43_ => (if 0 ≤ (t41_ : Int) then (if (t41_ : Int) < (t21_.length : Int) then (stepstoneref04_Cell.f a0_0 a0_1 a0_2 a0_3 a0_4 a0_5 a0_6 0 4).bind fun t51_ => (if 0 ≤ (t51_ : Int) then (if (t51_ : Int) < (t21_.length : Int) then some (a0_0, a0_1, a0_2, a0_3, a0_4, a0_5, a0_6, (((t21_.set (Int.toNat 0) 1).set (Int.toNat t41_) t43_).set (Int.toNat t51_) (IntKind.wrap .u64 a0_3)), t22_, t23_, t24_, t25_, t26_, t27_, t28_) else none) else none) else none) else none) else none)
set_option maxRecDepth 100000 in
set_option maxHeartbeats 4000000 in
theorem stepstoneref05_New_con (a0_0 : Int) (a0_1 : Int) (a0_2 : Int) (a0_3 : Int) (a0_4 : Int) (a0_5 : Int) (a0_6 : Int) (r0 : Int) (r1 : Int) (r2 : Int) (r3 : Int) (r4 : Int) (r5 : Int) (r6 : Int) (r7 : List Int) (r8 : Int) (r9 : Int) (r10 : Int) (r11 : Int) (r12 : Int) (r13 : Int) (r14 : Bool) (h : stepstoneref05_New.f a0_0 a0_1 a0_2 a0_3 a0_4 a0_5 a0_6 = some (r0, r1, r2, r3, r4, r5, r6, r7, r8, r9, r10, r11, r12, r13, r14)) (w0 : World) (Hs : List Nat) : Con Try.prog 24 #[.agg #[.int .i64 a0_0, .int .i64 a0_1, .int .i64 a0_2, .int .i64 a0_3, .int .i64 a0_4, .int .i64 a0_5, .int .i64 a0_6]] w0 Hs [] (fun X => ∀ A_r7 c_r7, X (.agg #[.int .i64 r0, .int .i64 r1, .int .i64 r2, .int .i64 r3, .int .i64 r4, .int .i64 r5, .int .i64 r6, .slice A_r7 r7.length c_r7, .int .i64 r8, .int .i64 r9, .int .i64 r10, .int .u64 r11, .int .u64 r12, .int .u64 r13, .bool r14]) [.f (KC (Kd.int .u64) A_r7 c_r7 r7)]) := by
  refine con_enter (c := bodyOf Try.f24) Try.func24 rfl (m := 27) rfl rfl rfl ?_
  intro X hX _
  have H := h
  unfold stepstoneref05_New.f at H
  clear h
  refine c_seq rfl ?_
  refine r_ord (l := [0, 1]) rfl (by kernel_rfl) (by kernel_rfl) ?_
  refine s_e rfl rfl (e_box rfl rfl rfl rfl) ?_
  intro b3_
  refine s_e rfl rfl (e_alloc rfl rfl rfl ZR59) ?_
  intro b4_
  refine s_end ?_
  refine q_seq ?_
  refine c_seq rfl ?_
  refine r_ord (l := [0, 1, 2, 3, 4]) rfl (by kernel_rfl) (by kernel_rfl) ?_
  refine s_v rfl rfl rfl rfl (v_ldA [.int .i64 a0_0, .int .i64 a0_1, .int .i64 a0_2, .int .i64 a0_3, .int .i64 a0_4, .int .i64 a0_5, .int .i64 a0_6] 1 rfl Try.underlying23 rfl SZ23 rfl rfl rfl rfl) ?_
  obtain ⟨t19_, e20_, H⟩ := bind_s H
  refine s_e rfl rfl (e_callF [] #[.agg #[.int .i64 a0_0, .int .i64 a0_1, .int .i64 a0_2, .int .i64 a0_3, .int .i64 a0_4, .int .i64 a0_5, .int .i64 a0_6]] rfl rfl rfl rfl rfl Try.func52 rfl (by decide) rfl rfl rfl rfl (fun w ht => stepstoneref04_Len_con a0_0 a0_1 a0_2 a0_3 a0_4 a0_5 a0_6 t19_ e20_ w _)) ?_
  obtain ⟨⟨t21_, t22_, t23_, t24_, t25_, t26_, t27_, t28_⟩, e29_, H⟩ := bind_s H
  refine s_e rfl rfl (e_callF [] #[.int .i64 t19_] rfl rfl rfl rfl rfl Try.func54 rfl (by decide) rfl rfl rfl rfl (fun w ht => stepstoneref03_New_con t19_ t21_ t22_ t23_ t24_ t25_ t26_ t27_ t28_ e29_ w _)) ?_
  intro g30_ rest31_ mh_g30_
  refine s_e rfl rfl (e_alloc rfl rfl rfl ZR57) ?_
  intro b32_
  refine s_e rfl rfl (e_stA 0 rfl rfl SZ57 rfl rfl rfl rfl rfl rfl) ?_
  refine s_end ?_
  refine q_seq ?_
  refine c_seq rfl ?_
  refine r_ord (l := [0, 1, 2, 3]) rfl (by kernel_rfl) (by kernel_rfl) ?_
  refine s_v rfl rfl rfl rfl (v_fa rfl Try.underlying57 rfl SZ24 rfl) ?_
  refine s_v rfl rfl rfl rfl (v_ld 0 rfl Try.underlying24 rfl rfl rfl rfl) ?_
  obtain ⟨n34_, H⟩ := ite_no H
  refine s_v rfl rfl rfl rfl (v_iaI rfl Try.underlying24 SZ25 rfl rfl (by decide) n34_) ?_
  refine s_e rfl rfl (e_stI 1 rfl rfl SZ25 rfl rfl rfl (by decide) (lt_lh rfl n34_)) ?_
  refine s_end ?_
  refine q_seq ?_
  refine c_seq rfl ?_
  obtain ⟨t41_, e42_, H⟩ := bind_s H
  obtain ⟨t43_, e44_, H⟩ := bind_s H
  obtain ⟨n45_, H⟩ := ite_no H
  obtain ⟨n46_, H⟩ := ite_no H
  refine r_any [.b b32_ (.cells #[.slice (some ⟨g30_, 0, none⟩) t21_.length t21_.length, .int .i64 t22_, .int .i64 t23_, .int .i64 t24_, .int .u64 t25_, .int .u64 t26_, .int .u64 t27_, .bool t28_] 57 (0, 0)), .b b4_ (.cells #[.int .i64 0, .int .i64 0, .int .i64 0, .int .i64 0, .int .i64 0, .int .i64 0, .int .i64 0, .slice none 0 0, .int .i64 0, .int .i64 0, .int .i64 0, .int .u64 0, .int .u64 0, .int .u64 0, .bool false] 59 (0, 0)), .b b3_ (.cells #[.int .i64 a0_0, .int .i64 a0_1, .int .i64 a0_2, .int .i64 a0_3, .int .i64 a0_4, .int .i64 a0_5, .int .i64 a0_6] 23 (0, 0))] (by kernel_rfl) rfl (by kernel_rfl) (mem_pick (idx := [0, 2, 3]) rfl) ?_
  refine a_v 0 rfl (by kernel_rfl) (by kernel_rfl) (by kernel_rfl) rfl rfl rfl (v_fa rfl Try.underlying57 rfl SZ24 rfl) ?_
  refine a_v 1 rfl (by kernel_rfl) (by kernel_rfl) (by kernel_rfl) rfl rfl rfl (v_ld 0 rfl Try.underlying24 rfl rfl rfl rfl) ?_
  refine a_v 2 rfl (by kernel_rfl) (by kernel_rfl) (by kernel_rfl) rfl rfl rfl (v_ldA [.int .i64 a0_0, .int .i64 a0_1, .int .i64 a0_2, .int .i64 a0_3, .int .i64 a0_4, .int .i64 a0_5, .int .i64 a0_6] 2 rfl Try.underlying23 rfl SZ23 rfl rfl rfl rfl) ?_
  refine a_1 (i := 3) (by kernel_rfl) ?_
  refine i_e rfl rfl (e_callF [] #[.agg #[.int .i64 a0_0, .int .i64 a0_1, .int .i64 a0_2, .int .i64 a0_3, .int .i64 a0_4, .int .i64 a0_5, .int .i64 a0_6], .int .i64 0, .int .i64 0] rfl rfl rfl rfl rfl Try.func38 rfl (by decide) rfl rfl rfl rfl (fun w ht => stepstoneref04_Cell_con a0_0 a0_1 a0_2 a0_3 a0_4 a0_5 a0_6 0 0 t41_ e42_ w _)) ?_
  refine ⟨(mem_pick (idx := [0, 2, 3]) rfl), ?_⟩
  refine a_1 (i := 4) (by kernel_rfl) ?_
  refine i_e rfl rfl (e_callF [] #[.int .i64 0] rfl rfl rfl rfl rfl Try.func39 rfl (by decide) rfl rfl rfl rfl (fun w ht => stepstoneref02_Taken_con 0 t43_ e44_ w _)) ?_
  refine ⟨(mem_pick (idx := [0, 2, 3]) rfl), ?_⟩
  refine a_1 (i := 5) (by kernel_rfl) ?_
  refine i_v rfl rfl rfl rfl (v_iaI rfl Try.underlying24 SZ25 rfl rfl n45_ n46_) ?_
  refine a_1 (i := 6) (by kernel_rfl) ?_
  refine i_e rfl rfl (e_stI 1 rfl rfl SZ25 rfl rfl rfl n45_ (lt_lh (lh_set rfl) n46_)) ?_
  refine ⟨(mem_pick (idx := [0, 2, 3]) rfl), ?_⟩
  refine a_end (by kernel_rfl) ?_
  refine q_seq ?_
  refine c_seq rfl ?_
  obtain ⟨t51_, e52_, H⟩ := bind_s H
  obtain ⟨n53_, H⟩ := ite_no H
  obtain ⟨n54_, H⟩ := ite_no H
  refine r_any [.b b32_ (.cells #[.slice (some ⟨g30_, 0, none⟩) t21_.length t21_.length, .int .i64 t22_, .int .i64 t23_, .int .i64 t24_, .int .u64 t25_, .int .u64 t26_, .int .u64 t27_, .bool t28_] 57 (0, 0)), .b b4_ (.cells #[.int .i64 0, .int .i64 0, .int .i64 0, .int .i64 0, .int .i64 0, .int .i64 0, .int .i64 0, .slice none 0 0, .int .i64 0, .int .i64 0, .int .i64 0, .int .u64 0, .int .u64 0, .int .u64 0, .bool false] 59 (0, 0)), .b b3_ (.cells #[.int .i64 a0_0, .int .i64 a0_1, .int .i64 a0_2, .int .i64 a0_3, .int .i64 a0_4, .int .i64 a0_5, .int .i64 a0_6] 23 (0, 0))] (by kernel_rfl) rfl (by kernel_rfl) (mem_pick (idx := [0, 2, 3]) rfl) ?_
  refine a_v 0 rfl (by kernel_rfl) (by kernel_rfl) (by kernel_rfl) rfl rfl rfl (v_fa rfl Try.underlying57 rfl SZ24 rfl) ?_
  refine a_v 1 rfl (by kernel_rfl) (by kernel_rfl) (by kernel_rfl) rfl rfl rfl (v_ld 0 rfl Try.underlying24 rfl rfl rfl rfl) ?_
  refine a_v 2 rfl (by kernel_rfl) (by kernel_rfl) (by kernel_rfl) rfl rfl rfl (v_ldA [.int .i64 a0_0, .int .i64 a0_1, .int .i64 a0_2, .int .i64 a0_3, .int .i64 a0_4, .int .i64 a0_5, .int .i64 a0_6] 2 rfl Try.underlying23 rfl SZ23 rfl rfl rfl rfl) ?_
  refine a_v 4 rfl (by kernel_rfl) (by kernel_rfl) (by kernel_rfl) rfl rfl rfl (v_fa rfl Try.underlying23 rfl SZ3 rfl) ?_
  refine a_v 5 rfl (by kernel_rfl) (by kernel_rfl) (by kernel_rfl) rfl rfl rfl (v_ld 2 rfl Try.underlying3 rfl rfl rfl rfl) ?_
  refine a_v 6 rfl (by kernel_rfl) (by kernel_rfl) (by kernel_rfl) rfl rfl rfl (v_conv rfl Try.underlying3 Try.underlying25 rfl) ?_
  refine a_1 (i := 3) (by kernel_rfl) ?_
  refine i_e rfl rfl (e_callF [] #[.agg #[.int .i64 a0_0, .int .i64 a0_1, .int .i64 a0_2, .int .i64 a0_3, .int .i64 a0_4, .int .i64 a0_5, .int .i64 a0_6], .int .i64 0, .int .i64 4] rfl rfl rfl rfl rfl Try.func38 rfl (by decide) rfl rfl rfl rfl (fun w ht => stepstoneref04_Cell_con a0_0 a0_1 a0_2 a0_3 a0_4 a0_5 a0_6 0 4 t51_ e52_ w _)) ?_
  refine ⟨(mem_pick (idx := [0, 2, 3]) rfl), ?_⟩
  refine a_1 (i := 7) (by kernel_rfl) ?_
  refine i_v rfl rfl rfl rfl (v_iaI rfl Try.underlying24 SZ25 rfl rfl n53_ n54_) ?_
  refine a_1 (i := 8) (by kernel_rfl) ?_
  refine i_e rfl rfl (e_stI 1 rfl rfl SZ25 rfl rfl rfl n53_ (lt_lh (lh_set (lh_set rfl)) n54_)) ?_
  refine ⟨(mem_pick (idx := [0, 2, 3]) rfl), ?_⟩
  refine a_end (by kernel_rfl) ?_
  refine q_seq ?_
  refine c_seq rfl ?_
  refine r_ord (l := [0, 1, 2, 3]) rfl (by kernel_rfl) (by kernel_rfl) ?_
  refine s_v rfl rfl rfl rfl (v_ldA [.int .i64 a0_0, .int .i64 a0_1, .int .i64 a0_2, .int .i64 a0_3, .int .i64 a0_4, .int .i64 a0_5, .int .i64 a0_6] 3 rfl Try.underlying23 rfl SZ23 rfl rfl rfl rfl) ?_
  refine s_v rfl rfl rfl rfl (v_ldA [.slice (some ⟨g30_, 0, none⟩) t21_.length t21_.length, .int .i64 t22_, .int .i64 t23_, .int .i64 t24_, .int .u64 t25_, .int .u64 t26_, .int .u64 t27_, .bool t28_] 0 rfl Try.underlying57 rfl SZ57 rfl rfl rfl rfl) ?_
  refine s_v rfl rfl rfl rfl (v_build (places := #[(0, 7), (7, 8)]) #[.int .i64 a0_0, .int .i64 a0_1, .int .i64 a0_2, .int .i64 a0_3, .int .i64 a0_4, .int .i64 a0_5, .int .i64 a0_6, .slice (some ⟨g30_, 0, none⟩) t21_.length t21_.length, .int .i64 t22_, .int .i64 t23_, .int .i64 t24_, .int .u64 t25_, .int .u64 t26_, .int .u64 t27_, .bool t28_] rfl ZR59 Try.underlying59 (by kernel_rfl) rfl (by kernel_rfl)) ?_
  refine s_e rfl rfl (e_stA 2 rfl rfl SZ59 rfl rfl rfl rfl rfl rfl) ?_
  refine s_end ?_
  refine q_seq ?_
  refine c_ret rfl ?_
  refine q_give [1, 0, 2, 3] rfl (by decide) (by simp [ids, Ent.id?]) (KC_own (k := .u64) (cap := t21_.length) (xs := (((t21_.set (Int.toNat 0) 1).set (Int.toNat t41_) t43_).set (Int.toNat t51_) (IntKind.wrap .u64 a0_3))) RowI_take (Nat.le_of_eq (lh_set (lh_set (lh_set rfl)))) mh_g30_) ?_
  have hq_0 := Option.some.inj H
  obtain ⟨ee_0, hq_1⟩ := Prod.mk.inj hq_0
  obtain ⟨ee_1, hq_2⟩ := Prod.mk.inj hq_1
  obtain ⟨ee_2, hq_3⟩ := Prod.mk.inj hq_2
  obtain ⟨ee_3, hq_4⟩ := Prod.mk.inj hq_3
  obtain ⟨ee_4, hq_5⟩ := Prod.mk.inj hq_4
  obtain ⟨ee_5, hq_6⟩ := Prod.mk.inj hq_5
  obtain ⟨ee_6, hq_7⟩ := Prod.mk.inj hq_6
  obtain ⟨ee_7, hq_8⟩ := Prod.mk.inj hq_7
  obtain ⟨ee_8, hq_9⟩ := Prod.mk.inj hq_8
  obtain ⟨ee_9, hq_10⟩ := Prod.mk.inj hq_9
  obtain ⟨ee_10, hq_11⟩ := Prod.mk.inj hq_10
  obtain ⟨ee_11, hq_12⟩ := Prod.mk.inj hq_11
  obtain ⟨ee_12, hq_13⟩ := Prod.mk.inj hq_12
  obtain ⟨ee_13, hq_14⟩ := Prod.mk.inj hq_13
  subst ee_0
  subst ee_1
  subst ee_2
  subst ee_3
  subst ee_4
  subst ee_5
  subst ee_6
  subst ee_7
  subst ee_8
  subst ee_9
  subst ee_10
  subst ee_11
  subst ee_12
  subst ee_13
  subst hq_14
  have hX1 := hX (some ⟨g30_, 0, none⟩) t21_.length
  rw [show (((t21_.set (Int.toNat 0) 1).set (Int.toNat t41_) t43_).set (Int.toNat t51_) (IntKind.wrap .u64 a0_3)).length = t21_.length from (lh_set (lh_set (lh_set rfl)))] at hX1
  exact q_ret (vs := [.agg #[.int .i64 a0_0, .int .i64 a0_1, .int .i64 a0_2, .int .i64 a0_3, .int .i64 a0_4, .int .i64 a0_5, .int .i64 a0_6, .slice (some ⟨g30_, 0, none⟩) t21_.length t21_.length, .int .i64 t22_, .int .i64 t23_, .int .i64 t24_, .int .u64 t25_, .int .u64 t26_, .int .u64 t27_, .bool t28_]]) rfl (.agg [.int .i64 a0_0, .int .i64 a0_1, .int .i64 a0_2, .int .i64 a0_3, .int .i64 a0_4, .int .i64 a0_5, .int .i64 a0_6, .slice (some ⟨g30_, 0, none⟩) t21_.length t21_.length, .int .i64 t22_, .int .i64 t23_, .int .i64 t24_, .int .u64 t25_, .int .u64 t26_, .int .u64 t27_, .bool t28_] 2 rfl Try.underlying59 rfl SZ59 rfl rfl rfl .nil) [0] rfl (by decide) (hX1)
def stepstoneref01_Pack.f (a0 : Int) (a1 : Int) (a2 : Bool) : Option (Int × Bool) := ((if (a0 : Int) < 0 then some true else (if (a0 : Int) > 4294967295 then some true else (if (a1 : Int) < 0 then some true else some (decide ((a1 : Int) > 1073741823))))) : Option Bool).bind fun j22_ => (if j22_ = true then some (0, false) else ((if a2 = true then some (IntKind.wrap .u64 ((IntKind.wrap .u64 ((IntKind.wrap .u64 (9223372036854775808 + (IntKind.wrap .u64 (4294967296 * (IntKind.wrap .u64 a1))))) + (IntKind.wrap .u64 a0))) + 4611686018427387904)) else some (IntKind.wrap .u64 ((IntKind.wrap .u64 (9223372036854775808 + (IntKind.wrap .u64 (4294967296 * (IntKind.wrap .u64 a1))))) + (IntKind.wrap .u64 a0)))) : Option Int).bind fun j26_ => some (j26_, true))
set_option maxRecDepth 100000 in
set_option maxHeartbeats 4000000 in
theorem stepstoneref01_Pack_con (a0 : Int) (a1 : Int) (a2 : Bool) (r0 : Int) (r1 : Bool) (h : stepstoneref01_Pack.f a0 a1 a2 = some (r0, r1)) (w0 : World) (Hs : List Nat) : Con Try.prog 78 #[.int .i64 a0, .int .i64 a1, .bool a2] w0 Hs [] (fun X => X (.tuple #[.int .u64 r0, .bool r1]) []) := by
 refine con_enter (c := bodyOf Try.f78) Try.func78 rfl (m := 34) rfl rfl rfl ?_
 intro X hX _
 have H := h
 unfold stepstoneref01_Pack.f at H
 clear h
 refine c_seq rfl ?_
 refine r_ord (l := [0, 1]) rfl (by kernel_rfl) (by kernel_rfl) ?_
 refine s_v rfl rfl rfl rfl (v_assign rfl rfl) ?_
 refine s_v rfl rfl rfl rfl (v_assign rfl rfl) ?_
 refine s_end ?_
 refine q_seq ?_
 refine c_seq rfl ?_
 obtain ⟨j22_, e23_, H⟩ := bind_s H
 refine c_join (β := Unit) (fun _ => True) (fun _ => [(0, .int .i64 a0), (1, .int .i64 a1), (2, .bool a2), (6, .int .u64 0), (7, .bool false), (22, .bool j22_)]) (fun _ => []) rfl (fun _ _ => ?_) (fun J_ => ?_)
 rcases Bool.eq_false_or_eq_true j22_ with h24_ | h24_
 subst h24_
 replace H := ite_y rfl H
 refine c_cond1 rfl rfl ?_
 refine c_seq rfl ?_
 refine r_ord (l := [0, 1]) rfl (by kernel_rfl) (by kernel_rfl) ?_
 refine s_v rfl rfl rfl rfl (v_assign rfl rfl) ?_
 refine s_v rfl rfl rfl rfl (v_assign rfl rfl) ?_
 refine s_end ?_
 refine q_seq ?_
 refine c_ret rfl ?_
 refine q_then_ret ?_
 have hq_0 := Option.some.inj H
 obtain ⟨ee_0, hq_1⟩ := Prod.mk.inj hq_0
 subst ee_0
 subst hq_1
 exact q_ret (vs := [.int .u64 0, .bool false]) rfl (.tmp rfl (.tmp rfl .nil)) [] rfl (by decide) (hX)
 subst h24_
 replace H := ite_n (by decide) H
 refine c_cond0 rfl rfl ?_
 refine c_skip rfl ?_
 refine q_seq ?_
 refine c_seq rfl ?_
 refine r_ord (l := [0, 1, 2, 3, 4, 5, 6, 7]) rfl (by kernel_rfl) (by kernel_rfl) ?_
 refine s_v rfl rfl rfl rfl (v_move rfl rfl) ?_
 refine s_v rfl rfl rfl rfl (v_conv rfl Try.underlying3 Try.underlying25 rfl) ?_
 refine s_v rfl rfl rfl rfl (v_arith rfl rfl rfl rfl) ?_
 refine s_v rfl rfl rfl rfl (v_arith rfl rfl rfl rfl) ?_
 refine s_v rfl rfl rfl rfl (v_move rfl rfl) ?_
 refine s_v rfl rfl rfl rfl (v_conv rfl Try.underlying3 Try.underlying25 rfl) ?_
 refine s_v rfl rfl rfl rfl (v_arith rfl rfl rfl rfl) ?_
 refine s_v rfl rfl rfl rfl (v_assign rfl rfl) ?_
 refine s_end ?_
 refine q_seq ?_
 obtain ⟨j26_, e27_, H⟩ := bind_s H
 refine c_join (β := Unit) (fun _ => True) (fun _ => [(6, .int .u64 0), (7, .bool false), (8, .int .u64 j26_)]) (fun _ => []) rfl (fun _ _ => ?_) (fun J_ => ?_)
 refine c_seq rfl ?_
 refine r_ord (l := [0, 1, 2]) rfl (by kernel_rfl) (by kernel_rfl) ?_
 refine s_v rfl rfl rfl rfl (v_move rfl rfl) ?_
 refine s_v rfl rfl rfl rfl (v_assign rfl rfl) ?_
 refine s_v rfl rfl rfl rfl (v_assign rfl rfl) ?_
 refine s_end ?_
 refine q_seq ?_
 refine c_ret rfl ?_
 have hq_0 := Option.some.inj H
 obtain ⟨ee_0, hq_1⟩ := Prod.mk.inj hq_0
 subst ee_0
 subst hq_1
 exact q_ret (vs := [.int .u64 j26_, .bool true]) rfl (.tmp rfl (.tmp rfl .nil)) [] rfl (by decide) (hX)
 clear H
 have H := e27_
 clear e27_
 refine c_seq rfl ?_
 refine r_ord (l := [0]) rfl (by kernel_rfl) (by kernel_rfl) ?_
 refine s_v rfl rfl rfl rfl (v_move rfl rfl) ?_
 refine s_end ?_
 refine q_seq ?_
 rcases Bool.eq_false_or_eq_true a2 with h28_ | h28_
 subst h28_
 replace H := ite_y rfl H
 refine c_cond1 rfl rfl ?_
 refine r_ord (l := [0, 1, 2]) rfl (by kernel_rfl) (by kernel_rfl) ?_
 refine s_v rfl rfl rfl rfl (v_move rfl rfl) ?_
 refine s_v rfl rfl rfl rfl (v_arith rfl rfl rfl rfl) ?_
 refine s_v rfl rfl rfl rfl (v_assign rfl rfl) ?_
 refine s_end ?_
 have hq_0 := Option.some.inj H
 subst hq_0
 exact q_seq (c_frame (subF_spec (by exact ⟨rfl, rfl, rfl, trivial⟩)) (c_take [] rfl (by decide) (J_ () trivial)))
 subst h28_
 replace H := ite_n (by decide) H
 refine c_cond0 rfl rfl ?_
 refine c_skip rfl ?_
 have hq_0 := Option.some.inj H
 subst hq_0
 exact q_seq (c_frame (subF_spec (by exact ⟨rfl, rfl, rfl, trivial⟩)) (c_take [] rfl (by decide) (J_ () trivial)))
 clear H
 have H := e23_
 clear e23_
 refine r_ord (l := [0, 1, 2, 3, 4, 5, 6, 7, 8, 9, 10, 11, 12, 13]) rfl (by kernel_rfl) (by kernel_rfl) ?_
 refine s_v rfl rfl rfl rfl (v_move rfl rfl) ?_
 refine s_v rfl rfl rfl rfl (v_arith rfl rfl rfl rfl) ?_
 refine s_v rfl rfl rfl rfl (v_move rfl rfl) ?_
 rcases Bool.eq_false_or_eq_true (decide ((a0 : Int) < 0)) with h29_ | h29_
 replace H := ite_y (dec_t h29_) H
 refine s_splitv (d := 11) (t := decide ((a0 : Int) < 0)) rfl (fun _ => ?_) (fun h30_ => absurd (h30_.symm.trans h29_) (by decide))
 refine s_no rfl rfl rfl rfl ?_
 refine s_no rfl rfl rfl rfl ?_
 refine s_v rfl rfl rfl rfl (v_pick rfl rfl rfl rfl) ?_
 refine s_v rfl rfl rfl rfl (v_move rfl rfl) ?_
 refine s_no rfl rfl rfl rfl ?_
 refine s_no rfl rfl rfl rfl ?_
 refine s_v rfl rfl rfl rfl (v_pick rfl rfl rfl rfl) ?_
 refine s_v rfl rfl rfl rfl (v_move rfl rfl) ?_
 refine s_no rfl rfl rfl rfl ?_
 refine s_no rfl rfl rfl rfl ?_
 refine s_v rfl rfl rfl rfl (v_pick rfl rfl rfl rfl) ?_
 refine s_end ?_
 have hq_0 := Option.some.inj H
 subst hq_0
 exact q_seq (c_frame (subF_spec (by exact ⟨rfl, rfl, rfl, rfl, rfl, rfl, trivial⟩)) (c_take [] rfl (by decide) (J_ () trivial)))
 replace H := ite_n (dec_f h29_) H
 refine s_splitv (d := 11) (t := decide ((a0 : Int) < 0)) rfl (fun h31_ => absurd (h31_.symm.trans h29_) (by decide)) (fun _ => ?_)
 refine s_vg rfl rfl rfl rfl (v_move rfl rfl) ?_
 refine s_vg rfl rfl rfl rfl (v_arith rfl rfl rfl rfl) ?_
 refine s_v rfl rfl rfl rfl (v_pick rfl rfl rfl rfl) ?_
 refine s_v rfl rfl rfl rfl (v_move rfl rfl) ?_
 rcases Bool.eq_false_or_eq_true (decide ((a0 : Int) > 4294967295)) with h32_ | h32_
 replace H := ite_y (dec_t h32_) H
 refine s_splitv (d := 15) (t := decide ((a0 : Int) > 4294967295)) rfl (fun _ => ?_) (fun h33_ => absurd (h33_.symm.trans h32_) (by decide))
 refine s_no rfl rfl rfl rfl ?_
 refine s_no rfl rfl rfl rfl ?_
 refine s_v rfl rfl rfl rfl (v_pick rfl rfl rfl rfl) ?_
 refine s_v rfl rfl rfl rfl (v_move rfl rfl) ?_
 refine s_no rfl rfl rfl rfl ?_
 refine s_no rfl rfl rfl rfl ?_
 refine s_v rfl rfl rfl rfl (v_pick rfl rfl rfl rfl) ?_
 refine s_end ?_
 have hq_0 := Option.some.inj H
 subst hq_0
 exact q_seq (c_frame (subF_spec (by exact ⟨rfl, rfl, rfl, rfl, rfl, rfl, trivial⟩)) (c_take [] rfl (by decide) (J_ () trivial)))
 replace H := ite_n (dec_f h32_) H
 refine s_splitv (d := 15) (t := decide ((a0 : Int) > 4294967295)) rfl (fun h34_ => absurd (h34_.symm.trans h32_) (by decide)) (fun _ => ?_)
 refine s_vg rfl rfl rfl rfl (v_move rfl rfl) ?_
 refine s_vg rfl rfl rfl rfl (v_arith rfl rfl rfl rfl) ?_
 refine s_v rfl rfl rfl rfl (v_pick rfl rfl rfl rfl) ?_
 refine s_v rfl rfl rfl rfl (v_move rfl rfl) ?_
 rcases Bool.eq_false_or_eq_true (decide ((a1 : Int) < 0)) with h35_ | h35_
 replace H := ite_y (dec_t h35_) H
 refine s_splitv (d := 19) (t := decide ((a1 : Int) < 0)) rfl (fun _ => ?_) (fun h36_ => absurd (h36_.symm.trans h35_) (by decide))
 refine s_no rfl rfl rfl rfl ?_
 refine s_no rfl rfl rfl rfl ?_
 refine s_v rfl rfl rfl rfl (v_pick rfl rfl rfl rfl) ?_
 refine s_end ?_
 have hq_0 := Option.some.inj H
 subst hq_0
 exact q_seq (c_frame (subF_spec (by exact ⟨rfl, rfl, rfl, rfl, rfl, rfl, trivial⟩)) (c_take [] rfl (by decide) (J_ () trivial)))
 replace H := ite_n (dec_f h35_) H
 refine s_splitv (d := 19) (t := decide ((a1 : Int) < 0)) rfl (fun h37_ => absurd (h37_.symm.trans h35_) (by decide)) (fun _ => ?_)
 refine s_vg rfl rfl rfl rfl (v_move rfl rfl) ?_
 refine s_vg rfl rfl rfl rfl (v_arith rfl rfl rfl rfl) ?_
 refine s_v rfl rfl rfl rfl (v_pick rfl rfl rfl rfl) ?_
 refine s_end ?_
 have hq_0 := Option.some.inj H
 subst hq_0
 exact q_seq (c_frame (subF_spec (by exact ⟨rfl, rfl, rfl, rfl, rfl, rfl, trivial⟩)) (c_take [] rfl (by decide) (J_ () trivial)))
def stepstoneref01_Of.f (a0 : Int) (a1 : Int) : Option Int := (stepstoneref01_Pack.f a0 a1 false).bind fun (t4_, t5_) => some t4_
set_option maxRecDepth 100000 in
set_option maxHeartbeats 4000000 in
theorem stepstoneref01_Of_con (a0 : Int) (a1 : Int) (r0 : Int) (h : stepstoneref01_Of.f a0 a1 = some r0) (w0 : World) (Hs : List Nat) : Con Try.prog 62 #[.int .i64 a0, .int .i64 a1] w0 Hs [] (fun X => X (.int .u64 r0) []) := by
  refine con_enter (c := bodyOf Try.f62) Try.func62 rfl (m := 14) rfl rfl rfl ?_
  intro X hX _
  have H := h
  unfold stepstoneref01_Of.f at H
  clear h
  refine c_seq rfl ?_
  refine r_ord (l := [0]) rfl (by kernel_rfl) (by kernel_rfl) ?_
  refine s_v rfl rfl rfl rfl (v_assign rfl rfl) ?_
  refine s_end ?_
  refine q_seq ?_
  refine c_seq rfl ?_
  refine r_ord (l := [0, 1, 2, 3, 4, 5, 6, 7]) rfl (by kernel_rfl) (by kernel_rfl) ?_
  refine s_v rfl rfl rfl rfl (v_move rfl rfl) ?_
  refine s_v rfl rfl rfl rfl (v_move rfl rfl) ?_
  obtain ⟨⟨t4_, t5_⟩, e6_, H⟩ := bind_s H
  refine s_e rfl rfl (e_callF [] #[.int .i64 a0, .int .i64 a1, .bool false] rfl rfl rfl rfl rfl Try.func78 rfl (by decide) rfl rfl rfl rfl (fun w ht => stepstoneref01_Pack_con a0 a1 false t4_ t5_ e6_ w _)) ?_
  refine s_v rfl rfl rfl rfl (v_move rfl rfl) ?_
  refine s_v rfl rfl rfl rfl (v_ext rfl rfl rfl) ?_
  refine s_v rfl rfl rfl rfl (v_ext rfl rfl rfl) ?_
  refine s_v rfl rfl rfl rfl (v_assign rfl rfl) ?_
  refine s_v rfl rfl rfl rfl (v_assign rfl rfl) ?_
  refine s_end ?_
  refine q_seq ?_
  refine c_seq rfl ?_
  refine r_ord (l := [0, 1]) rfl (by kernel_rfl) (by kernel_rfl) ?_
  refine s_v rfl rfl rfl rfl (v_move rfl rfl) ?_
  refine s_v rfl rfl rfl rfl (v_assign rfl rfl) ?_
  refine s_end ?_
  refine q_seq ?_
  refine c_ret rfl ?_
  have e_ := Option.some.inj H
  subst e_
  exact q_ret (vs := [.int .u64 t4_]) rfl (.tmp rfl .nil) [] rfl (by decide) (hX)
def stepstoneref11_behind.l0 : Nat → List S46 → Int → Int → Option Int
  | 0, _, _, _ => none
  | k + 1, l0, a2, x10_ => (if (x10_ : Int) < (l0.length : Int) then (if 0 ≤ (x10_ : Int) then (if ((rd_T46 l0 x10_).f2 : Int) > a2 then (stepstoneref01_Of.f (IntKind.wrap .i64 (x10_ + 1)) 0).bind fun t38_ => some t38_ else stepstoneref11_behind.l0 k l0 a2 (IntKind.wrap .i64 (x10_ + 1))) else none) else some 0)
def stepstoneref11_behind.f (k : Nat) (l0 : List S46) (a1 : Int) (a2 : Int) : Option Int := stepstoneref11_behind.l0 k l0 a2 (IntKind.wrap .i64 (a1 + 1))
set_option maxRecDepth 100000 in
set_option maxHeartbeats 4000000 in
theorem stepstoneref11_behind_con (k : Nat) (A0 : Option Addr) (c0 : Nat) (l0 : List S46) (a1 : Int) (a2 : Int) (r0 : Int) (h : stepstoneref11_behind.f k l0 a1 a2 = some r0) (w0 : World) (Hs : List Nat) : Con Try.prog 37 #[.slice A0 l0.length c0, .int .i64 a1, .int .i64 a2] w0 Hs [.f (KC k46 A0 c0 l0)] (fun X => X (.int .u64 r0) []) := by
  refine con_enter (c := bodyOf Try.f37) Try.func37 rfl (m := 26) rfl rfl rfl ?_
  intro X hX _
  have H := h
  unfold stepstoneref11_behind.f at H
  clear h
  refine c_seq rfl ?_
  refine r_ord (l := [0]) rfl (by kernel_rfl) (by kernel_rfl) ?_
  refine s_v rfl rfl rfl rfl (v_assign rfl rfl) ?_
  refine s_end ?_
  refine q_seq ?_
  refine c_seq rfl ?_
  refine c_seq rfl ?_
  refine r_ord (l := [0, 1, 2]) rfl (by kernel_rfl) (by kernel_rfl) ?_
  refine s_v rfl rfl rfl rfl (v_move rfl rfl) ?_
  refine s_v rfl rfl rfl rfl (v_arith rfl rfl rfl rfl) ?_
  refine s_v rfl rfl rfl rfl (v_assign rfl rfl) ?_
  refine s_end ?_
  refine q_seq ?_
  refine c_block rfl ?_
  refine c_loop (σ := Nat × Int) (fun s_ : Nat × Int => match s_ with | (k, x10_) => stepstoneref11_behind.l0 k l0 a2 x10_ = some r0) (fun s_ : Nat × Int => match s_ with | (k, x10_) => k) (fun s_ : Nat × Int => match s_ with | (k, x10_) => [(0, .slice A0 l0.length c0), (2, .int .i64 a2), (6, .int .u64 0), (7, .int .i64 x10_)]) (fun s_ : Nat × Int => match s_ with | (k, x10_) => [.f (KC k46 A0 c0 l0)]) (k, IntKind.wrap .i64 (a1 + 1)) [0] rfl H (subF_spec ⟨rfl, rfl, rfl, rfl, trivial⟩) rfl (by decide) ?_
  rintro ⟨k0_, x10_⟩ hs20_
  clear H
  have H : stepstoneref11_behind.l0 k0_ l0 a2 x10_ = some r0 := hs20_
  try clear hs20_
  rcases k0_ with _ | k0_
  · exact none_no (show none = _ from H)
  unfold stepstoneref11_behind.l0 at H
  have hko_0 : k0_ ≤ k0_ := Nat.le_refl _
  refine c_seq rfl ?_
  refine c_seq rfl ?_
  refine r_ord (l := [0, 1, 2, 3]) rfl (by kernel_rfl) (by kernel_rfl) ?_
  refine s_v rfl rfl rfl rfl (v_move rfl rfl) ?_
  refine s_v rfl rfl rfl rfl (v_move rfl rfl) ?_
  refine s_v rfl rfl rfl rfl (v_len rfl rfl rfl Try.underlying42 rfl rfl) ?_
  refine s_v rfl rfl rfl rfl (v_arith rfl rfl rfl rfl) ?_
  refine s_end ?_
  refine q_seq ?_
  rcases Bool.eq_false_or_eq_true (decide ((x10_ : Int) < (l0.length : Int))) with h24_ | h24_
  ·
    replace H := ite_y (dec_t h24_) H
    refine c_cond rfl rfl (fun _ => ?_) (fun h25_ => absurd (h25_.symm.trans h24_) (by decide))
    refine c_skip rfl ?_
    refine q_seq ?_
    refine c_seq rfl ?_
    refine c_block rfl ?_
    refine c_seq rfl ?_
    refine r_ord (l := [0, 1, 2, 3, 4, 5, 6]) rfl (by kernel_rfl) (by kernel_rfl) ?_
    refine s_v rfl rfl rfl rfl (v_move rfl rfl) ?_
    refine s_v rfl rfl rfl rfl (v_move rfl rfl) ?_
    obtain ⟨n33_, H⟩ := ite_no H
    refine s_v rfl rfl rfl rfl (v_iaK (i := 0) rfl Try.underlying42 SZ46 rfl rfl rfl rfl n33_ (dec_t h24_)) ?_
    refine s_v rfl rfl rfl rfl (v_fax rfl Try.underlying46 rfl SZ3 rfl) ?_
    refine s_v rfl rfl rfl rfl (v_ldKf (v := .int .i64 ((rd_T46 l0 x10_).f2)) z46 [.int .u64 ((rd_T46 l0 x10_).f0), .int .u64 ((rd_T46 l0 x10_).f1), .int .i64 ((rd_T46 l0 x10_).f2), .int .i64 ((rd_T46 l0 x10_).f3), .bool ((rd_T46 l0 x10_).f4)] 0 rfl Try.underlying3 rfl rfl rfl rfl n33_ (dec_t h24_) (fun w K h => k46_open h) rfl) ?_
    refine s_v rfl rfl rfl rfl (v_move rfl rfl) ?_
    refine s_v rfl rfl rfl rfl (v_arith rfl rfl rfl rfl) ?_
    refine s_end ?_
    refine q_seq ?_
    rcases Bool.eq_false_or_eq_true (decide (((rd_T46 l0 x10_).f2 : Int) > a2)) with h34_ | h34_
    ·
      replace H := ite_y (dec_t h34_) H
      refine c_cond rfl rfl (fun _ => ?_) (fun h35_ => absurd (h35_.symm.trans h34_) (by decide))
      refine c_seq rfl ?_
      refine r_ord (l := [0, 1, 2, 3]) rfl (by kernel_rfl) (by kernel_rfl) ?_
      refine s_v rfl rfl rfl rfl (v_move rfl rfl) ?_
      refine s_v rfl rfl rfl rfl (v_arith rfl rfl rfl rfl) ?_
      obtain ⟨t38_, e39_, H⟩ := bind_s H
      refine s_e rfl rfl (e_callF [] #[.int .i64 (IntKind.wrap .i64 (x10_ + 1)), .int .i64 0] rfl rfl rfl rfl rfl Try.func62 rfl (by decide) rfl rfl rfl rfl (fun w ht => stepstoneref01_Of_con (IntKind.wrap .i64 (x10_ + 1)) 0 t38_ e39_ w _)) ?_
      refine s_v rfl rfl rfl rfl (v_assign rfl rfl) ?_
      refine s_end ?_
      refine q_seq ?_
      refine c_ret rfl ?_
      refine q_block_ret ?_
      refine q_then_ret ?_
      refine q_then_ret ?_
      refine q_block_ret ?_
      refine q_then_ret ?_
      have e_ := Option.some.inj H
      subst e_
      exact q_ret (vs := [.int .u64 t38_]) rfl (.tmp rfl .nil) [] rfl (by decide) (hX)
    ·
      replace H := ite_n (dec_f h34_) H
      refine c_cond rfl rfl (fun h40_ => absurd (h40_.symm.trans h34_) (by decide)) (fun _ => ?_)
      refine c_skip rfl ?_
      refine q_block ?_
      refine q_seq ?_
      refine r_ord (l := [0, 1, 2]) rfl (by kernel_rfl) (by kernel_rfl) ?_
      refine s_v rfl rfl rfl rfl (v_move rfl rfl) ?_
      refine s_v rfl rfl rfl rfl (v_arith rfl rfl rfl rfl) ?_
      refine s_v rfl rfl rfl rfl (v_assign rfl rfl) ?_
      refine s_end ?_
      exact q_again (k0_, IntKind.wrap .i64 (x10_ + 1)) [0] H (Nat.lt_succ_of_le hko_0) (subF_spec ⟨rfl, rfl, rfl, rfl, trivial⟩) rfl (by decide)
  ·
    replace H := ite_n (dec_f h24_) H
    refine c_cond rfl rfl (fun h41_ => absurd (h41_.symm.trans h24_) (by decide)) (fun _ => ?_)
    refine c_exit (i := 0) rfl rfl ?_
    refine q_then_exit ?_
    refine q_then_exit ?_
    refine q_block_here rfl ?_
    refine q_seq ?_
    refine c_seq rfl ?_
    refine r_ord (l := [0]) rfl (by kernel_rfl) (by kernel_rfl) ?_
    refine s_v rfl rfl rfl rfl (v_assign rfl rfl) ?_
    refine s_end ?_
    refine q_seq ?_
    refine c_ret rfl ?_
    have e_ := Option.some.inj H
    subst e_
    exact q_ret (vs := [.int .u64 0]) rfl (.tmp rfl .nil) [] rfl (by decide) (hX)
def stepstoneref01_Mark.f (a0 : Int) : Option Int := (stepstoneref01_Marked.f a0).bind fun t6_ => (if t6_ = true then some a0 else some (IntKind.wrap .u64 (a0 + 4611686018427387904)))
set_option maxRecDepth 100000 in
set_option maxHeartbeats 4000000 in
theorem stepstoneref01_Mark_con (a0 : Int) (r0 : Int) (h : stepstoneref01_Mark.f a0 = some r0) (w0 : World) (Hs : List Nat) : Con Try.prog 40 #[.int .u64 a0] w0 Hs [] (fun X => X (.int .u64 r0) []) := by
 refine con_enter (c := bodyOf Try.f40) Try.func40 rfl (m := 8) rfl rfl rfl ?_
 intro X hX _
 have H := h
 unfold stepstoneref01_Mark.f at H
 clear h
 refine c_seq rfl ?_
 refine r_ord (l := [0]) rfl (by kernel_rfl) (by kernel_rfl) ?_
 refine s_v rfl rfl rfl rfl (v_assign rfl rfl) ?_
 refine s_end ?_
 refine q_seq ?_
 refine c_seq rfl ?_
 refine c_seq rfl ?_
 refine r_ord (l := [0, 1]) rfl (by kernel_rfl) (by kernel_rfl) ?_
 refine s_v rfl rfl rfl rfl (v_move rfl rfl) ?_
 obtain ⟨t6_, e7_, H⟩ := bind_s H
 refine s_e rfl rfl (e_callF [] #[.int .u64 a0] rfl rfl rfl rfl rfl Try.func53 rfl (by decide) rfl rfl rfl rfl (fun w ht => stepstoneref01_Marked_con a0 t6_ e7_ w _)) ?_
 refine s_end ?_
 refine q_seq ?_
 rcases Bool.eq_false_or_eq_true t6_ with h8_ | h8_
 subst h8_
 replace H := ite_y rfl H
 refine c_cond1 rfl rfl ?_
 refine c_seq rfl ?_
 refine r_ord (l := [0, 1]) rfl (by kernel_rfl) (by kernel_rfl) ?_
 refine s_v rfl rfl rfl rfl (v_move rfl rfl) ?_
 refine s_v rfl rfl rfl rfl (v_assign rfl rfl) ?_
 refine s_end ?_
 refine q_seq ?_
 refine c_ret rfl ?_
 refine q_then_ret ?_
 have e_ := Option.some.inj H
 subst e_
 exact q_ret (vs := [.int .u64 a0]) rfl (.tmp rfl .nil) [] rfl (by decide) (hX)
 subst h8_
 replace H := ite_n (by decide) H
 refine c_cond0 rfl rfl ?_
 refine c_skip rfl ?_
 refine q_seq ?_
 refine c_seq rfl ?_
 refine r_ord (l := [0, 1, 2]) rfl (by kernel_rfl) (by kernel_rfl) ?_
 refine s_v rfl rfl rfl rfl (v_move rfl rfl) ?_
 refine s_v rfl rfl rfl rfl (v_arith rfl rfl rfl rfl) ?_
 refine s_v rfl rfl rfl rfl (v_assign rfl rfl) ?_
 refine s_end ?_
 refine q_seq ?_
 refine c_ret rfl ?_
 have e_ := Option.some.inj H
 subst e_
 exact q_ret (vs := [.int .u64 (IntKind.wrap .u64 (a0 + 4611686018427387904))]) rfl (.tmp rfl .nil) [] rfl (by decide) (hX)
mutual
def stepstoneref11_Lay.l2 : Nat → Int → Int → Int → Int → Int → Int → Int → List S46 → List Int → Int → Int → List Int → Option (List Int)
  | 0, _, _, _, _, _, _, _, _, _, _, _, _ => none
  | k + 1, a0_0, a0_1, a0_2, a0_3, a0_4, a0_5, a0_6, l1, t29_, x262_, x521_, xs522_ => (if (x521_ : Int) < ((rd_T46 l1 x262_).f2) then (stepstoneref11_behind.f k l1 x262_ x521_).bind fun t564_ => ((if (x521_ : Int) ≥ (IntKind.wrap .i64 (((rd_T46 l1 x262_).f2) - ((rd_T46 l1 x262_).f3))) then (stepstoneref01_Mark.f t564_).bind fun t579_ => some t579_ else some t564_) : Option Int).bind fun j571_ => (stepstoneref04_Cell.f a0_0 a0_1 a0_2 a0_3 a0_4 a0_5 a0_6 (IntKind.wrap .i64 (x262_ + 1)) (IntKind.wrap .i64 (6 + x521_))).bind fun t573_ => (if 0 ≤ (t573_ : Int) then (if (t573_ : Int) < ((([] : List Int) ++ t29_).length : Int) then stepstoneref11_Lay.l2 k a0_0 a0_1 a0_2 a0_3 a0_4 a0_5 a0_6 l1 t29_ x262_ (IntKind.wrap .i64 (x521_ + 1)) (xs522_.set (Int.toNat t573_) j571_) else none) else none) else stepstoneref11_Lay.l1 k a0_0 a0_1 a0_2 a0_3 a0_4 a0_5 a0_6 l1 t29_ (IntKind.wrap .i64 (x262_ + 1)) xs522_)
def stepstoneref11_Lay.l3 : Nat → Int → Int → Int → Int → Int → Int → Int → List S46 → List Int → Int → Int → List Int → Option (List Int)
  | 0, _, _, _, _, _, _, _, _, _, _, _, _ => none
  | k + 1, a0_0, a0_1, a0_2, a0_3, a0_4, a0_5, a0_6, l1, t29_, x262_, x626_, xs627_ => (if (x626_ : Int) < ((rd_T46 l1 x262_).f2) then (stepstoneref11_behind.f k l1 x262_ x626_).bind fun t669_ => ((if (x626_ : Int) ≥ (IntKind.wrap .i64 (((rd_T46 l1 x262_).f2) - ((rd_T46 l1 x262_).f3))) then (stepstoneref01_Mark.f t669_).bind fun t684_ => some t684_ else some t669_) : Option Int).bind fun j676_ => (stepstoneref04_Cell.f a0_0 a0_1 a0_2 a0_3 a0_4 a0_5 a0_6 (IntKind.wrap .i64 (x262_ + 1)) (IntKind.wrap .i64 (6 + x626_))).bind fun t678_ => (if 0 ≤ (t678_ : Int) then (if (t678_ : Int) < ((([] : List Int) ++ t29_).length : Int) then stepstoneref11_Lay.l3 k a0_0 a0_1 a0_2 a0_3 a0_4 a0_5 a0_6 l1 t29_ x262_ (IntKind.wrap .i64 (x626_ + 1)) (xs627_.set (Int.toNat t678_) j676_) else none) else none) else stepstoneref11_Lay.l1 k a0_0 a0_1 a0_2 a0_3 a0_4 a0_5 a0_6 l1 t29_ (IntKind.wrap .i64 (x262_ + 1)) xs627_)
def stepstoneref11_Lay.l1 : Nat → Int → Int → Int → Int → Int → Int → Int → List S46 → List Int → Int → List Int → Option (List Int)
  | 0, _, _, _, _, _, _, _, _, _, _, _ => none
  | k + 1, a0_0, a0_1, a0_2, a0_3, a0_4, a0_5, a0_6, l1, t29_, x262_, xs263_ => (if (x262_ : Int) < (l1.length : Int) then (if 0 ≤ (x262_ : Int) then (stepstoneref04_Cell.f a0_0 a0_1 a0_2 a0_3 a0_4 a0_5 a0_6 (IntKind.wrap .i64 (x262_ + 1)) 0).bind fun t444_ => (stepstoneref02_Taken.f 0).bind fun t446_ => (if 0 ≤ (t444_ : Int) then (if (t444_ : Int) < ((([] : List Int) ++ t29_).length : Int) then (stepstoneref04_Cell.f a0_0 a0_1 a0_2 a0_3 a0_4 a0_5 a0_6 (IntKind.wrap .i64 (x262_ + 1)) 1).bind fun t454_ => (if 0 ≤ (t454_ : Int) then (if (t454_ : Int) < ((([] : List Int) ++ t29_).length : Int) then (stepstoneref04_Cell.f a0_0 a0_1 a0_2 a0_3 a0_4 a0_5 a0_6 (IntKind.wrap .i64 (x262_ + 1)) 2).bind fun t462_ => (if 0 ≤ (t462_ : Int) then (if (t462_ : Int) < ((([] : List Int) ++ t29_).length : Int) then (if ((rd_T46 l1 x262_).f4) = true then (stepstoneref04_Cell.f a0_0 a0_1 a0_2 a0_3 a0_4 a0_5 a0_6 (IntKind.wrap .i64 (x262_ + 1)) 2).bind fun t475_ => (if 0 ≤ (t475_ : Int) then (if (t475_ : Int) < ((([] : List Int) ++ t29_).length : Int) then (stepstoneref04_Cell.f a0_0 a0_1 a0_2 a0_3 a0_4 a0_5 a0_6 (IntKind.wrap .i64 (x262_ + 1)) 3).bind fun t483_ => (if 0 ≤ (t483_ : Int) then (if (t483_ : Int) < ((([] : List Int) ++ t29_).length : Int) then (stepstoneref04_Cell.f a0_0 a0_1 a0_2 a0_3 a0_4 a0_5 a0_6 (IntKind.wrap .i64 (x262_ + 1)) 4).bind fun t491_ => (if 0 ≤ (t491_ : Int) then (if (t491_ : Int) < ((([] : List Int) ++ t29_).length : Int) then (stepstoneref04_Cell.f a0_0 a0_1 a0_2 a0_3 a0_4 a0_5 a0_6 (IntKind.wrap .i64 (x262_ + 1)) 5).bind fun t499_ => (if 0 ≤ (t499_ : Int) then (if (t499_ : Int) < ((([] : List Int) ++ t29_).length : Int) then stepstoneref11_Lay.l2 k a0_0 a0_1 a0_2 a0_3 a0_4 a0_5 a0_6 l1 t29_ x262_ 0 (((((((xs263_.set (Int.toNat t444_) t446_).set (Int.toNat t454_) ((rd_T46 l1 x262_).f0)).set (Int.toNat t462_) (IntKind.wrap .u64 (2 * ((rd_T46 l1 x262_).f1)))).set (Int.toNat t475_) (IntKind.wrap .u64 ((IntKind.wrap .u64 (2 * ((rd_T46 l1 x262_).f1))) + 1))).set (Int.toNat t483_) 1).set (Int.toNat t491_) (IntKind.wrap .u64 ((rd_T46 l1 x262_).f2))).set (Int.toNat t499_) 1) else none) else none) else none) else none) else none) else none) else none) else none) else (stepstoneref04_Cell.f a0_0 a0_1 a0_2 a0_3 a0_4 a0_5 a0_6 (IntKind.wrap .i64 (x262_ + 1)) 3).bind fun t588_ => (if 0 ≤ (t588_ : Int) then (if (t588_ : Int) < ((([] : List Int) ++ t29_).length : Int) then (stepstoneref04_Cell.f a0_0 a0_1 a0_2 a0_3 a0_4 a0_5 a0_6 (IntKind.wrap .i64 (x262_ + 1)) 4).bind fun t596_ => (if 0 ≤ (t596_ : Int) then (if (t596_ : Int) < ((([] : List Int) ++ t29_).length : Int) then (stepstoneref04_Cell.f a0_0 a0_1 a0_2 a0_3 a0_4 a0_5 a0_6 (IntKind.wrap .i64 (x262_ + 1)) 5).bind fun t604_ => (if 0 ≤ (t604_ : Int) then (if (t604_ : Int) < ((([] : List Int) ++ t29_).length : Int) then stepstoneref11_Lay.l3 k a0_0 a0_1 a0_2 a0_3 a0_4 a0_5 a0_6 l1 t29_ x262_ 0 ((((((xs263_.set (Int.toNat t444_) t446_).set (Int.toNat t454_) ((rd_T46 l1 x262_).f0)).set (Int.toNat t462_) (IntKind.wrap .u64 (2 * ((rd_T46 l1 x262_).f1)))).set (Int.toNat t588_) 1).set (Int.toNat t596_) (IntKind.wrap .u64 ((rd_T46 l1 x262_).f2))).set (Int.toNat t604_) 1) else none) else none) else none) else none) else none) else none)) else none) else none) else none) else none) else none) else none) else none) else some xs263_)
def stepstoneref11_Lay.l0 : Nat → Int → Int → Int → Int → Int → Int → Int → List S46 → List Int → Int → List Int → Option (List Int)
  | 0, _, _, _, _, _, _, _, _, _, _, _ => none
  | k + 1, a0_0, a0_1, a0_2, a0_3, a0_4, a0_5, a0_6, l1, t29_, x69_, xs70_ => (if (x69_ : Int) < a0_3 then (stepstoneref04_Cell.f a0_0 a0_1 a0_2 a0_3 a0_4 a0_5 a0_6 0 (IntKind.wrap .i64 (6 + x69_))).bind fun t92_ => (stepstoneref11_behind.f k l1 (-1) x69_).bind fun t94_ => (if 0 ≤ (t92_ : Int) then (if (t92_ : Int) < ((([] : List Int) ++ t29_).length : Int) then stepstoneref11_Lay.l0 k a0_0 a0_1 a0_2 a0_3 a0_4 a0_5 a0_6 l1 t29_ (IntKind.wrap .i64 (x69_ + 1)) (xs70_.set (Int.toNat t92_) t94_) else none) else none) else stepstoneref11_Lay.l1 k a0_0 a0_1 a0_2 a0_3 a0_4 a0_5 a0_6 l1 t29_ 0 xs70_)
end
def stepstoneref11_Lay.f (k : Nat) (a0_0 : Int) (a0_1 : Int) (a0_2 : Int) (a0_3 : Int) (a0_4 : Int) (a0_5 : Int) (a0_6 : Int) (l1 : List S46) : Option (List Int) := (stepstoneref05_New.f a0_0 a0_1 a0_2 a0_3 a0_4 a0_5 a0_6).bind fun (t22_, t23_, t24_, t25_, t26_, t27_, t28_, t29_, t30_, t31_, t32_, t33_, t34_, t35_, t36_) => (if ([] : List Int).length + t29_.length < 17592186044416 then stepstoneref11_Lay.l0 k a0_0 a0_1 a0_2 a0_3 a0_4 a0_5 a0_6 l1 t29_ 0 (([] : List Int) ++ t29_) else none)
set_option maxRecDepth 100000 in
set_option maxHeartbeats 4000000 in
theorem stepstoneref11_Lay_con (k : Nat) (a0_0 : Int) (a0_1 : Int) (a0_2 : Int) (a0_3 : Int) (a0_4 : Int) (a0_5 : Int) (a0_6 : Int) (A1 : Option Addr) (c1 : Nat) (l1 : List S46) (r0 : List Int) (h : stepstoneref11_Lay.f k a0_0 a0_1 a0_2 a0_3 a0_4 a0_5 a0_6 l1 = some r0) (w0 : World) (Hs : List Nat) : Con Try.prog 16 #[.agg #[.int .i64 a0_0, .int .i64 a0_1, .int .i64 a0_2, .int .i64 a0_3, .int .i64 a0_4, .int .i64 a0_5, .int .i64 a0_6], .slice A1 l1.length c1] w0 Hs [.f (KC k46 A1 c1 l1)] (fun X => ∀ A_r0 c_r0, X (.slice A_r0 r0.length c_r0) [.f (KC (Kd.int .u64) A_r0 c_r0 r0)]) := by
  refine con_enter (c := bodyOf Try.f16) Try.func16 rfl (m := 130) rfl rfl rfl ?_
  intro X hX _
  have H := h
  unfold stepstoneref11_Lay.f at H
  clear h
  refine c_seq rfl ?_
  refine r_ord (l := [0, 1]) rfl (by kernel_rfl) (by kernel_rfl) ?_
  refine s_e rfl rfl (e_box rfl rfl rfl rfl) ?_
  intro b2_
  refine s_v rfl rfl rfl rfl (v_assign rfl rfl) ?_
  refine s_end ?_
  refine q_seq ?_
  refine c_seq rfl ?_
  refine r_ord (l := [0, 1, 2, 3]) rfl (by kernel_rfl) (by kernel_rfl) ?_
  refine s_v rfl rfl rfl rfl (v_ldA [.int .i64 a0_0, .int .i64 a0_1, .int .i64 a0_2, .int .i64 a0_3, .int .i64 a0_4, .int .i64 a0_5, .int .i64 a0_6] 0 rfl Try.underlying23 rfl SZ23 rfl rfl rfl rfl) ?_
  obtain ⟨⟨t22_, t23_, t24_, t25_, t26_, t27_, t28_, t29_, t30_, t31_, t32_, t33_, t34_, t35_, t36_⟩, e37_, H⟩ := bind_s H
  refine s_e rfl rfl (e_callF [] #[.agg #[.int .i64 a0_0, .int .i64 a0_1, .int .i64 a0_2, .int .i64 a0_3, .int .i64 a0_4, .int .i64 a0_5, .int .i64 a0_6]] rfl rfl rfl rfl rfl Try.func24 rfl (by decide) rfl rfl rfl rfl (fun w ht => stepstoneref05_New_con a0_0 a0_1 a0_2 a0_3 a0_4 a0_5 a0_6 t22_ t23_ t24_ t25_ t26_ t27_ t28_ t29_ t30_ t31_ t32_ t33_ t34_ t35_ t36_ e37_ w _)) ?_
  intro A38_ c39_
  refine s_e rfl rfl (e_alloc rfl rfl rfl ZR59) ?_
  intro b40_
  refine s_e rfl rfl (e_stA 0 rfl rfl SZ59 rfl rfl rfl rfl rfl rfl) ?_
  refine s_end ?_
  refine q_seq ?_
  refine c_seq rfl ?_
  refine r_ord (l := [0, 1, 2, 3, 4, 5]) rfl (by kernel_rfl) (by kernel_rfl) ?_
  refine s_e rfl rfl (e_bslice0 rfl rfl rfl Try.underlying24 SZ25) ?_
  intro b46_
  refine s_v rfl rfl rfl rfl (v_fa rfl Try.underlying59 rfl SZ57 rfl) ?_
  refine s_v rfl rfl rfl rfl (v_fa rfl Try.underlying57 rfl SZ24 rfl) ?_
  refine s_v rfl rfl rfl rfl (v_ld 1 rfl Try.underlying24 rfl rfl rfl rfl) ?_
  obtain ⟨n47_, H⟩ := ite_no H
  refine s_e rfl rfl (e_appOK (flat_int .u64) (xs := ([] : List Int)) (ro := (some (b46_, 0, #[]))) (l := t29_) (z := (.int .u64 0)) (m := 1) (bytes := 8) (i := 2) (j := 0) rfl rfl rfl rfl rfl rfl Try.underlying24 (by kernel_rfl) rfl rfl rfl rfl orow_empty rfl rfl rfl (by first | omega | (simp only [List.length_nil, Nat.zero_add]; omega)) (by simp only [maxLen]; first | omega | (simp only [List.length_nil, Nat.zero_add]; omega))) ?_
  intro ro48_ hr49_ sm50_
  refine s_v rfl rfl rfl rfl (v_assign rfl rfl) ?_
  refine s_end ?_
  refine q_seq ?_
  refine c_seq rfl ?_
  refine c_seq rfl ?_
  refine r_ord (l := [0]) rfl (by kernel_rfl) (by kernel_rfl) ?_
  refine s_v rfl rfl rfl rfl (v_assign rfl rfl) ?_
  refine s_end ?_
  refine q_seq ?_
  refine c_block rfl ?_
  rcases ro48_ with _ | ⟨g51_, cap52_, cur53_⟩
  · exact Bool.noConfusion (show false = true from (sm50_ rfl))
  obtain ⟨h54_, h55_, h56_, h57_⟩ := hr49_
  obtain ⟨rest58_, he59_⟩ : ∃ rest, cur53_ = RowI .u64 (([] : List Int) ++ t29_) rest := ⟨_, RowI_of (by rw [h57_]; exact flat_map_int)⟩
  subst he59_
  refine c_loop (σ := Nat × Int × List Int) (fun s_ : Nat × Int × List Int => match s_ with | (k, x69_, xs70_) => stepstoneref11_Lay.l0 k a0_0 a0_1 a0_2 a0_3 a0_4 a0_5 a0_6 l1 t29_ x69_ xs70_ = some r0 ∧ xs70_.length = (([] : List Int) ++ t29_).length) (fun s_ : Nat × Int × List Int => match s_ with | (k, x69_, xs70_) => k) (fun s_ : Nat × Int × List Int => match s_ with | (k, x69_, xs70_) => [(1, .slice A1 l1.length c1), (2, .pointer (some ⟨b2_, 0, none⟩)), (4, .slice none 0 0), (6, .slice (some ⟨g51_, 0, none⟩) ((([] : List Int) ++ t29_).length) cap52_), (7, .int .i64 x69_)]) (fun s_ : Nat × Int × List Int => match s_ with | (k, x69_, xs70_) => [.b g51_ (.cells (RowI .u64 xs70_ rest58_) 25 (0, 0)), .b b40_ (.cells #[.int .i64 t22_, .int .i64 t23_, .int .i64 t24_, .int .i64 t25_, .int .i64 t26_, .int .i64 t27_, .int .i64 t28_, .slice A38_ t29_.length c39_, .int .i64 t30_, .int .i64 t31_, .int .i64 t32_, .int .u64 t33_, .int .u64 t34_, .int .u64 t35_, .bool t36_] 59 (0, 0)), .f (KC (Kd.int .u64) A38_ c39_ t29_), .b b2_ (.cells #[.int .i64 a0_0, .int .i64 a0_1, .int .i64 a0_2, .int .i64 a0_3, .int .i64 a0_4, .int .i64 a0_5, .int .i64 a0_6] 23 (0, 0)), .f (KC k46 A1 c1 l1)]) (k, 0, (([] : List Int) ++ t29_)) [0, 1, 2, 3, 4] rfl ⟨H, rfl⟩ (subF_spec ⟨rfl, rfl, rfl, rfl, rfl, trivial⟩) rfl (by decide) ?_
  rintro ⟨k0_, x69_, xs70_⟩ hs80_
  clear H
  obtain ⟨H, lh_xs70_⟩ : stepstoneref11_Lay.l0 k0_ a0_0 a0_1 a0_2 a0_3 a0_4 a0_5 a0_6 l1 t29_ x69_ xs70_ = some r0 ∧ xs70_.length = (([] : List Int) ++ t29_).length := hs80_
  try clear hs80_
  rcases k0_ with _ | k0_
  · exact none_no (show none = _ from H)
  unfold stepstoneref11_Lay.l0 at H
  have hko_0 : k0_ ≤ k0_ := Nat.le_refl _
  refine c_seq rfl ?_
  refine c_seq rfl ?_
  refine r_ord (l := [0, 1, 2, 3]) rfl (by kernel_rfl) (by kernel_rfl) ?_
  refine s_v rfl rfl rfl rfl (v_move rfl rfl) ?_
  refine s_v rfl rfl rfl rfl (v_fa rfl Try.underlying23 rfl SZ3 rfl) ?_
  refine s_v rfl rfl rfl rfl (v_ld 3 rfl Try.underlying3 rfl rfl rfl rfl) ?_
  refine s_v rfl rfl rfl rfl (v_arith rfl rfl rfl rfl) ?_
  refine s_end ?_
  refine q_seq ?_
  rcases Bool.eq_false_or_eq_true (decide ((x69_ : Int) < a0_3)) with h84_ | h84_
  ·
    replace H := ite_y (dec_t h84_) H
    refine c_cond rfl rfl (fun _ => ?_) (fun h85_ => absurd (h85_.symm.trans h84_) (by decide))
    refine c_skip rfl ?_
    refine q_seq ?_
    refine c_seq rfl ?_
    refine c_block rfl ?_
    refine r_ord (l := [0, 1, 2, 3, 4, 5, 6, 7, 8, 9]) rfl (by kernel_rfl) (by kernel_rfl) ?_
    refine s_v rfl rfl rfl rfl (v_move rfl rfl) ?_
    refine s_v rfl rfl rfl rfl (v_ldA [.int .i64 a0_0, .int .i64 a0_1, .int .i64 a0_2, .int .i64 a0_3, .int .i64 a0_4, .int .i64 a0_5, .int .i64 a0_6] 3 rfl Try.underlying23 rfl SZ23 rfl rfl rfl rfl) ?_
    refine s_v rfl rfl rfl rfl (v_move rfl rfl) ?_
    refine s_v rfl rfl rfl rfl (v_arith rfl rfl rfl rfl) ?_
    obtain ⟨t92_, e93_, H⟩ := bind_s H
    refine s_e rfl rfl (e_callF [] #[.agg #[.int .i64 a0_0, .int .i64 a0_1, .int .i64 a0_2, .int .i64 a0_3, .int .i64 a0_4, .int .i64 a0_5, .int .i64 a0_6], .int .i64 0, .int .i64 (IntKind.wrap .i64 (6 + x69_))] rfl rfl rfl rfl rfl Try.func38 rfl (by decide) rfl rfl rfl rfl (fun w ht => stepstoneref04_Cell_con a0_0 a0_1 a0_2 a0_3 a0_4 a0_5 a0_6 0 (IntKind.wrap .i64 (6 + x69_)) t92_ e93_ w _)) ?_
    refine s_v rfl rfl rfl rfl (v_move rfl rfl) ?_
    refine s_v rfl rfl rfl rfl (v_move rfl rfl) ?_
    obtain ⟨t94_, e95_, H⟩ := bind_s H
    refine s_e rfl rfl (e_callF [4] #[.slice A1 l1.length c1, .int .i64 (-1), .int .i64 x69_] rfl rfl rfl rfl rfl Try.func37 rfl (by decide) rfl rfl rfl rfl (fun w ht => stepstoneref11_behind_con _ A1 c1 l1 (-1) x69_ t94_ e95_ w _)) ?_
    obtain ⟨n96_, H⟩ := ite_no H
    obtain ⟨n97_, H⟩ := ite_no H
    refine s_v rfl rfl rfl rfl (v_iaI rfl Try.underlying24 SZ25 rfl rfl n96_ n97_) ?_
    refine s_e rfl rfl (e_stI 0 rfl rfl SZ25 rfl rfl rfl n96_ (lt_lh lh_xs70_ n97_)) ?_
    refine s_end ?_
    refine q_block ?_
    refine q_seq ?_
    refine r_ord (l := [0, 1, 2]) rfl (by kernel_rfl) (by kernel_rfl) ?_
    refine s_v rfl rfl rfl rfl (v_move rfl rfl) ?_
    refine s_v rfl rfl rfl rfl (v_arith rfl rfl rfl rfl) ?_
    refine s_v rfl rfl rfl rfl (v_assign rfl rfl) ?_
    refine s_end ?_
    exact q_again (k0_, IntKind.wrap .i64 (x69_ + 1), (xs70_.set (Int.toNat t92_) t94_)) [0, 1, 2, 3, 4] ⟨H, (lh_set lh_xs70_)⟩ (Nat.lt_succ_of_le hko_0) (subF_spec ⟨rfl, rfl, rfl, rfl, rfl, trivial⟩) rfl (by decide)
  ·
    replace H := ite_n (dec_f h84_) H
    refine c_cond rfl rfl (fun h98_ => absurd (h98_.symm.trans h84_) (by decide)) (fun _ => ?_)
    refine c_exit (i := 0) rfl rfl ?_
    refine q_then_exit ?_
    refine q_then_exit ?_
    refine q_block_here rfl ?_
    refine q_seq ?_
    refine c_seq rfl ?_
    refine c_seq rfl ?_
    refine r_ord (l := [0]) rfl (by kernel_rfl) (by kernel_rfl) ?_
    refine s_v rfl rfl rfl rfl (v_assign rfl rfl) ?_
    refine s_end ?_
    refine q_seq ?_
    refine c_block rfl ?_
    refine c_loop (σ := Nat × Int × List Int) (fun s_ : Nat × Int × List Int => match s_ with | (k, x262_, xs263_) => stepstoneref11_Lay.l1 k a0_0 a0_1 a0_2 a0_3 a0_4 a0_5 a0_6 l1 t29_ x262_ xs263_ = some r0 ∧ xs263_.length = (([] : List Int) ++ t29_).length) (fun s_ : Nat × Int × List Int => match s_ with | (k, x262_, xs263_) => k) (fun s_ : Nat × Int × List Int => match s_ with | (k, x262_, xs263_) => [(1, .slice A1 l1.length c1), (2, .pointer (some ⟨b2_, 0, none⟩)), (4, .slice none 0 0), (6, .slice (some ⟨g51_, 0, none⟩) ((([] : List Int) ++ t29_).length) cap52_), (8, .int .i64 x262_)]) (fun s_ : Nat × Int × List Int => match s_ with | (k, x262_, xs263_) => [.b g51_ (.cells (RowI .u64 xs263_ rest58_) 25 (0, 0)), .b b40_ (.cells #[.int .i64 t22_, .int .i64 t23_, .int .i64 t24_, .int .i64 t25_, .int .i64 t26_, .int .i64 t27_, .int .i64 t28_, .slice A38_ t29_.length c39_, .int .i64 t30_, .int .i64 t31_, .int .i64 t32_, .int .u64 t33_, .int .u64 t34_, .int .u64 t35_, .bool t36_] 59 (0, 0)), .f (KC (Kd.int .u64) A38_ c39_ t29_), .b b2_ (.cells #[.int .i64 a0_0, .int .i64 a0_1, .int .i64 a0_2, .int .i64 a0_3, .int .i64 a0_4, .int .i64 a0_5, .int .i64 a0_6] 23 (0, 0)), .f (KC k46 A1 c1 l1)]) (k0_, 0, xs70_) [0, 1, 2, 3, 4] rfl ⟨H, lh_xs70_⟩ (subF_spec ⟨rfl, rfl, rfl, rfl, rfl, trivial⟩) rfl (by decide) ?_
    rintro ⟨k1_, x262_, xs263_⟩ hs428_
    clear H
    obtain ⟨H, lh_xs263_⟩ : stepstoneref11_Lay.l1 k1_ a0_0 a0_1 a0_2 a0_3 a0_4 a0_5 a0_6 l1 t29_ x262_ xs263_ = some r0 ∧ xs263_.length = (([] : List Int) ++ t29_).length := hs428_
    try clear hs428_
    rcases k1_ with _ | k1_
    · exact none_no (show none = _ from H)
    unfold stepstoneref11_Lay.l1 at H
    have hko_1 : k1_ ≤ k1_ := Nat.le_refl _
    refine c_seq rfl ?_
    refine c_seq rfl ?_
    refine r_ord (l := [0, 1, 2, 3]) rfl (by kernel_rfl) (by kernel_rfl) ?_
    refine s_v rfl rfl rfl rfl (v_move rfl rfl) ?_
    refine s_v rfl rfl rfl rfl (v_move rfl rfl) ?_
    refine s_v rfl rfl rfl rfl (v_len rfl rfl rfl Try.underlying42 rfl rfl) ?_
    refine s_v rfl rfl rfl rfl (v_arith rfl rfl rfl rfl) ?_
    refine s_end ?_
    refine q_seq ?_
    rcases Bool.eq_false_or_eq_true (decide ((x262_ : Int) < (l1.length : Int))) with h432_ | h432_
    ·
      replace H := ite_y (dec_t h432_) H
      refine c_cond rfl rfl (fun _ => ?_) (fun h433_ => absurd (h433_.symm.trans h432_) (by decide))
      refine c_skip rfl ?_
      refine q_seq ?_
      refine c_seq rfl ?_
      refine c_block rfl ?_
      refine c_seq rfl ?_
      refine r_ord (l := [0, 1, 2, 3, 4, 5]) rfl (by kernel_rfl) (by kernel_rfl) ?_
      refine s_v rfl rfl rfl rfl (v_move rfl rfl) ?_
      refine s_v rfl rfl rfl rfl (v_move rfl rfl) ?_
      obtain ⟨n436_, H⟩ := ite_no H
      refine s_v rfl rfl rfl rfl (v_iaK (i := 4) rfl Try.underlying42 SZ46 rfl rfl rfl rfl n436_ (dec_t h432_)) ?_
      refine s_v rfl rfl rfl rfl (v_ldKA z46 [.int .u64 ((rd_T46 l1 x262_).f0), .int .u64 ((rd_T46 l1 x262_).f1), .int .i64 ((rd_T46 l1 x262_).f2), .int .i64 ((rd_T46 l1 x262_).f3), .bool ((rd_T46 l1 x262_).f4)] 4 rfl Try.underlying46 rfl SZ46 rfl rfl rfl rfl n436_ (dec_t h432_) (fun w K h => k46_open h)) ?_
      refine s_e rfl rfl (e_alloc rfl rfl rfl ZR46) ?_
      intro b437_
      refine s_e rfl rfl (e_stA 0 rfl rfl SZ46 rfl rfl rfl rfl rfl rfl) ?_
      refine s_end ?_
      refine q_seq ?_
      refine c_seq rfl ?_
      refine r_ord (l := [0, 1, 2, 3, 4, 5, 6, 7]) rfl (by kernel_rfl) (by kernel_rfl) ?_
      refine s_v rfl rfl rfl rfl (v_move rfl rfl) ?_
      refine s_v rfl rfl rfl rfl (v_ldA [.int .i64 a0_0, .int .i64 a0_1, .int .i64 a0_2, .int .i64 a0_3, .int .i64 a0_4, .int .i64 a0_5, .int .i64 a0_6] 4 rfl Try.underlying23 rfl SZ23 rfl rfl rfl rfl) ?_
      refine s_v rfl rfl rfl rfl (v_move rfl rfl) ?_
      refine s_v rfl rfl rfl rfl (v_arith rfl rfl rfl rfl) ?_
      obtain ⟨t444_, e445_, H⟩ := bind_s H
      refine s_e rfl rfl (e_callF [] #[.agg #[.int .i64 a0_0, .int .i64 a0_1, .int .i64 a0_2, .int .i64 a0_3, .int .i64 a0_4, .int .i64 a0_5, .int .i64 a0_6], .int .i64 (IntKind.wrap .i64 (x262_ + 1)), .int .i64 0] rfl rfl rfl rfl rfl Try.func38 rfl (by decide) rfl rfl rfl rfl (fun w ht => stepstoneref04_Cell_con a0_0 a0_1 a0_2 a0_3 a0_4 a0_5 a0_6 (IntKind.wrap .i64 (x262_ + 1)) 0 t444_ e445_ w _)) ?_
      obtain ⟨t446_, e447_, H⟩ := bind_s H
      refine s_e rfl rfl (e_callF [] #[.int .i64 0] rfl rfl rfl rfl rfl Try.func39 rfl (by decide) rfl rfl rfl rfl (fun w ht => stepstoneref02_Taken_con 0 t446_ e447_ w _)) ?_
      obtain ⟨n448_, H⟩ := ite_no H
      obtain ⟨n449_, H⟩ := ite_no H
      refine s_v rfl rfl rfl rfl (v_iaI rfl Try.underlying24 SZ25 rfl rfl n448_ n449_) ?_
      refine s_e rfl rfl (e_stI 1 rfl rfl SZ25 rfl rfl rfl n448_ (lt_lh lh_xs263_ n449_)) ?_
      refine s_end ?_
      refine q_seq ?_
      refine c_seq rfl ?_
      obtain ⟨t454_, e455_, H⟩ := bind_s H
      obtain ⟨n456_, H⟩ := ite_no H
      obtain ⟨n457_, H⟩ := ite_no H
      refine r_any [.b b437_ (.cells #[.int .u64 ((rd_T46 l1 x262_).f0), .int .u64 ((rd_T46 l1 x262_).f1), .int .i64 ((rd_T46 l1 x262_).f2), .int .i64 ((rd_T46 l1 x262_).f3), .bool ((rd_T46 l1 x262_).f4)] 46 (0, 0)), .b b40_ (.cells #[.int .i64 t22_, .int .i64 t23_, .int .i64 t24_, .int .i64 t25_, .int .i64 t26_, .int .i64 t27_, .int .i64 t28_, .slice A38_ t29_.length c39_, .int .i64 t30_, .int .i64 t31_, .int .i64 t32_, .int .u64 t33_, .int .u64 t34_, .int .u64 t35_, .bool t36_] 59 (0, 0)), .f (KC (Kd.int .u64) A38_ c39_ t29_), .b b2_ (.cells #[.int .i64 a0_0, .int .i64 a0_1, .int .i64 a0_2, .int .i64 a0_3, .int .i64 a0_4, .int .i64 a0_5, .int .i64 a0_6] 23 (0, 0)), .f (KC k46 A1 c1 l1)] (by kernel_rfl) rfl (by kernel_rfl) (mem_pick (idx := [0, 2, 3, 4, 5]) rfl) ?_
      refine a_v 0 rfl (by kernel_rfl) (by kernel_rfl) (by kernel_rfl) rfl rfl rfl (v_move rfl rfl) ?_
      refine a_v 1 rfl (by kernel_rfl) (by kernel_rfl) (by kernel_rfl) rfl rfl rfl (v_ldA [.int .i64 a0_0, .int .i64 a0_1, .int .i64 a0_2, .int .i64 a0_3, .int .i64 a0_4, .int .i64 a0_5, .int .i64 a0_6] 3 rfl Try.underlying23 rfl SZ23 rfl rfl rfl rfl) ?_
      refine a_v 2 rfl (by kernel_rfl) (by kernel_rfl) (by kernel_rfl) rfl rfl rfl (v_move rfl rfl) ?_
      refine a_v 3 rfl (by kernel_rfl) (by kernel_rfl) (by kernel_rfl) rfl rfl rfl (v_arith rfl rfl rfl rfl) ?_
      refine a_v 5 rfl (by kernel_rfl) (by kernel_rfl) (by kernel_rfl) rfl rfl rfl (v_fa rfl Try.underlying46 rfl SZ25 rfl) ?_
      refine a_v 6 rfl (by kernel_rfl) (by kernel_rfl) (by kernel_rfl) rfl rfl rfl (v_ld 0 rfl Try.underlying25 rfl rfl rfl rfl) ?_
      refine a_1 (i := 4) (by kernel_rfl) ?_
      refine i_e rfl rfl (e_callF [] #[.agg #[.int .i64 a0_0, .int .i64 a0_1, .int .i64 a0_2, .int .i64 a0_3, .int .i64 a0_4, .int .i64 a0_5, .int .i64 a0_6], .int .i64 (IntKind.wrap .i64 (x262_ + 1)), .int .i64 1] rfl rfl rfl rfl rfl Try.func38 rfl (by decide) rfl rfl rfl rfl (fun w ht => stepstoneref04_Cell_con a0_0 a0_1 a0_2 a0_3 a0_4 a0_5 a0_6 (IntKind.wrap .i64 (x262_ + 1)) 1 t454_ e455_ w _)) ?_
      refine ⟨(mem_pick (idx := [0, 2, 3, 4, 5]) rfl), ?_⟩
      refine a_1 (i := 7) (by kernel_rfl) ?_
      refine i_v rfl rfl rfl rfl (v_iaI rfl Try.underlying24 SZ25 rfl rfl n456_ n457_) ?_
      refine a_1 (i := 8) (by kernel_rfl) ?_
      refine i_e rfl rfl (e_stI 1 rfl rfl SZ25 rfl rfl rfl n456_ (lt_lh (lh_set lh_xs263_) n457_)) ?_
      refine ⟨(mem_pick (idx := [0, 2, 3, 4, 5]) rfl), ?_⟩
      refine a_end (by kernel_rfl) ?_
      refine q_seq ?_
      refine c_seq rfl ?_
      obtain ⟨t462_, e463_, H⟩ := bind_s H
      obtain ⟨n464_, H⟩ := ite_no H
      obtain ⟨n465_, H⟩ := ite_no H
      refine r_any [.b b437_ (.cells #[.int .u64 ((rd_T46 l1 x262_).f0), .int .u64 ((rd_T46 l1 x262_).f1), .int .i64 ((rd_T46 l1 x262_).f2), .int .i64 ((rd_T46 l1 x262_).f3), .bool ((rd_T46 l1 x262_).f4)] 46 (0, 0)), .b b40_ (.cells #[.int .i64 t22_, .int .i64 t23_, .int .i64 t24_, .int .i64 t25_, .int .i64 t26_, .int .i64 t27_, .int .i64 t28_, .slice A38_ t29_.length c39_, .int .i64 t30_, .int .i64 t31_, .int .i64 t32_, .int .u64 t33_, .int .u64 t34_, .int .u64 t35_, .bool t36_] 59 (0, 0)), .f (KC (Kd.int .u64) A38_ c39_ t29_), .b b2_ (.cells #[.int .i64 a0_0, .int .i64 a0_1, .int .i64 a0_2, .int .i64 a0_3, .int .i64 a0_4, .int .i64 a0_5, .int .i64 a0_6] 23 (0, 0)), .f (KC k46 A1 c1 l1)] (by kernel_rfl) rfl (by kernel_rfl) (mem_pick (idx := [0, 2, 3, 4, 5]) rfl) ?_
      refine a_v 0 rfl (by kernel_rfl) (by kernel_rfl) (by kernel_rfl) rfl rfl rfl (v_move rfl rfl) ?_
      refine a_v 1 rfl (by kernel_rfl) (by kernel_rfl) (by kernel_rfl) rfl rfl rfl (v_ldA [.int .i64 a0_0, .int .i64 a0_1, .int .i64 a0_2, .int .i64 a0_3, .int .i64 a0_4, .int .i64 a0_5, .int .i64 a0_6] 3 rfl Try.underlying23 rfl SZ23 rfl rfl rfl rfl) ?_
      refine a_v 2 rfl (by kernel_rfl) (by kernel_rfl) (by kernel_rfl) rfl rfl rfl (v_move rfl rfl) ?_
      refine a_v 3 rfl (by kernel_rfl) (by kernel_rfl) (by kernel_rfl) rfl rfl rfl (v_arith rfl rfl rfl rfl) ?_
      refine a_v 5 rfl (by kernel_rfl) (by kernel_rfl) (by kernel_rfl) rfl rfl rfl (v_fa rfl Try.underlying46 rfl SZ25 rfl) ?_
      refine a_v 6 rfl (by kernel_rfl) (by kernel_rfl) (by kernel_rfl) rfl rfl rfl (v_ld 0 rfl Try.underlying25 rfl rfl rfl rfl) ?_
      refine a_v 7 rfl (by kernel_rfl) (by kernel_rfl) (by kernel_rfl) rfl rfl rfl (v_arith rfl rfl rfl rfl) ?_
      refine a_1 (i := 4) (by kernel_rfl) ?_
      refine i_e rfl rfl (e_callF [] #[.agg #[.int .i64 a0_0, .int .i64 a0_1, .int .i64 a0_2, .int .i64 a0_3, .int .i64 a0_4, .int .i64 a0_5, .int .i64 a0_6], .int .i64 (IntKind.wrap .i64 (x262_ + 1)), .int .i64 2] rfl rfl rfl rfl rfl Try.func38 rfl (by decide) rfl rfl rfl rfl (fun w ht => stepstoneref04_Cell_con a0_0 a0_1 a0_2 a0_3 a0_4 a0_5 a0_6 (IntKind.wrap .i64 (x262_ + 1)) 2 t462_ e463_ w _)) ?_
      refine ⟨(mem_pick (idx := [0, 2, 3, 4, 5]) rfl), ?_⟩
      refine a_1 (i := 8) (by kernel_rfl) ?_
      refine i_v rfl rfl rfl rfl (v_iaI rfl Try.underlying24 SZ25 rfl rfl n464_ n465_) ?_
      refine a_1 (i := 9) (by kernel_rfl) ?_
      refine i_e rfl rfl (e_stI 1 rfl rfl SZ25 rfl rfl rfl n464_ (lt_lh (lh_set (lh_set lh_xs263_)) n465_)) ?_
      refine ⟨(mem_pick (idx := [0, 2, 3, 4, 5]) rfl), ?_⟩
      refine a_end (by kernel_rfl) ?_
      refine q_seq ?_
      refine c_seq rfl ?_
      refine c_seq rfl ?_
      refine r_ord (l := [0, 1]) rfl (by kernel_rfl) (by kernel_rfl) ?_
      refine s_v rfl rfl rfl rfl (v_fa rfl Try.underlying46 rfl SZ4 rfl) ?_
      refine s_v rfl rfl rfl rfl (v_ld 0 rfl Try.underlying4 rfl rfl rfl rfl) ?_
      refine s_end ?_
      refine q_seq ?_
      rcases Bool.eq_false_or_eq_true ((rd_T46 l1 x262_).f4) with h473_ | h473_
      ·
        replace H := ite_y h473_ H
        refine c_cond rfl rfl (fun _ => ?_) (fun h474_ => absurd (h474_.symm.trans h473_) (by decide))
        obtain ⟨t475_, e476_, H⟩ := bind_s H
        obtain ⟨n477_, H⟩ := ite_no H
        obtain ⟨n478_, H⟩ := ite_no H
        refine r_any [.b b437_ (.cells #[.int .u64 ((rd_T46 l1 x262_).f0), .int .u64 ((rd_T46 l1 x262_).f1), .int .i64 ((rd_T46 l1 x262_).f2), .int .i64 ((rd_T46 l1 x262_).f3), .bool ((rd_T46 l1 x262_).f4)] 46 (0, 0)), .b b40_ (.cells #[.int .i64 t22_, .int .i64 t23_, .int .i64 t24_, .int .i64 t25_, .int .i64 t26_, .int .i64 t27_, .int .i64 t28_, .slice A38_ t29_.length c39_, .int .i64 t30_, .int .i64 t31_, .int .i64 t32_, .int .u64 t33_, .int .u64 t34_, .int .u64 t35_, .bool t36_] 59 (0, 0)), .f (KC (Kd.int .u64) A38_ c39_ t29_), .b b2_ (.cells #[.int .i64 a0_0, .int .i64 a0_1, .int .i64 a0_2, .int .i64 a0_3, .int .i64 a0_4, .int .i64 a0_5, .int .i64 a0_6] 23 (0, 0)), .f (KC k46 A1 c1 l1)] (by kernel_rfl) rfl (by kernel_rfl) (mem_pick (idx := [0, 2, 3, 4, 5]) rfl) ?_
        refine a_v 0 rfl (by kernel_rfl) (by kernel_rfl) (by kernel_rfl) rfl rfl rfl (v_move rfl rfl) ?_
        refine a_v 1 rfl (by kernel_rfl) (by kernel_rfl) (by kernel_rfl) rfl rfl rfl (v_ldA [.int .i64 a0_0, .int .i64 a0_1, .int .i64 a0_2, .int .i64 a0_3, .int .i64 a0_4, .int .i64 a0_5, .int .i64 a0_6] 3 rfl Try.underlying23 rfl SZ23 rfl rfl rfl rfl) ?_
        refine a_v 2 rfl (by kernel_rfl) (by kernel_rfl) (by kernel_rfl) rfl rfl rfl (v_move rfl rfl) ?_
        refine a_v 3 rfl (by kernel_rfl) (by kernel_rfl) (by kernel_rfl) rfl rfl rfl (v_arith rfl rfl rfl rfl) ?_
        refine a_v 5 rfl (by kernel_rfl) (by kernel_rfl) (by kernel_rfl) rfl rfl rfl (v_fa rfl Try.underlying46 rfl SZ25 rfl) ?_
        refine a_v 6 rfl (by kernel_rfl) (by kernel_rfl) (by kernel_rfl) rfl rfl rfl (v_ld 0 rfl Try.underlying25 rfl rfl rfl rfl) ?_
        refine a_v 7 rfl (by kernel_rfl) (by kernel_rfl) (by kernel_rfl) rfl rfl rfl (v_arith rfl rfl rfl rfl) ?_
        refine a_v 8 rfl (by kernel_rfl) (by kernel_rfl) (by kernel_rfl) rfl rfl rfl (v_arith rfl rfl rfl rfl) ?_
        refine a_1 (i := 4) (by kernel_rfl) ?_
        refine i_e rfl rfl (e_callF [] #[.agg #[.int .i64 a0_0, .int .i64 a0_1, .int .i64 a0_2, .int .i64 a0_3, .int .i64 a0_4, .int .i64 a0_5, .int .i64 a0_6], .int .i64 (IntKind.wrap .i64 (x262_ + 1)), .int .i64 2] rfl rfl rfl rfl rfl Try.func38 rfl (by decide) rfl rfl rfl rfl (fun w ht => stepstoneref04_Cell_con a0_0 a0_1 a0_2 a0_3 a0_4 a0_5 a0_6 (IntKind.wrap .i64 (x262_ + 1)) 2 t475_ e476_ w _)) ?_
        refine ⟨(mem_pick (idx := [0, 2, 3, 4, 5]) rfl), ?_⟩
        refine a_1 (i := 9) (by kernel_rfl) ?_
        refine i_v rfl rfl rfl rfl (v_iaI rfl Try.underlying24 SZ25 rfl rfl n477_ n478_) ?_
        refine a_1 (i := 10) (by kernel_rfl) ?_
        refine i_e rfl rfl (e_stI 1 rfl rfl SZ25 rfl rfl rfl n477_ (lt_lh (lh_set (lh_set (lh_set lh_xs263_))) n478_)) ?_
        refine ⟨(mem_pick (idx := [0, 2, 3, 4, 5]) rfl), ?_⟩
        refine a_end (by kernel_rfl) ?_
        refine q_seq ?_
        refine c_seq rfl ?_
        refine r_ord (l := [0, 1, 2, 3, 4, 5, 6]) rfl (by kernel_rfl) (by kernel_rfl) ?_
        refine s_v rfl rfl rfl rfl (v_move rfl rfl) ?_
        refine s_v rfl rfl rfl rfl (v_ldA [.int .i64 a0_0, .int .i64 a0_1, .int .i64 a0_2, .int .i64 a0_3, .int .i64 a0_4, .int .i64 a0_5, .int .i64 a0_6] 4 rfl Try.underlying23 rfl SZ23 rfl rfl rfl rfl) ?_
        refine s_v rfl rfl rfl rfl (v_move rfl rfl) ?_
        refine s_v rfl rfl rfl rfl (v_arith rfl rfl rfl rfl) ?_
        obtain ⟨t483_, e484_, H⟩ := bind_s H
        refine s_e rfl rfl (e_callF [] #[.agg #[.int .i64 a0_0, .int .i64 a0_1, .int .i64 a0_2, .int .i64 a0_3, .int .i64 a0_4, .int .i64 a0_5, .int .i64 a0_6], .int .i64 (IntKind.wrap .i64 (x262_ + 1)), .int .i64 3] rfl rfl rfl rfl rfl Try.func38 rfl (by decide) rfl rfl rfl rfl (fun w ht => stepstoneref04_Cell_con a0_0 a0_1 a0_2 a0_3 a0_4 a0_5 a0_6 (IntKind.wrap .i64 (x262_ + 1)) 3 t483_ e484_ w _)) ?_
        obtain ⟨n485_, H⟩ := ite_no H
        obtain ⟨n486_, H⟩ := ite_no H
        refine s_v rfl rfl rfl rfl (v_iaI rfl Try.underlying24 SZ25 rfl rfl n485_ n486_) ?_
        refine s_e rfl rfl (e_stI 1 rfl rfl SZ25 rfl rfl rfl n485_ (lt_lh (lh_set (lh_set (lh_set (lh_set lh_xs263_)))) n486_)) ?_
        refine s_end ?_
        refine q_seq ?_
        refine c_seq rfl ?_
        obtain ⟨t491_, e492_, H⟩ := bind_s H
        obtain ⟨n493_, H⟩ := ite_no H
        obtain ⟨n494_, H⟩ := ite_no H
        refine r_any [.b b437_ (.cells #[.int .u64 ((rd_T46 l1 x262_).f0), .int .u64 ((rd_T46 l1 x262_).f1), .int .i64 ((rd_T46 l1 x262_).f2), .int .i64 ((rd_T46 l1 x262_).f3), .bool ((rd_T46 l1 x262_).f4)] 46 (0, 0)), .b b40_ (.cells #[.int .i64 t22_, .int .i64 t23_, .int .i64 t24_, .int .i64 t25_, .int .i64 t26_, .int .i64 t27_, .int .i64 t28_, .slice A38_ t29_.length c39_, .int .i64 t30_, .int .i64 t31_, .int .i64 t32_, .int .u64 t33_, .int .u64 t34_, .int .u64 t35_, .bool t36_] 59 (0, 0)), .f (KC (Kd.int .u64) A38_ c39_ t29_), .b b2_ (.cells #[.int .i64 a0_0, .int .i64 a0_1, .int .i64 a0_2, .int .i64 a0_3, .int .i64 a0_4, .int .i64 a0_5, .int .i64 a0_6] 23 (0, 0)), .f (KC k46 A1 c1 l1)] (by kernel_rfl) rfl (by kernel_rfl) (mem_pick (idx := [0, 2, 3, 4, 5]) rfl) ?_
        refine a_v 0 rfl (by kernel_rfl) (by kernel_rfl) (by kernel_rfl) rfl rfl rfl (v_move rfl rfl) ?_
        refine a_v 1 rfl (by kernel_rfl) (by kernel_rfl) (by kernel_rfl) rfl rfl rfl (v_ldA [.int .i64 a0_0, .int .i64 a0_1, .int .i64 a0_2, .int .i64 a0_3, .int .i64 a0_4, .int .i64 a0_5, .int .i64 a0_6] 3 rfl Try.underlying23 rfl SZ23 rfl rfl rfl rfl) ?_
        refine a_v 2 rfl (by kernel_rfl) (by kernel_rfl) (by kernel_rfl) rfl rfl rfl (v_move rfl rfl) ?_
        refine a_v 3 rfl (by kernel_rfl) (by kernel_rfl) (by kernel_rfl) rfl rfl rfl (v_arith rfl rfl rfl rfl) ?_
        refine a_v 5 rfl (by kernel_rfl) (by kernel_rfl) (by kernel_rfl) rfl rfl rfl (v_fa rfl Try.underlying46 rfl SZ3 rfl) ?_
        refine a_v 6 rfl (by kernel_rfl) (by kernel_rfl) (by kernel_rfl) rfl rfl rfl (v_ld 0 rfl Try.underlying3 rfl rfl rfl rfl) ?_
        refine a_v 7 rfl (by kernel_rfl) (by kernel_rfl) (by kernel_rfl) rfl rfl rfl (v_conv rfl Try.underlying3 Try.underlying25 rfl) ?_
        refine a_1 (i := 4) (by kernel_rfl) ?_
        refine i_e rfl rfl (e_callF [] #[.agg #[.int .i64 a0_0, .int .i64 a0_1, .int .i64 a0_2, .int .i64 a0_3, .int .i64 a0_4, .int .i64 a0_5, .int .i64 a0_6], .int .i64 (IntKind.wrap .i64 (x262_ + 1)), .int .i64 4] rfl rfl rfl rfl rfl Try.func38 rfl (by decide) rfl rfl rfl rfl (fun w ht => stepstoneref04_Cell_con a0_0 a0_1 a0_2 a0_3 a0_4 a0_5 a0_6 (IntKind.wrap .i64 (x262_ + 1)) 4 t491_ e492_ w _)) ?_
        refine ⟨(mem_pick (idx := [0, 2, 3, 4, 5]) rfl), ?_⟩
        refine a_1 (i := 8) (by kernel_rfl) ?_
        refine i_v rfl rfl rfl rfl (v_iaI rfl Try.underlying24 SZ25 rfl rfl n493_ n494_) ?_
        refine a_1 (i := 9) (by kernel_rfl) ?_
        refine i_e rfl rfl (e_stI 1 rfl rfl SZ25 rfl rfl rfl n493_ (lt_lh (lh_set (lh_set (lh_set (lh_set (lh_set lh_xs263_))))) n494_)) ?_
        refine ⟨(mem_pick (idx := [0, 2, 3, 4, 5]) rfl), ?_⟩
        refine a_end (by kernel_rfl) ?_
        refine q_seq ?_
        refine c_seq rfl ?_
        refine r_ord (l := [0, 1, 2, 3, 4, 5, 6]) rfl (by kernel_rfl) (by kernel_rfl) ?_
        refine s_v rfl rfl rfl rfl (v_move rfl rfl) ?_
        refine s_v rfl rfl rfl rfl (v_ldA [.int .i64 a0_0, .int .i64 a0_1, .int .i64 a0_2, .int .i64 a0_3, .int .i64 a0_4, .int .i64 a0_5, .int .i64 a0_6] 4 rfl Try.underlying23 rfl SZ23 rfl rfl rfl rfl) ?_
        refine s_v rfl rfl rfl rfl (v_move rfl rfl) ?_
        refine s_v rfl rfl rfl rfl (v_arith rfl rfl rfl rfl) ?_
        obtain ⟨t499_, e500_, H⟩ := bind_s H
        refine s_e rfl rfl (e_callF [] #[.agg #[.int .i64 a0_0, .int .i64 a0_1, .int .i64 a0_2, .int .i64 a0_3, .int .i64 a0_4, .int .i64 a0_5, .int .i64 a0_6], .int .i64 (IntKind.wrap .i64 (x262_ + 1)), .int .i64 5] rfl rfl rfl rfl rfl Try.func38 rfl (by decide) rfl rfl rfl rfl (fun w ht => stepstoneref04_Cell_con a0_0 a0_1 a0_2 a0_3 a0_4 a0_5 a0_6 (IntKind.wrap .i64 (x262_ + 1)) 5 t499_ e500_ w _)) ?_
        obtain ⟨n501_, H⟩ := ite_no H
        obtain ⟨n502_, H⟩ := ite_no H
        refine s_v rfl rfl rfl rfl (v_iaI rfl Try.underlying24 SZ25 rfl rfl n501_ n502_) ?_
        refine s_e rfl rfl (e_stI 1 rfl rfl SZ25 rfl rfl rfl n501_ (lt_lh (lh_set (lh_set (lh_set (lh_set (lh_set (lh_set lh_xs263_)))))) n502_)) ?_
        refine s_end ?_
        refine q_seq ?_
        refine c_seq rfl ?_
        refine r_ord (l := [0]) rfl (by kernel_rfl) (by kernel_rfl) ?_
        refine s_v rfl rfl rfl rfl (v_assign rfl rfl) ?_
        refine s_end ?_
        refine q_seq ?_
        refine c_block rfl ?_
        refine c_loop (σ := Nat × Int × List Int) (fun s_ : Nat × Int × List Int => match s_ with | (k, x521_, xs522_) => stepstoneref11_Lay.l2 k a0_0 a0_1 a0_2 a0_3 a0_4 a0_5 a0_6 l1 t29_ x262_ x521_ xs522_ = some r0 ∧ xs522_.length = (([] : List Int) ++ t29_).length ∧ k ≤ k1_) (fun s_ : Nat × Int × List Int => match s_ with | (k, x521_, xs522_) => k) (fun s_ : Nat × Int × List Int => match s_ with | (k, x521_, xs522_) => [(1, .slice A1 l1.length c1), (2, .pointer (some ⟨b2_, 0, none⟩)), (4, .slice none 0 0), (6, .slice (some ⟨g51_, 0, none⟩) ((([] : List Int) ++ t29_).length) cap52_), (8, .int .i64 x262_), (34, .int .i64 x262_), (35, .slice A1 l1.length c1), (36, .int .i64 (l1.length : Int)), (37, .bool (decide ((x262_ : Int) < (l1.length : Int)))), (40, .slice A1 l1.length c1), (41, .int .i64 x262_), (42, .pointer (some (at0 A1 x262_ 5))), (43, .agg #[.int .u64 ((rd_T46 l1 x262_).f0), .int .u64 ((rd_T46 l1 x262_).f1), .int .i64 ((rd_T46 l1 x262_).f2), .int .i64 ((rd_T46 l1 x262_).f3), .bool ((rd_T46 l1 x262_).f4)]), (9, .pointer (some ⟨b437_, 0, none⟩)), (44, .slice (some ⟨g51_, 0, none⟩) ((([] : List Int) ++ t29_).length) cap52_), (45, .agg #[.int .i64 a0_0, .int .i64 a0_1, .int .i64 a0_2, .int .i64 a0_3, .int .i64 a0_4, .int .i64 a0_5, .int .i64 a0_6]), (46, .int .i64 x262_), (47, .int .i64 (IntKind.wrap .i64 (x262_ + 1))), (48, .int .i64 t444_), (49, .int .u64 t446_), (50, .pointer (some ⟨g51_, Int.toNat t444_, none⟩)), (51, .slice (some ⟨g51_, 0, none⟩) ((([] : List Int) ++ t29_).length) cap52_), (52, .agg #[.int .i64 a0_0, .int .i64 a0_1, .int .i64 a0_2, .int .i64 a0_3, .int .i64 a0_4, .int .i64 a0_5, .int .i64 a0_6]), (53, .int .i64 x262_), (54, .int .i64 (IntKind.wrap .i64 (x262_ + 1))), (56, .pointer (some ⟨b437_, 0, none⟩)), (57, .int .u64 ((rd_T46 l1 x262_).f0)), (55, .int .i64 t454_), (58, .pointer (some ⟨g51_, Int.toNat t454_, none⟩)), (59, .slice (some ⟨g51_, 0, none⟩) ((([] : List Int) ++ t29_).length) cap52_), (60, .agg #[.int .i64 a0_0, .int .i64 a0_1, .int .i64 a0_2, .int .i64 a0_3, .int .i64 a0_4, .int .i64 a0_5, .int .i64 a0_6]), (61, .int .i64 x262_), (62, .int .i64 (IntKind.wrap .i64 (x262_ + 1))), (64, .pointer (some ⟨b437_, 1, none⟩)), (65, .int .u64 ((rd_T46 l1 x262_).f1)), (66, .int .u64 (IntKind.wrap .u64 (2 * ((rd_T46 l1 x262_).f1)))), (63, .int .i64 t462_), (67, .pointer (some ⟨g51_, Int.toNat t462_, none⟩)), (68, .pointer (some ⟨b437_, 4, none⟩)), (69, .bool ((rd_T46 l1 x262_).f4)), (70, .slice (some ⟨g51_, 0, none⟩) ((([] : List Int) ++ t29_).length) cap52_), (71, .agg #[.int .i64 a0_0, .int .i64 a0_1, .int .i64 a0_2, .int .i64 a0_3, .int .i64 a0_4, .int .i64 a0_5, .int .i64 a0_6]), (72, .int .i64 x262_), (73, .int .i64 (IntKind.wrap .i64 (x262_ + 1))), (75, .pointer (some ⟨b437_, 1, none⟩)), (76, .int .u64 ((rd_T46 l1 x262_).f1)), (77, .int .u64 (IntKind.wrap .u64 (2 * ((rd_T46 l1 x262_).f1)))), (78, .int .u64 (IntKind.wrap .u64 ((IntKind.wrap .u64 (2 * ((rd_T46 l1 x262_).f1))) + 1))), (74, .int .i64 t475_), (79, .pointer (some ⟨g51_, Int.toNat t475_, none⟩)), (80, .slice (some ⟨g51_, 0, none⟩) ((([] : List Int) ++ t29_).length) cap52_), (81, .agg #[.int .i64 a0_0, .int .i64 a0_1, .int .i64 a0_2, .int .i64 a0_3, .int .i64 a0_4, .int .i64 a0_5, .int .i64 a0_6]), (82, .int .i64 x262_), (83, .int .i64 (IntKind.wrap .i64 (x262_ + 1))), (84, .int .i64 t483_), (85, .pointer (some ⟨g51_, Int.toNat t483_, none⟩)), (86, .slice (some ⟨g51_, 0, none⟩) ((([] : List Int) ++ t29_).length) cap52_), (87, .agg #[.int .i64 a0_0, .int .i64 a0_1, .int .i64 a0_2, .int .i64 a0_3, .int .i64 a0_4, .int .i64 a0_5, .int .i64 a0_6]), (88, .int .i64 x262_), (89, .int .i64 (IntKind.wrap .i64 (x262_ + 1))), (91, .pointer (some ⟨b437_, 2, none⟩)), (92, .int .i64 ((rd_T46 l1 x262_).f2)), (93, .int .u64 (IntKind.wrap .u64 ((rd_T46 l1 x262_).f2))), (90, .int .i64 t491_), (94, .pointer (some ⟨g51_, Int.toNat t491_, none⟩)), (95, .slice (some ⟨g51_, 0, none⟩) ((([] : List Int) ++ t29_).length) cap52_), (96, .agg #[.int .i64 a0_0, .int .i64 a0_1, .int .i64 a0_2, .int .i64 a0_3, .int .i64 a0_4, .int .i64 a0_5, .int .i64 a0_6]), (97, .int .i64 x262_), (98, .int .i64 (IntKind.wrap .i64 (x262_ + 1))), (99, .int .i64 t499_), (100, .pointer (some ⟨g51_, Int.toNat t499_, none⟩)), (10, .int .i64 x521_)]) (fun s_ : Nat × Int × List Int => match s_ with | (k, x521_, xs522_) => [.b b437_ (.cells #[.int .u64 ((rd_T46 l1 x262_).f0), .int .u64 ((rd_T46 l1 x262_).f1), .int .i64 ((rd_T46 l1 x262_).f2), .int .i64 ((rd_T46 l1 x262_).f3), .bool ((rd_T46 l1 x262_).f4)] 46 (0, 0)), .b g51_ (.cells (RowI .u64 xs522_ rest58_) 25 (0, 0)), .b b40_ (.cells #[.int .i64 t22_, .int .i64 t23_, .int .i64 t24_, .int .i64 t25_, .int .i64 t26_, .int .i64 t27_, .int .i64 t28_, .slice A38_ t29_.length c39_, .int .i64 t30_, .int .i64 t31_, .int .i64 t32_, .int .u64 t33_, .int .u64 t34_, .int .u64 t35_, .bool t36_] 59 (0, 0)), .f (KC (Kd.int .u64) A38_ c39_ t29_), .b b2_ (.cells #[.int .i64 a0_0, .int .i64 a0_1, .int .i64 a0_2, .int .i64 a0_3, .int .i64 a0_4, .int .i64 a0_5, .int .i64 a0_6] 23 (0, 0)), .f (KC k46 A1 c1 l1)]) (k1_, 0, (((((((xs263_.set (Int.toNat t444_) t446_).set (Int.toNat t454_) ((rd_T46 l1 x262_).f0)).set (Int.toNat t462_) (IntKind.wrap .u64 (2 * ((rd_T46 l1 x262_).f1)))).set (Int.toNat t475_) (IntKind.wrap .u64 ((IntKind.wrap .u64 (2 * ((rd_T46 l1 x262_).f1))) + 1))).set (Int.toNat t483_) 1).set (Int.toNat t491_) (IntKind.wrap .u64 ((rd_T46 l1 x262_).f2))).set (Int.toNat t499_) 1)) [0, 1, 2, 3, 4, 5] rfl ⟨H, (lh_set (lh_set (lh_set (lh_set (lh_set (lh_set (lh_set lh_xs263_))))))), hko_1⟩ (subF_spec ⟨rfl, rfl, rfl, rfl, rfl, rfl, rfl, rfl, rfl, rfl, rfl, rfl, rfl, rfl, rfl, rfl, rfl, rfl, rfl, rfl, rfl, rfl, rfl, rfl, rfl, rfl, rfl, rfl, rfl, rfl, rfl, rfl, rfl, rfl, rfl, rfl, rfl, rfl, rfl, rfl, rfl, rfl, rfl, rfl, rfl, rfl, rfl, rfl, rfl, rfl, rfl, rfl, rfl, rfl, rfl, rfl, rfl, rfl, rfl, rfl, rfl, rfl, rfl, rfl, rfl, rfl, rfl, rfl, rfl, rfl, rfl, rfl, trivial⟩) rfl (by decide) ?_
        rintro ⟨k2_, x521_, xs522_⟩ hs541_
        clear H
        obtain ⟨H, lh_xs522_, hko_1⟩ : stepstoneref11_Lay.l2 k2_ a0_0 a0_1 a0_2 a0_3 a0_4 a0_5 a0_6 l1 t29_ x262_ x521_ xs522_ = some r0 ∧ xs522_.length = (([] : List Int) ++ t29_).length ∧ k2_ ≤ k1_ := hs541_
        try clear hs541_
        rcases k2_ with _ | k2_
        · exact none_no (show none = _ from H)
        unfold stepstoneref11_Lay.l2 at H
        replace hko_1 := Nat.le_of_succ_le hko_1
        have hko_2 : k2_ ≤ k2_ := Nat.le_refl _
        refine c_seq rfl ?_
        refine c_seq rfl ?_
        refine r_ord (l := [0, 1, 2, 3]) rfl (by kernel_rfl) (by kernel_rfl) ?_
        refine s_v rfl rfl rfl rfl (v_move rfl rfl) ?_
        refine s_v rfl rfl rfl rfl (v_fa rfl Try.underlying46 rfl SZ3 rfl) ?_
        refine s_v rfl rfl rfl rfl (v_ld 0 rfl Try.underlying3 rfl rfl rfl rfl) ?_
        refine s_v rfl rfl rfl rfl (v_arith rfl rfl rfl rfl) ?_
        refine s_end ?_
        refine q_seq ?_
        rcases Bool.eq_false_or_eq_true (decide ((x521_ : Int) < ((rd_T46 l1 x262_).f2))) with h545_ | h545_
        ·
          replace H := ite_y (dec_t h545_) H
          refine c_cond rfl rfl (fun _ => ?_) (fun h546_ => absurd (h546_.symm.trans h545_) (by decide))
          refine c_skip rfl ?_
          refine q_seq ?_
          refine c_seq rfl ?_
          refine c_block rfl ?_
          refine c_seq rfl ?_
          refine r_ord (l := [0, 1, 2, 3, 4]) rfl (by kernel_rfl) (by kernel_rfl) ?_
          refine s_v rfl rfl rfl rfl (v_move rfl rfl) ?_
          refine s_v rfl rfl rfl rfl (v_move rfl rfl) ?_
          refine s_v rfl rfl rfl rfl (v_move rfl rfl) ?_
          obtain ⟨t564_, e565_, H⟩ := bind_s H
          refine s_e rfl rfl (e_callF [5] #[.slice A1 l1.length c1, .int .i64 x262_, .int .i64 x521_] rfl rfl rfl rfl rfl Try.func37 rfl (by decide) rfl rfl rfl rfl (fun w ht => stepstoneref11_behind_con _ A1 c1 l1 x262_ x521_ t564_ e565_ w _)) ?_
          refine s_v rfl rfl rfl rfl (v_assign rfl rfl) ?_
          refine s_end ?_
          refine q_seq ?_
          obtain ⟨j571_, e572_, H⟩ := bind_s H
          refine c_join (β := Unit) (fun _ => True) (fun _ => [(1, .slice A1 l1.length c1), (2, .pointer (some ⟨b2_, 0, none⟩)), (4, .slice none 0 0), (6, .slice (some ⟨g51_, 0, none⟩) ((([] : List Int) ++ t29_).length) cap52_), (8, .int .i64 x262_), (34, .int .i64 x262_), (35, .slice A1 l1.length c1), (36, .int .i64 (l1.length : Int)), (37, .bool (decide ((x262_ : Int) < (l1.length : Int)))), (40, .slice A1 l1.length c1), (41, .int .i64 x262_), (42, .pointer (some (at0 A1 x262_ 5))), (43, .agg #[.int .u64 ((rd_T46 l1 x262_).f0), .int .u64 ((rd_T46 l1 x262_).f1), .int .i64 ((rd_T46 l1 x262_).f2), .int .i64 ((rd_T46 l1 x262_).f3), .bool ((rd_T46 l1 x262_).f4)]), (9, .pointer (some ⟨b437_, 0, none⟩)), (44, .slice (some ⟨g51_, 0, none⟩) ((([] : List Int) ++ t29_).length) cap52_), (45, .agg #[.int .i64 a0_0, .int .i64 a0_1, .int .i64 a0_2, .int .i64 a0_3, .int .i64 a0_4, .int .i64 a0_5, .int .i64 a0_6]), (46, .int .i64 x262_), (47, .int .i64 (IntKind.wrap .i64 (x262_ + 1))), (48, .int .i64 t444_), (49, .int .u64 t446_), (50, .pointer (some ⟨g51_, Int.toNat t444_, none⟩)), (51, .slice (some ⟨g51_, 0, none⟩) ((([] : List Int) ++ t29_).length) cap52_), (52, .agg #[.int .i64 a0_0, .int .i64 a0_1, .int .i64 a0_2, .int .i64 a0_3, .int .i64 a0_4, .int .i64 a0_5, .int .i64 a0_6]), (53, .int .i64 x262_), (54, .int .i64 (IntKind.wrap .i64 (x262_ + 1))), (56, .pointer (some ⟨b437_, 0, none⟩)), (57, .int .u64 ((rd_T46 l1 x262_).f0)), (55, .int .i64 t454_), (58, .pointer (some ⟨g51_, Int.toNat t454_, none⟩)), (59, .slice (some ⟨g51_, 0, none⟩) ((([] : List Int) ++ t29_).length) cap52_), (60, .agg #[.int .i64 a0_0, .int .i64 a0_1, .int .i64 a0_2, .int .i64 a0_3, .int .i64 a0_4, .int .i64 a0_5, .int .i64 a0_6]), (61, .int .i64 x262_), (62, .int .i64 (IntKind.wrap .i64 (x262_ + 1))), (64, .pointer (some ⟨b437_, 1, none⟩)), (65, .int .u64 ((rd_T46 l1 x262_).f1)), (66, .int .u64 (IntKind.wrap .u64 (2 * ((rd_T46 l1 x262_).f1)))), (63, .int .i64 t462_), (67, .pointer (some ⟨g51_, Int.toNat t462_, none⟩)), (68, .pointer (some ⟨b437_, 4, none⟩)), (69, .bool ((rd_T46 l1 x262_).f4)), (70, .slice (some ⟨g51_, 0, none⟩) ((([] : List Int) ++ t29_).length) cap52_), (71, .agg #[.int .i64 a0_0, .int .i64 a0_1, .int .i64 a0_2, .int .i64 a0_3, .int .i64 a0_4, .int .i64 a0_5, .int .i64 a0_6]), (72, .int .i64 x262_), (73, .int .i64 (IntKind.wrap .i64 (x262_ + 1))), (75, .pointer (some ⟨b437_, 1, none⟩)), (76, .int .u64 ((rd_T46 l1 x262_).f1)), (77, .int .u64 (IntKind.wrap .u64 (2 * ((rd_T46 l1 x262_).f1)))), (78, .int .u64 (IntKind.wrap .u64 ((IntKind.wrap .u64 (2 * ((rd_T46 l1 x262_).f1))) + 1))), (74, .int .i64 t475_), (79, .pointer (some ⟨g51_, Int.toNat t475_, none⟩)), (80, .slice (some ⟨g51_, 0, none⟩) ((([] : List Int) ++ t29_).length) cap52_), (81, .agg #[.int .i64 a0_0, .int .i64 a0_1, .int .i64 a0_2, .int .i64 a0_3, .int .i64 a0_4, .int .i64 a0_5, .int .i64 a0_6]), (82, .int .i64 x262_), (83, .int .i64 (IntKind.wrap .i64 (x262_ + 1))), (84, .int .i64 t483_), (85, .pointer (some ⟨g51_, Int.toNat t483_, none⟩)), (86, .slice (some ⟨g51_, 0, none⟩) ((([] : List Int) ++ t29_).length) cap52_), (87, .agg #[.int .i64 a0_0, .int .i64 a0_1, .int .i64 a0_2, .int .i64 a0_3, .int .i64 a0_4, .int .i64 a0_5, .int .i64 a0_6]), (88, .int .i64 x262_), (89, .int .i64 (IntKind.wrap .i64 (x262_ + 1))), (91, .pointer (some ⟨b437_, 2, none⟩)), (92, .int .i64 ((rd_T46 l1 x262_).f2)), (93, .int .u64 (IntKind.wrap .u64 ((rd_T46 l1 x262_).f2))), (90, .int .i64 t491_), (94, .pointer (some ⟨g51_, Int.toNat t491_, none⟩)), (95, .slice (some ⟨g51_, 0, none⟩) ((([] : List Int) ++ t29_).length) cap52_), (96, .agg #[.int .i64 a0_0, .int .i64 a0_1, .int .i64 a0_2, .int .i64 a0_3, .int .i64 a0_4, .int .i64 a0_5, .int .i64 a0_6]), (97, .int .i64 x262_), (98, .int .i64 (IntKind.wrap .i64 (x262_ + 1))), (99, .int .i64 t499_), (100, .pointer (some ⟨g51_, Int.toNat t499_, none⟩)), (10, .int .i64 x521_), (101, .int .i64 x521_), (102, .pointer (some ⟨b437_, 2, none⟩)), (103, .int .i64 ((rd_T46 l1 x262_).f2)), (104, .bool (decide ((x521_ : Int) < ((rd_T46 l1 x262_).f2)))), (107, .slice A1 l1.length c1), (108, .int .i64 x262_), (109, .int .i64 x521_), (110, .int .u64 t564_), (11, .int .u64 j571_), (111, .int .i64 x521_), (112, .pointer (some ⟨b437_, 2, none⟩)), (113, .int .i64 ((rd_T46 l1 x262_).f2)), (114, .pointer (some ⟨b437_, 3, none⟩)), (115, .int .i64 ((rd_T46 l1 x262_).f3)), (116, .int .i64 (IntKind.wrap .i64 (((rd_T46 l1 x262_).f2) - ((rd_T46 l1 x262_).f3)))), (117, .bool (decide ((x521_ : Int) ≥ (IntKind.wrap .i64 (((rd_T46 l1 x262_).f2) - ((rd_T46 l1 x262_).f3))))))]) (fun _ => [.b b437_ (.cells #[.int .u64 ((rd_T46 l1 x262_).f0), .int .u64 ((rd_T46 l1 x262_).f1), .int .i64 ((rd_T46 l1 x262_).f2), .int .i64 ((rd_T46 l1 x262_).f3), .bool ((rd_T46 l1 x262_).f4)] 46 (0, 0)), .b g51_ (.cells (RowI .u64 xs522_ rest58_) 25 (0, 0)), .b b40_ (.cells #[.int .i64 t22_, .int .i64 t23_, .int .i64 t24_, .int .i64 t25_, .int .i64 t26_, .int .i64 t27_, .int .i64 t28_, .slice A38_ t29_.length c39_, .int .i64 t30_, .int .i64 t31_, .int .i64 t32_, .int .u64 t33_, .int .u64 t34_, .int .u64 t35_, .bool t36_] 59 (0, 0)), .f (KC (Kd.int .u64) A38_ c39_ t29_), .b b2_ (.cells #[.int .i64 a0_0, .int .i64 a0_1, .int .i64 a0_2, .int .i64 a0_3, .int .i64 a0_4, .int .i64 a0_5, .int .i64 a0_6] 23 (0, 0)), .f (KC k46 A1 c1 l1)]) rfl (fun _ _ => ?_) (fun J_ => ?_)
          ·
            refine r_ord (l := [0, 1, 2, 3, 4, 5, 6, 7, 8, 9]) rfl (by kernel_rfl) (by kernel_rfl) ?_
            refine s_v rfl rfl rfl rfl (v_move rfl rfl) ?_
            refine s_v rfl rfl rfl rfl (v_ldA [.int .i64 a0_0, .int .i64 a0_1, .int .i64 a0_2, .int .i64 a0_3, .int .i64 a0_4, .int .i64 a0_5, .int .i64 a0_6] 4 rfl Try.underlying23 rfl SZ23 rfl rfl rfl rfl) ?_
            refine s_v rfl rfl rfl rfl (v_move rfl rfl) ?_
            refine s_v rfl rfl rfl rfl (v_arith rfl rfl rfl rfl) ?_
            refine s_v rfl rfl rfl rfl (v_move rfl rfl) ?_
            refine s_v rfl rfl rfl rfl (v_arith rfl rfl rfl rfl) ?_
            obtain ⟨t573_, e574_, H⟩ := bind_s H
            refine s_e rfl rfl (e_callF [] #[.agg #[.int .i64 a0_0, .int .i64 a0_1, .int .i64 a0_2, .int .i64 a0_3, .int .i64 a0_4, .int .i64 a0_5, .int .i64 a0_6], .int .i64 (IntKind.wrap .i64 (x262_ + 1)), .int .i64 (IntKind.wrap .i64 (6 + x521_))] rfl rfl rfl rfl rfl Try.func38 rfl (by decide) rfl rfl rfl rfl (fun w ht => stepstoneref04_Cell_con a0_0 a0_1 a0_2 a0_3 a0_4 a0_5 a0_6 (IntKind.wrap .i64 (x262_ + 1)) (IntKind.wrap .i64 (6 + x521_)) t573_ e574_ w _)) ?_
            refine s_v rfl rfl rfl rfl (v_move rfl rfl) ?_
            obtain ⟨n575_, H⟩ := ite_no H
            obtain ⟨n576_, H⟩ := ite_no H
            refine s_v rfl rfl rfl rfl (v_iaI rfl Try.underlying24 SZ25 rfl rfl n575_ n576_) ?_
            refine s_e rfl rfl (e_stI 1 rfl rfl SZ25 rfl rfl rfl n575_ (lt_lh lh_xs522_ n576_)) ?_
            refine s_end ?_
            refine q_block ?_
            refine q_seq ?_
            refine r_ord (l := [0, 1, 2]) rfl (by kernel_rfl) (by kernel_rfl) ?_
            refine s_v rfl rfl rfl rfl (v_move rfl rfl) ?_
            refine s_v rfl rfl rfl rfl (v_arith rfl rfl rfl rfl) ?_
            refine s_v rfl rfl rfl rfl (v_assign rfl rfl) ?_
            refine s_end ?_
            exact q_again (k2_, IntKind.wrap .i64 (x521_ + 1), (xs522_.set (Int.toNat t573_) j571_)) [0, 1, 2, 3, 4, 5] ⟨H, (lh_set lh_xs522_), hko_1⟩ (Nat.lt_succ_of_le hko_2) (subF_spec ⟨rfl, rfl, rfl, rfl, rfl, rfl, rfl, rfl, rfl, rfl, rfl, rfl, rfl, rfl, rfl, rfl, rfl, rfl, rfl, rfl, rfl, rfl, rfl, rfl, rfl, rfl, rfl, rfl, rfl, rfl, rfl, rfl, rfl, rfl, rfl, rfl, rfl, rfl, rfl, rfl, rfl, rfl, rfl, rfl, rfl, rfl, rfl, rfl, rfl, rfl, rfl, rfl, rfl, rfl, rfl, rfl, rfl, rfl, rfl, rfl, rfl, rfl, rfl, rfl, rfl, rfl, rfl, rfl, rfl, rfl, rfl, rfl, trivial⟩) rfl (by decide)
          ·
            clear H
            have H := e572_
            clear e572_
            refine c_seq rfl ?_
            refine r_ord (l := [0, 1, 2, 3, 4, 5, 6]) rfl (by kernel_rfl) (by kernel_rfl) ?_
            refine s_v rfl rfl rfl rfl (v_move rfl rfl) ?_
            refine s_v rfl rfl rfl rfl (v_fa rfl Try.underlying46 rfl SZ3 rfl) ?_
            refine s_v rfl rfl rfl rfl (v_ld 0 rfl Try.underlying3 rfl rfl rfl rfl) ?_
            refine s_v rfl rfl rfl rfl (v_fa rfl Try.underlying46 rfl SZ3 rfl) ?_
            refine s_v rfl rfl rfl rfl (v_ld 0 rfl Try.underlying3 rfl rfl rfl rfl) ?_
            refine s_v rfl rfl rfl rfl (v_arith rfl rfl rfl rfl) ?_
            refine s_v rfl rfl rfl rfl (v_arith rfl rfl rfl rfl) ?_
            refine s_end ?_
            refine q_seq ?_
            rcases Bool.eq_false_or_eq_true (decide ((x521_ : Int) ≥ (IntKind.wrap .i64 (((rd_T46 l1 x262_).f2) - ((rd_T46 l1 x262_).f3))))) with h577_ | h577_
            ·
              replace H := ite_y (dec_t h577_) H
              refine c_cond rfl rfl (fun _ => ?_) (fun h578_ => absurd (h578_.symm.trans h577_) (by decide))
              refine r_ord (l := [0, 1, 2]) rfl (by kernel_rfl) (by kernel_rfl) ?_
              refine s_v rfl rfl rfl rfl (v_move rfl rfl) ?_
              obtain ⟨t579_, e580_, H⟩ := bind_s H
              refine s_e rfl rfl (e_callF [] #[.int .u64 t564_] rfl rfl rfl rfl rfl Try.func40 rfl (by decide) rfl rfl rfl rfl (fun w ht => stepstoneref01_Mark_con t564_ t579_ e580_ w _)) ?_
              refine s_v rfl rfl rfl rfl (v_assign rfl rfl) ?_
              refine s_end ?_
              have hq_0 := Option.some.inj H
              subst hq_0
              exact q_seq (c_frame (subF_spec (by exact ⟨rfl, rfl, rfl, rfl, rfl, rfl, rfl, rfl, rfl, rfl, rfl, rfl, rfl, rfl, rfl, rfl, rfl, rfl, rfl, rfl, rfl, rfl, rfl, rfl, rfl, rfl, rfl, rfl, rfl, rfl, rfl, rfl, rfl, rfl, rfl, rfl, rfl, rfl, rfl, rfl, rfl, rfl, rfl, rfl, rfl, rfl, rfl, rfl, rfl, rfl, rfl, rfl, rfl, rfl, rfl, rfl, rfl, rfl, rfl, rfl, rfl, rfl, rfl, rfl, rfl, rfl, rfl, rfl, rfl, rfl, rfl, rfl, rfl, rfl, rfl, rfl, rfl, rfl, rfl, rfl, rfl, rfl, rfl, rfl, rfl, rfl, rfl, rfl, trivial⟩)) (c_take [0, 1, 2, 3, 4, 5] rfl (by decide) (J_ () trivial)))
            ·
              replace H := ite_n (dec_f h577_) H
              refine c_cond rfl rfl (fun h581_ => absurd (h581_.symm.trans h577_) (by decide)) (fun _ => ?_)
              refine c_skip rfl ?_
              have hq_0 := Option.some.inj H
              subst hq_0
              exact q_seq (c_frame (subF_spec (by exact ⟨rfl, rfl, rfl, rfl, rfl, rfl, rfl, rfl, rfl, rfl, rfl, rfl, rfl, rfl, rfl, rfl, rfl, rfl, rfl, rfl, rfl, rfl, rfl, rfl, rfl, rfl, rfl, rfl, rfl, rfl, rfl, rfl, rfl, rfl, rfl, rfl, rfl, rfl, rfl, rfl, rfl, rfl, rfl, rfl, rfl, rfl, rfl, rfl, rfl, rfl, rfl, rfl, rfl, rfl, rfl, rfl, rfl, rfl, rfl, rfl, rfl, rfl, rfl, rfl, rfl, rfl, rfl, rfl, rfl, rfl, rfl, rfl, rfl, rfl, rfl, rfl, rfl, rfl, rfl, rfl, rfl, rfl, rfl, rfl, rfl, rfl, rfl, rfl, trivial⟩)) (c_take [0, 1, 2, 3, 4, 5] rfl (by decide) (J_ () trivial)))
        ·
          replace H := ite_n (dec_f h545_) H
          refine c_cond rfl rfl (fun h582_ => absurd (h582_.symm.trans h545_) (by decide)) (fun _ => ?_)
          refine c_exit (i := 4) rfl rfl ?_
          refine q_then_exit ?_
          refine q_then_exit ?_
          refine q_block_here rfl ?_
          refine q_block ?_
          refine q_seq ?_
          refine r_ord (l := [0, 1, 2]) rfl (by kernel_rfl) (by kernel_rfl) ?_
          refine s_v rfl rfl rfl rfl (v_move rfl rfl) ?_
          refine s_v rfl rfl rfl rfl (v_arith rfl rfl rfl rfl) ?_
          refine s_v rfl rfl rfl rfl (v_assign rfl rfl) ?_
          refine s_end ?_
          exact q_again (k2_, IntKind.wrap .i64 (x262_ + 1), xs522_) [1, 2, 3, 4, 5] ⟨H, lh_xs522_⟩ (Nat.lt_succ_of_le hko_1) (subF_spec ⟨rfl, rfl, rfl, rfl, rfl, trivial⟩) rfl (by decide)
      ·
        replace H := ite_n (not_t h473_) H
        refine c_cond rfl rfl (fun h583_ => absurd (h583_.symm.trans h473_) (by decide)) (fun _ => ?_)
        refine c_skip rfl ?_
        refine q_seq ?_
        refine c_seq rfl ?_
        refine r_ord (l := [0, 1, 2, 3, 4, 5, 6]) rfl (by kernel_rfl) (by kernel_rfl) ?_
        refine s_v rfl rfl rfl rfl (v_move rfl rfl) ?_
        refine s_v rfl rfl rfl rfl (v_ldA [.int .i64 a0_0, .int .i64 a0_1, .int .i64 a0_2, .int .i64 a0_3, .int .i64 a0_4, .int .i64 a0_5, .int .i64 a0_6] 4 rfl Try.underlying23 rfl SZ23 rfl rfl rfl rfl) ?_
        refine s_v rfl rfl rfl rfl (v_move rfl rfl) ?_
        refine s_v rfl rfl rfl rfl (v_arith rfl rfl rfl rfl) ?_
        obtain ⟨t588_, e589_, H⟩ := bind_s H
        refine s_e rfl rfl (e_callF [] #[.agg #[.int .i64 a0_0, .int .i64 a0_1, .int .i64 a0_2, .int .i64 a0_3, .int .i64 a0_4, .int .i64 a0_5, .int .i64 a0_6], .int .i64 (IntKind.wrap .i64 (x262_ + 1)), .int .i64 3] rfl rfl rfl rfl rfl Try.func38 rfl (by decide) rfl rfl rfl rfl (fun w ht => stepstoneref04_Cell_con a0_0 a0_1 a0_2 a0_3 a0_4 a0_5 a0_6 (IntKind.wrap .i64 (x262_ + 1)) 3 t588_ e589_ w _)) ?_
        obtain ⟨n590_, H⟩ := ite_no H
        obtain ⟨n591_, H⟩ := ite_no H
        refine s_v rfl rfl rfl rfl (v_iaI rfl Try.underlying24 SZ25 rfl rfl n590_ n591_) ?_
        refine s_e rfl rfl (e_stI 1 rfl rfl SZ25 rfl rfl rfl n590_ (lt_lh (lh_set (lh_set (lh_set lh_xs263_))) n591_)) ?_
        refine s_end ?_
        refine q_seq ?_
        refine c_seq rfl ?_
        obtain ⟨t596_, e597_, H⟩ := bind_s H
        obtain ⟨n598_, H⟩ := ite_no H
        obtain ⟨n599_, H⟩ := ite_no H
        refine r_any [.b b437_ (.cells #[.int .u64 ((rd_T46 l1 x262_).f0), .int .u64 ((rd_T46 l1 x262_).f1), .int .i64 ((rd_T46 l1 x262_).f2), .int .i64 ((rd_T46 l1 x262_).f3), .bool ((rd_T46 l1 x262_).f4)] 46 (0, 0)), .b b40_ (.cells #[.int .i64 t22_, .int .i64 t23_, .int .i64 t24_, .int .i64 t25_, .int .i64 t26_, .int .i64 t27_, .int .i64 t28_, .slice A38_ t29_.length c39_, .int .i64 t30_, .int .i64 t31_, .int .i64 t32_, .int .u64 t33_, .int .u64 t34_, .int .u64 t35_, .bool t36_] 59 (0, 0)), .f (KC (Kd.int .u64) A38_ c39_ t29_), .b b2_ (.cells #[.int .i64 a0_0, .int .i64 a0_1, .int .i64 a0_2, .int .i64 a0_3, .int .i64 a0_4, .int .i64 a0_5, .int .i64 a0_6] 23 (0, 0)), .f (KC k46 A1 c1 l1)] (by kernel_rfl) rfl (by kernel_rfl) (mem_pick (idx := [0, 2, 3, 4, 5]) rfl) ?_
        refine a_v 0 rfl (by kernel_rfl) (by kernel_rfl) (by kernel_rfl) rfl rfl rfl (v_move rfl rfl) ?_
        refine a_v 1 rfl (by kernel_rfl) (by kernel_rfl) (by kernel_rfl) rfl rfl rfl (v_ldA [.int .i64 a0_0, .int .i64 a0_1, .int .i64 a0_2, .int .i64 a0_3, .int .i64 a0_4, .int .i64 a0_5, .int .i64 a0_6] 3 rfl Try.underlying23 rfl SZ23 rfl rfl rfl rfl) ?_
        refine a_v 2 rfl (by kernel_rfl) (by kernel_rfl) (by kernel_rfl) rfl rfl rfl (v_move rfl rfl) ?_
        refine a_v 3 rfl (by kernel_rfl) (by kernel_rfl) (by kernel_rfl) rfl rfl rfl (v_arith rfl rfl rfl rfl) ?_
        refine a_v 5 rfl (by kernel_rfl) (by kernel_rfl) (by kernel_rfl) rfl rfl rfl (v_fa rfl Try.underlying46 rfl SZ3 rfl) ?_
        refine a_v 6 rfl (by kernel_rfl) (by kernel_rfl) (by kernel_rfl) rfl rfl rfl (v_ld 0 rfl Try.underlying3 rfl rfl rfl rfl) ?_
        refine a_v 7 rfl (by kernel_rfl) (by kernel_rfl) (by kernel_rfl) rfl rfl rfl (v_conv rfl Try.underlying3 Try.underlying25 rfl) ?_
        refine a_1 (i := 4) (by kernel_rfl) ?_
        refine i_e rfl rfl (e_callF [] #[.agg #[.int .i64 a0_0, .int .i64 a0_1, .int .i64 a0_2, .int .i64 a0_3, .int .i64 a0_4, .int .i64 a0_5, .int .i64 a0_6], .int .i64 (IntKind.wrap .i64 (x262_ + 1)), .int .i64 4] rfl rfl rfl rfl rfl Try.func38 rfl (by decide) rfl rfl rfl rfl (fun w ht => stepstoneref04_Cell_con a0_0 a0_1 a0_2 a0_3 a0_4 a0_5 a0_6 (IntKind.wrap .i64 (x262_ + 1)) 4 t596_ e597_ w _)) ?_
        refine ⟨(mem_pick (idx := [0, 2, 3, 4, 5]) rfl), ?_⟩
        refine a_1 (i := 8) (by kernel_rfl) ?_
        refine i_v rfl rfl rfl rfl (v_iaI rfl Try.underlying24 SZ25 rfl rfl n598_ n599_) ?_
        refine a_1 (i := 9) (by kernel_rfl) ?_
        refine i_e rfl rfl (e_stI 1 rfl rfl SZ25 rfl rfl rfl n598_ (lt_lh (lh_set (lh_set (lh_set (lh_set lh_xs263_)))) n599_)) ?_
        refine ⟨(mem_pick (idx := [0, 2, 3, 4, 5]) rfl), ?_⟩
        refine a_end (by kernel_rfl) ?_
        refine q_seq ?_
        refine c_seq rfl ?_
        refine r_ord (l := [0, 1, 2, 3, 4, 5, 6]) rfl (by kernel_rfl) (by kernel_rfl) ?_
        refine s_v rfl rfl rfl rfl (v_move rfl rfl) ?_
        refine s_v rfl rfl rfl rfl (v_ldA [.int .i64 a0_0, .int .i64 a0_1, .int .i64 a0_2, .int .i64 a0_3, .int .i64 a0_4, .int .i64 a0_5, .int .i64 a0_6] 4 rfl Try.underlying23 rfl SZ23 rfl rfl rfl rfl) ?_
        refine s_v rfl rfl rfl rfl (v_move rfl rfl) ?_
        refine s_v rfl rfl rfl rfl (v_arith rfl rfl rfl rfl) ?_
        obtain ⟨t604_, e605_, H⟩ := bind_s H
        refine s_e rfl rfl (e_callF [] #[.agg #[.int .i64 a0_0, .int .i64 a0_1, .int .i64 a0_2, .int .i64 a0_3, .int .i64 a0_4, .int .i64 a0_5, .int .i64 a0_6], .int .i64 (IntKind.wrap .i64 (x262_ + 1)), .int .i64 5] rfl rfl rfl rfl rfl Try.func38 rfl (by decide) rfl rfl rfl rfl (fun w ht => stepstoneref04_Cell_con a0_0 a0_1 a0_2 a0_3 a0_4 a0_5 a0_6 (IntKind.wrap .i64 (x262_ + 1)) 5 t604_ e605_ w _)) ?_
        obtain ⟨n606_, H⟩ := ite_no H
        obtain ⟨n607_, H⟩ := ite_no H
        refine s_v rfl rfl rfl rfl (v_iaI rfl Try.underlying24 SZ25 rfl rfl n606_ n607_) ?_
        refine s_e rfl rfl (e_stI 1 rfl rfl SZ25 rfl rfl rfl n606_ (lt_lh (lh_set (lh_set (lh_set (lh_set (lh_set lh_xs263_))))) n607_)) ?_
        refine s_end ?_
        refine q_seq ?_
        refine c_seq rfl ?_
        refine r_ord (l := [0]) rfl (by kernel_rfl) (by kernel_rfl) ?_
        refine s_v rfl rfl rfl rfl (v_assign rfl rfl) ?_
        refine s_end ?_
        refine q_seq ?_
        refine c_block rfl ?_
        refine c_loop (σ := Nat × Int × List Int) (fun s_ : Nat × Int × List Int => match s_ with | (k, x626_, xs627_) => stepstoneref11_Lay.l3 k a0_0 a0_1 a0_2 a0_3 a0_4 a0_5 a0_6 l1 t29_ x262_ x626_ xs627_ = some r0 ∧ xs627_.length = (([] : List Int) ++ t29_).length ∧ k ≤ k1_) (fun s_ : Nat × Int × List Int => match s_ with | (k, x626_, xs627_) => k) (fun s_ : Nat × Int × List Int => match s_ with | (k, x626_, xs627_) => [(1, .slice A1 l1.length c1), (2, .pointer (some ⟨b2_, 0, none⟩)), (4, .slice none 0 0), (6, .slice (some ⟨g51_, 0, none⟩) ((([] : List Int) ++ t29_).length) cap52_), (8, .int .i64 x262_), (34, .int .i64 x262_), (35, .slice A1 l1.length c1), (36, .int .i64 (l1.length : Int)), (37, .bool (decide ((x262_ : Int) < (l1.length : Int)))), (40, .slice A1 l1.length c1), (41, .int .i64 x262_), (42, .pointer (some (at0 A1 x262_ 5))), (43, .agg #[.int .u64 ((rd_T46 l1 x262_).f0), .int .u64 ((rd_T46 l1 x262_).f1), .int .i64 ((rd_T46 l1 x262_).f2), .int .i64 ((rd_T46 l1 x262_).f3), .bool ((rd_T46 l1 x262_).f4)]), (9, .pointer (some ⟨b437_, 0, none⟩)), (44, .slice (some ⟨g51_, 0, none⟩) ((([] : List Int) ++ t29_).length) cap52_), (45, .agg #[.int .i64 a0_0, .int .i64 a0_1, .int .i64 a0_2, .int .i64 a0_3, .int .i64 a0_4, .int .i64 a0_5, .int .i64 a0_6]), (46, .int .i64 x262_), (47, .int .i64 (IntKind.wrap .i64 (x262_ + 1))), (48, .int .i64 t444_), (49, .int .u64 t446_), (50, .pointer (some ⟨g51_, Int.toNat t444_, none⟩)), (51, .slice (some ⟨g51_, 0, none⟩) ((([] : List Int) ++ t29_).length) cap52_), (52, .agg #[.int .i64 a0_0, .int .i64 a0_1, .int .i64 a0_2, .int .i64 a0_3, .int .i64 a0_4, .int .i64 a0_5, .int .i64 a0_6]), (53, .int .i64 x262_), (54, .int .i64 (IntKind.wrap .i64 (x262_ + 1))), (56, .pointer (some ⟨b437_, 0, none⟩)), (57, .int .u64 ((rd_T46 l1 x262_).f0)), (55, .int .i64 t454_), (58, .pointer (some ⟨g51_, Int.toNat t454_, none⟩)), (59, .slice (some ⟨g51_, 0, none⟩) ((([] : List Int) ++ t29_).length) cap52_), (60, .agg #[.int .i64 a0_0, .int .i64 a0_1, .int .i64 a0_2, .int .i64 a0_3, .int .i64 a0_4, .int .i64 a0_5, .int .i64 a0_6]), (61, .int .i64 x262_), (62, .int .i64 (IntKind.wrap .i64 (x262_ + 1))), (64, .pointer (some ⟨b437_, 1, none⟩)), (65, .int .u64 ((rd_T46 l1 x262_).f1)), (66, .int .u64 (IntKind.wrap .u64 (2 * ((rd_T46 l1 x262_).f1)))), (63, .int .i64 t462_), (67, .pointer (some ⟨g51_, Int.toNat t462_, none⟩)), (68, .pointer (some ⟨b437_, 4, none⟩)), (69, .bool ((rd_T46 l1 x262_).f4)), (80, .slice (some ⟨g51_, 0, none⟩) ((([] : List Int) ++ t29_).length) cap52_), (81, .agg #[.int .i64 a0_0, .int .i64 a0_1, .int .i64 a0_2, .int .i64 a0_3, .int .i64 a0_4, .int .i64 a0_5, .int .i64 a0_6]), (82, .int .i64 x262_), (83, .int .i64 (IntKind.wrap .i64 (x262_ + 1))), (84, .int .i64 t588_), (85, .pointer (some ⟨g51_, Int.toNat t588_, none⟩)), (86, .slice (some ⟨g51_, 0, none⟩) ((([] : List Int) ++ t29_).length) cap52_), (87, .agg #[.int .i64 a0_0, .int .i64 a0_1, .int .i64 a0_2, .int .i64 a0_3, .int .i64 a0_4, .int .i64 a0_5, .int .i64 a0_6]), (88, .int .i64 x262_), (89, .int .i64 (IntKind.wrap .i64 (x262_ + 1))), (91, .pointer (some ⟨b437_, 2, none⟩)), (92, .int .i64 ((rd_T46 l1 x262_).f2)), (93, .int .u64 (IntKind.wrap .u64 ((rd_T46 l1 x262_).f2))), (90, .int .i64 t596_), (94, .pointer (some ⟨g51_, Int.toNat t596_, none⟩)), (95, .slice (some ⟨g51_, 0, none⟩) ((([] : List Int) ++ t29_).length) cap52_), (96, .agg #[.int .i64 a0_0, .int .i64 a0_1, .int .i64 a0_2, .int .i64 a0_3, .int .i64 a0_4, .int .i64 a0_5, .int .i64 a0_6]), (97, .int .i64 x262_), (98, .int .i64 (IntKind.wrap .i64 (x262_ + 1))), (99, .int .i64 t604_), (100, .pointer (some ⟨g51_, Int.toNat t604_, none⟩)), (10, .int .i64 x626_)]) (fun s_ : Nat × Int × List Int => match s_ with | (k, x626_, xs627_) => [.b b437_ (.cells #[.int .u64 ((rd_T46 l1 x262_).f0), .int .u64 ((rd_T46 l1 x262_).f1), .int .i64 ((rd_T46 l1 x262_).f2), .int .i64 ((rd_T46 l1 x262_).f3), .bool ((rd_T46 l1 x262_).f4)] 46 (0, 0)), .b g51_ (.cells (RowI .u64 xs627_ rest58_) 25 (0, 0)), .b b40_ (.cells #[.int .i64 t22_, .int .i64 t23_, .int .i64 t24_, .int .i64 t25_, .int .i64 t26_, .int .i64 t27_, .int .i64 t28_, .slice A38_ t29_.length c39_, .int .i64 t30_, .int .i64 t31_, .int .i64 t32_, .int .u64 t33_, .int .u64 t34_, .int .u64 t35_, .bool t36_] 59 (0, 0)), .f (KC (Kd.int .u64) A38_ c39_ t29_), .b b2_ (.cells #[.int .i64 a0_0, .int .i64 a0_1, .int .i64 a0_2, .int .i64 a0_3, .int .i64 a0_4, .int .i64 a0_5, .int .i64 a0_6] 23 (0, 0)), .f (KC k46 A1 c1 l1)]) (k1_, 0, ((((((xs263_.set (Int.toNat t444_) t446_).set (Int.toNat t454_) ((rd_T46 l1 x262_).f0)).set (Int.toNat t462_) (IntKind.wrap .u64 (2 * ((rd_T46 l1 x262_).f1)))).set (Int.toNat t588_) 1).set (Int.toNat t596_) (IntKind.wrap .u64 ((rd_T46 l1 x262_).f2))).set (Int.toNat t604_) 1)) [0, 1, 2, 3, 4, 5] rfl ⟨H, (lh_set (lh_set (lh_set (lh_set (lh_set (lh_set lh_xs263_)))))), hko_1⟩ (subF_spec ⟨rfl, rfl, rfl, rfl, rfl, rfl, rfl, rfl, rfl, rfl, rfl, rfl, rfl, rfl, rfl, rfl, rfl, rfl, rfl, rfl, rfl, rfl, rfl, rfl, rfl, rfl, rfl, rfl, rfl, rfl, rfl, rfl, rfl, rfl, rfl, rfl, rfl, rfl, rfl, rfl, rfl, rfl, rfl, rfl, rfl, rfl, rfl, rfl, rfl, rfl, rfl, rfl, rfl, rfl, rfl, rfl, rfl, rfl, rfl, rfl, rfl, rfl, trivial⟩) rfl (by decide) ?_
        rintro ⟨k3_, x626_, xs627_⟩ hs646_
        clear H
        obtain ⟨H, lh_xs627_, hko_1⟩ : stepstoneref11_Lay.l3 k3_ a0_0 a0_1 a0_2 a0_3 a0_4 a0_5 a0_6 l1 t29_ x262_ x626_ xs627_ = some r0 ∧ xs627_.length = (([] : List Int) ++ t29_).length ∧ k3_ ≤ k1_ := hs646_
        try clear hs646_
        rcases k3_ with _ | k3_
        · exact none_no (show none = _ from H)
        unfold stepstoneref11_Lay.l3 at H
        replace hko_1 := Nat.le_of_succ_le hko_1
        have hko_3 : k3_ ≤ k3_ := Nat.le_refl _
        refine c_seq rfl ?_
        refine c_seq rfl ?_
        refine r_ord (l := [0, 1, 2, 3]) rfl (by kernel_rfl) (by kernel_rfl) ?_
        refine s_v rfl rfl rfl rfl (v_move rfl rfl) ?_
        refine s_v rfl rfl rfl rfl (v_fa rfl Try.underlying46 rfl SZ3 rfl) ?_
        refine s_v rfl rfl rfl rfl (v_ld 0 rfl Try.underlying3 rfl rfl rfl rfl) ?_
        refine s_v rfl rfl rfl rfl (v_arith rfl rfl rfl rfl) ?_
        refine s_end ?_
        refine q_seq ?_
        rcases Bool.eq_false_or_eq_true (decide ((x626_ : Int) < ((rd_T46 l1 x262_).f2))) with h650_ | h650_
        ·
          replace H := ite_y (dec_t h650_) H
          refine c_cond rfl rfl (fun _ => ?_) (fun h651_ => absurd (h651_.symm.trans h650_) (by decide))
          refine c_skip rfl ?_
          refine q_seq ?_
          refine c_seq rfl ?_
          refine c_block rfl ?_
          refine c_seq rfl ?_
          refine r_ord (l := [0, 1, 2, 3, 4]) rfl (by kernel_rfl) (by kernel_rfl) ?_
          refine s_v rfl rfl rfl rfl (v_move rfl rfl) ?_
          refine s_v rfl rfl rfl rfl (v_move rfl rfl) ?_
          refine s_v rfl rfl rfl rfl (v_move rfl rfl) ?_
          obtain ⟨t669_, e670_, H⟩ := bind_s H
          refine s_e rfl rfl (e_callF [5] #[.slice A1 l1.length c1, .int .i64 x262_, .int .i64 x626_] rfl rfl rfl rfl rfl Try.func37 rfl (by decide) rfl rfl rfl rfl (fun w ht => stepstoneref11_behind_con _ A1 c1 l1 x262_ x626_ t669_ e670_ w _)) ?_
          refine s_v rfl rfl rfl rfl (v_assign rfl rfl) ?_
          refine s_end ?_
          refine q_seq ?_
          obtain ⟨j676_, e677_, H⟩ := bind_s H
          refine c_join (β := Unit) (fun _ => True) (fun _ => [(1, .slice A1 l1.length c1), (2, .pointer (some ⟨b2_, 0, none⟩)), (4, .slice none 0 0), (6, .slice (some ⟨g51_, 0, none⟩) ((([] : List Int) ++ t29_).length) cap52_), (8, .int .i64 x262_), (34, .int .i64 x262_), (35, .slice A1 l1.length c1), (36, .int .i64 (l1.length : Int)), (37, .bool (decide ((x262_ : Int) < (l1.length : Int)))), (40, .slice A1 l1.length c1), (41, .int .i64 x262_), (42, .pointer (some (at0 A1 x262_ 5))), (43, .agg #[.int .u64 ((rd_T46 l1 x262_).f0), .int .u64 ((rd_T46 l1 x262_).f1), .int .i64 ((rd_T46 l1 x262_).f2), .int .i64 ((rd_T46 l1 x262_).f3), .bool ((rd_T46 l1 x262_).f4)]), (9, .pointer (some ⟨b437_, 0, none⟩)), (44, .slice (some ⟨g51_, 0, none⟩) ((([] : List Int) ++ t29_).length) cap52_), (45, .agg #[.int .i64 a0_0, .int .i64 a0_1, .int .i64 a0_2, .int .i64 a0_3, .int .i64 a0_4, .int .i64 a0_5, .int .i64 a0_6]), (46, .int .i64 x262_), (47, .int .i64 (IntKind.wrap .i64 (x262_ + 1))), (48, .int .i64 t444_), (49, .int .u64 t446_), (50, .pointer (some ⟨g51_, Int.toNat t444_, none⟩)), (51, .slice (some ⟨g51_, 0, none⟩) ((([] : List Int) ++ t29_).length) cap52_), (52, .agg #[.int .i64 a0_0, .int .i64 a0_1, .int .i64 a0_2, .int .i64 a0_3, .int .i64 a0_4, .int .i64 a0_5, .int .i64 a0_6]), (53, .int .i64 x262_), (54, .int .i64 (IntKind.wrap .i64 (x262_ + 1))), (56, .pointer (some ⟨b437_, 0, none⟩)), (57, .int .u64 ((rd_T46 l1 x262_).f0)), (55, .int .i64 t454_), (58, .pointer (some ⟨g51_, Int.toNat t454_, none⟩)), (59, .slice (some ⟨g51_, 0, none⟩) ((([] : List Int) ++ t29_).length) cap52_), (60, .agg #[.int .i64 a0_0, .int .i64 a0_1, .int .i64 a0_2, .int .i64 a0_3, .int .i64 a0_4, .int .i64 a0_5, .int .i64 a0_6]), (61, .int .i64 x262_), (62, .int .i64 (IntKind.wrap .i64 (x262_ + 1))), (64, .pointer (some ⟨b437_, 1, none⟩)), (65, .int .u64 ((rd_T46 l1 x262_).f1)), (66, .int .u64 (IntKind.wrap .u64 (2 * ((rd_T46 l1 x262_).f1)))), (63, .int .i64 t462_), (67, .pointer (some ⟨g51_, Int.toNat t462_, none⟩)), (68, .pointer (some ⟨b437_, 4, none⟩)), (69, .bool ((rd_T46 l1 x262_).f4)), (80, .slice (some ⟨g51_, 0, none⟩) ((([] : List Int) ++ t29_).length) cap52_), (81, .agg #[.int .i64 a0_0, .int .i64 a0_1, .int .i64 a0_2, .int .i64 a0_3, .int .i64 a0_4, .int .i64 a0_5, .int .i64 a0_6]), (82, .int .i64 x262_), (83, .int .i64 (IntKind.wrap .i64 (x262_ + 1))), (84, .int .i64 t588_), (85, .pointer (some ⟨g51_, Int.toNat t588_, none⟩)), (86, .slice (some ⟨g51_, 0, none⟩) ((([] : List Int) ++ t29_).length) cap52_), (87, .agg #[.int .i64 a0_0, .int .i64 a0_1, .int .i64 a0_2, .int .i64 a0_3, .int .i64 a0_4, .int .i64 a0_5, .int .i64 a0_6]), (88, .int .i64 x262_), (89, .int .i64 (IntKind.wrap .i64 (x262_ + 1))), (91, .pointer (some ⟨b437_, 2, none⟩)), (92, .int .i64 ((rd_T46 l1 x262_).f2)), (93, .int .u64 (IntKind.wrap .u64 ((rd_T46 l1 x262_).f2))), (90, .int .i64 t596_), (94, .pointer (some ⟨g51_, Int.toNat t596_, none⟩)), (95, .slice (some ⟨g51_, 0, none⟩) ((([] : List Int) ++ t29_).length) cap52_), (96, .agg #[.int .i64 a0_0, .int .i64 a0_1, .int .i64 a0_2, .int .i64 a0_3, .int .i64 a0_4, .int .i64 a0_5, .int .i64 a0_6]), (97, .int .i64 x262_), (98, .int .i64 (IntKind.wrap .i64 (x262_ + 1))), (99, .int .i64 t604_), (100, .pointer (some ⟨g51_, Int.toNat t604_, none⟩)), (10, .int .i64 x626_), (101, .int .i64 x626_), (102, .pointer (some ⟨b437_, 2, none⟩)), (103, .int .i64 ((rd_T46 l1 x262_).f2)), (104, .bool (decide ((x626_ : Int) < ((rd_T46 l1 x262_).f2)))), (107, .slice A1 l1.length c1), (108, .int .i64 x262_), (109, .int .i64 x626_), (110, .int .u64 t669_), (11, .int .u64 j676_), (111, .int .i64 x626_), (112, .pointer (some ⟨b437_, 2, none⟩)), (113, .int .i64 ((rd_T46 l1 x262_).f2)), (114, .pointer (some ⟨b437_, 3, none⟩)), (115, .int .i64 ((rd_T46 l1 x262_).f3)), (116, .int .i64 (IntKind.wrap .i64 (((rd_T46 l1 x262_).f2) - ((rd_T46 l1 x262_).f3)))), (117, .bool (decide ((x626_ : Int) ≥ (IntKind.wrap .i64 (((rd_T46 l1 x262_).f2) - ((rd_T46 l1 x262_).f3))))))]) (fun _ => [.b b437_ (.cells #[.int .u64 ((rd_T46 l1 x262_).f0), .int .u64 ((rd_T46 l1 x262_).f1), .int .i64 ((rd_T46 l1 x262_).f2), .int .i64 ((rd_T46 l1 x262_).f3), .bool ((rd_T46 l1 x262_).f4)] 46 (0, 0)), .b g51_ (.cells (RowI .u64 xs627_ rest58_) 25 (0, 0)), .b b40_ (.cells #[.int .i64 t22_, .int .i64 t23_, .int .i64 t24_, .int .i64 t25_, .int .i64 t26_, .int .i64 t27_, .int .i64 t28_, .slice A38_ t29_.length c39_, .int .i64 t30_, .int .i64 t31_, .int .i64 t32_, .int .u64 t33_, .int .u64 t34_, .int .u64 t35_, .bool t36_] 59 (0, 0)), .f (KC (Kd.int .u64) A38_ c39_ t29_), .b b2_ (.cells #[.int .i64 a0_0, .int .i64 a0_1, .int .i64 a0_2, .int .i64 a0_3, .int .i64 a0_4, .int .i64 a0_5, .int .i64 a0_6] 23 (0, 0)), .f (KC k46 A1 c1 l1)]) rfl (fun _ _ => ?_) (fun J_ => ?_)
          ·
            refine r_ord (l := [0, 1, 2, 3, 4, 5, 6, 7, 8, 9]) rfl (by kernel_rfl) (by kernel_rfl) ?_
            refine s_v rfl rfl rfl rfl (v_move rfl rfl) ?_
            refine s_v rfl rfl rfl rfl (v_ldA [.int .i64 a0_0, .int .i64 a0_1, .int .i64 a0_2, .int .i64 a0_3, .int .i64 a0_4, .int .i64 a0_5, .int .i64 a0_6] 4 rfl Try.underlying23 rfl SZ23 rfl rfl rfl rfl) ?_
            refine s_v rfl rfl rfl rfl (v_move rfl rfl) ?_
            refine s_v rfl rfl rfl rfl (v_arith rfl rfl rfl rfl) ?_
            refine s_v rfl rfl rfl rfl (v_move rfl rfl) ?_
            refine s_v rfl rfl rfl rfl (v_arith rfl rfl rfl rfl) ?_
            obtain ⟨t678_, e679_, H⟩ := bind_s H
            refine s_e rfl rfl (e_callF [] #[.agg #[.int .i64 a0_0, .int .i64 a0_1, .int .i64 a0_2, .int .i64 a0_3, .int .i64 a0_4, .int .i64 a0_5, .int .i64 a0_6], .int .i64 (IntKind.wrap .i64 (x262_ + 1)), .int .i64 (IntKind.wrap .i64 (6 + x626_))] rfl rfl rfl rfl rfl Try.func38 rfl (by decide) rfl rfl rfl rfl (fun w ht => stepstoneref04_Cell_con a0_0 a0_1 a0_2 a0_3 a0_4 a0_5 a0_6 (IntKind.wrap .i64 (x262_ + 1)) (IntKind.wrap .i64 (6 + x626_)) t678_ e679_ w _)) ?_
            refine s_v rfl rfl rfl rfl (v_move rfl rfl) ?_
            obtain ⟨n680_, H⟩ := ite_no H
            obtain ⟨n681_, H⟩ := ite_no H
            refine s_v rfl rfl rfl rfl (v_iaI rfl Try.underlying24 SZ25 rfl rfl n680_ n681_) ?_
            refine s_e rfl rfl (e_stI 1 rfl rfl SZ25 rfl rfl rfl n680_ (lt_lh lh_xs627_ n681_)) ?_
            refine s_end ?_
            refine q_block ?_
            refine q_seq ?_
            refine r_ord (l := [0, 1, 2]) rfl (by kernel_rfl) (by kernel_rfl) ?_
            refine s_v rfl rfl rfl rfl (v_move rfl rfl) ?_
            refine s_v rfl rfl rfl rfl (v_arith rfl rfl rfl rfl) ?_
            refine s_v rfl rfl rfl rfl (v_assign rfl rfl) ?_
            refine s_end ?_
            exact q_again (k3_, IntKind.wrap .i64 (x626_ + 1), (xs627_.set (Int.toNat t678_) j676_)) [0, 1, 2, 3, 4, 5] ⟨H, (lh_set lh_xs627_), hko_1⟩ (Nat.lt_succ_of_le hko_3) (subF_spec ⟨rfl, rfl, rfl, rfl, rfl, rfl, rfl, rfl, rfl, rfl, rfl, rfl, rfl, rfl, rfl, rfl, rfl, rfl, rfl, rfl, rfl, rfl, rfl, rfl, rfl, rfl, rfl, rfl, rfl, rfl, rfl, rfl, rfl, rfl, rfl, rfl, rfl, rfl, rfl, rfl, rfl, rfl, rfl, rfl, rfl, rfl, rfl, rfl, rfl, rfl, rfl, rfl, rfl, rfl, rfl, rfl, rfl, rfl, rfl, rfl, rfl, rfl, trivial⟩) rfl (by decide)
          ·
            clear H
            have H := e677_
            clear e677_
            refine c_seq rfl ?_
            refine r_ord (l := [0, 1, 2, 3, 4, 5, 6]) rfl (by kernel_rfl) (by kernel_rfl) ?_
            refine s_v rfl rfl rfl rfl (v_move rfl rfl) ?_
            refine s_v rfl rfl rfl rfl (v_fa rfl Try.underlying46 rfl SZ3 rfl) ?_
            refine s_v rfl rfl rfl rfl (v_ld 0 rfl Try.underlying3 rfl rfl rfl rfl) ?_
            refine s_v rfl rfl rfl rfl (v_fa rfl Try.underlying46 rfl SZ3 rfl) ?_
            refine s_v rfl rfl rfl rfl (v_ld 0 rfl Try.underlying3 rfl rfl rfl rfl) ?_
            refine s_v rfl rfl rfl rfl (v_arith rfl rfl rfl rfl) ?_
            refine s_v rfl rfl rfl rfl (v_arith rfl rfl rfl rfl) ?_
            refine s_end ?_
            refine q_seq ?_
            rcases Bool.eq_false_or_eq_true (decide ((x626_ : Int) ≥ (IntKind.wrap .i64 (((rd_T46 l1 x262_).f2) - ((rd_T46 l1 x262_).f3))))) with h682_ | h682_
            ·
              replace H := ite_y (dec_t h682_) H
              refine c_cond rfl rfl (fun _ => ?_) (fun h683_ => absurd (h683_.symm.trans h682_) (by decide))
              refine r_ord (l := [0, 1, 2]) rfl (by kernel_rfl) (by kernel_rfl) ?_
              refine s_v rfl rfl rfl rfl (v_move rfl rfl) ?_
              obtain ⟨t684_, e685_, H⟩ := bind_s H
              refine s_e rfl rfl (e_callF [] #[.int .u64 t669_] rfl rfl rfl rfl rfl Try.func40 rfl (by decide) rfl rfl rfl rfl (fun w ht => stepstoneref01_Mark_con t669_ t684_ e685_ w _)) ?_
              refine s_v rfl rfl rfl rfl (v_assign rfl rfl) ?_
              refine s_end ?_
              have hq_0 := Option.some.inj H
              subst hq_0
              exact q_seq (c_frame (subF_spec (by exact ⟨rfl, rfl, rfl, rfl, rfl, rfl, rfl, rfl, rfl, rfl, rfl, rfl, rfl, rfl, rfl, rfl, rfl, rfl, rfl, rfl, rfl, rfl, rfl, rfl, rfl, rfl, rfl, rfl, rfl, rfl, rfl, rfl, rfl, rfl, rfl, rfl, rfl, rfl, rfl, rfl, rfl, rfl, rfl, rfl, rfl, rfl, rfl, rfl, rfl, rfl, rfl, rfl, rfl, rfl, rfl, rfl, rfl, rfl, rfl, rfl, rfl, rfl, rfl, rfl, rfl, rfl, rfl, rfl, rfl, rfl, rfl, rfl, rfl, rfl, rfl, rfl, rfl, rfl, trivial⟩)) (c_take [0, 1, 2, 3, 4, 5] rfl (by decide) (J_ () trivial)))
            ·
              replace H := ite_n (dec_f h682_) H
              refine c_cond rfl rfl (fun h686_ => absurd (h686_.symm.trans h682_) (by decide)) (fun _ => ?_)
              refine c_skip rfl ?_
              have hq_0 := Option.some.inj H
              subst hq_0
              exact q_seq (c_frame (subF_spec (by exact ⟨rfl, rfl, rfl, rfl, rfl, rfl, rfl, rfl, rfl, rfl, rfl, rfl, rfl, rfl, rfl, rfl, rfl, rfl, rfl, rfl, rfl, rfl, rfl, rfl, rfl, rfl, rfl, rfl, rfl, rfl, rfl, rfl, rfl, rfl, rfl, rfl, rfl, rfl, rfl, rfl, rfl, rfl, rfl, rfl, rfl, rfl, rfl, rfl, rfl, rfl, rfl, rfl, rfl, rfl, rfl, rfl, rfl, rfl, rfl, rfl, rfl, rfl, rfl, rfl, rfl, rfl, rfl, rfl, rfl, rfl, rfl, rfl, rfl, rfl, rfl, rfl, rfl, rfl, trivial⟩)) (c_take [0, 1, 2, 3, 4, 5] rfl (by decide) (J_ () trivial)))
        ·
          replace H := ite_n (dec_f h650_) H
          refine c_cond rfl rfl (fun h687_ => absurd (h687_.symm.trans h650_) (by decide)) (fun _ => ?_)
          refine c_exit (i := 4) rfl rfl ?_
          refine q_then_exit ?_
          refine q_then_exit ?_
          refine q_block_here rfl ?_
          refine q_block ?_
          refine q_seq ?_
          refine r_ord (l := [0, 1, 2]) rfl (by kernel_rfl) (by kernel_rfl) ?_
          refine s_v rfl rfl rfl rfl (v_move rfl rfl) ?_
          refine s_v rfl rfl rfl rfl (v_arith rfl rfl rfl rfl) ?_
          refine s_v rfl rfl rfl rfl (v_assign rfl rfl) ?_
          refine s_end ?_
          exact q_again (k3_, IntKind.wrap .i64 (x262_ + 1), xs627_) [1, 2, 3, 4, 5] ⟨H, lh_xs627_⟩ (Nat.lt_succ_of_le hko_1) (subF_spec ⟨rfl, rfl, rfl, rfl, rfl, trivial⟩) rfl (by decide)
    ·
      replace H := ite_n (dec_f h432_) H
      refine c_cond rfl rfl (fun h688_ => absurd (h688_.symm.trans h432_) (by decide)) (fun _ => ?_)
      refine c_exit (i := 2) rfl rfl ?_
      refine q_then_exit ?_
      refine q_then_exit ?_
      refine q_block_here rfl ?_
      refine q_seq ?_
      refine c_seq rfl ?_
      refine r_ord (l := [0, 1]) rfl (by kernel_rfl) (by kernel_rfl) ?_
      refine s_v rfl rfl rfl rfl (v_move rfl rfl) ?_
      refine s_v rfl rfl rfl rfl (v_assign rfl rfl) ?_
      refine s_end ?_
      refine q_seq ?_
      refine c_ret rfl ?_
      refine q_give [0, 1, 2, 3, 4] rfl (by decide) (by simp [ids, Ent.id?]) (KC_own (k := .u64) (cap := cap52_) (xs := xs263_) RowI_take (Nat.le_trans (Nat.le_of_eq lh_xs263_) h54_) h55_) ?_
      have e_ := Option.some.inj H
      subst e_
      have hX1 := hX (some ⟨g51_, 0, none⟩) cap52_
      rw [show xs263_.length = (([] : List Int) ++ t29_).length from lh_xs263_] at hX1
      exact q_ret (vs := [.slice (some ⟨g51_, 0, none⟩) ((([] : List Int) ++ t29_).length) cap52_]) rfl (.tmp rfl .nil) [0] rfl (by decide) (hX1)
end Go.Eng
namespace Go.Eng
open Go.Proofs Go.RowKit Go.Proofs.YtbonlagecjealaaW.PrintWords Go.Proofs.Ytbonlagecjealaa.GSeq
set_option linter.unusedVariables false
set_option linter.unusedSimpArgs false
def slot_Dead.f (a0 : Int) : Option Bool := some ((IntKind.wrap .u64 (BitVec.ofInt (IntKind.bits .u64) a0 &&& BitVec.ofInt (IntKind.bits .u64) 1).toNat : Int) == 1)
set_option maxRecDepth 100000 in
set_option maxHeartbeats 4000000 in
theorem slot_Dead_con (a0 : Int) (r0 : Bool) (h : slot_Dead.f a0 = some r0) (w0 : World) (Hs : List Nat) : Con Try.prog 29 #[.int .u64 a0] w0 Hs [] (fun X => X (.bool r0) []) := by
  refine con_enter (c := bodyOf Try.f29) Try.func29 rfl (m := 6) rfl rfl rfl ?_
  intro X hX _
  have H := h
  unfold slot_Dead.f at H
  clear h
  refine c_seq rfl ?_
  refine r_ord (l := [0]) rfl (by kernel_rfl) (by kernel_rfl) ?_
  refine s_v rfl rfl rfl rfl (v_assign rfl rfl) ?_
  refine s_end ?_
  refine q_seq ?_
  refine c_seq rfl ?_
  refine r_ord (l := [0, 1, 2, 3]) rfl (by kernel_rfl) (by kernel_rfl) ?_
  refine s_v rfl rfl rfl rfl (v_move rfl rfl) ?_
  refine s_v rfl rfl rfl rfl (v_bits rfl rfl rfl rfl) ?_
  refine s_v rfl rfl rfl rfl (v_arith rfl rfl rfl rfl) ?_
  refine s_v rfl rfl rfl rfl (v_assign rfl rfl) ?_
  refine s_end ?_
  refine q_seq ?_
  refine c_ret rfl ?_
  have e_ := Option.some.inj H
  subst e_
  exact q_ret (vs := [.bool ((IntKind.wrap .u64 (BitVec.ofInt (IntKind.bits .u64) a0 &&& BitVec.ofInt (IntKind.bits .u64) 1).toNat : Int) == 1)]) rfl (.tmp rfl .nil) [] rfl (by decide) (hX)
def slot_Of.f (a0 : Int) : Option Int := some (Int.fdiv a0 (2 ^ (min (Int.toNat 1) (IntKind.bits .u64))))
set_option maxRecDepth 100000 in
set_option maxHeartbeats 4000000 in
theorem slot_Of_con (a0 : Int) (r0 : Int) (h : slot_Of.f a0 = some r0) (w0 : World) (Hs : List Nat) : Con Try.prog 30 #[.int .u64 a0] w0 Hs [] (fun X => X (.int .u64 r0) []) := by
  refine con_enter (c := bodyOf Try.f30) Try.func30 rfl (m := 5) rfl rfl rfl ?_
  intro X hX _
  have H := h
  unfold slot_Of.f at H
  clear h
  refine c_seq rfl ?_
  refine r_ord (l := [0]) rfl (by kernel_rfl) (by kernel_rfl) ?_
  refine s_v rfl rfl rfl rfl (v_assign rfl rfl) ?_
  refine s_end ?_
  refine q_seq ?_
  refine c_seq rfl ?_
  refine r_ord (l := [0, 1, 2]) rfl (by kernel_rfl) (by kernel_rfl) ?_
  refine s_v rfl rfl rfl rfl (v_move rfl rfl) ?_
  refine s_v rfl rfl rfl rfl (v_shr rfl rfl rfl (by omega)) ?_
  refine s_v rfl rfl rfl rfl (v_assign rfl rfl) ?_
  refine s_end ?_
  refine q_seq ?_
  refine c_ret rfl ?_
  have e_ := Option.some.inj H
  subst e_
  exact q_ret (vs := [.int .u64 (Int.fdiv a0 (2 ^ (min (Int.toNat 1) (IntKind.bits .u64))))]) rfl (.tmp rfl .nil) [] rfl (by decide) (hX)
def slices_Index_uint64_uint64.l0 : Nat → List Int → Int → Int → Option Int
  | 0, _, _, _ => none
  | k + 1, l0, a1, x7_ => (if (x7_ : Int) < (l0.length : Int) then (if 0 ≤ (x7_ : Int) then (if (a1 : Int) = (rd l0 x7_) then some x7_ else slices_Index_uint64_uint64.l0 k l0 a1 (IntKind.wrap .i64 (x7_ + 1))) else none) else some (-1))
def slices_Index_uint64_uint64.f (k : Nat) (l0 : List Int) (a1 : Int) : Option Int := slices_Index_uint64_uint64.l0 k l0 a1 0
set_option maxRecDepth 100000 in
set_option maxHeartbeats 4000000 in
theorem slices_Index_uint64_uint64_con (k : Nat) (A0 : Option Addr) (c0 : Nat) (l0 : List Int) (a1 : Int) (r0 : Int) (h : slices_Index_uint64_uint64.f k l0 a1 = some r0) (w0 : World) (Hs : List Nat) : Con Try.prog 73 #[.slice A0 l0.length c0, .int .u64 a1] w0 Hs [.f (KC (Kd.int .u64) A0 c0 l0)] (fun X => X (.int .i64 r0) []) := by
  refine con_enter (c := bodyOf Try.f73) Try.func73 rfl (m := 19) rfl rfl rfl ?_
  intro X hX _
  have H := h
  unfold slices_Index_uint64_uint64.f at H
  clear h
  refine c_seq rfl ?_
  refine r_ord (l := [0]) rfl (by kernel_rfl) (by kernel_rfl) ?_
  refine s_v rfl rfl rfl rfl (v_assign rfl rfl) ?_
  refine s_end ?_
  refine q_seq ?_
  refine c_seq rfl ?_
  refine c_seq rfl ?_
  refine r_ord (l := [0, 1, 2]) rfl (by kernel_rfl) (by kernel_rfl) ?_
  refine s_v rfl rfl rfl rfl (v_move rfl rfl) ?_
  refine s_v rfl rfl rfl rfl (v_len rfl rfl rfl Try.underlying24 rfl rfl) ?_
  refine s_v rfl rfl rfl rfl (v_move rfl rfl) ?_
  refine s_end ?_
  refine q_seq ?_
  refine c_block rfl ?_
  refine c_loop (σ := Nat × Int) (fun s_ : Nat × Int => match s_ with | (k, x7_) => slices_Index_uint64_uint64.l0 k l0 a1 x7_ = some r0) (fun s_ : Nat × Int => match s_ with | (k, x7_) => k) (fun s_ : Nat × Int => match s_ with | (k, x7_) => [(0, .slice A0 l0.length c0), (1, .int .u64 a1), (4, .int .i64 0), (7, .int .i64 (l0.length : Int)), (8, .int .i64 x7_)]) (fun s_ : Nat × Int => match s_ with | (k, x7_) => [.f (KC (Kd.int .u64) A0 c0 l0)]) (k, 0) [0] rfl H (subF_spec ⟨rfl, rfl, rfl, rfl, rfl, trivial⟩) rfl (by decide) ?_
  rintro ⟨k0_, x7_⟩ hs15_
  clear H
  have H : slices_Index_uint64_uint64.l0 k0_ l0 a1 x7_ = some r0 := hs15_
  try clear hs15_
  rcases k0_ with _ | k0_
  · exact none_no (show none = _ from H)
  unfold slices_Index_uint64_uint64.l0 at H
  have hko_0 : k0_ ≤ k0_ := Nat.le_refl _
  refine c_seq rfl ?_
  refine r_ord (l := [0]) rfl (by kernel_rfl) (by kernel_rfl) ?_
  refine s_v rfl rfl rfl rfl (v_arith rfl rfl rfl rfl) ?_
  refine s_end ?_
  refine q_seq ?_
  refine c_seq rfl ?_
  rcases Bool.eq_false_or_eq_true (decide ((x7_ : Int) < (l0.length : Int))) with h19_ | h19_
  ·
    replace H := ite_y (dec_t h19_) H
    refine c_cond rfl rfl (fun _ => ?_) (fun h20_ => absurd (h20_.symm.trans h19_) (by decide))
    refine c_skip rfl ?_
    refine q_seq ?_
    refine c_seq rfl ?_
    refine c_block rfl ?_
    refine c_seq rfl ?_
    refine r_ord (l := [0, 1]) rfl (by kernel_rfl) (by kernel_rfl) ?_
    refine s_v rfl rfl rfl rfl (v_move rfl rfl) ?_
    refine s_v rfl rfl rfl rfl (v_assign rfl rfl) ?_
    refine s_end ?_
    refine q_seq ?_
    refine c_seq rfl ?_
    refine r_ord (l := [0, 1, 2, 3, 4, 5]) rfl (by kernel_rfl) (by kernel_rfl) ?_
    refine s_v rfl rfl rfl rfl (v_move rfl rfl) ?_
    refine s_v rfl rfl rfl rfl (v_move rfl rfl) ?_
    refine s_v rfl rfl rfl rfl (v_move rfl rfl) ?_
    obtain ⟨n26_, H⟩ := ite_no H
    refine s_v rfl rfl rfl rfl (v_iaK (i := 0) rfl Try.underlying24 SZ25 rfl rfl rfl rfl n26_ (dec_t h19_)) ?_
    refine s_v rfl rfl rfl rfl (v_ldK (v := .int .u64 (rd l0 x7_)) 0 0 rfl Try.underlying25 rfl rfl rfl rfl n26_ (dec_t h19_) (fun w K h => h)) ?_
    refine s_v rfl rfl rfl rfl (v_arith rfl rfl rfl rfl) ?_
    refine s_end ?_
    refine q_seq ?_
    rcases Bool.eq_false_or_eq_true ((a1 : Int) == (rd l0 x7_)) with h27_ | h27_
    ·
      replace H := ite_y (ibeq_t h27_) H
      refine c_cond rfl rfl (fun _ => ?_) (fun h28_ => absurd (h28_.symm.trans h27_) (by decide))
      refine c_seq rfl ?_
      refine r_ord (l := [0, 1]) rfl (by kernel_rfl) (by kernel_rfl) ?_
      refine s_v rfl rfl rfl rfl (v_move rfl rfl) ?_
      refine s_v rfl rfl rfl rfl (v_assign rfl rfl) ?_
      refine s_end ?_
      refine q_seq ?_
      refine c_ret rfl ?_
      refine q_block_ret ?_
      refine q_then_ret ?_
      refine q_then_ret ?_
      refine q_block_ret ?_
      refine q_then_ret ?_
      have e_ := Option.some.inj H
      subst e_
      exact q_ret (vs := [.int .i64 x7_]) rfl (.tmp rfl .nil) [] rfl (by decide) (hX)
    ·
      replace H := ite_n (ibeq_f h27_) H
      refine c_cond rfl rfl (fun h29_ => absurd (h29_.symm.trans h27_) (by decide)) (fun _ => ?_)
      refine c_skip rfl ?_
      refine q_block ?_
      refine q_seq ?_
      refine r_ord (l := [0, 1]) rfl (by kernel_rfl) (by kernel_rfl) ?_
      refine s_v rfl rfl rfl rfl (v_arith rfl rfl rfl rfl) ?_
      refine s_v rfl rfl rfl rfl (v_move rfl rfl) ?_
      refine s_end ?_
      exact q_again (k0_, IntKind.wrap .i64 (x7_ + 1)) [0] H (Nat.lt_succ_of_le hko_0) (subF_spec ⟨rfl, rfl, rfl, rfl, rfl, trivial⟩) rfl (by decide)
  ·
    replace H := ite_n (dec_f h19_) H
    refine c_cond rfl rfl (fun h30_ => absurd (h30_.symm.trans h19_) (by decide)) (fun _ => ?_)
    refine c_exit (i := 0) rfl rfl ?_
    refine q_then_exit ?_
    refine q_then_exit ?_
    refine q_block_here rfl ?_
    refine q_seq ?_
    refine c_seq rfl ?_
    refine r_ord (l := [0]) rfl (by kernel_rfl) (by kernel_rfl) ?_
    refine s_v rfl rfl rfl rfl (v_assign rfl rfl) ?_
    refine s_end ?_
    refine q_seq ?_
    refine c_ret rfl ?_
    have e_ := Option.some.inj H
    subst e_
    exact q_ret (vs := [.int .i64 (-1)]) rfl (.tmp rfl .nil) [] rfl (by decide) (hX)
def slices_Contains_uint64_uint64.f (k : Nat) (l0 : List Int) (a1 : Int) : Option Bool := (slices_Index_uint64_uint64.f k l0 a1).bind fun t3_ => some (decide ((t3_ : Int) ≥ 0))
set_option maxRecDepth 100000 in
set_option maxHeartbeats 4000000 in
theorem slices_Contains_uint64_uint64_con (k : Nat) (A0 : Option Addr) (c0 : Nat) (l0 : List Int) (a1 : Int) (r0 : Bool) (h : slices_Contains_uint64_uint64.f k l0 a1 = some r0) (w0 : World) (Hs : List Nat) : Con Try.prog 47 #[.slice A0 l0.length c0, .int .u64 a1] w0 Hs [.f (KC (Kd.int .u64) A0 c0 l0)] (fun X => X (.bool r0) []) := by
  refine con_enter (c := bodyOf Try.f47) Try.func47 rfl (m := 9) rfl rfl rfl ?_
  intro X hX _
  have H := h
  unfold slices_Contains_uint64_uint64.f at H
  clear h
  refine c_seq rfl ?_
  refine r_ord (l := [0]) rfl (by kernel_rfl) (by kernel_rfl) ?_
  refine s_v rfl rfl rfl rfl (v_assign rfl rfl) ?_
  refine s_end ?_
  refine q_seq ?_
  refine c_seq rfl ?_
  refine r_ord (l := [0, 1, 2, 3, 4]) rfl (by kernel_rfl) (by kernel_rfl) ?_
  refine s_v rfl rfl rfl rfl (v_move rfl rfl) ?_
  refine s_v rfl rfl rfl rfl (v_move rfl rfl) ?_
  obtain ⟨t3_, e4_, H⟩ := bind_s H
  refine s_e rfl rfl (e_callF [0] #[.slice A0 l0.length c0, .int .u64 a1] rfl rfl rfl rfl rfl Try.func73 rfl (by decide) rfl rfl rfl rfl (fun w ht => slices_Index_uint64_uint64_con _ A0 c0 l0 a1 t3_ e4_ w _)) ?_
  refine s_v rfl rfl rfl rfl (v_arith rfl rfl rfl rfl) ?_
  refine s_v rfl rfl rfl rfl (v_assign rfl rfl) ?_
  refine s_end ?_
  refine q_seq ?_
  refine c_ret rfl ?_
  have e_ := Option.some.inj H
  subst e_
  exact q_ret (vs := [.bool (decide ((t3_ : Int) ≥ 0))]) rfl (.tmp rfl .nil) [] rfl (by decide) (hX)
set_option maxRecDepth 100000 in
set_option maxHeartbeats 4000000 in
theorem slices_Grow_cover_Entry_cover_Entry_con (a1 : Int) (h0 : 0 ≤ a1) (h1 : a1 < 5864062014805) (w0 : World) (Hs : List Nat) : Con Try.prog 69 #[.slice none 0 0, .int .i64 a1] w0 Hs [] (fun X => ∀ ro, ORow 3 enc81 ro ([] : List S81) → X (.slice (OA ro) 0 (OC ro)) [OE 81 ro]) := by
 have hk0 : decide ((a1 : Int) < 0) = false := decide_eq_false (by omega)
 rcases Int.lt_or_le 0 a1 with hp | hp
 have hk1 : decide ((a1 : Int) > 0) = true := decide_eq_true hp
 refine con_enter (c := bodyOf Try.f69) Try.func69 rfl (m := 27) rfl rfl rfl ?_
 intro X hX _
 refine c_seq rfl ?_
 refine r_ord (l := [0]) rfl (by kernel_rfl) (by kernel_rfl) ?_
 refine s_v rfl rfl rfl rfl (v_assign rfl rfl) ?_
 refine s_end ?_
 refine q_seq ?_
 refine c_seq rfl ?_
 refine c_seq rfl ?_
 refine r_ord (l := [0, 1]) rfl (by kernel_rfl) (by kernel_rfl) ?_
 refine s_v rfl rfl rfl rfl (v_move rfl rfl) ?_
 refine s_v rfl rfl rfl rfl (OpV.cast (v := .bool false) (v_arith rfl rfl rfl rfl) (congrArg Value.bool hk0)) ?_
 refine s_end ?_
 refine q_seq ?_
 refine c_cond0 rfl rfl ?_
 refine c_skip rfl ?_
 refine q_seq ?_
 refine c_seq rfl ?_
 refine c_seq rfl ?_
 refine r_ord (l := [0, 1, 2, 3, 4, 5, 6, 7]) rfl (by kernel_rfl) (by kernel_rfl) ?_
 refine s_v rfl rfl rfl rfl (v_move rfl rfl) ?_
 refine s_v rfl rfl rfl rfl (v_move rfl rfl) ?_
 refine s_v rfl rfl rfl rfl (v_cap0 rfl rfl rfl Try.underlying78 rfl rfl) ?_
 refine s_v rfl rfl rfl rfl (v_move rfl rfl) ?_
 refine s_v rfl rfl rfl rfl (v_len rfl rfl rfl Try.underlying78 rfl rfl) ?_
 refine s_v rfl rfl rfl rfl (v_arith rfl rfl rfl rfl) ?_
 refine s_v rfl rfl rfl rfl (OpV.cast (v := .int .i64 a1) (v_arith rfl rfl rfl rfl) (congrArg (Value.int .i64) (by rw [show IntKind.wrap .i64 (((0 : Nat) : Int) - ((0 : Nat) : Int)) = 0 from by decide, Int.sub_zero, wi64 (by omega) (by omega)]))) ?_
 refine s_v rfl rfl rfl rfl (v_assign rfl rfl) ?_
 refine s_end ?_
 refine q_seq ?_
 refine c_seq rfl ?_
 refine r_ord (l := [0, 1]) rfl (by kernel_rfl) (by kernel_rfl) ?_
 refine s_v rfl rfl rfl rfl (v_move rfl rfl) ?_
 refine s_v rfl rfl rfl rfl (OpV.cast (v := .bool true) (v_arith rfl rfl rfl rfl) (congrArg Value.bool hk1)) ?_
 refine s_end ?_
 refine q_seq ?_
 refine c_cond1 rfl rfl ?_
 refine r_ord (l := [0, 1, 2, 3, 4, 5, 6, 7, 8, 9]) rfl (by kernel_rfl) (by kernel_rfl) ?_
 refine s_v rfl rfl rfl rfl (v_move rfl rfl) ?_
 refine s_v rfl rfl rfl rfl (v_move rfl rfl) ?_
 refine s_v rfl rfl rfl rfl (v_cap0 rfl rfl rfl Try.underlying78 rfl rfl) ?_
 refine s_v rfl rfl rfl rfl (v_slHi (h := 0) rfl Try.underlying78 SZ81 rfl rfl (by decide) (by decide)) ?_
 refine s_v rfl rfl rfl rfl (v_move rfl rfl) ?_
 refine s_e rfl rfl (e_appZ (z := (.agg #[.int .u64 0, .int .u64 0, .int .u64 0])) (m := 3) (bytes := 24) rfl rfl rfl rfl rfl rfl Try.underlying78 Try.underlying3 (by kernel_rfl) rfl (by decide) rfl rfl hp (by omega) (by simp only [maxLen]; omega)) ?_
 intro g6_ cap7_ cur8_ h9_ h10_
 refine s_v rfl rfl rfl rfl (v_move rfl rfl) ?_
 refine s_v rfl rfl rfl rfl (v_len rfl rfl rfl Try.underlying78 rfl rfl) ?_
 refine s_v rfl rfl rfl rfl (v_slHi (h := 0) rfl Try.underlying78 SZ81 rfl rfl (by decide) (by omega)) ?_
 refine s_v rfl rfl rfl rfl (v_assign rfl rfl) ?_
 refine s_end ?_
 refine q_seq ?_
 refine c_seq rfl ?_
 refine r_ord (l := [0, 1]) rfl (by kernel_rfl) (by kernel_rfl) ?_
 refine s_v rfl rfl rfl rfl (v_move rfl rfl) ?_
 refine s_v rfl rfl rfl rfl (v_assign rfl rfl) ?_
 refine s_end ?_
 refine q_seq ?_
 refine c_ret rfl ?_
 exact q_ret (vs := [.slice (some ⟨g6_, 0, none⟩) 0 cap7_]) rfl (.tmp rfl .nil) [0] rfl (by decide) (hX (some (g6_, cap7_, cur8_)) ⟨Nat.zero_le _, h9_, h10_, by simp⟩)
 have hk1 : decide ((a1 : Int) > 0) = false := decide_eq_false (by omega)
 refine con_enter (c := bodyOf Try.f69) Try.func69 rfl (m := 27) rfl rfl rfl ?_
 intro X hX _
 refine c_seq rfl ?_
 refine r_ord (l := [0]) rfl (by kernel_rfl) (by kernel_rfl) ?_
 refine s_v rfl rfl rfl rfl (v_assign rfl rfl) ?_
 refine s_end ?_
 refine q_seq ?_
 refine c_seq rfl ?_
 refine c_seq rfl ?_
 refine r_ord (l := [0, 1]) rfl (by kernel_rfl) (by kernel_rfl) ?_
 refine s_v rfl rfl rfl rfl (v_move rfl rfl) ?_
 refine s_v rfl rfl rfl rfl (OpV.cast (v := .bool false) (v_arith rfl rfl rfl rfl) (congrArg Value.bool hk0)) ?_
 refine s_end ?_
 refine q_seq ?_
 refine c_cond0 rfl rfl ?_
 refine c_skip rfl ?_
 refine q_seq ?_
 refine c_seq rfl ?_
 refine c_seq rfl ?_
 refine r_ord (l := [0, 1, 2, 3, 4, 5, 6, 7]) rfl (by kernel_rfl) (by kernel_rfl) ?_
 refine s_v rfl rfl rfl rfl (v_move rfl rfl) ?_
 refine s_v rfl rfl rfl rfl (v_move rfl rfl) ?_
 refine s_v rfl rfl rfl rfl (v_cap0 rfl rfl rfl Try.underlying78 rfl rfl) ?_
 refine s_v rfl rfl rfl rfl (v_move rfl rfl) ?_
 refine s_v rfl rfl rfl rfl (v_len rfl rfl rfl Try.underlying78 rfl rfl) ?_
 refine s_v rfl rfl rfl rfl (v_arith rfl rfl rfl rfl) ?_
 refine s_v rfl rfl rfl rfl (OpV.cast (v := .int .i64 a1) (v_arith rfl rfl rfl rfl) (congrArg (Value.int .i64) (by rw [show IntKind.wrap .i64 (((0 : Nat) : Int) - ((0 : Nat) : Int)) = 0 from by decide, Int.sub_zero, wi64 (by omega) (by omega)]))) ?_
 refine s_v rfl rfl rfl rfl (v_assign rfl rfl) ?_
 refine s_end ?_
 refine q_seq ?_
 refine c_seq rfl ?_
 refine r_ord (l := [0, 1]) rfl (by kernel_rfl) (by kernel_rfl) ?_
 refine s_v rfl rfl rfl rfl (v_move rfl rfl) ?_
 refine s_v rfl rfl rfl rfl (OpV.cast (v := .bool false) (v_arith rfl rfl rfl rfl) (congrArg Value.bool hk1)) ?_
 refine s_end ?_
 refine q_seq ?_
 refine c_cond0 rfl rfl ?_
 refine c_skip rfl ?_
 refine q_seq ?_
 refine c_seq rfl ?_
 refine r_ord (l := [0, 1]) rfl (by kernel_rfl) (by kernel_rfl) ?_
 refine s_v rfl rfl rfl rfl (v_move rfl rfl) ?_
 refine s_v rfl rfl rfl rfl (v_assign rfl rfl) ?_
 refine s_end ?_
 refine q_seq ?_
 refine c_ret rfl ?_
 refine q_know (φ := fun _ => True) (fun _ => trivial) ?_
 exact q_ret (vs := [.slice none 0 0]) rfl (.tmp rfl .nil) [0] rfl (by decide) (hX none rfl)
mutual
def slices_Concat_cover_Entry_cover_Entry.l1 : Nat → List (List S81) → Int → List S81 → Option (List S81)
  | 0, _, _, _ => none
  | k + 1, l0, x62_, xs60_ => (if (x62_ : Int) < (l0.length : Int) then (if 0 ≤ (x62_ : Int) then (if xs60_.length + (l0.getD (Int.toNat x62_) []).length < 5864062014805 then slices_Concat_cover_Entry_cover_Entry.l1 k l0 (IntKind.wrap .i64 (x62_ + 1)) (xs60_ ++ (l0.getD (Int.toNat x62_) [])) else none) else none) else some xs60_)
def slices_Concat_cover_Entry_cover_Entry.l0 : Nat → List (List S81) → Int → Int → Option (List S81)
  | 0, _, _, _ => none
  | k + 1, l0, x9_, x10_ => (if (x10_ : Int) < (l0.length : Int) then (if 0 ≤ (x10_ : Int) then (if (IntKind.wrap .i64 (x9_ + ((l0.getD (Int.toNat x10_) []).length : Int)) : Int) < 0 then none else slices_Concat_cover_Entry_cover_Entry.l0 k l0 (IntKind.wrap .i64 (x9_ + ((l0.getD (Int.toNat x10_) []).length : Int))) (IntKind.wrap .i64 (x10_ + 1))) else none) else (if 0 ≤ (x9_ : Int) then (if (x9_ : Int) < 5864062014805 then slices_Concat_cover_Entry_cover_Entry.l1 k l0 0 ([] : List S81) else none) else none))
end
def slices_Concat_cover_Entry_cover_Entry.f (k : Nat) (l0 : List (List S81)) : Option (List S81) := slices_Concat_cover_Entry_cover_Entry.l0 k l0 0 0
set_option maxRecDepth 100000 in
set_option maxHeartbeats 4000000 in
theorem slices_Concat_cover_Entry_cover_Entry_con (k : Nat) (A0 : Option Addr) (c0 : Nat) (l0 : List (List S81)) (r0 : List S81) (h : slices_Concat_cover_Entry_cover_Entry.f k l0 = some r0) (w0 : World) (Hs : List Nat) : Con Try.prog 45 #[.slice A0 l0.length c0] w0 Hs [.f (KC (Kd.slice 81 k81) A0 c0 l0)] (fun X => ∀ A_r0 c_r0, X (.slice A_r0 r0.length c_r0) [.f (KC k81 A_r0 c_r0 r0)]) := by
  refine con_enter (c := bodyOf Try.f45) Try.func45 rfl (m := 36) rfl rfl rfl ?_
  intro X hX _
  have H := h
  unfold slices_Concat_cover_Entry_cover_Entry.f at H
  clear h
  refine c_seq rfl ?_
  refine r_ord (l := [0]) rfl (by kernel_rfl) (by kernel_rfl) ?_
  refine s_v rfl rfl rfl rfl (v_assign rfl rfl) ?_
  refine s_end ?_
  refine q_seq ?_
  refine c_seq rfl ?_
  refine r_ord (l := [0]) rfl (by kernel_rfl) (by kernel_rfl) ?_
  refine s_v rfl rfl rfl rfl (v_assign rfl rfl) ?_
  refine s_end ?_
  refine q_seq ?_
  refine c_seq rfl ?_
  refine c_seq rfl ?_
  refine r_ord (l := [0, 1, 2]) rfl (by kernel_rfl) (by kernel_rfl) ?_
  refine s_v rfl rfl rfl rfl (v_move rfl rfl) ?_
  refine s_v rfl rfl rfl rfl (v_len rfl rfl rfl Try.underlying76 rfl rfl) ?_
  refine s_v rfl rfl rfl rfl (v_move rfl rfl) ?_
  refine s_end ?_
  refine q_seq ?_
  refine c_block rfl ?_
  refine c_loop (σ := Nat × Int × Int) (fun s_ : Nat × Int × Int => match s_ with | (k, x9_, x10_) => slices_Concat_cover_Entry_cover_Entry.l0 k l0 x9_ x10_ = some r0) (fun s_ : Nat × Int × Int => match s_ with | (k, x9_, x10_) => k) (fun s_ : Nat × Int × Int => match s_ with | (k, x9_, x10_) => [(0, .slice A0 l0.length c0), (2, .slice none 0 0), (3, .int .i64 x9_), (9, .slice A0 l0.length c0), (10, .int .i64 (l0.length : Int)), (11, .int .i64 x10_)]) (fun s_ : Nat × Int × Int => match s_ with | (k, x9_, x10_) => [.f (KC (Kd.slice 81 k81) A0 c0 l0)]) (k, 0, 0) [0] rfl H (subF_spec ⟨rfl, rfl, rfl, rfl, rfl, rfl, trivial⟩) rfl (by decide) ?_
  rintro ⟨k0_, x9_, x10_⟩ hs20_
  clear H
  have H : slices_Concat_cover_Entry_cover_Entry.l0 k0_ l0 x9_ x10_ = some r0 := hs20_
  try clear hs20_
  rcases k0_ with _ | k0_
  · exact none_no (show none = _ from H)
  unfold slices_Concat_cover_Entry_cover_Entry.l0 at H
  have hko_0 : k0_ ≤ k0_ := Nat.le_refl _
  refine c_seq rfl ?_
  refine r_ord (l := [0]) rfl (by kernel_rfl) (by kernel_rfl) ?_
  refine s_v rfl rfl rfl rfl (v_arith rfl rfl rfl rfl) ?_
  refine s_end ?_
  refine q_seq ?_
  refine c_seq rfl ?_
  rcases Bool.eq_false_or_eq_true (decide ((x10_ : Int) < (l0.length : Int))) with h24_ | h24_
  ·
    replace H := ite_y (dec_t h24_) H
    refine c_cond rfl rfl (fun _ => ?_) (fun h25_ => absurd (h25_.symm.trans h24_) (by decide))
    refine c_skip rfl ?_
    refine q_seq ?_
    refine c_seq rfl ?_
    refine c_block rfl ?_
    refine c_seq rfl ?_
    refine r_ord (l := [0, 1, 2]) rfl (by kernel_rfl) (by kernel_rfl) ?_
    obtain ⟨n35_, H⟩ := ite_no H
    refine s_v rfl rfl rfl rfl (v_iaK (i := 0) rfl Try.underlying76 SZ78 rfl rfl rfl rfl n35_ (dec_t h24_)) ?_
    refine s_e rfl rfl (e_ldRR 0 rfl rfl rfl Try.underlying78 rfl rfl n35_ (dec_t h24_)) ?_
    intro A36_ c37_
    refine s_v rfl rfl rfl rfl (v_assign rfl rfl) ?_
    refine s_end ?_
    refine q_seq ?_
    refine c_seq rfl ?_
    refine r_ord (l := [0, 1, 2, 3, 4]) rfl (by kernel_rfl) (by kernel_rfl) ?_
    refine s_v rfl rfl rfl rfl (v_move rfl rfl) ?_
    refine s_v rfl rfl rfl rfl (v_move rfl rfl) ?_
    refine s_v rfl rfl rfl rfl (v_len rfl rfl rfl Try.underlying78 rfl rfl) ?_
    refine s_v rfl rfl rfl rfl (v_arith rfl rfl rfl rfl) ?_
    refine s_v rfl rfl rfl rfl (v_assign rfl rfl) ?_
    refine s_end ?_
    refine q_seq ?_
    refine c_seq rfl ?_
    refine r_ord (l := [0, 1]) rfl (by kernel_rfl) (by kernel_rfl) ?_
    refine s_v rfl rfl rfl rfl (v_move rfl rfl) ?_
    refine s_v rfl rfl rfl rfl (v_arith rfl rfl rfl rfl) ?_
    refine s_end ?_
    refine q_seq ?_
    rcases Bool.eq_false_or_eq_true (decide ((IntKind.wrap .i64 (x9_ + ((l0.getD (Int.toNat x10_) []).length : Int)) : Int) < 0)) with h38_ | h38_
    ·
      replace H := ite_y (dec_t h38_) H
      refine c_cond rfl rfl (fun _ => ?_) (fun h39_ => absurd (h39_.symm.trans h38_) (by decide))
      exact none_no H
    ·
      replace H := ite_n (dec_f h38_) H
      refine c_cond rfl rfl (fun h40_ => absurd (h40_.symm.trans h38_) (by decide)) (fun _ => ?_)
      refine c_skip rfl ?_
      refine q_block ?_
      refine q_seq ?_
      refine r_ord (l := [0, 1]) rfl (by kernel_rfl) (by kernel_rfl) ?_
      refine s_v rfl rfl rfl rfl (v_arith rfl rfl rfl rfl) ?_
      refine s_v rfl rfl rfl rfl (v_move rfl rfl) ?_
      refine s_end ?_
      exact q_again (k0_, IntKind.wrap .i64 (x9_ + ((l0.getD (Int.toNat x10_) []).length : Int)), IntKind.wrap .i64 (x10_ + 1)) [1] H (Nat.lt_succ_of_le hko_0) (subF_spec ⟨rfl, rfl, rfl, rfl, rfl, rfl, trivial⟩) rfl (by decide)
  ·
    replace H := ite_n (dec_f h24_) H
    refine c_cond rfl rfl (fun h41_ => absurd (h41_.symm.trans h24_) (by decide)) (fun _ => ?_)
    refine c_exit (i := 0) rfl rfl ?_
    refine q_then_exit ?_
    refine q_then_exit ?_
    refine q_block_here rfl ?_
    refine q_seq ?_
    refine c_seq rfl ?_
    refine r_ord (l := [0, 1, 2]) rfl (by kernel_rfl) (by kernel_rfl) ?_
    refine s_v rfl rfl rfl rfl (v_move rfl rfl) ?_
    obtain ⟨n46_, H⟩ := ite_no H
    obtain ⟨n47_, H⟩ := ite_no H
    refine s_e rfl rfl (e_callF [] #[.slice none 0 0, .int .i64 x9_] rfl rfl rfl rfl rfl Try.func69 rfl (by decide) rfl rfl rfl rfl (fun w ht => slices_Grow_cover_Entry_cover_Entry_con x9_ n46_ n47_ w _)) ?_
    intro ro48_ hr49_
    refine s_v rfl rfl rfl rfl (v_assign rfl rfl) ?_
    refine s_end ?_
    refine q_seq ?_
    refine c_seq rfl ?_
    refine c_seq rfl ?_
    refine r_ord (l := [0, 1, 2]) rfl (by kernel_rfl) (by kernel_rfl) ?_
    refine s_v rfl rfl rfl rfl (v_move rfl rfl) ?_
    refine s_v rfl rfl rfl rfl (v_len rfl rfl rfl Try.underlying76 rfl rfl) ?_
    refine s_v rfl rfl rfl rfl (v_move rfl rfl) ?_
    refine s_end ?_
    refine q_seq ?_
    refine c_block rfl ?_
    refine c_loop (σ := Nat × Int × Ro × List S81) (fun s_ : Nat × Int × Ro × List S81 => match s_ with | (k, x62_, ro59_, xs60_) => slices_Concat_cover_Entry_cover_Entry.l1 k l0 x62_ xs60_ = some r0 ∧ ORow 3 enc81 ro59_ xs60_) (fun s_ : Nat × Int × Ro × List S81 => match s_ with | (k, x62_, ro59_, xs60_) => k) (fun s_ : Nat × Int × Ro × List S81 => match s_ with | (k, x62_, ro59_, xs60_) => [(2, .slice none 0 0), (6, .slice (OA ro59_) xs60_.length (OC ro59_)), (25, .slice A0 l0.length c0), (26, .int .i64 (l0.length : Int)), (27, .int .i64 x62_)]) (fun s_ : Nat × Int × Ro × List S81 => match s_ with | (k, x62_, ro59_, xs60_) => [OE 81 ro59_, .f (KC (Kd.slice 81 k81) A0 c0 l0)]) (k0_, 0, ro48_, ([] : List S81)) [0, 1] rfl ⟨H, hr49_⟩ (subF_spec ⟨rfl, rfl, rfl, rfl, rfl, trivial⟩) rfl (by decide) ?_
    rintro ⟨k1_, x62_, ro59_, xs60_⟩ hs73_
    clear H
    obtain ⟨H, hr61_⟩ : slices_Concat_cover_Entry_cover_Entry.l1 k1_ l0 x62_ xs60_ = some r0 ∧ ORow 3 enc81 ro59_ xs60_ := hs73_
    try clear hs73_
    rcases k1_ with _ | k1_
    · exact none_no (show none = _ from H)
    unfold slices_Concat_cover_Entry_cover_Entry.l1 at H
    have hko_1 : k1_ ≤ k1_ := Nat.le_refl _
    refine c_seq rfl ?_
    refine r_ord (l := [0]) rfl (by kernel_rfl) (by kernel_rfl) ?_
    refine s_v rfl rfl rfl rfl (v_arith rfl rfl rfl rfl) ?_
    refine s_end ?_
    refine q_seq ?_
    refine c_seq rfl ?_
    rcases Bool.eq_false_or_eq_true (decide ((x62_ : Int) < (l0.length : Int))) with h77_ | h77_
    ·
      replace H := ite_y (dec_t h77_) H
      refine c_cond rfl rfl (fun _ => ?_) (fun h78_ => absurd (h78_.symm.trans h77_) (by decide))
      refine c_skip rfl ?_
      refine q_seq ?_
      refine c_seq rfl ?_
      refine c_block rfl ?_
      refine c_seq rfl ?_
      refine r_ord (l := [0, 1, 2]) rfl (by kernel_rfl) (by kernel_rfl) ?_
      obtain ⟨n89_, H⟩ := ite_no H
      refine s_v rfl rfl rfl rfl (v_iaK (i := 1) rfl Try.underlying76 SZ78 rfl rfl rfl rfl n89_ (dec_t h77_)) ?_
      refine s_e rfl rfl (e_ldRR 1 rfl rfl rfl Try.underlying78 rfl rfl n89_ (dec_t h77_)) ?_
      intro A90_ c91_
      refine s_v rfl rfl rfl rfl (v_assign rfl rfl) ?_
      refine s_end ?_
      refine q_seq ?_
      refine r_ord (l := [0, 1, 2, 3]) rfl (by kernel_rfl) (by kernel_rfl) ?_
      refine s_v rfl rfl rfl rfl (v_move rfl rfl) ?_
      refine s_v rfl rfl rfl rfl (v_move rfl rfl) ?_
      obtain ⟨n92_, H⟩ := ite_no H
      refine s_e rfl rfl (e_appOK flat81 (xs := xs60_) (ro := ro59_) (l := (l0.getD (Int.toNat x62_) [])) (z := (.agg #[.int .u64 0, .int .u64 0, .int .u64 0])) (m := 3) (bytes := 24) (i := 0) (j := 1) rfl rfl rfl rfl rfl rfl Try.underlying78 (by kernel_rfl) rfl rfl rfl rfl hr61_ rfl rfl rfl (by first | omega | (simp only [List.length_nil, Nat.zero_add]; omega)) (by simp only [maxLen]; first | omega | (simp only [List.length_nil, Nat.zero_add]; omega))) ?_
      intro ro93_ hr94_ sm95_
      refine s_v rfl rfl rfl rfl (v_assign rfl rfl) ?_
      refine s_end ?_
      refine q_block ?_
      refine q_seq ?_
      refine r_ord (l := [0, 1]) rfl (by kernel_rfl) (by kernel_rfl) ?_
      refine s_v rfl rfl rfl rfl (v_arith rfl rfl rfl rfl) ?_
      refine s_v rfl rfl rfl rfl (v_move rfl rfl) ?_
      refine s_end ?_
      exact q_again (k1_, IntKind.wrap .i64 (x62_ + 1), ro93_, (xs60_ ++ (l0.getD (Int.toNat x62_) []))) [1, 2] ⟨H, hr94_⟩ (Nat.lt_succ_of_le hko_1) (subF_spec ⟨rfl, rfl, rfl, rfl, rfl, trivial⟩) rfl (by decide)
    ·
      replace H := ite_n (dec_f h77_) H
      refine c_cond rfl rfl (fun h96_ => absurd (h96_.symm.trans h77_) (by decide)) (fun _ => ?_)
      refine c_exit (i := 2) rfl rfl ?_
      refine q_then_exit ?_
      refine q_then_exit ?_
      refine q_block_here rfl ?_
      refine q_seq ?_
      refine c_seq rfl ?_
      refine r_ord (l := [0, 1]) rfl (by kernel_rfl) (by kernel_rfl) ?_
      refine s_v rfl rfl rfl rfl (v_move rfl rfl) ?_
      refine s_v rfl rfl rfl rfl (v_assign rfl rfl) ?_
      refine s_end ?_
      refine q_seq ?_
      refine c_ret rfl ?_
      refine q_giveO flat81 hr61_ [0, 1] rfl (by decide) rfl ?_
      have e_ := Option.some.inj H
      subst e_
      exact q_ret (vs := [.slice (OA ro59_) xs60_.length (OC ro59_)]) rfl (.tmp rfl .nil) [0] rfl (by decide) (hX (OA ro59_) (OC ro59_))
def plan_Where.f (a0_0 : Int) (a0_1 : Int) (a0_2 : Int) (a0_3 : Int) (a0_4 : Int) (a0_5 : Int) (a0_6 : Int) (a1 : Int) : Option (Int × Int × Int) := (plan_Len.f a0_0 a0_1 a0_2 a0_3 a0_4 a0_5 a0_6).bind fun t16_ => (plan_within.f a1 0 (IntKind.wrap .i64 (t16_ - 1))).bind fun t18_ => (if t18_ = true then (plan_first.f a0_0 a0_1 a0_2 a0_3 a0_4 a0_5 a0_6).bind fun t25_ => (if (a1 : Int) = 0 then some (1, 0, 0) else (if (IntKind.wrap .i64 (a1 - t25_) : Int) < 0 then (if ¬ (a0_1 : Int) = 0 then some (2, IntKind.wrap .i64 (Int.tdiv (IntKind.wrap .i64 (a1 - 1)) a0_1), Int.tmod (IntKind.wrap .i64 (a1 - 1)) a0_1) else none) else (plan_fields.f a0_0 a0_1 a0_2 a0_3 a0_4 a0_5 a0_6).bind fun t48_ => (if ¬ (t48_ : Int) = 0 then (plan_fields.f a0_0 a0_1 a0_2 a0_3 a0_4 a0_5 a0_6).bind fun t51_ => (if ¬ (t51_ : Int) = 0 then some (3, IntKind.wrap .i64 (Int.tdiv (IntKind.wrap .i64 (a1 - t25_)) t48_), Int.tmod (IntKind.wrap .i64 (a1 - t25_)) t51_) else none) else none))) else some (0, 0, 0))
set_option maxRecDepth 100000 in
set_option maxHeartbeats 4000000 in
theorem plan_Where_con (a0_0 : Int) (a0_1 : Int) (a0_2 : Int) (a0_3 : Int) (a0_4 : Int) (a0_5 : Int) (a0_6 : Int) (a1 : Int) (r0 : Int) (r1 : Int) (r2 : Int) (h : plan_Where.f a0_0 a0_1 a0_2 a0_3 a0_4 a0_5 a0_6 a1 = some (r0, r1, r2)) (w0 : World) (Hs : List Nat) : Con Try.prog 46 #[.agg #[.int .i64 a0_0, .int .i64 a0_1, .int .i64 a0_2, .int .i64 a0_3, .int .i64 a0_4, .int .i64 a0_5, .int .i64 a0_6], .int .i64 a1] w0 Hs [] (fun X => X (.agg #[.int .i64 r0, .int .i64 r1, .int .i64 r2]) []) := by
 refine con_enter (c := bodyOf Try.f46) Try.func46 rfl (m := 44) rfl rfl rfl ?_
 intro X hX _
 have H := h
 unfold plan_Where.f at H
 clear h
 refine c_seq rfl ?_
 refine r_ord (l := [0, 1]) rfl (by kernel_rfl) (by kernel_rfl) ?_
 refine s_e rfl rfl (e_box rfl rfl rfl rfl) ?_
 intro b3_
 refine s_e rfl rfl (e_alloc rfl rfl rfl ZR83) ?_
 intro b4_
 refine s_end ?_
 refine q_seq ?_
 refine c_seq rfl ?_
 refine c_seq rfl ?_
 refine r_ord (l := [0, 1, 2, 3, 4, 5]) rfl (by kernel_rfl) (by kernel_rfl) ?_
 refine s_v rfl rfl rfl rfl (v_move rfl rfl) ?_
 refine s_v rfl rfl rfl rfl (v_ldA [.int .i64 a0_0, .int .i64 a0_1, .int .i64 a0_2, .int .i64 a0_3, .int .i64 a0_4, .int .i64 a0_5, .int .i64 a0_6] 1 rfl Try.underlying23 rfl SZ23 rfl rfl rfl rfl) ?_
 obtain ⟨t16_, e17_, H⟩ := bind_s H
 refine s_e rfl rfl (e_callF [] #[.agg #[.int .i64 a0_0, .int .i64 a0_1, .int .i64 a0_2, .int .i64 a0_3, .int .i64 a0_4, .int .i64 a0_5, .int .i64 a0_6]] rfl rfl rfl rfl rfl Try.func56 rfl (by decide) rfl rfl rfl rfl (fun w ht => plan_Len_con a0_0 a0_1 a0_2 a0_3 a0_4 a0_5 a0_6 t16_ e17_ w _)) ?_
 refine s_v rfl rfl rfl rfl (v_arith rfl rfl rfl rfl) ?_
 obtain ⟨t18_, e19_, H⟩ := bind_s H
 refine s_e rfl rfl (e_callF [] #[.int .i64 a1, .int .i64 0, .int .i64 (IntKind.wrap .i64 (t16_ - 1))] rfl rfl rfl rfl rfl Try.func70 rfl (by decide) rfl rfl rfl rfl (fun w ht => plan_within_con a1 0 (IntKind.wrap .i64 (t16_ - 1)) t18_ e19_ w _)) ?_
 refine s_v rfl rfl rfl rfl (v_not rfl rfl) ?_
 refine s_end ?_
 refine q_seq ?_
 rcases Bool.eq_false_or_eq_true (!t18_) with h20_ | h20_
 replace H := ite_n (not_t (bnot_t h20_)) H
 refine c_cond rfl rfl (fun _ => ?_) (fun h21_ => absurd (h21_.symm.trans h20_) (by decide))
 refine c_seq rfl ?_
 refine r_ord (l := [0, 1]) rfl (by kernel_rfl) (by kernel_rfl) ?_
 refine s_v rfl rfl rfl rfl (v_build (places := #[(0, 1), (1, 1), (2, 1)]) #[.int .i64 0, .int .i64 0, .int .i64 0] rfl ZR83 Try.underlying83 (by kernel_rfl) rfl (by kernel_rfl)) ?_
 refine s_e rfl rfl (e_stA 0 rfl rfl SZ83 rfl rfl rfl rfl rfl rfl) ?_
 refine s_end ?_
 refine q_seq ?_
 refine c_ret rfl ?_
 refine q_then_ret ?_
 have hq_0 := Option.some.inj H
 obtain ⟨ee_0, hq_1⟩ := Prod.mk.inj hq_0
 obtain ⟨ee_1, hq_2⟩ := Prod.mk.inj hq_1
 subst ee_0
 subst ee_1
 subst hq_2
 exact q_ret (vs := [.agg #[.int .i64 0, .int .i64 0, .int .i64 0]]) rfl (.agg [.int .i64 0, .int .i64 0, .int .i64 0] 0 rfl Try.underlying83 rfl SZ83 rfl rfl rfl .nil) [] rfl (by decide) (hX)
 replace H := ite_y (bnot_f h20_) H
 refine c_cond rfl rfl (fun h22_ => absurd (h22_.symm.trans h20_) (by decide)) (fun _ => ?_)
 refine c_skip rfl ?_
 refine q_seq ?_
 refine c_seq rfl ?_
 refine r_ord (l := [0, 1, 2, 3, 4]) rfl (by kernel_rfl) (by kernel_rfl) ?_
 refine s_v rfl rfl rfl rfl (v_move rfl rfl) ?_
 refine s_v rfl rfl rfl rfl (v_ldA [.int .i64 a0_0, .int .i64 a0_1, .int .i64 a0_2, .int .i64 a0_3, .int .i64 a0_4, .int .i64 a0_5, .int .i64 a0_6] 1 rfl Try.underlying23 rfl SZ23 rfl rfl rfl rfl) ?_
 obtain ⟨t25_, e26_, H⟩ := bind_s H
 refine s_e rfl rfl (e_callF [] #[.agg #[.int .i64 a0_0, .int .i64 a0_1, .int .i64 a0_2, .int .i64 a0_3, .int .i64 a0_4, .int .i64 a0_5, .int .i64 a0_6]] rfl rfl rfl rfl rfl Try.func71 rfl (by decide) rfl rfl rfl rfl (fun w ht => plan_first_con a0_0 a0_1 a0_2 a0_3 a0_4 a0_5 a0_6 t25_ e26_ w _)) ?_
 refine s_v rfl rfl rfl rfl (v_arith rfl rfl rfl rfl) ?_
 refine s_v rfl rfl rfl rfl (v_assign rfl rfl) ?_
 refine s_end ?_
 refine q_seq ?_
 refine c_seq rfl ?_
 refine c_block rfl ?_
 refine c_seq rfl ?_
 refine r_ord (l := [0, 1, 2]) rfl (by kernel_rfl) (by kernel_rfl) ?_
 refine s_v rfl rfl rfl rfl (v_move rfl rfl) ?_
 refine s_v rfl rfl rfl rfl (v_arith rfl rfl rfl rfl) ?_
 refine s_v rfl rfl rfl rfl (v_assign rfl rfl) ?_
 refine s_end ?_
 refine q_seq ?_
 rcases Bool.eq_false_or_eq_true ((a1 : Int) == 0) with h34_ | h34_
 replace H := ite_y (ibeq_t h34_) H
 refine c_cond rfl rfl (fun _ => ?_) (fun h35_ => absurd (h35_.symm.trans h34_) (by decide))
 refine c_seq rfl ?_
 refine r_ord (l := [0, 1]) rfl (by kernel_rfl) (by kernel_rfl) ?_
 refine s_v rfl rfl rfl rfl (v_build (places := #[(0, 1), (1, 1), (2, 1)]) #[.int .i64 1, .int .i64 0, .int .i64 0] rfl ZR83 Try.underlying83 (by kernel_rfl) rfl (by kernel_rfl)) ?_
 refine s_e rfl rfl (e_stA 0 rfl rfl SZ83 rfl rfl rfl rfl rfl rfl) ?_
 refine s_end ?_
 refine q_seq ?_
 refine c_ret rfl ?_
 refine q_block_ret ?_
 refine q_then_ret ?_
 have hq_0 := Option.some.inj H
 obtain ⟨ee_0, hq_1⟩ := Prod.mk.inj hq_0
 obtain ⟨ee_1, hq_2⟩ := Prod.mk.inj hq_1
 subst ee_0
 subst ee_1
 subst hq_2
 exact q_ret (vs := [.agg #[.int .i64 1, .int .i64 0, .int .i64 0]]) rfl (.agg [.int .i64 1, .int .i64 0, .int .i64 0] 0 rfl Try.underlying83 rfl SZ83 rfl rfl rfl .nil) [] rfl (by decide) (hX)
 replace H := ite_n (ibeq_f h34_) H
 refine c_cond rfl rfl (fun h36_ => absurd (h36_.symm.trans h34_) (by decide)) (fun _ => ?_)
 refine c_seq rfl ?_
 refine r_ord (l := [0, 1, 2]) rfl (by kernel_rfl) (by kernel_rfl) ?_
 refine s_v rfl rfl rfl rfl (v_move rfl rfl) ?_
 refine s_v rfl rfl rfl rfl (v_arith rfl rfl rfl rfl) ?_
 refine s_v rfl rfl rfl rfl (v_assign rfl rfl) ?_
 refine s_end ?_
 refine q_seq ?_
 rcases Bool.eq_false_or_eq_true (decide ((IntKind.wrap .i64 (a1 - t25_) : Int) < 0)) with h37_ | h37_
 replace H := ite_y (dec_t h37_) H
 refine c_cond rfl rfl (fun _ => ?_) (fun h38_ => absurd (h38_.symm.trans h37_) (by decide))
 refine c_seq rfl ?_
 obtain ⟨n40_, H⟩ := ite_no H
 refine r_any [.b b3_ (.cells #[.int .i64 a0_0, .int .i64 a0_1, .int .i64 a0_2, .int .i64 a0_3, .int .i64 a0_4, .int .i64 a0_5, .int .i64 a0_6] 23 (0, 0))] (by kernel_rfl) rfl (by kernel_rfl) (mem_pick (idx := [1]) rfl) ?_
 refine a_v 0 rfl (by kernel_rfl) (by kernel_rfl) (by kernel_rfl) rfl rfl rfl (v_move rfl rfl) ?_
 refine a_v 1 rfl (by kernel_rfl) (by kernel_rfl) (by kernel_rfl) rfl rfl rfl (v_arith rfl rfl rfl rfl) ?_
 refine a_v 2 rfl (by kernel_rfl) (by kernel_rfl) (by kernel_rfl) rfl rfl rfl (v_fa rfl Try.underlying23 rfl SZ3 rfl) ?_
 refine a_v 3 rfl (by kernel_rfl) (by kernel_rfl) (by kernel_rfl) rfl rfl rfl (v_ld 0 rfl Try.underlying3 rfl rfl rfl rfl) ?_
 refine a_v 4 rfl (by kernel_rfl) (by kernel_rfl) (by kernel_rfl) rfl rfl rfl (v_div rfl rfl rfl n40_) ?_
 refine a_v 5 rfl (by kernel_rfl) (by kernel_rfl) (by kernel_rfl) rfl rfl rfl (v_move rfl rfl) ?_
 refine a_v 6 rfl (by kernel_rfl) (by kernel_rfl) (by kernel_rfl) rfl rfl rfl (v_arith rfl rfl rfl rfl) ?_
 refine a_v 7 rfl (by kernel_rfl) (by kernel_rfl) (by kernel_rfl) rfl rfl rfl (v_fa rfl Try.underlying23 rfl SZ3 rfl) ?_
 refine a_v 8 rfl (by kernel_rfl) (by kernel_rfl) (by kernel_rfl) rfl rfl rfl (v_ld 0 rfl Try.underlying3 rfl rfl rfl rfl) ?_
 refine a_v 9 rfl (by kernel_rfl) (by kernel_rfl) (by kernel_rfl) rfl rfl rfl (v_rem rfl rfl rfl n40_) ?_
 refine a_v 10 rfl (by kernel_rfl) (by kernel_rfl) (by kernel_rfl) rfl rfl rfl (v_build (places := #[(0, 1), (1, 1), (2, 1)]) #[.int .i64 2, .int .i64 (IntKind.wrap .i64 (Int.tdiv (IntKind.wrap .i64 (a1 - 1)) a0_1)), .int .i64 (Int.tmod (IntKind.wrap .i64 (a1 - 1)) a0_1)] rfl ZR83 Try.underlying83 (by kernel_rfl) rfl (by kernel_rfl)) ?_
 refine a_1 (i := 11) (by kernel_rfl) ?_
 refine i_e rfl rfl (e_stA 0 rfl rfl SZ83 rfl rfl rfl rfl rfl rfl) ?_
 refine ⟨(mem_pick (idx := [1]) rfl), ?_⟩
 refine a_end (by kernel_rfl) ?_
 refine q_seq ?_
 refine c_ret rfl ?_
 refine q_block_ret ?_
 refine q_then_ret ?_
 have hq_0 := Option.some.inj H
 obtain ⟨ee_0, hq_1⟩ := Prod.mk.inj hq_0
 obtain ⟨ee_1, hq_2⟩ := Prod.mk.inj hq_1
 subst ee_0
 subst ee_1
 subst hq_2
 exact q_ret (vs := [.agg #[.int .i64 2, .int .i64 (IntKind.wrap .i64 (Int.tdiv (IntKind.wrap .i64 (a1 - 1)) a0_1)), .int .i64 (Int.tmod (IntKind.wrap .i64 (a1 - 1)) a0_1)]]) rfl (.agg [.int .i64 2, .int .i64 (IntKind.wrap .i64 (Int.tdiv (IntKind.wrap .i64 (a1 - 1)) a0_1)), .int .i64 (Int.tmod (IntKind.wrap .i64 (a1 - 1)) a0_1)] 0 rfl Try.underlying83 rfl SZ83 rfl rfl rfl .nil) [] rfl (by decide) (hX)
 replace H := ite_n (dec_f h37_) H
 refine c_cond rfl rfl (fun h41_ => absurd (h41_.symm.trans h37_) (by decide)) (fun _ => ?_)
 refine c_skip rfl ?_
 refine q_block ?_
 refine q_seq ?_
 refine c_seq rfl ?_
 obtain ⟨t48_, e49_, H⟩ := bind_s H
 obtain ⟨n50_, H⟩ := ite_no H
 obtain ⟨t51_, e52_, H⟩ := bind_s H
 obtain ⟨n53_, H⟩ := ite_no H
 refine r_any [.b b3_ (.cells #[.int .i64 a0_0, .int .i64 a0_1, .int .i64 a0_2, .int .i64 a0_3, .int .i64 a0_4, .int .i64 a0_5, .int .i64 a0_6] 23 (0, 0))] (by kernel_rfl) rfl (by kernel_rfl) (mem_pick (idx := [1]) rfl) ?_
 refine a_v 0 rfl (by kernel_rfl) (by kernel_rfl) (by kernel_rfl) rfl rfl rfl (v_move rfl rfl) ?_
 refine a_v 1 rfl (by kernel_rfl) (by kernel_rfl) (by kernel_rfl) rfl rfl rfl (v_ldA [.int .i64 a0_0, .int .i64 a0_1, .int .i64 a0_2, .int .i64 a0_3, .int .i64 a0_4, .int .i64 a0_5, .int .i64 a0_6] 0 rfl Try.underlying23 rfl SZ23 rfl rfl rfl rfl) ?_
 refine a_v 4 rfl (by kernel_rfl) (by kernel_rfl) (by kernel_rfl) rfl rfl rfl (v_move rfl rfl) ?_
 refine a_v 5 rfl (by kernel_rfl) (by kernel_rfl) (by kernel_rfl) rfl rfl rfl (v_ldA [.int .i64 a0_0, .int .i64 a0_1, .int .i64 a0_2, .int .i64 a0_3, .int .i64 a0_4, .int .i64 a0_5, .int .i64 a0_6] 0 rfl Try.underlying23 rfl SZ23 rfl rfl rfl rfl) ?_
 refine a_1 (i := 2) (by kernel_rfl) ?_
 refine i_e rfl rfl (e_callF [] #[.agg #[.int .i64 a0_0, .int .i64 a0_1, .int .i64 a0_2, .int .i64 a0_3, .int .i64 a0_4, .int .i64 a0_5, .int .i64 a0_6]] rfl rfl rfl rfl rfl Try.func72 rfl (by decide) rfl rfl rfl rfl (fun w ht => plan_fields_con a0_0 a0_1 a0_2 a0_3 a0_4 a0_5 a0_6 t48_ e49_ w _)) ?_
 refine ⟨(mem_pick (idx := [1]) rfl), ?_⟩
 refine a_v 3 rfl (by kernel_rfl) (by kernel_rfl) (by kernel_rfl) rfl rfl rfl (v_div rfl rfl rfl n50_) ?_
 refine a_1 (i := 6) (by kernel_rfl) ?_
 refine i_e rfl rfl (e_callF [] #[.agg #[.int .i64 a0_0, .int .i64 a0_1, .int .i64 a0_2, .int .i64 a0_3, .int .i64 a0_4, .int .i64 a0_5, .int .i64 a0_6]] rfl rfl rfl rfl rfl Try.func72 rfl (by decide) rfl rfl rfl rfl (fun w ht => plan_fields_con a0_0 a0_1 a0_2 a0_3 a0_4 a0_5 a0_6 t51_ e52_ w _)) ?_
 refine ⟨(mem_pick (idx := [1]) rfl), ?_⟩
 refine a_v 7 rfl (by kernel_rfl) (by kernel_rfl) (by kernel_rfl) rfl rfl rfl (v_rem rfl rfl rfl n53_) ?_
 refine a_v 8 rfl (by kernel_rfl) (by kernel_rfl) (by kernel_rfl) rfl rfl rfl (v_build (places := #[(0, 1), (1, 1), (2, 1)]) #[.int .i64 3, .int .i64 (IntKind.wrap .i64 (Int.tdiv (IntKind.wrap .i64 (a1 - t25_)) t48_)), .int .i64 (Int.tmod (IntKind.wrap .i64 (a1 - t25_)) t51_)] rfl ZR83 Try.underlying83 (by kernel_rfl) rfl (by kernel_rfl)) ?_
 refine a_1 (i := 9) (by kernel_rfl) ?_
 refine i_e rfl rfl (e_stA 0 rfl rfl SZ83 rfl rfl rfl rfl rfl rfl) ?_
 refine ⟨(mem_pick (idx := [1]) rfl), ?_⟩
 refine a_end (by kernel_rfl) ?_
 refine q_seq ?_
 refine c_ret rfl ?_
 have hq_0 := Option.some.inj H
 obtain ⟨ee_0, hq_1⟩ := Prod.mk.inj hq_0
 obtain ⟨ee_1, hq_2⟩ := Prod.mk.inj hq_1
 subst ee_0
 subst ee_1
 subst hq_2
 exact q_ret (vs := [.agg #[.int .i64 3, .int .i64 (IntKind.wrap .i64 (Int.tdiv (IntKind.wrap .i64 (a1 - t25_)) t48_)), .int .i64 (Int.tmod (IntKind.wrap .i64 (a1 - t25_)) t51_)]]) rfl (.agg [.int .i64 3, .int .i64 (IntKind.wrap .i64 (Int.tdiv (IntKind.wrap .i64 (a1 - t25_)) t48_)), .int .i64 (Int.tmod (IntKind.wrap .i64 (a1 - t25_)) t51_)] 0 rfl Try.underlying83 rfl SZ83 rfl rfl rfl .nil) [] rfl (by decide) (hX)
def slot_State.f (a0 : Int) : Option Int := some (IntKind.wrap .i64 (IntKind.wrap .u64 (BitVec.ofInt (IntKind.bits .u64) a0 &&& BitVec.ofInt (IntKind.bits .u64) 3).toNat))
set_option maxRecDepth 100000 in
set_option maxHeartbeats 4000000 in
theorem slot_State_con (a0 : Int) (r0 : Int) (h : slot_State.f a0 = some r0) (w0 : World) (Hs : List Nat) : Con Try.prog 51 #[.int .u64 a0] w0 Hs [] (fun X => X (.int .i64 r0) []) := by
  refine con_enter (c := bodyOf Try.f51) Try.func51 rfl (m := 6) rfl rfl rfl ?_
  intro X hX _
  have H := h
  unfold slot_State.f at H
  clear h
  refine c_seq rfl ?_
  refine r_ord (l := [0]) rfl (by kernel_rfl) (by kernel_rfl) ?_
  refine s_v rfl rfl rfl rfl (v_assign rfl rfl) ?_
  refine s_end ?_
  refine q_seq ?_
  refine c_seq rfl ?_
  refine r_ord (l := [0, 1, 2, 3]) rfl (by kernel_rfl) (by kernel_rfl) ?_
  refine s_v rfl rfl rfl rfl (v_move rfl rfl) ?_
  refine s_v rfl rfl rfl rfl (v_bits rfl rfl rfl rfl) ?_
  refine s_v rfl rfl rfl rfl (v_conv rfl Try.underlying25 Try.underlying3 rfl) ?_
  refine s_v rfl rfl rfl rfl (v_assign rfl rfl) ?_
  refine s_end ?_
  refine q_seq ?_
  refine c_ret rfl ?_
  have e_ := Option.some.inj H
  subst e_
  exact q_ret (vs := [.int .i64 (IntKind.wrap .i64 (IntKind.wrap .u64 (BitVec.ofInt (IntKind.bits .u64) a0 &&& BitVec.ofInt (IntKind.bits .u64) 3).toNat))]) rfl (.tmp rfl .nil) [] rfl (by decide) (hX)
def stepstoneref03_Same.l0 : Nat → List Int → List Int → Int → Option Bool
  | 0, _, _, _ => none
  | k + 1, l0, l1, x14_ => (if (x14_ : Int) < (l0.length : Int) then (if 0 ≤ (x14_ : Int) then (if (x14_ : Int) < (l1.length : Int) then (if (rd l0 x14_ : Int) = (rd l1 x14_) then stepstoneref03_Same.l0 k l0 l1 (IntKind.wrap .i64 (x14_ + 1)) else some false) else none) else none) else some true)
def stepstoneref03_Same.f (k : Nat) (l0 : List Int) (l1 : List Int) : Option Bool := (if ((l0.length : Int) : Int) = (l1.length : Int) then stepstoneref03_Same.l0 k l0 l1 0 else some false)
def stepstonelaw07_Olds.l0 : Nat → List S61 → Int → List S48 → Option (List S48)
  | 0, _, _, _ => none
  | k + 1, l0, x13_, xs11_ => (if (x13_ : Int) < (l0.length : Int) then (if 0 ≤ (x13_ : Int) then (if xs11_.length < 8796093022208 then stepstonelaw07_Olds.l0 k l0 (IntKind.wrap .i64 (x13_ + 1)) (xs11_ ++ [(⟨(rd_T61 l0 x13_).f0, (rd_T61 l0 x13_).f1⟩ : S48)]) else none) else none) else some xs11_)
def stepstonelaw07_Olds.f (k : Nat) (l0 : List S61) : Option (List S48) := stepstonelaw07_Olds.l0 k l0 0 ([] : List S48)
set_option maxRecDepth 100000 in
set_option maxHeartbeats 4000000 in
theorem stepstonelaw07_Olds_con (k : Nat) (A0 : Option Addr) (c0 : Nat) (l0 : List S61) (r0 : List S48) (h : stepstonelaw07_Olds.f k l0 = some r0) (w0 : World) (Hs : List Nat) : Con Try.prog 11 #[.slice A0 l0.length c0] w0 Hs [.f (KC k61 A0 c0 l0)] (fun X => ∀ A_r0 c_r0, X (.slice A_r0 r0.length c_r0) [.f (KC k48 A_r0 c_r0 r0)]) := by
  refine con_enter (c := bodyOf Try.f11) Try.func11 rfl (m := 18) rfl rfl rfl ?_
  intro X hX _
  have H := h
  unfold stepstonelaw07_Olds.f at H
  clear h
  refine c_seq rfl ?_
  refine r_ord (l := [0]) rfl (by kernel_rfl) (by kernel_rfl) ?_
  refine s_v rfl rfl rfl rfl (v_assign rfl rfl) ?_
  refine s_end ?_
  refine q_seq ?_
  refine c_seq rfl ?_
  refine r_ord (l := [0]) rfl (by kernel_rfl) (by kernel_rfl) ?_
  refine s_v rfl rfl rfl rfl (v_assign rfl rfl) ?_
  refine s_end ?_
  refine q_seq ?_
  refine c_seq rfl ?_
  refine c_seq rfl ?_
  refine r_ord (l := [0, 1, 2]) rfl (by kernel_rfl) (by kernel_rfl) ?_
  refine s_v rfl rfl rfl rfl (v_move rfl rfl) ?_
  refine s_v rfl rfl rfl rfl (v_len rfl rfl rfl Try.underlying35 rfl rfl) ?_
  refine s_v rfl rfl rfl rfl (v_move rfl rfl) ?_
  refine s_end ?_
  refine q_seq ?_
  refine c_block rfl ?_
  refine c_knowT (φ := fun _ => True) (fun _ => trivial) ?_
  refine c_loop (σ := Nat × Int × Ro × List S48) (fun s_ : Nat × Int × Ro × List S48 => match s_ with | (k, x13_, ro10_, xs11_) => stepstonelaw07_Olds.l0 k l0 x13_ xs11_ = some r0 ∧ ORow 2 enc48 ro10_ xs11_) (fun s_ : Nat × Int × Ro × List S48 => match s_ with | (k, x13_, ro10_, xs11_) => k) (fun s_ : Nat × Int × Ro × List S48 => match s_ with | (k, x13_, ro10_, xs11_) => [(2, .slice none 0 0), (3, .slice (OA ro10_) xs11_.length (OC ro10_)), (6, .slice A0 l0.length c0), (7, .int .i64 (l0.length : Int)), (8, .int .i64 x13_)]) (fun s_ : Nat × Int × Ro × List S48 => match s_ with | (k, x13_, ro10_, xs11_) => [.f (KC k61 A0 c0 l0), OE 48 ro10_]) (k, 0, none, ([] : List S48)) [1, 0] rfl ⟨H, ORow.nil⟩ (subF_spec ⟨rfl, rfl, rfl, rfl, rfl, trivial⟩) rfl (by decide) ?_
  rintro ⟨k0_, x13_, ro10_, xs11_⟩ hs24_
  clear H
  obtain ⟨H, hr12_⟩ : stepstonelaw07_Olds.l0 k0_ l0 x13_ xs11_ = some r0 ∧ ORow 2 enc48 ro10_ xs11_ := hs24_
  try clear hs24_
  rcases k0_ with _ | k0_
  · exact none_no (show none = _ from H)
  unfold stepstonelaw07_Olds.l0 at H
  have hko_0 : k0_ ≤ k0_ := Nat.le_refl _
  refine c_seq rfl ?_
  refine r_ord (l := [0]) rfl (by kernel_rfl) (by kernel_rfl) ?_
  refine s_v rfl rfl rfl rfl (v_arith rfl rfl rfl rfl) ?_
  refine s_end ?_
  refine q_seq ?_
  refine c_seq rfl ?_
  rcases Bool.eq_false_or_eq_true (decide ((x13_ : Int) < (l0.length : Int))) with h28_ | h28_
  ·
    replace H := ite_y (dec_t h28_) H
    refine c_cond rfl rfl (fun _ => ?_) (fun h29_ => absurd (h29_.symm.trans h28_) (by decide))
    refine c_skip rfl ?_
    refine q_seq ?_
    refine c_seq rfl ?_
    refine c_block rfl ?_
    refine c_seq rfl ?_
    refine r_ord (l := [0, 1, 2, 3]) rfl (by kernel_rfl) (by kernel_rfl) ?_
    obtain ⟨n39_, H⟩ := ite_no H
    refine s_v rfl rfl rfl rfl (v_iaK (i := 0) rfl Try.underlying35 SZ61 rfl rfl rfl rfl n39_ (dec_t h28_)) ?_
    refine s_v rfl rfl rfl rfl (v_ldKA z61 [.int .u64 ((rd_T61 l0 x13_).f0), .int .u64 ((rd_T61 l0 x13_).f1)] 0 rfl Try.underlying61 rfl SZ61 rfl rfl rfl rfl n39_ (dec_t h28_) (fun w K h => k61_open h)) ?_
    refine s_e rfl rfl (e_alloc rfl rfl rfl ZR61) ?_
    intro b40_
    refine s_e rfl rfl (e_stA 0 rfl rfl SZ61 rfl rfl rfl rfl rfl rfl) ?_
    refine s_end ?_
    refine q_seq ?_
    refine r_ord (l := [0, 1, 2, 3, 4]) rfl (by kernel_rfl) (by kernel_rfl) ?_
    refine s_v rfl rfl rfl rfl (v_move rfl rfl) ?_
    refine s_v rfl rfl rfl rfl (v_ldA [.int .u64 ((rd_T61 l0 x13_).f0), .int .u64 ((rd_T61 l0 x13_).f1)] 0 rfl Try.underlying61 rfl SZ61 rfl rfl rfl rfl) ?_
    refine s_e rfl rfl (e_bslice #[.int .u64 ((rd_T61 l0 x13_).f0), .int .u64 ((rd_T61 l0 x13_).f1)] (.agg #[.int .u64 0, .int .u64 0]) rfl rfl rfl Try.underlying33 SZ48 ZR48 (by decide) rfl (by kernel_rfl)) ?_
    intro b41_
    obtain ⟨n42_, H⟩ := ite_no H
    refine s_e rfl rfl (e_appO (enc := enc48) (v := (⟨(rd_T61 l0 x13_).f0, (rd_T61 l0 x13_).f1⟩ : S48)) (xs := xs11_) (ro := ro10_) (z := (.agg #[.int .u64 0, .int .u64 0])) (m := 2) (bytes := 16) (i := 0) (j := 3) rfl rfl rfl rfl rfl rfl Try.underlying33 (by kernel_rfl) rfl (by decide) rfl rfl hr12_ rfl rfl rfl rfl (flat48.one _) (by omega) (by simp only [maxLen]; omega)) ?_
    intro ro43_ hr44_ sm45_
    refine s_v rfl rfl rfl rfl (v_assign rfl rfl) ?_
    refine s_end ?_
    refine q_block ?_
    refine q_seq ?_
    refine r_ord (l := [0, 1]) rfl (by kernel_rfl) (by kernel_rfl) ?_
    refine s_v rfl rfl rfl rfl (v_arith rfl rfl rfl rfl) ?_
    refine s_v rfl rfl rfl rfl (v_move rfl rfl) ?_
    refine s_end ?_
    exact q_again (k0_, IntKind.wrap .i64 (x13_ + 1), ro43_, (xs11_ ++ [(⟨(rd_T61 l0 x13_).f0, (rd_T61 l0 x13_).f1⟩ : S48)])) [2, 3] ⟨H, hr44_⟩ (Nat.lt_succ_of_le hko_0) (subF_spec ⟨rfl, rfl, rfl, rfl, rfl, trivial⟩) rfl (by decide)
  ·
    replace H := ite_n (dec_f h28_) H
    refine c_cond rfl rfl (fun h46_ => absurd (h46_.symm.trans h28_) (by decide)) (fun _ => ?_)
    refine c_exit (i := 0) rfl rfl ?_
    refine q_then_exit ?_
    refine q_then_exit ?_
    refine q_block_here rfl ?_
    refine q_seq ?_
    refine c_seq rfl ?_
    refine r_ord (l := [0, 1]) rfl (by kernel_rfl) (by kernel_rfl) ?_
    refine s_v rfl rfl rfl rfl (v_move rfl rfl) ?_
    refine s_v rfl rfl rfl rfl (v_assign rfl rfl) ?_
    refine s_end ?_
    refine q_seq ?_
    refine c_ret rfl ?_
    refine q_giveO flat48 hr12_ [1, 0] rfl (by decide) rfl ?_
    have e_ := Option.some.inj H
    subst e_
    exact q_ret (vs := [.slice (OA ro10_) xs11_.length (OC ro10_)]) rfl (.tmp rfl .nil) [0] rfl (by decide) (hX (OA ro10_) (OC ro10_))
def stepstoneref02_Dead.f (a0 : Int) : Option Bool := some ((Int.tmod a0 2 : Int) == 1)
end Go.Eng
namespace Go.Eng
open Go.Proofs Go.RowKit Go.Proofs.YtbonlagecjealaaW.PrintWords Go.Proofs.Ytbonlagecjealaa.GSeq
set_option linter.unusedVariables false
set_option linter.unusedSimpArgs false
def stepstoneref02_Of.f (a0 : Int) : Option Int := some (IntKind.wrap .u64 (Int.tdiv a0 2))
def stepstoneref07_With.l0 : Nat → List S48 → Int → Int → Bool → Int → List S48 → Option (List S48)
  | 0, _, _, _, _, _, _ => none
  | k + 1, l0, a1_0, a1_1, x31_, x32_, xs29_ => (if (x32_ : Int) < (l0.length : Int) then ((if 0 ≤ (x32_ : Int) then (if ((rd_T48 l0 x32_).f0 : Int) ≥ a1_0 then some (true, true, !x31_) else some (false, false, false)) else none) : Option (Bool × Bool × Bool)).bind fun (j122_, j123_, j124_) => (if j124_ = true then (if xs29_.length < 8796093022208 then (if 0 ≤ (x32_ : Int) then (if ((rd_T48 l0 x32_).f0 : Int) = a1_0 then stepstoneref07_With.l0 k l0 a1_0 a1_1 true (IntKind.wrap .i64 (x32_ + 1)) (xs29_ ++ [(⟨a1_0, a1_1⟩ : S48)]) else (if (xs29_ ++ [(⟨a1_0, a1_1⟩ : S48)]).length < 8796093022208 then stepstoneref07_With.l0 k l0 a1_0 a1_1 true (IntKind.wrap .i64 (x32_ + 1)) ((xs29_ ++ [(⟨a1_0, a1_1⟩ : S48)]) ++ [(rd_T48 l0 x32_)]) else none)) else none) else none) else (if 0 ≤ (x32_ : Int) then (if ((rd_T48 l0 x32_).f0 : Int) = a1_0 then stepstoneref07_With.l0 k l0 a1_0 a1_1 x31_ (IntKind.wrap .i64 (x32_ + 1)) xs29_ else (if xs29_.length < 8796093022208 then stepstoneref07_With.l0 k l0 a1_0 a1_1 x31_ (IntKind.wrap .i64 (x32_ + 1)) (xs29_ ++ [(rd_T48 l0 x32_)]) else none)) else none)) else (if x31_ = true then some xs29_ else (if xs29_.length < 8796093022208 then some (xs29_ ++ [(⟨a1_0, a1_1⟩ : S48)]) else none)))
def stepstoneref07_With.f (k : Nat) (l0 : List S48) (a1_0 : Int) (a1_1 : Int) : Option (List S48) := stepstoneref07_With.l0 k l0 a1_0 a1_1 false 0 ([] : List S48)
def stepstoneref21_Map.l0 : Nat → Int → Int → Int → Int → Int → Int → Int → List Int → List Int → Int → List S48 → Option (List S48)
  | 0, _, _, _, _, _, _, _, _, _, _, _ => none
  | k + 1, a0_0, a0_1, a0_2, a0_3, a0_4, a0_5, a0_6, l1, t8_, x36_, l35_ => (if (x36_ : Int) < (t8_.length : Int) then (if 0 ≤ (x36_ : Int) then (stepstoneref01_Index.f (rd t8_ x36_)).bind fun t86_ => (stepstoneref21_at.f a0_0 a0_1 a0_2 a0_3 a0_4 a0_5 a0_6 l1 t86_ 2).bind fun t90_ => (stepstoneref02_Dead.f t90_).bind fun t94_ => (if t94_ = true then stepstoneref21_Map.l0 k a0_0 a0_1 a0_2 a0_3 a0_4 a0_5 a0_6 l1 t8_ (IntKind.wrap .i64 (x36_ + 1)) l35_ else (stepstoneref21_at.f a0_0 a0_1 a0_2 a0_3 a0_4 a0_5 a0_6 l1 t86_ 1).bind fun t98_ => (stepstoneref02_Of.f t90_).bind fun t100_ => (stepstoneref07_With.f k l35_ t98_ t100_).bind fun t102_ => stepstoneref21_Map.l0 k a0_0 a0_1 a0_2 a0_3 a0_4 a0_5 a0_6 l1 t8_ (IntKind.wrap .i64 (x36_ + 1)) t102_) else none) else some l35_)
def stepstoneref21_Map.f (k : Nat) (a0_0 : Int) (a0_1 : Int) (a0_2 : Int) (a0_3 : Int) (a0_4 : Int) (a0_5 : Int) (a0_6 : Int) (l1 : List Int) : Option (List S48) := (stepstoneref21_Level.f k a0_0 a0_1 a0_2 a0_3 a0_4 a0_5 a0_6 l1 0).bind fun (t8_, t9_) => stepstoneref21_Map.l0 k a0_0 a0_1 a0_2 a0_3 a0_4 a0_5 a0_6 l1 t8_ 0 ([] : List S48)
def stepstoneref07_Equal.l0 : Nat → List S48 → List S48 → Int → Option Bool
  | 0, _, _, _ => none
  | k + 1, l0, l1, x14_ => (if (x14_ : Int) < (l0.length : Int) then (if 0 ≤ (x14_ : Int) then (if (x14_ : Int) < (l1.length : Int) then (if ((((rd_T48 l0 x14_).f0 : Int) == ((rd_T48 l1 x14_).f0)) && ((((rd_T48 l0 x14_).f1 : Int) == ((rd_T48 l1 x14_).f1)))) = true then stepstoneref07_Equal.l0 k l0 l1 (IntKind.wrap .i64 (x14_ + 1)) else some false) else none) else none) else some true)
def stepstoneref07_Equal.f (k : Nat) (l0 : List S48) (l1 : List S48) : Option Bool := (if ((l0.length : Int) : Int) = (l1.length : Int) then stepstoneref07_Equal.l0 k l0 l1 0 else some false)
set_option maxRecDepth 100000 in
set_option maxHeartbeats 4000000 in
theorem stepstoneref07_Equal_con (k : Nat) (A0 : Option Addr) (c0 : Nat) (l0 : List S48) (A1 : Option Addr) (c1 : Nat) (l1 : List S48) (r0 : Bool) (h : stepstoneref07_Equal.f k l0 l1 = some r0) (w0 : World) (Hs : List Nat) : Con Try.prog 10 #[.slice A0 l0.length c0, .slice A1 l1.length c1] w0 Hs [.f (KC k48 A0 c0 l0), .f (KC k48 A1 c1 l1)] (fun X => X (.bool r0) []) := by
  refine con_enter (c := bodyOf Try.f10) Try.func10 rfl (m := 26) rfl rfl rfl ?_
  intro X hX _
  have H := h
  unfold stepstoneref07_Equal.f at H
  clear h
  refine c_seq rfl ?_
  refine r_ord (l := [0]) rfl (by kernel_rfl) (by kernel_rfl) ?_
  refine s_v rfl rfl rfl rfl (v_assign rfl rfl) ?_
  refine s_end ?_
  refine q_seq ?_
  refine c_seq rfl ?_
  refine c_seq rfl ?_
  refine r_ord (l := [0, 1, 2, 3, 4]) rfl (by kernel_rfl) (by kernel_rfl) ?_
  refine s_v rfl rfl rfl rfl (v_move rfl rfl) ?_
  refine s_v rfl rfl rfl rfl (v_len rfl rfl rfl Try.underlying33 rfl rfl) ?_
  refine s_v rfl rfl rfl rfl (v_move rfl rfl) ?_
  refine s_v rfl rfl rfl rfl (v_len rfl rfl rfl Try.underlying33 rfl rfl) ?_
  refine s_v rfl rfl rfl rfl (v_arith rfl rfl rfl rfl) ?_
  refine s_end ?_
  refine q_seq ?_
  rcases Bool.eq_false_or_eq_true (((l0.length : Int) : Int) != (l1.length : Int)) with h4_ | h4_
  ·
    replace H := ite_n (ibne_t h4_) H
    refine c_cond rfl rfl (fun _ => ?_) (fun h5_ => absurd (h5_.symm.trans h4_) (by decide))
    refine c_seq rfl ?_
    refine r_ord (l := [0]) rfl (by kernel_rfl) (by kernel_rfl) ?_
    refine s_v rfl rfl rfl rfl (v_assign rfl rfl) ?_
    refine s_end ?_
    refine q_seq ?_
    refine c_ret rfl ?_
    refine q_then_ret ?_
    have e_ := Option.some.inj H
    subst e_
    exact q_ret (vs := [.bool false]) rfl (.tmp rfl .nil) [] rfl (by decide) (hX)
  ·
    replace H := ite_y (ibne_f h4_) H
    refine c_cond rfl rfl (fun h6_ => absurd (h6_.symm.trans h4_) (by decide)) (fun _ => ?_)
    refine c_skip rfl ?_
    refine q_seq ?_
    refine c_seq rfl ?_
    refine c_seq rfl ?_
    refine r_ord (l := [0]) rfl (by kernel_rfl) (by kernel_rfl) ?_
    refine s_v rfl rfl rfl rfl (v_assign rfl rfl) ?_
    refine s_end ?_
    refine q_seq ?_
    refine c_block rfl ?_
    refine c_loop (σ := Nat × Int) (fun s_ : Nat × Int => match s_ with | (k, x14_) => stepstoneref07_Equal.l0 k l0 l1 x14_ = some r0) (fun s_ : Nat × Int => match s_ with | (k, x14_) => k) (fun s_ : Nat × Int => match s_ with | (k, x14_) => [(0, .slice A0 l0.length c0), (1, .slice A1 l1.length c1), (4, .bool false), (5, .int .i64 x14_)]) (fun s_ : Nat × Int => match s_ with | (k, x14_) => [.f (KC k48 A0 c0 l0), .f (KC k48 A1 c1 l1)]) (k, 0) [0, 1] rfl H (subF_spec ⟨rfl, rfl, rfl, rfl, trivial⟩) rfl (by decide) ?_
    rintro ⟨k0_, x14_⟩ hs23_
    clear H
    have H : stepstoneref07_Equal.l0 k0_ l0 l1 x14_ = some r0 := hs23_
    try clear hs23_
    rcases k0_ with _ | k0_
    · exact none_no (show none = _ from H)
    unfold stepstoneref07_Equal.l0 at H
    have hko_0 : k0_ ≤ k0_ := Nat.le_refl _
    refine c_seq rfl ?_
    refine c_seq rfl ?_
    refine r_ord (l := [0, 1, 2, 3]) rfl (by kernel_rfl) (by kernel_rfl) ?_
    refine s_v rfl rfl rfl rfl (v_move rfl rfl) ?_
    refine s_v rfl rfl rfl rfl (v_move rfl rfl) ?_
    refine s_v rfl rfl rfl rfl (v_len rfl rfl rfl Try.underlying33 rfl rfl) ?_
    refine s_v rfl rfl rfl rfl (v_arith rfl rfl rfl rfl) ?_
    refine s_end ?_
    refine q_seq ?_
    rcases Bool.eq_false_or_eq_true (decide ((x14_ : Int) < (l0.length : Int))) with h27_ | h27_
    ·
      replace H := ite_y (dec_t h27_) H
      refine c_cond rfl rfl (fun _ => ?_) (fun h28_ => absurd (h28_.symm.trans h27_) (by decide))
      refine c_skip rfl ?_
      refine q_seq ?_
      refine c_seq rfl ?_
      refine c_block rfl ?_
      refine c_seq rfl ?_
      obtain ⟨n36_, H⟩ := ite_no H
      obtain ⟨n37_, H⟩ := ite_no H
      refine r_any [.f (KC k48 A0 c0 l0), .f (KC k48 A1 c1 l1)] (by kernel_rfl) rfl (by kernel_rfl) (mem_pick (idx := [0, 1]) rfl) ?_
      refine a_v 0 rfl (by kernel_rfl) (by kernel_rfl) (by kernel_rfl) rfl rfl rfl (v_move rfl rfl) ?_
      refine a_v 1 rfl (by kernel_rfl) (by kernel_rfl) (by kernel_rfl) rfl rfl rfl (v_move rfl rfl) ?_
      refine a_v 2 rfl (by kernel_rfl) (by kernel_rfl) (by kernel_rfl) rfl rfl rfl (v_iaK (i := 0) rfl Try.underlying33 SZ48 rfl rfl rfl rfl n36_ (dec_t h27_)) ?_
      refine a_v 3 rfl (by kernel_rfl) (by kernel_rfl) (by kernel_rfl) rfl rfl rfl (v_ldKA z48 [.int .u64 ((rd_T48 l0 x14_).f0), .int .u64 ((rd_T48 l0 x14_).f1)] 0 rfl Try.underlying48 rfl SZ48 rfl rfl rfl rfl n36_ (dec_t h27_) (fun w K h => k48_open h)) ?_
      refine a_v 4 rfl (by kernel_rfl) (by kernel_rfl) (by kernel_rfl) rfl rfl rfl (v_move rfl rfl) ?_
      refine a_v 5 rfl (by kernel_rfl) (by kernel_rfl) (by kernel_rfl) rfl rfl rfl (v_move rfl rfl) ?_
      refine a_v 6 rfl (by kernel_rfl) (by kernel_rfl) (by kernel_rfl) rfl rfl rfl (v_iaK (i := 1) rfl Try.underlying33 SZ48 rfl rfl rfl rfl n36_ n37_) ?_
      refine a_v 7 rfl (by kernel_rfl) (by kernel_rfl) (by kernel_rfl) rfl rfl rfl (v_ldKA z48 [.int .u64 ((rd_T48 l1 x14_).f0), .int .u64 ((rd_T48 l1 x14_).f1)] 1 rfl Try.underlying48 rfl SZ48 rfl rfl rfl rfl n36_ n37_ (fun w K h => k48_open h)) ?_
      refine a_v 8 rfl (by kernel_rfl) (by kernel_rfl) (by kernel_rfl) rfl rfl rfl (v_neA rfl rfl rfl (by kernel_rfl) (eqS48 ((rd_T48 l0 x14_).f0) ((rd_T48 l0 x14_).f1) ((rd_T48 l1 x14_).f0) ((rd_T48 l1 x14_).f1))) ?_
      refine a_end (by kernel_rfl) ?_
      refine q_seq ?_
      rcases Bool.eq_false_or_eq_true (!((((rd_T48 l0 x14_).f0 : Int) == ((rd_T48 l1 x14_).f0)) && ((((rd_T48 l0 x14_).f1 : Int) == ((rd_T48 l1 x14_).f1))))) with h38_ | h38_
      ·
        replace H := ite_n (not_t (bnot_t h38_)) H
        refine c_cond rfl rfl (fun _ => ?_) (fun h39_ => absurd (h39_.symm.trans h38_) (by decide))
        refine c_seq rfl ?_
        refine r_ord (l := [0]) rfl (by kernel_rfl) (by kernel_rfl) ?_
        refine s_v rfl rfl rfl rfl (v_assign rfl rfl) ?_
        refine s_end ?_
        refine q_seq ?_
        refine c_ret rfl ?_
        refine q_block_ret ?_
        refine q_then_ret ?_
        refine q_then_ret ?_
        refine q_block_ret ?_
        refine q_then_ret ?_
        have e_ := Option.some.inj H
        subst e_
        exact q_ret (vs := [.bool false]) rfl (.tmp rfl .nil) [] rfl (by decide) (hX)
      ·
        replace H := ite_y (bnot_f h38_) H
        refine c_cond rfl rfl (fun h40_ => absurd (h40_.symm.trans h38_) (by decide)) (fun _ => ?_)
        refine c_skip rfl ?_
        refine q_block ?_
        refine q_seq ?_
        refine r_ord (l := [0, 1, 2]) rfl (by kernel_rfl) (by kernel_rfl) ?_
        refine s_v rfl rfl rfl rfl (v_move rfl rfl) ?_
        refine s_v rfl rfl rfl rfl (v_arith rfl rfl rfl rfl) ?_
        refine s_v rfl rfl rfl rfl (v_assign rfl rfl) ?_
        refine s_end ?_
        exact q_again (k0_, IntKind.wrap .i64 (x14_ + 1)) [0, 1] H (Nat.lt_succ_of_le hko_0) (subF_spec ⟨rfl, rfl, rfl, rfl, trivial⟩) rfl (by decide)
    ·
      replace H := ite_n (dec_f h27_) H
      refine c_cond rfl rfl (fun h41_ => absurd (h41_.symm.trans h27_) (by decide)) (fun _ => ?_)
      refine c_exit (i := 0) rfl rfl ?_
      refine q_then_exit ?_
      refine q_then_exit ?_
      refine q_block_here rfl ?_
      refine q_seq ?_
      refine c_seq rfl ?_
      refine r_ord (l := [0]) rfl (by kernel_rfl) (by kernel_rfl) ?_
      refine s_v rfl rfl rfl rfl (v_assign rfl rfl) ?_
      refine s_end ?_
      refine q_seq ?_
      refine c_ret rfl ?_
      have e_ := Option.some.inj H
      subst e_
      exact q_ret (vs := [.bool true]) rfl (.tmp rfl .nil) [] rfl (by decide) (hX)
def stepstoneref11_Right.l0 : Nat → Int → List S46 → Int → Option Bool
  | 0, _, _, _ => none
  | k + 1, a0_3, l1, x34_ => (if (x34_ : Int) < (l1.length : Int) then ((if 0 ≤ (x34_ : Int) then (if ((rd_T46 l1 x34_).f2 : Int) < 1 then some (true, true, true, true, true, true, true, true, true, true, true) else (if ((rd_T46 l1 x34_).f2 : Int) > a0_3 then some (false, false, true, true, true, true, true, true, true, true, true) else (if ((rd_T46 l1 x34_).f3 : Int) < 0 then some (false, false, false, false, true, true, true, true, true, true, true) else (if ((rd_T46 l1 x34_).f3 : Int) > ((rd_T46 l1 x34_).f2) then some (false, false, false, false, false, false, true, true, true, true, true) else (if ((rd_T46 l1 x34_).f3 : Int) > 0 then (if ((rd_T46 l1 x34_).f4) = true then some (false, false, false, false, false, false, false, false, false, false, decide (((rd_T46 l1 x34_).f1 : Int) ≥ 9223372036854775808)) else some (false, false, false, false, false, false, false, false, true, true, true)) else some (false, false, false, false, false, false, false, false, false, false, decide (((rd_T46 l1 x34_).f1 : Int) ≥ 9223372036854775808))))))) else none) : Option (Bool × Bool × Bool × Bool × Bool × Bool × Bool × Bool × Bool × Bool × Bool)).bind fun (j114_, j115_, j116_, j117_, j118_, j119_, j120_, j121_, j122_, j123_, j124_) => (if j124_ = true then some false else ((if (x34_ : Int) > 0 then (if 0 ≤ (IntKind.wrap .i64 (x34_ - 1) : Int) then (if (IntKind.wrap .i64 (x34_ - 1) : Int) < (l1.length : Int) then (if 0 ≤ (x34_ : Int) then some (true, true, decide (((rd_T46 l1 (IntKind.wrap .i64 (x34_ - 1))).f0 : Int) ≥ ((rd_T46 l1 x34_).f0))) else none) else none) else none) else some (false, false, false)) : Option (Bool × Bool × Bool)).bind fun (j131_, j132_, j133_) => (if j133_ = true then some false else stepstoneref11_Right.l0 k a0_3 l1 (IntKind.wrap .i64 (x34_ + 1)))) else some true)
def stepstoneref11_Right.f (k : Nat) (a0_0 : Int) (a0_1 : Int) (a0_2 : Int) (a0_3 : Int) (a0_4 : Int) (a0_5 : Int) (a0_6 : Int) (l1 : List S46) : Option Bool := ((stepstoneref04_Right.f a0_0 a0_1 a0_2 a0_3 a0_4 a0_5 a0_6).bind fun t148_ => (if t148_ = true then some (decide (((l1.length : Int) : Int) > a0_2)) else some true) : Option Bool).bind fun j16_ => (if j16_ = true then some false else stepstoneref11_Right.l0 k a0_3 l1 0)
set_option maxRecDepth 100000 in
set_option maxHeartbeats 4000000 in
theorem stepstoneref11_Right_con (k : Nat) (a0_0 : Int) (a0_1 : Int) (a0_2 : Int) (a0_3 : Int) (a0_4 : Int) (a0_5 : Int) (a0_6 : Int) (A1 : Option Addr) (c1 : Nat) (l1 : List S46) (r0 : Bool) (h : stepstoneref11_Right.f k a0_0 a0_1 a0_2 a0_3 a0_4 a0_5 a0_6 l1 = some r0) (w0 : World) (Hs : List Nat) : Con Try.prog 15 #[.agg #[.int .i64 a0_0, .int .i64 a0_1, .int .i64 a0_2, .int .i64 a0_3, .int .i64 a0_4, .int .i64 a0_5, .int .i64 a0_6], .slice A1 l1.length c1] w0 Hs [.f (KC k46 A1 c1 l1)] (fun X => X (.bool r0) []) := by
  refine con_enter (c := bodyOf Try.f15) Try.func15 rfl (m := 99) rfl rfl rfl ?_
  intro X hX _
  have H := h
  unfold stepstoneref11_Right.f at H
  clear h
  refine c_seq rfl ?_
  refine r_ord (l := [0, 1]) rfl (by kernel_rfl) (by kernel_rfl) ?_
  refine s_e rfl rfl (e_box rfl rfl rfl rfl) ?_
  intro b2_
  refine s_v rfl rfl rfl rfl (v_assign rfl rfl) ?_
  refine s_end ?_
  refine q_seq ?_
  refine c_seq rfl ?_
  obtain ⟨j16_, e17_, H⟩ := bind_s H
  refine c_join (β := Unit) (fun _ => True) (fun _ => [(1, .slice A1 l1.length c1), (2, .pointer (some ⟨b2_, 0, none⟩)), (4, .bool false), (15, .bool j16_)]) (fun _ => [.b b2_ (.cells #[.int .i64 a0_0, .int .i64 a0_1, .int .i64 a0_2, .int .i64 a0_3, .int .i64 a0_4, .int .i64 a0_5, .int .i64 a0_6] 23 (0, 0)), .f (KC k46 A1 c1 l1)]) rfl (fun _ _ => ?_) (fun J_ => ?_)
  ·
    rcases Bool.eq_false_or_eq_true j16_ with h18_ | h18_
    ·
      subst h18_
      replace H := ite_y rfl H
      refine c_cond1 rfl rfl ?_
      refine c_seq rfl ?_
      refine r_ord (l := [0]) rfl (by kernel_rfl) (by kernel_rfl) ?_
      refine s_v rfl rfl rfl rfl (v_assign rfl rfl) ?_
      refine s_end ?_
      refine q_seq ?_
      refine c_ret rfl ?_
      refine q_then_ret ?_
      have e_ := Option.some.inj H
      subst e_
      exact q_ret (vs := [.bool false]) rfl (.tmp rfl .nil) [] rfl (by decide) (hX)
    ·
      subst h18_
      replace H := ite_n (by decide) H
      refine c_cond0 rfl rfl ?_
      refine c_skip rfl ?_
      refine q_seq ?_
      refine c_seq rfl ?_
      refine c_seq rfl ?_
      refine r_ord (l := [0]) rfl (by kernel_rfl) (by kernel_rfl) ?_
      refine s_v rfl rfl rfl rfl (v_assign rfl rfl) ?_
      refine s_end ?_
      refine q_seq ?_
      refine c_block rfl ?_
      refine c_loop (σ := Nat × Int) (fun s_ : Nat × Int => match s_ with | (k, x34_) => stepstoneref11_Right.l0 k a0_3 l1 x34_ = some r0) (fun s_ : Nat × Int => match s_ with | (k, x34_) => k) (fun s_ : Nat × Int => match s_ with | (k, x34_) => [(1, .slice A1 l1.length c1), (2, .pointer (some ⟨b2_, 0, none⟩)), (4, .bool false), (5, .int .i64 x34_)]) (fun s_ : Nat × Int => match s_ with | (k, x34_) => [.b b2_ (.cells #[.int .i64 a0_0, .int .i64 a0_1, .int .i64 a0_2, .int .i64 a0_3, .int .i64 a0_4, .int .i64 a0_5, .int .i64 a0_6] 23 (0, 0)), .f (KC k46 A1 c1 l1)]) (k, 0) [0, 1] rfl H (subF_spec ⟨rfl, rfl, rfl, rfl, trivial⟩) rfl (by decide) ?_
      rintro ⟨k0_, x34_⟩ hs63_
      clear H
      have H : stepstoneref11_Right.l0 k0_ a0_3 l1 x34_ = some r0 := hs63_
      try clear hs63_
      rcases k0_ with _ | k0_
      · exact none_no (show none = _ from H)
      unfold stepstoneref11_Right.l0 at H
      have hko_0 : k0_ ≤ k0_ := Nat.le_refl _
      refine c_seq rfl ?_
      refine c_seq rfl ?_
      refine r_ord (l := [0, 1, 2, 3]) rfl (by kernel_rfl) (by kernel_rfl) ?_
      refine s_v rfl rfl rfl rfl (v_move rfl rfl) ?_
      refine s_v rfl rfl rfl rfl (v_move rfl rfl) ?_
      refine s_v rfl rfl rfl rfl (v_len rfl rfl rfl Try.underlying42 rfl rfl) ?_
      refine s_v rfl rfl rfl rfl (v_arith rfl rfl rfl rfl) ?_
      refine s_end ?_
      refine q_seq ?_
      rcases Bool.eq_false_or_eq_true (decide ((x34_ : Int) < (l1.length : Int))) with h67_ | h67_
      ·
        replace H := ite_y (dec_t h67_) H
        refine c_cond rfl rfl (fun _ => ?_) (fun h68_ => absurd (h68_.symm.trans h67_) (by decide))
        refine c_skip rfl ?_
        refine q_seq ?_
        refine c_seq rfl ?_
        refine c_block rfl ?_
        refine c_seq rfl ?_
        obtain ⟨⟨j114_, j115_, j116_, j117_, j118_, j119_, j120_, j121_, j122_, j123_, j124_⟩, e125_, H⟩ := bind_s H
        refine c_join (β := Unit) (fun _ => True) (fun _ => [(1, .slice A1 l1.length c1), (2, .pointer (some ⟨b2_, 0, none⟩)), (4, .bool false), (5, .int .i64 x34_), (16, .int .i64 x34_), (17, .slice A1 l1.length c1), (18, .int .i64 (l1.length : Int)), (19, .bool (decide ((x34_ : Int) < (l1.length : Int)))), (22, .slice A1 l1.length c1), (23, .int .i64 x34_), (24, .pointer (some (at0 A1 x34_ 5))), (25, .pointer (some ((at0 A1 x34_ 5).add 2))), (26, .int .i64 ((rd_T46 l1 x34_).f2)), (27, .bool j114_), (28, .bool j115_), (37, .bool j116_), (38, .bool j117_), (45, .bool j118_), (46, .bool j119_), (58, .bool j120_), (59, .bool j121_), (74, .bool j122_), (75, .bool j123_), (82, .bool j124_)]) (fun _ => [.b b2_ (.cells #[.int .i64 a0_0, .int .i64 a0_1, .int .i64 a0_2, .int .i64 a0_3, .int .i64 a0_4, .int .i64 a0_5, .int .i64 a0_6] 23 (0, 0)), .f (KC k46 A1 c1 l1)]) rfl (fun _ _ => ?_) (fun J_ => ?_)
        ·
          rcases Bool.eq_false_or_eq_true j124_ with h126_ | h126_
          ·
            subst h126_
            replace H := ite_y rfl H
            refine c_cond1 rfl rfl ?_
            refine c_seq rfl ?_
            refine r_ord (l := [0]) rfl (by kernel_rfl) (by kernel_rfl) ?_
            refine s_v rfl rfl rfl rfl (v_assign rfl rfl) ?_
            refine s_end ?_
            refine q_seq ?_
            refine c_ret rfl ?_
            refine q_then_ret ?_
            refine q_block_ret ?_
            refine q_then_ret ?_
            refine q_then_ret ?_
            refine q_block_ret ?_
            refine q_then_ret ?_
            have e_ := Option.some.inj H
            subst e_
            exact q_ret (vs := [.bool false]) rfl (.tmp rfl .nil) [] rfl (by decide) (hX)
          ·
            subst h126_
            replace H := ite_n (by decide) H
            refine c_cond0 rfl rfl ?_
            refine c_skip rfl ?_
            refine q_seq ?_
            obtain ⟨⟨j131_, j132_, j133_⟩, e134_, H⟩ := bind_s H
            refine c_join (β := Unit) (fun _ => True) (fun _ => [(1, .slice A1 l1.length c1), (2, .pointer (some ⟨b2_, 0, none⟩)), (4, .bool false), (5, .int .i64 x34_), (16, .int .i64 x34_), (17, .slice A1 l1.length c1), (18, .int .i64 (l1.length : Int)), (19, .bool (decide ((x34_ : Int) < (l1.length : Int)))), (22, .slice A1 l1.length c1), (23, .int .i64 x34_), (24, .pointer (some (at0 A1 x34_ 5))), (25, .pointer (some ((at0 A1 x34_ 5).add 2))), (26, .int .i64 ((rd_T46 l1 x34_).f2)), (27, .bool j114_), (28, .bool j115_), (37, .bool j116_), (38, .bool j117_), (45, .bool j118_), (46, .bool j119_), (58, .bool j120_), (59, .bool j121_), (74, .bool j122_), (75, .bool j123_), (82, .bool false), (83, .int .i64 x34_), (84, .bool j131_), (85, .bool j132_), (98, .bool j133_)]) (fun _ => [.b b2_ (.cells #[.int .i64 a0_0, .int .i64 a0_1, .int .i64 a0_2, .int .i64 a0_3, .int .i64 a0_4, .int .i64 a0_5, .int .i64 a0_6] 23 (0, 0)), .f (KC k46 A1 c1 l1)]) rfl (fun _ _ => ?_) (fun J_ => ?_)
            ·
              rcases Bool.eq_false_or_eq_true j133_ with h135_ | h135_
              ·
                subst h135_
                replace H := ite_y rfl H
                refine c_cond1 rfl rfl ?_
                refine c_seq rfl ?_
                refine r_ord (l := [0]) rfl (by kernel_rfl) (by kernel_rfl) ?_
                refine s_v rfl rfl rfl rfl (v_assign rfl rfl) ?_
                refine s_end ?_
                refine q_seq ?_
                refine c_ret rfl ?_
                refine q_block_ret ?_
                refine q_then_ret ?_
                refine q_then_ret ?_
                refine q_block_ret ?_
                refine q_then_ret ?_
                have e_ := Option.some.inj H
                subst e_
                exact q_ret (vs := [.bool false]) rfl (.tmp rfl .nil) [] rfl (by decide) (hX)
              ·
                subst h135_
                replace H := ite_n (by decide) H
                refine c_cond0 rfl rfl ?_
                refine c_skip rfl ?_
                refine q_block ?_
                refine q_seq ?_
                refine r_ord (l := [0, 1, 2]) rfl (by kernel_rfl) (by kernel_rfl) ?_
                refine s_v rfl rfl rfl rfl (v_move rfl rfl) ?_
                refine s_v rfl rfl rfl rfl (v_arith rfl rfl rfl rfl) ?_
                refine s_v rfl rfl rfl rfl (v_assign rfl rfl) ?_
                refine s_end ?_
                exact q_again (k0_, IntKind.wrap .i64 (x34_ + 1)) [0, 1] H (Nat.lt_succ_of_le hko_0) (subF_spec ⟨rfl, rfl, rfl, rfl, trivial⟩) rfl (by decide)
            ·
              clear H
              have H := e134_
              clear e134_
              rcases Bool.eq_false_or_eq_true (decide ((x34_ : Int) > 0)) with h136_ | h136_
              ·
                replace H := ite_y (dec_t h136_) H
                obtain ⟨n137_, H⟩ := ite_no H
                obtain ⟨n138_, H⟩ := ite_no H
                obtain ⟨n139_, H⟩ := ite_no H
                refine r_any [.b b2_ (.cells #[.int .i64 a0_0, .int .i64 a0_1, .int .i64 a0_2, .int .i64 a0_3, .int .i64 a0_4, .int .i64 a0_5, .int .i64 a0_6] 23 (0, 0)), .f (KC k46 A1 c1 l1)] (by kernel_rfl) rfl (by kernel_rfl) (mem_pick (idx := [0, 1]) rfl) ?_
                refine a_v 0 rfl (by kernel_rfl) (by kernel_rfl) (by kernel_rfl) rfl rfl rfl (v_move rfl rfl) ?_
                refine a_v 1 rfl (by kernel_rfl) (by kernel_rfl) (by kernel_rfl) rfl rfl rfl (OpV.cast (v := .bool true) (v_arith rfl rfl rfl rfl) (congrArg Value.bool h136_)) ?_
                refine a_v 2 rfl (by kernel_rfl) (by kernel_rfl) (by kernel_rfl) rfl rfl rfl (v_move rfl rfl) ?_
                refine a_v 3 rfl (by kernel_rfl) (by kernel_rfl) (by kernel_rfl) rfl rfl rfl (v_move rfl rfl) ?_
                refine a_v 4 rfl (by kernel_rfl) (by kernel_rfl) (by kernel_rfl) rfl rfl rfl (v_move rfl rfl) ?_
                refine a_v 5 rfl (by kernel_rfl) (by kernel_rfl) (by kernel_rfl) rfl rfl rfl (v_arith rfl rfl rfl rfl) ?_
                refine a_v 6 rfl (by kernel_rfl) (by kernel_rfl) (by kernel_rfl) rfl rfl rfl (v_iaK (i := 1) rfl Try.underlying42 SZ46 rfl rfl rfl rfl n137_ n138_) ?_
                refine a_v 7 rfl (by kernel_rfl) (by kernel_rfl) (by kernel_rfl) rfl rfl rfl (v_fax rfl Try.underlying46 rfl SZ25 rfl) ?_
                refine a_v 8 rfl (by kernel_rfl) (by kernel_rfl) (by kernel_rfl) rfl rfl rfl (v_ldKf (v := .int .u64 ((rd_T46 l1 (IntKind.wrap .i64 (x34_ - 1))).f0)) z46 [.int .u64 ((rd_T46 l1 (IntKind.wrap .i64 (x34_ - 1))).f0), .int .u64 ((rd_T46 l1 (IntKind.wrap .i64 (x34_ - 1))).f1), .int .i64 ((rd_T46 l1 (IntKind.wrap .i64 (x34_ - 1))).f2), .int .i64 ((rd_T46 l1 (IntKind.wrap .i64 (x34_ - 1))).f3), .bool ((rd_T46 l1 (IntKind.wrap .i64 (x34_ - 1))).f4)] 1 rfl Try.underlying25 rfl rfl rfl rfl n137_ n138_ (fun w K h => k46_open h) rfl) ?_
                refine a_v 9 rfl (by kernel_rfl) (by kernel_rfl) (by kernel_rfl) rfl rfl rfl (v_move rfl rfl) ?_
                refine a_v 10 rfl (by kernel_rfl) (by kernel_rfl) (by kernel_rfl) rfl rfl rfl (v_move rfl rfl) ?_
                refine a_v 11 rfl (by kernel_rfl) (by kernel_rfl) (by kernel_rfl) rfl rfl rfl (v_iaK (i := 1) rfl Try.underlying42 SZ46 rfl rfl rfl rfl n139_ (dec_t h67_)) ?_
                refine a_v 12 rfl (by kernel_rfl) (by kernel_rfl) (by kernel_rfl) rfl rfl rfl (v_fax rfl Try.underlying46 rfl SZ25 rfl) ?_
                refine a_v 13 rfl (by kernel_rfl) (by kernel_rfl) (by kernel_rfl) rfl rfl rfl (v_ldKf (v := .int .u64 ((rd_T46 l1 x34_).f0)) z46 [.int .u64 ((rd_T46 l1 x34_).f0), .int .u64 ((rd_T46 l1 x34_).f1), .int .i64 ((rd_T46 l1 x34_).f2), .int .i64 ((rd_T46 l1 x34_).f3), .bool ((rd_T46 l1 x34_).f4)] 1 rfl Try.underlying25 rfl rfl rfl rfl n139_ (dec_t h67_) (fun w K h => k46_open h) rfl) ?_
                refine a_v 14 rfl (by kernel_rfl) (by kernel_rfl) (by kernel_rfl) rfl rfl rfl (v_arith rfl rfl rfl rfl) ?_
                refine a_v 15 rfl (by kernel_rfl) (by kernel_rfl) (by kernel_rfl) rfl rfl rfl (v_pick rfl rfl rfl rfl) ?_
                refine a_end (by kernel_rfl) ?_
                have hq_0 := Option.some.inj H
                obtain ⟨ee_0, hq_1⟩ := Prod.mk.inj hq_0
                obtain ⟨ee_1, hq_2⟩ := Prod.mk.inj hq_1
                subst ee_0
                subst ee_1
                subst hq_2
                exact q_seq (c_frame (subF_spec (by exact ⟨rfl, rfl, rfl, rfl, rfl, rfl, rfl, rfl, rfl, rfl, rfl, rfl, rfl, rfl, rfl, rfl, rfl, rfl, rfl, rfl, rfl, rfl, rfl, rfl, rfl, rfl, rfl, rfl, trivial⟩)) (c_take [0, 1] rfl (by decide) (J_ () trivial)))
              ·
                replace H := ite_n (dec_f h136_) H
                refine r_any [.b b2_ (.cells #[.int .i64 a0_0, .int .i64 a0_1, .int .i64 a0_2, .int .i64 a0_3, .int .i64 a0_4, .int .i64 a0_5, .int .i64 a0_6] 23 (0, 0)), .f (KC k46 A1 c1 l1)] (by kernel_rfl) rfl (by kernel_rfl) (mem_pick (idx := [0, 1]) rfl) ?_
                refine a_v 0 rfl (by kernel_rfl) (by kernel_rfl) (by kernel_rfl) rfl rfl rfl (v_move rfl rfl) ?_
                refine a_v 1 rfl (by kernel_rfl) (by kernel_rfl) (by kernel_rfl) rfl rfl rfl (OpV.cast (v := .bool false) (v_arith rfl rfl rfl rfl) (congrArg Value.bool h136_)) ?_
                refine a_v 2 rfl (by kernel_rfl) (by kernel_rfl) (by kernel_rfl) rfl rfl rfl (v_move rfl rfl) ?_
                refine a_no 3 rfl (by kernel_rfl) (by kernel_rfl) (by kernel_rfl) rfl rfl rfl ?_
                refine a_no 4 rfl (by kernel_rfl) (by kernel_rfl) (by kernel_rfl) rfl rfl rfl ?_
                refine a_no 5 rfl (by kernel_rfl) (by kernel_rfl) (by kernel_rfl) rfl rfl rfl ?_
                refine a_no 6 rfl (by kernel_rfl) (by kernel_rfl) (by kernel_rfl) rfl rfl rfl ?_
                refine a_no 7 rfl (by kernel_rfl) (by kernel_rfl) (by kernel_rfl) rfl rfl rfl ?_
                refine a_no 8 rfl (by kernel_rfl) (by kernel_rfl) (by kernel_rfl) rfl rfl rfl ?_
                refine a_no 9 rfl (by kernel_rfl) (by kernel_rfl) (by kernel_rfl) rfl rfl rfl ?_
                refine a_no 10 rfl (by kernel_rfl) (by kernel_rfl) (by kernel_rfl) rfl rfl rfl ?_
                refine a_no 11 rfl (by kernel_rfl) (by kernel_rfl) (by kernel_rfl) rfl rfl rfl ?_
                refine a_no 12 rfl (by kernel_rfl) (by kernel_rfl) (by kernel_rfl) rfl rfl rfl ?_
                refine a_no 13 rfl (by kernel_rfl) (by kernel_rfl) (by kernel_rfl) rfl rfl rfl ?_
                refine a_no 14 rfl (by kernel_rfl) (by kernel_rfl) (by kernel_rfl) rfl rfl rfl ?_
                refine a_v 15 rfl (by kernel_rfl) (by kernel_rfl) (by kernel_rfl) rfl rfl rfl (v_pick rfl rfl rfl rfl) ?_
                refine a_end (by kernel_rfl) ?_
                have hq_0 := Option.some.inj H
                obtain ⟨ee_0, hq_1⟩ := Prod.mk.inj hq_0
                obtain ⟨ee_1, hq_2⟩ := Prod.mk.inj hq_1
                subst ee_0
                subst ee_1
                subst hq_2
                exact q_seq (c_frame (subF_spec (by exact ⟨rfl, rfl, rfl, rfl, rfl, rfl, rfl, rfl, rfl, rfl, rfl, rfl, rfl, rfl, rfl, rfl, rfl, rfl, rfl, rfl, rfl, rfl, rfl, rfl, rfl, rfl, rfl, rfl, trivial⟩)) (c_take [0, 1] rfl (by decide) (J_ () trivial)))
        ·
          clear H
          have H := e125_
          clear e125_
          obtain ⟨n140_, H⟩ := ite_no H
          rcases Bool.eq_false_or_eq_true (decide (((rd_T46 l1 x34_).f2 : Int) < 1)) with h141_ | h141_
          ·
            replace H := ite_y (dec_t h141_) H
            refine r_any [.b b2_ (.cells #[.int .i64 a0_0, .int .i64 a0_1, .int .i64 a0_2, .int .i64 a0_3, .int .i64 a0_4, .int .i64 a0_5, .int .i64 a0_6] 23 (0, 0)), .f (KC k46 A1 c1 l1)] (by kernel_rfl) rfl (by kernel_rfl) (mem_pick (idx := [0, 1]) rfl) ?_
            refine a_v 0 rfl (by kernel_rfl) (by kernel_rfl) (by kernel_rfl) rfl rfl rfl (v_move rfl rfl) ?_
            refine a_v 1 rfl (by kernel_rfl) (by kernel_rfl) (by kernel_rfl) rfl rfl rfl (v_move rfl rfl) ?_
            refine a_v 2 rfl (by kernel_rfl) (by kernel_rfl) (by kernel_rfl) rfl rfl rfl (v_iaK (i := 1) rfl Try.underlying42 SZ46 rfl rfl rfl rfl n140_ (dec_t h67_)) ?_
            refine a_v 3 rfl (by kernel_rfl) (by kernel_rfl) (by kernel_rfl) rfl rfl rfl (v_fax rfl Try.underlying46 rfl SZ3 rfl) ?_
            refine a_v 4 rfl (by kernel_rfl) (by kernel_rfl) (by kernel_rfl) rfl rfl rfl (v_ldKf (v := .int .i64 ((rd_T46 l1 x34_).f2)) z46 [.int .u64 ((rd_T46 l1 x34_).f0), .int .u64 ((rd_T46 l1 x34_).f1), .int .i64 ((rd_T46 l1 x34_).f2), .int .i64 ((rd_T46 l1 x34_).f3), .bool ((rd_T46 l1 x34_).f4)] 1 rfl Try.underlying3 rfl rfl rfl rfl n140_ (dec_t h67_) (fun w K h => k46_open h) rfl) ?_
            refine a_v 5 rfl (by kernel_rfl) (by kernel_rfl) (by kernel_rfl) rfl rfl rfl (OpV.cast (v := .bool true) (v_arith rfl rfl rfl rfl) (congrArg Value.bool h141_)) ?_
            refine a_v 6 rfl (by kernel_rfl) (by kernel_rfl) (by kernel_rfl) rfl rfl rfl (v_move rfl rfl) ?_
            refine a_no 7 rfl (by kernel_rfl) (by kernel_rfl) (by kernel_rfl) rfl rfl rfl ?_
            refine a_no 8 rfl (by kernel_rfl) (by kernel_rfl) (by kernel_rfl) rfl rfl rfl ?_
            refine a_no 9 rfl (by kernel_rfl) (by kernel_rfl) (by kernel_rfl) rfl rfl rfl ?_
            refine a_no 10 rfl (by kernel_rfl) (by kernel_rfl) (by kernel_rfl) rfl rfl rfl ?_
            refine a_no 11 rfl (by kernel_rfl) (by kernel_rfl) (by kernel_rfl) rfl rfl rfl ?_
            refine a_no 12 rfl (by kernel_rfl) (by kernel_rfl) (by kernel_rfl) rfl rfl rfl ?_
            refine a_no 13 rfl (by kernel_rfl) (by kernel_rfl) (by kernel_rfl) rfl rfl rfl ?_
            refine a_no 14 rfl (by kernel_rfl) (by kernel_rfl) (by kernel_rfl) rfl rfl rfl ?_
            refine a_v 15 rfl (by kernel_rfl) (by kernel_rfl) (by kernel_rfl) rfl rfl rfl (v_pick rfl rfl rfl rfl) ?_
            refine a_v 16 rfl (by kernel_rfl) (by kernel_rfl) (by kernel_rfl) rfl rfl rfl (v_move rfl rfl) ?_
            refine a_no 17 rfl (by kernel_rfl) (by kernel_rfl) (by kernel_rfl) rfl rfl rfl ?_
            refine a_no 18 rfl (by kernel_rfl) (by kernel_rfl) (by kernel_rfl) rfl rfl rfl ?_
            refine a_no 19 rfl (by kernel_rfl) (by kernel_rfl) (by kernel_rfl) rfl rfl rfl ?_
            refine a_no 20 rfl (by kernel_rfl) (by kernel_rfl) (by kernel_rfl) rfl rfl rfl ?_
            refine a_no 21 rfl (by kernel_rfl) (by kernel_rfl) (by kernel_rfl) rfl rfl rfl ?_
            refine a_no 22 rfl (by kernel_rfl) (by kernel_rfl) (by kernel_rfl) rfl rfl rfl ?_
            refine a_v 23 rfl (by kernel_rfl) (by kernel_rfl) (by kernel_rfl) rfl rfl rfl (v_pick rfl rfl rfl rfl) ?_
            refine a_v 24 rfl (by kernel_rfl) (by kernel_rfl) (by kernel_rfl) rfl rfl rfl (v_move rfl rfl) ?_
            refine a_no 25 rfl (by kernel_rfl) (by kernel_rfl) (by kernel_rfl) rfl rfl rfl ?_
            refine a_no 26 rfl (by kernel_rfl) (by kernel_rfl) (by kernel_rfl) rfl rfl rfl ?_
            refine a_no 27 rfl (by kernel_rfl) (by kernel_rfl) (by kernel_rfl) rfl rfl rfl ?_
            refine a_no 28 rfl (by kernel_rfl) (by kernel_rfl) (by kernel_rfl) rfl rfl rfl ?_
            refine a_no 29 rfl (by kernel_rfl) (by kernel_rfl) (by kernel_rfl) rfl rfl rfl ?_
            refine a_no 30 rfl (by kernel_rfl) (by kernel_rfl) (by kernel_rfl) rfl rfl rfl ?_
            refine a_no 31 rfl (by kernel_rfl) (by kernel_rfl) (by kernel_rfl) rfl rfl rfl ?_
            refine a_no 32 rfl (by kernel_rfl) (by kernel_rfl) (by kernel_rfl) rfl rfl rfl ?_
            refine a_no 33 rfl (by kernel_rfl) (by kernel_rfl) (by kernel_rfl) rfl rfl rfl ?_
            refine a_no 34 rfl (by kernel_rfl) (by kernel_rfl) (by kernel_rfl) rfl rfl rfl ?_
            refine a_no 35 rfl (by kernel_rfl) (by kernel_rfl) (by kernel_rfl) rfl rfl rfl ?_
            refine a_v 36 rfl (by kernel_rfl) (by kernel_rfl) (by kernel_rfl) rfl rfl rfl (v_pick rfl rfl rfl rfl) ?_
            refine a_v 37 rfl (by kernel_rfl) (by kernel_rfl) (by kernel_rfl) rfl rfl rfl (v_move rfl rfl) ?_
            refine a_no 38 rfl (by kernel_rfl) (by kernel_rfl) (by kernel_rfl) rfl rfl rfl ?_
            refine a_no 39 rfl (by kernel_rfl) (by kernel_rfl) (by kernel_rfl) rfl rfl rfl ?_
            refine a_no 40 rfl (by kernel_rfl) (by kernel_rfl) (by kernel_rfl) rfl rfl rfl ?_
            refine a_no 41 rfl (by kernel_rfl) (by kernel_rfl) (by kernel_rfl) rfl rfl rfl ?_
            refine a_no 42 rfl (by kernel_rfl) (by kernel_rfl) (by kernel_rfl) rfl rfl rfl ?_
            refine a_no 43 rfl (by kernel_rfl) (by kernel_rfl) (by kernel_rfl) rfl rfl rfl ?_
            refine a_no 44 rfl (by kernel_rfl) (by kernel_rfl) (by kernel_rfl) rfl rfl rfl ?_
            refine a_no 45 rfl (by kernel_rfl) (by kernel_rfl) (by kernel_rfl) rfl rfl rfl ?_
            refine a_no 46 rfl (by kernel_rfl) (by kernel_rfl) (by kernel_rfl) rfl rfl rfl ?_
            refine a_no 47 rfl (by kernel_rfl) (by kernel_rfl) (by kernel_rfl) rfl rfl rfl ?_
            refine a_no 48 rfl (by kernel_rfl) (by kernel_rfl) (by kernel_rfl) rfl rfl rfl ?_
            refine a_no 49 rfl (by kernel_rfl) (by kernel_rfl) (by kernel_rfl) rfl rfl rfl ?_
            refine a_no 50 rfl (by kernel_rfl) (by kernel_rfl) (by kernel_rfl) rfl rfl rfl ?_
            refine a_no 51 rfl (by kernel_rfl) (by kernel_rfl) (by kernel_rfl) rfl rfl rfl ?_
            refine a_v 52 rfl (by kernel_rfl) (by kernel_rfl) (by kernel_rfl) rfl rfl rfl (v_pick rfl rfl rfl rfl) ?_
            refine a_v 53 rfl (by kernel_rfl) (by kernel_rfl) (by kernel_rfl) rfl rfl rfl (v_move rfl rfl) ?_
            refine a_no 54 rfl (by kernel_rfl) (by kernel_rfl) (by kernel_rfl) rfl rfl rfl ?_
            refine a_no 55 rfl (by kernel_rfl) (by kernel_rfl) (by kernel_rfl) rfl rfl rfl ?_
            refine a_no 56 rfl (by kernel_rfl) (by kernel_rfl) (by kernel_rfl) rfl rfl rfl ?_
            refine a_no 57 rfl (by kernel_rfl) (by kernel_rfl) (by kernel_rfl) rfl rfl rfl ?_
            refine a_no 58 rfl (by kernel_rfl) (by kernel_rfl) (by kernel_rfl) rfl rfl rfl ?_
            refine a_no 59 rfl (by kernel_rfl) (by kernel_rfl) (by kernel_rfl) rfl rfl rfl ?_
            refine a_v 60 rfl (by kernel_rfl) (by kernel_rfl) (by kernel_rfl) rfl rfl rfl (v_pick rfl rfl rfl rfl) ?_
            refine a_end (by kernel_rfl) ?_
            have hq_0 := Option.some.inj H
            obtain ⟨ee_0, hq_1⟩ := Prod.mk.inj hq_0
            obtain ⟨ee_1, hq_2⟩ := Prod.mk.inj hq_1
            obtain ⟨ee_2, hq_3⟩ := Prod.mk.inj hq_2
            obtain ⟨ee_3, hq_4⟩ := Prod.mk.inj hq_3
            obtain ⟨ee_4, hq_5⟩ := Prod.mk.inj hq_4
            obtain ⟨ee_5, hq_6⟩ := Prod.mk.inj hq_5
            obtain ⟨ee_6, hq_7⟩ := Prod.mk.inj hq_6
            obtain ⟨ee_7, hq_8⟩ := Prod.mk.inj hq_7
            obtain ⟨ee_8, hq_9⟩ := Prod.mk.inj hq_8
            obtain ⟨ee_9, hq_10⟩ := Prod.mk.inj hq_9
            subst ee_0
            subst ee_1
            subst ee_2
            subst ee_3
            subst ee_4
            subst ee_5
            subst ee_6
            subst ee_7
            subst ee_8
            subst ee_9
            subst hq_10
            exact q_seq (c_frame (subF_spec (by exact ⟨rfl, rfl, rfl, rfl, rfl, rfl, rfl, rfl, rfl, rfl, rfl, rfl, rfl, rfl, rfl, rfl, rfl, rfl, rfl, rfl, rfl, rfl, rfl, rfl, trivial⟩)) (c_take [0, 1] rfl (by decide) (J_ () trivial)))
          ·
            replace H := ite_n (dec_f h141_) H
            rcases Bool.eq_false_or_eq_true (decide (((rd_T46 l1 x34_).f2 : Int) > a0_3)) with h142_ | h142_
            ·
              replace H := ite_y (dec_t h142_) H
              refine r_any [.b b2_ (.cells #[.int .i64 a0_0, .int .i64 a0_1, .int .i64 a0_2, .int .i64 a0_3, .int .i64 a0_4, .int .i64 a0_5, .int .i64 a0_6] 23 (0, 0)), .f (KC k46 A1 c1 l1)] (by kernel_rfl) rfl (by kernel_rfl) (mem_pick (idx := [0, 1]) rfl) ?_
              refine a_v 0 rfl (by kernel_rfl) (by kernel_rfl) (by kernel_rfl) rfl rfl rfl (v_move rfl rfl) ?_
              refine a_v 1 rfl (by kernel_rfl) (by kernel_rfl) (by kernel_rfl) rfl rfl rfl (v_move rfl rfl) ?_
              refine a_v 2 rfl (by kernel_rfl) (by kernel_rfl) (by kernel_rfl) rfl rfl rfl (v_iaK (i := 1) rfl Try.underlying42 SZ46 rfl rfl rfl rfl n140_ (dec_t h67_)) ?_
              refine a_v 3 rfl (by kernel_rfl) (by kernel_rfl) (by kernel_rfl) rfl rfl rfl (v_fax rfl Try.underlying46 rfl SZ3 rfl) ?_
              refine a_v 4 rfl (by kernel_rfl) (by kernel_rfl) (by kernel_rfl) rfl rfl rfl (v_ldKf (v := .int .i64 ((rd_T46 l1 x34_).f2)) z46 [.int .u64 ((rd_T46 l1 x34_).f0), .int .u64 ((rd_T46 l1 x34_).f1), .int .i64 ((rd_T46 l1 x34_).f2), .int .i64 ((rd_T46 l1 x34_).f3), .bool ((rd_T46 l1 x34_).f4)] 1 rfl Try.underlying3 rfl rfl rfl rfl n140_ (dec_t h67_) (fun w K h => k46_open h) rfl) ?_
              refine a_v 5 rfl (by kernel_rfl) (by kernel_rfl) (by kernel_rfl) rfl rfl rfl (OpV.cast (v := .bool false) (v_arith rfl rfl rfl rfl) (congrArg Value.bool h141_)) ?_
              refine a_v 6 rfl (by kernel_rfl) (by kernel_rfl) (by kernel_rfl) rfl rfl rfl (v_move rfl rfl) ?_
              refine a_v 7 rfl (by kernel_rfl) (by kernel_rfl) (by kernel_rfl) rfl rfl rfl (v_move rfl rfl) ?_
              refine a_v 8 rfl (by kernel_rfl) (by kernel_rfl) (by kernel_rfl) rfl rfl rfl (v_move rfl rfl) ?_
              refine a_v 9 rfl (by kernel_rfl) (by kernel_rfl) (by kernel_rfl) rfl rfl rfl (v_iaK (i := 1) rfl Try.underlying42 SZ46 rfl rfl rfl rfl n140_ (dec_t h67_)) ?_
              refine a_v 10 rfl (by kernel_rfl) (by kernel_rfl) (by kernel_rfl) rfl rfl rfl (v_fax rfl Try.underlying46 rfl SZ3 rfl) ?_
              refine a_v 11 rfl (by kernel_rfl) (by kernel_rfl) (by kernel_rfl) rfl rfl rfl (v_ldKf (v := .int .i64 ((rd_T46 l1 x34_).f2)) z46 [.int .u64 ((rd_T46 l1 x34_).f0), .int .u64 ((rd_T46 l1 x34_).f1), .int .i64 ((rd_T46 l1 x34_).f2), .int .i64 ((rd_T46 l1 x34_).f3), .bool ((rd_T46 l1 x34_).f4)] 1 rfl Try.underlying3 rfl rfl rfl rfl n140_ (dec_t h67_) (fun w K h => k46_open h) rfl) ?_
              refine a_v 12 rfl (by kernel_rfl) (by kernel_rfl) (by kernel_rfl) rfl rfl rfl (v_fa rfl Try.underlying23 rfl SZ3 rfl) ?_
              refine a_v 13 rfl (by kernel_rfl) (by kernel_rfl) (by kernel_rfl) rfl rfl rfl (v_ld 0 rfl Try.underlying3 rfl rfl rfl rfl) ?_
              refine a_v 14 rfl (by kernel_rfl) (by kernel_rfl) (by kernel_rfl) rfl rfl rfl (OpV.cast (v := .bool true) (v_arith rfl rfl rfl rfl) (congrArg Value.bool h142_)) ?_
              refine a_v 15 rfl (by kernel_rfl) (by kernel_rfl) (by kernel_rfl) rfl rfl rfl (v_pick rfl rfl rfl rfl) ?_
              refine a_v 16 rfl (by kernel_rfl) (by kernel_rfl) (by kernel_rfl) rfl rfl rfl (v_move rfl rfl) ?_
              refine a_no 17 rfl (by kernel_rfl) (by kernel_rfl) (by kernel_rfl) rfl rfl rfl ?_
              refine a_no 18 rfl (by kernel_rfl) (by kernel_rfl) (by kernel_rfl) rfl rfl rfl ?_
              refine a_no 19 rfl (by kernel_rfl) (by kernel_rfl) (by kernel_rfl) rfl rfl rfl ?_
              refine a_no 20 rfl (by kernel_rfl) (by kernel_rfl) (by kernel_rfl) rfl rfl rfl ?_
              refine a_no 21 rfl (by kernel_rfl) (by kernel_rfl) (by kernel_rfl) rfl rfl rfl ?_
              refine a_no 22 rfl (by kernel_rfl) (by kernel_rfl) (by kernel_rfl) rfl rfl rfl ?_
              refine a_v 23 rfl (by kernel_rfl) (by kernel_rfl) (by kernel_rfl) rfl rfl rfl (v_pick rfl rfl rfl rfl) ?_
              refine a_v 24 rfl (by kernel_rfl) (by kernel_rfl) (by kernel_rfl) rfl rfl rfl (v_move rfl rfl) ?_
              refine a_no 25 rfl (by kernel_rfl) (by kernel_rfl) (by kernel_rfl) rfl rfl rfl ?_
              refine a_no 26 rfl (by kernel_rfl) (by kernel_rfl) (by kernel_rfl) rfl rfl rfl ?_
              refine a_no 27 rfl (by kernel_rfl) (by kernel_rfl) (by kernel_rfl) rfl rfl rfl ?_
              refine a_no 28 rfl (by kernel_rfl) (by kernel_rfl) (by kernel_rfl) rfl rfl rfl ?_
              refine a_no 29 rfl (by kernel_rfl) (by kernel_rfl) (by kernel_rfl) rfl rfl rfl ?_
              refine a_no 30 rfl (by kernel_rfl) (by kernel_rfl) (by kernel_rfl) rfl rfl rfl ?_
              refine a_no 31 rfl (by kernel_rfl) (by kernel_rfl) (by kernel_rfl) rfl rfl rfl ?_
              refine a_no 32 rfl (by kernel_rfl) (by kernel_rfl) (by kernel_rfl) rfl rfl rfl ?_
              refine a_no 33 rfl (by kernel_rfl) (by kernel_rfl) (by kernel_rfl) rfl rfl rfl ?_
              refine a_no 34 rfl (by kernel_rfl) (by kernel_rfl) (by kernel_rfl) rfl rfl rfl ?_
              refine a_no 35 rfl (by kernel_rfl) (by kernel_rfl) (by kernel_rfl) rfl rfl rfl ?_
              refine a_v 36 rfl (by kernel_rfl) (by kernel_rfl) (by kernel_rfl) rfl rfl rfl (v_pick rfl rfl rfl rfl) ?_
              refine a_v 37 rfl (by kernel_rfl) (by kernel_rfl) (by kernel_rfl) rfl rfl rfl (v_move rfl rfl) ?_
              refine a_no 38 rfl (by kernel_rfl) (by kernel_rfl) (by kernel_rfl) rfl rfl rfl ?_
              refine a_no 39 rfl (by kernel_rfl) (by kernel_rfl) (by kernel_rfl) rfl rfl rfl ?_
              refine a_no 40 rfl (by kernel_rfl) (by kernel_rfl) (by kernel_rfl) rfl rfl rfl ?_
              refine a_no 41 rfl (by kernel_rfl) (by kernel_rfl) (by kernel_rfl) rfl rfl rfl ?_
              refine a_no 42 rfl (by kernel_rfl) (by kernel_rfl) (by kernel_rfl) rfl rfl rfl ?_
              refine a_no 43 rfl (by kernel_rfl) (by kernel_rfl) (by kernel_rfl) rfl rfl rfl ?_
              refine a_no 44 rfl (by kernel_rfl) (by kernel_rfl) (by kernel_rfl) rfl rfl rfl ?_
              refine a_no 45 rfl (by kernel_rfl) (by kernel_rfl) (by kernel_rfl) rfl rfl rfl ?_
              refine a_no 46 rfl (by kernel_rfl) (by kernel_rfl) (by kernel_rfl) rfl rfl rfl ?_
              refine a_no 47 rfl (by kernel_rfl) (by kernel_rfl) (by kernel_rfl) rfl rfl rfl ?_
              refine a_no 48 rfl (by kernel_rfl) (by kernel_rfl) (by kernel_rfl) rfl rfl rfl ?_
              refine a_no 49 rfl (by kernel_rfl) (by kernel_rfl) (by kernel_rfl) rfl rfl rfl ?_
              refine a_no 50 rfl (by kernel_rfl) (by kernel_rfl) (by kernel_rfl) rfl rfl rfl ?_
              refine a_no 51 rfl (by kernel_rfl) (by kernel_rfl) (by kernel_rfl) rfl rfl rfl ?_
              refine a_v 52 rfl (by kernel_rfl) (by kernel_rfl) (by kernel_rfl) rfl rfl rfl (v_pick rfl rfl rfl rfl) ?_
              refine a_v 53 rfl (by kernel_rfl) (by kernel_rfl) (by kernel_rfl) rfl rfl rfl (v_move rfl rfl) ?_
              refine a_no 54 rfl (by kernel_rfl) (by kernel_rfl) (by kernel_rfl) rfl rfl rfl ?_
              refine a_no 55 rfl (by kernel_rfl) (by kernel_rfl) (by kernel_rfl) rfl rfl rfl ?_
              refine a_no 56 rfl (by kernel_rfl) (by kernel_rfl) (by kernel_rfl) rfl rfl rfl ?_
              refine a_no 57 rfl (by kernel_rfl) (by kernel_rfl) (by kernel_rfl) rfl rfl rfl ?_
              refine a_no 58 rfl (by kernel_rfl) (by kernel_rfl) (by kernel_rfl) rfl rfl rfl ?_
              refine a_no 59 rfl (by kernel_rfl) (by kernel_rfl) (by kernel_rfl) rfl rfl rfl ?_
              refine a_v 60 rfl (by kernel_rfl) (by kernel_rfl) (by kernel_rfl) rfl rfl rfl (v_pick rfl rfl rfl rfl) ?_
              refine a_end (by kernel_rfl) ?_
              have hq_0 := Option.some.inj H
              obtain ⟨ee_0, hq_1⟩ := Prod.mk.inj hq_0
              obtain ⟨ee_1, hq_2⟩ := Prod.mk.inj hq_1
              obtain ⟨ee_2, hq_3⟩ := Prod.mk.inj hq_2
              obtain ⟨ee_3, hq_4⟩ := Prod.mk.inj hq_3
              obtain ⟨ee_4, hq_5⟩ := Prod.mk.inj hq_4
              obtain ⟨ee_5, hq_6⟩ := Prod.mk.inj hq_5
              obtain ⟨ee_6, hq_7⟩ := Prod.mk.inj hq_6
              obtain ⟨ee_7, hq_8⟩ := Prod.mk.inj hq_7
              obtain ⟨ee_8, hq_9⟩ := Prod.mk.inj hq_8
              obtain ⟨ee_9, hq_10⟩ := Prod.mk.inj hq_9
              subst ee_0
              subst ee_1
              subst ee_2
              subst ee_3
              subst ee_4
              subst ee_5
              subst ee_6
              subst ee_7
              subst ee_8
              subst ee_9
              subst hq_10
              exact q_seq (c_frame (subF_spec (by exact ⟨rfl, rfl, rfl, rfl, rfl, rfl, rfl, rfl, rfl, rfl, rfl, rfl, rfl, rfl, rfl, rfl, rfl, rfl, rfl, rfl, rfl, rfl, rfl, rfl, trivial⟩)) (c_take [0, 1] rfl (by decide) (J_ () trivial)))
            ·
              replace H := ite_n (dec_f h142_) H
              rcases Bool.eq_false_or_eq_true (decide (((rd_T46 l1 x34_).f3 : Int) < 0)) with h143_ | h143_
              ·
                replace H := ite_y (dec_t h143_) H
                refine r_any [.b b2_ (.cells #[.int .i64 a0_0, .int .i64 a0_1, .int .i64 a0_2, .int .i64 a0_3, .int .i64 a0_4, .int .i64 a0_5, .int .i64 a0_6] 23 (0, 0)), .f (KC k46 A1 c1 l1)] (by kernel_rfl) rfl (by kernel_rfl) (mem_pick (idx := [0, 1]) rfl) ?_
                refine a_v 0 rfl (by kernel_rfl) (by kernel_rfl) (by kernel_rfl) rfl rfl rfl (v_move rfl rfl) ?_
                refine a_v 1 rfl (by kernel_rfl) (by kernel_rfl) (by kernel_rfl) rfl rfl rfl (v_move rfl rfl) ?_
                refine a_v 2 rfl (by kernel_rfl) (by kernel_rfl) (by kernel_rfl) rfl rfl rfl (v_iaK (i := 1) rfl Try.underlying42 SZ46 rfl rfl rfl rfl n140_ (dec_t h67_)) ?_
                refine a_v 3 rfl (by kernel_rfl) (by kernel_rfl) (by kernel_rfl) rfl rfl rfl (v_fax rfl Try.underlying46 rfl SZ3 rfl) ?_
                refine a_v 4 rfl (by kernel_rfl) (by kernel_rfl) (by kernel_rfl) rfl rfl rfl (v_ldKf (v := .int .i64 ((rd_T46 l1 x34_).f2)) z46 [.int .u64 ((rd_T46 l1 x34_).f0), .int .u64 ((rd_T46 l1 x34_).f1), .int .i64 ((rd_T46 l1 x34_).f2), .int .i64 ((rd_T46 l1 x34_).f3), .bool ((rd_T46 l1 x34_).f4)] 1 rfl Try.underlying3 rfl rfl rfl rfl n140_ (dec_t h67_) (fun w K h => k46_open h) rfl) ?_
                refine a_v 5 rfl (by kernel_rfl) (by kernel_rfl) (by kernel_rfl) rfl rfl rfl (OpV.cast (v := .bool false) (v_arith rfl rfl rfl rfl) (congrArg Value.bool h141_)) ?_
                refine a_v 6 rfl (by kernel_rfl) (by kernel_rfl) (by kernel_rfl) rfl rfl rfl (v_move rfl rfl) ?_
                refine a_v 7 rfl (by kernel_rfl) (by kernel_rfl) (by kernel_rfl) rfl rfl rfl (v_move rfl rfl) ?_
                refine a_v 8 rfl (by kernel_rfl) (by kernel_rfl) (by kernel_rfl) rfl rfl rfl (v_move rfl rfl) ?_
                refine a_v 9 rfl (by kernel_rfl) (by kernel_rfl) (by kernel_rfl) rfl rfl rfl (v_iaK (i := 1) rfl Try.underlying42 SZ46 rfl rfl rfl rfl n140_ (dec_t h67_)) ?_
                refine a_v 10 rfl (by kernel_rfl) (by kernel_rfl) (by kernel_rfl) rfl rfl rfl (v_fax rfl Try.underlying46 rfl SZ3 rfl) ?_
                refine a_v 11 rfl (by kernel_rfl) (by kernel_rfl) (by kernel_rfl) rfl rfl rfl (v_ldKf (v := .int .i64 ((rd_T46 l1 x34_).f2)) z46 [.int .u64 ((rd_T46 l1 x34_).f0), .int .u64 ((rd_T46 l1 x34_).f1), .int .i64 ((rd_T46 l1 x34_).f2), .int .i64 ((rd_T46 l1 x34_).f3), .bool ((rd_T46 l1 x34_).f4)] 1 rfl Try.underlying3 rfl rfl rfl rfl n140_ (dec_t h67_) (fun w K h => k46_open h) rfl) ?_
                refine a_v 12 rfl (by kernel_rfl) (by kernel_rfl) (by kernel_rfl) rfl rfl rfl (v_fa rfl Try.underlying23 rfl SZ3 rfl) ?_
                refine a_v 13 rfl (by kernel_rfl) (by kernel_rfl) (by kernel_rfl) rfl rfl rfl (v_ld 0 rfl Try.underlying3 rfl rfl rfl rfl) ?_
                refine a_v 14 rfl (by kernel_rfl) (by kernel_rfl) (by kernel_rfl) rfl rfl rfl (OpV.cast (v := .bool false) (v_arith rfl rfl rfl rfl) (congrArg Value.bool h142_)) ?_
                refine a_v 15 rfl (by kernel_rfl) (by kernel_rfl) (by kernel_rfl) rfl rfl rfl (v_pick rfl rfl rfl rfl) ?_
                refine a_v 16 rfl (by kernel_rfl) (by kernel_rfl) (by kernel_rfl) rfl rfl rfl (v_move rfl rfl) ?_
                refine a_v 17 rfl (by kernel_rfl) (by kernel_rfl) (by kernel_rfl) rfl rfl rfl (v_move rfl rfl) ?_
                refine a_v 18 rfl (by kernel_rfl) (by kernel_rfl) (by kernel_rfl) rfl rfl rfl (v_move rfl rfl) ?_
                refine a_v 19 rfl (by kernel_rfl) (by kernel_rfl) (by kernel_rfl) rfl rfl rfl (v_iaK (i := 1) rfl Try.underlying42 SZ46 rfl rfl rfl rfl n140_ (dec_t h67_)) ?_
                refine a_v 20 rfl (by kernel_rfl) (by kernel_rfl) (by kernel_rfl) rfl rfl rfl (v_fax rfl Try.underlying46 rfl SZ3 rfl) ?_
                refine a_v 21 rfl (by kernel_rfl) (by kernel_rfl) (by kernel_rfl) rfl rfl rfl (v_ldKf (v := .int .i64 ((rd_T46 l1 x34_).f3)) z46 [.int .u64 ((rd_T46 l1 x34_).f0), .int .u64 ((rd_T46 l1 x34_).f1), .int .i64 ((rd_T46 l1 x34_).f2), .int .i64 ((rd_T46 l1 x34_).f3), .bool ((rd_T46 l1 x34_).f4)] 1 rfl Try.underlying3 rfl rfl rfl rfl n140_ (dec_t h67_) (fun w K h => k46_open h) rfl) ?_
                refine a_v 22 rfl (by kernel_rfl) (by kernel_rfl) (by kernel_rfl) rfl rfl rfl (OpV.cast (v := .bool true) (v_arith rfl rfl rfl rfl) (congrArg Value.bool h143_)) ?_
                refine a_v 23 rfl (by kernel_rfl) (by kernel_rfl) (by kernel_rfl) rfl rfl rfl (v_pick rfl rfl rfl rfl) ?_
                refine a_v 24 rfl (by kernel_rfl) (by kernel_rfl) (by kernel_rfl) rfl rfl rfl (v_move rfl rfl) ?_
                refine a_no 25 rfl (by kernel_rfl) (by kernel_rfl) (by kernel_rfl) rfl rfl rfl ?_
                refine a_no 26 rfl (by kernel_rfl) (by kernel_rfl) (by kernel_rfl) rfl rfl rfl ?_
                refine a_no 27 rfl (by kernel_rfl) (by kernel_rfl) (by kernel_rfl) rfl rfl rfl ?_
                refine a_no 28 rfl (by kernel_rfl) (by kernel_rfl) (by kernel_rfl) rfl rfl rfl ?_
                refine a_no 29 rfl (by kernel_rfl) (by kernel_rfl) (by kernel_rfl) rfl rfl rfl ?_
                refine a_no 30 rfl (by kernel_rfl) (by kernel_rfl) (by kernel_rfl) rfl rfl rfl ?_
                refine a_no 31 rfl (by kernel_rfl) (by kernel_rfl) (by kernel_rfl) rfl rfl rfl ?_
                refine a_no 32 rfl (by kernel_rfl) (by kernel_rfl) (by kernel_rfl) rfl rfl rfl ?_
                refine a_no 33 rfl (by kernel_rfl) (by kernel_rfl) (by kernel_rfl) rfl rfl rfl ?_
                refine a_no 34 rfl (by kernel_rfl) (by kernel_rfl) (by kernel_rfl) rfl rfl rfl ?_
                refine a_no 35 rfl (by kernel_rfl) (by kernel_rfl) (by kernel_rfl) rfl rfl rfl ?_
                refine a_v 36 rfl (by kernel_rfl) (by kernel_rfl) (by kernel_rfl) rfl rfl rfl (v_pick rfl rfl rfl rfl) ?_
                refine a_v 37 rfl (by kernel_rfl) (by kernel_rfl) (by kernel_rfl) rfl rfl rfl (v_move rfl rfl) ?_
                refine a_no 38 rfl (by kernel_rfl) (by kernel_rfl) (by kernel_rfl) rfl rfl rfl ?_
                refine a_no 39 rfl (by kernel_rfl) (by kernel_rfl) (by kernel_rfl) rfl rfl rfl ?_
                refine a_no 40 rfl (by kernel_rfl) (by kernel_rfl) (by kernel_rfl) rfl rfl rfl ?_
                refine a_no 41 rfl (by kernel_rfl) (by kernel_rfl) (by kernel_rfl) rfl rfl rfl ?_
                refine a_no 42 rfl (by kernel_rfl) (by kernel_rfl) (by kernel_rfl) rfl rfl rfl ?_
                refine a_no 43 rfl (by kernel_rfl) (by kernel_rfl) (by kernel_rfl) rfl rfl rfl ?_
                refine a_no 44 rfl (by kernel_rfl) (by kernel_rfl) (by kernel_rfl) rfl rfl rfl ?_
                refine a_no 45 rfl (by kernel_rfl) (by kernel_rfl) (by kernel_rfl) rfl rfl rfl ?_
                refine a_no 46 rfl (by kernel_rfl) (by kernel_rfl) (by kernel_rfl) rfl rfl rfl ?_
                refine a_no 47 rfl (by kernel_rfl) (by kernel_rfl) (by kernel_rfl) rfl rfl rfl ?_
                refine a_no 48 rfl (by kernel_rfl) (by kernel_rfl) (by kernel_rfl) rfl rfl rfl ?_
                refine a_no 49 rfl (by kernel_rfl) (by kernel_rfl) (by kernel_rfl) rfl rfl rfl ?_
                refine a_no 50 rfl (by kernel_rfl) (by kernel_rfl) (by kernel_rfl) rfl rfl rfl ?_
                refine a_no 51 rfl (by kernel_rfl) (by kernel_rfl) (by kernel_rfl) rfl rfl rfl ?_
                refine a_v 52 rfl (by kernel_rfl) (by kernel_rfl) (by kernel_rfl) rfl rfl rfl (v_pick rfl rfl rfl rfl) ?_
                refine a_v 53 rfl (by kernel_rfl) (by kernel_rfl) (by kernel_rfl) rfl rfl rfl (v_move rfl rfl) ?_
                refine a_no 54 rfl (by kernel_rfl) (by kernel_rfl) (by kernel_rfl) rfl rfl rfl ?_
                refine a_no 55 rfl (by kernel_rfl) (by kernel_rfl) (by kernel_rfl) rfl rfl rfl ?_
                refine a_no 56 rfl (by kernel_rfl) (by kernel_rfl) (by kernel_rfl) rfl rfl rfl ?_
                refine a_no 57 rfl (by kernel_rfl) (by kernel_rfl) (by kernel_rfl) rfl rfl rfl ?_
                refine a_no 58 rfl (by kernel_rfl) (by kernel_rfl) (by kernel_rfl) rfl rfl rfl ?_
                refine a_no 59 rfl (by kernel_rfl) (by kernel_rfl) (by kernel_rfl) rfl rfl rfl ?_
                refine a_v 60 rfl (by kernel_rfl) (by kernel_rfl) (by kernel_rfl) rfl rfl rfl (v_pick rfl rfl rfl rfl) ?_
                refine a_end (by kernel_rfl) ?_
                have hq_0 := Option.some.inj H
                obtain ⟨ee_0, hq_1⟩ := Prod.mk.inj hq_0
                obtain ⟨ee_1, hq_2⟩ := Prod.mk.inj hq_1
                obtain ⟨ee_2, hq_3⟩ := Prod.mk.inj hq_2
                obtain ⟨ee_3, hq_4⟩ := Prod.mk.inj hq_3
                obtain ⟨ee_4, hq_5⟩ := Prod.mk.inj hq_4
                obtain ⟨ee_5, hq_6⟩ := Prod.mk.inj hq_5
                obtain ⟨ee_6, hq_7⟩ := Prod.mk.inj hq_6
                obtain ⟨ee_7, hq_8⟩ := Prod.mk.inj hq_7
                obtain ⟨ee_8, hq_9⟩ := Prod.mk.inj hq_8
                obtain ⟨ee_9, hq_10⟩ := Prod.mk.inj hq_9
                subst ee_0
                subst ee_1
                subst ee_2
                subst ee_3
                subst ee_4
                subst ee_5
                subst ee_6
                subst ee_7
                subst ee_8
                subst ee_9
                subst hq_10
                exact q_seq (c_frame (subF_spec (by exact ⟨rfl, rfl, rfl, rfl, rfl, rfl, rfl, rfl, rfl, rfl, rfl, rfl, rfl, rfl, rfl, rfl, rfl, rfl, rfl, rfl, rfl, rfl, rfl, rfl, trivial⟩)) (c_take [0, 1] rfl (by decide) (J_ () trivial)))
              ·
                replace H := ite_n (dec_f h143_) H
                rcases Bool.eq_false_or_eq_true (decide (((rd_T46 l1 x34_).f3 : Int) > ((rd_T46 l1 x34_).f2))) with h144_ | h144_
                ·
                  replace H := ite_y (dec_t h144_) H
                  refine r_any [.b b2_ (.cells #[.int .i64 a0_0, .int .i64 a0_1, .int .i64 a0_2, .int .i64 a0_3, .int .i64 a0_4, .int .i64 a0_5, .int .i64 a0_6] 23 (0, 0)), .f (KC k46 A1 c1 l1)] (by kernel_rfl) rfl (by kernel_rfl) (mem_pick (idx := [0, 1]) rfl) ?_
                  refine a_v 0 rfl (by kernel_rfl) (by kernel_rfl) (by kernel_rfl) rfl rfl rfl (v_move rfl rfl) ?_
                  refine a_v 1 rfl (by kernel_rfl) (by kernel_rfl) (by kernel_rfl) rfl rfl rfl (v_move rfl rfl) ?_
                  refine a_v 2 rfl (by kernel_rfl) (by kernel_rfl) (by kernel_rfl) rfl rfl rfl (v_iaK (i := 1) rfl Try.underlying42 SZ46 rfl rfl rfl rfl n140_ (dec_t h67_)) ?_
                  refine a_v 3 rfl (by kernel_rfl) (by kernel_rfl) (by kernel_rfl) rfl rfl rfl (v_fax rfl Try.underlying46 rfl SZ3 rfl) ?_
                  refine a_v 4 rfl (by kernel_rfl) (by kernel_rfl) (by kernel_rfl) rfl rfl rfl (v_ldKf (v := .int .i64 ((rd_T46 l1 x34_).f2)) z46 [.int .u64 ((rd_T46 l1 x34_).f0), .int .u64 ((rd_T46 l1 x34_).f1), .int .i64 ((rd_T46 l1 x34_).f2), .int .i64 ((rd_T46 l1 x34_).f3), .bool ((rd_T46 l1 x34_).f4)] 1 rfl Try.underlying3 rfl rfl rfl rfl n140_ (dec_t h67_) (fun w K h => k46_open h) rfl) ?_
                  refine a_v 5 rfl (by kernel_rfl) (by kernel_rfl) (by kernel_rfl) rfl rfl rfl (OpV.cast (v := .bool false) (v_arith rfl rfl rfl rfl) (congrArg Value.bool h141_)) ?_
                  refine a_v 6 rfl (by kernel_rfl) (by kernel_rfl) (by kernel_rfl) rfl rfl rfl (v_move rfl rfl) ?_
                  refine a_v 7 rfl (by kernel_rfl) (by kernel_rfl) (by kernel_rfl) rfl rfl rfl (v_move rfl rfl) ?_
                  refine a_v 8 rfl (by kernel_rfl) (by kernel_rfl) (by kernel_rfl) rfl rfl rfl (v_move rfl rfl) ?_
                  refine a_v 9 rfl (by kernel_rfl) (by kernel_rfl) (by kernel_rfl) rfl rfl rfl (v_iaK (i := 1) rfl Try.underlying42 SZ46 rfl rfl rfl rfl n140_ (dec_t h67_)) ?_
                  refine a_v 10 rfl (by kernel_rfl) (by kernel_rfl) (by kernel_rfl) rfl rfl rfl (v_fax rfl Try.underlying46 rfl SZ3 rfl) ?_
                  refine a_v 11 rfl (by kernel_rfl) (by kernel_rfl) (by kernel_rfl) rfl rfl rfl (v_ldKf (v := .int .i64 ((rd_T46 l1 x34_).f2)) z46 [.int .u64 ((rd_T46 l1 x34_).f0), .int .u64 ((rd_T46 l1 x34_).f1), .int .i64 ((rd_T46 l1 x34_).f2), .int .i64 ((rd_T46 l1 x34_).f3), .bool ((rd_T46 l1 x34_).f4)] 1 rfl Try.underlying3 rfl rfl rfl rfl n140_ (dec_t h67_) (fun w K h => k46_open h) rfl) ?_
                  refine a_v 12 rfl (by kernel_rfl) (by kernel_rfl) (by kernel_rfl) rfl rfl rfl (v_fa rfl Try.underlying23 rfl SZ3 rfl) ?_
                  refine a_v 13 rfl (by kernel_rfl) (by kernel_rfl) (by kernel_rfl) rfl rfl rfl (v_ld 0 rfl Try.underlying3 rfl rfl rfl rfl) ?_
                  refine a_v 14 rfl (by kernel_rfl) (by kernel_rfl) (by kernel_rfl) rfl rfl rfl (OpV.cast (v := .bool false) (v_arith rfl rfl rfl rfl) (congrArg Value.bool h142_)) ?_
                  refine a_v 15 rfl (by kernel_rfl) (by kernel_rfl) (by kernel_rfl) rfl rfl rfl (v_pick rfl rfl rfl rfl) ?_
                  refine a_v 16 rfl (by kernel_rfl) (by kernel_rfl) (by kernel_rfl) rfl rfl rfl (v_move rfl rfl) ?_
                  refine a_v 17 rfl (by kernel_rfl) (by kernel_rfl) (by kernel_rfl) rfl rfl rfl (v_move rfl rfl) ?_
                  refine a_v 18 rfl (by kernel_rfl) (by kernel_rfl) (by kernel_rfl) rfl rfl rfl (v_move rfl rfl) ?_
                  refine a_v 19 rfl (by kernel_rfl) (by kernel_rfl) (by kernel_rfl) rfl rfl rfl (v_iaK (i := 1) rfl Try.underlying42 SZ46 rfl rfl rfl rfl n140_ (dec_t h67_)) ?_
                  refine a_v 20 rfl (by kernel_rfl) (by kernel_rfl) (by kernel_rfl) rfl rfl rfl (v_fax rfl Try.underlying46 rfl SZ3 rfl) ?_
                  refine a_v 21 rfl (by kernel_rfl) (by kernel_rfl) (by kernel_rfl) rfl rfl rfl (v_ldKf (v := .int .i64 ((rd_T46 l1 x34_).f3)) z46 [.int .u64 ((rd_T46 l1 x34_).f0), .int .u64 ((rd_T46 l1 x34_).f1), .int .i64 ((rd_T46 l1 x34_).f2), .int .i64 ((rd_T46 l1 x34_).f3), .bool ((rd_T46 l1 x34_).f4)] 1 rfl Try.underlying3 rfl rfl rfl rfl n140_ (dec_t h67_) (fun w K h => k46_open h) rfl) ?_
                  refine a_v 22 rfl (by kernel_rfl) (by kernel_rfl) (by kernel_rfl) rfl rfl rfl (OpV.cast (v := .bool false) (v_arith rfl rfl rfl rfl) (congrArg Value.bool h143_)) ?_
                  refine a_v 23 rfl (by kernel_rfl) (by kernel_rfl) (by kernel_rfl) rfl rfl rfl (v_pick rfl rfl rfl rfl) ?_
                  refine a_v 24 rfl (by kernel_rfl) (by kernel_rfl) (by kernel_rfl) rfl rfl rfl (v_move rfl rfl) ?_
                  refine a_v 25 rfl (by kernel_rfl) (by kernel_rfl) (by kernel_rfl) rfl rfl rfl (v_move rfl rfl) ?_
                  refine a_v 26 rfl (by kernel_rfl) (by kernel_rfl) (by kernel_rfl) rfl rfl rfl (v_move rfl rfl) ?_
                  refine a_v 27 rfl (by kernel_rfl) (by kernel_rfl) (by kernel_rfl) rfl rfl rfl (v_iaK (i := 1) rfl Try.underlying42 SZ46 rfl rfl rfl rfl n140_ (dec_t h67_)) ?_
                  refine a_v 28 rfl (by kernel_rfl) (by kernel_rfl) (by kernel_rfl) rfl rfl rfl (v_fax rfl Try.underlying46 rfl SZ3 rfl) ?_
                  refine a_v 29 rfl (by kernel_rfl) (by kernel_rfl) (by kernel_rfl) rfl rfl rfl (v_ldKf (v := .int .i64 ((rd_T46 l1 x34_).f3)) z46 [.int .u64 ((rd_T46 l1 x34_).f0), .int .u64 ((rd_T46 l1 x34_).f1), .int .i64 ((rd_T46 l1 x34_).f2), .int .i64 ((rd_T46 l1 x34_).f3), .bool ((rd_T46 l1 x34_).f4)] 1 rfl Try.underlying3 rfl rfl rfl rfl n140_ (dec_t h67_) (fun w K h => k46_open h) rfl) ?_
                  refine a_v 30 rfl (by kernel_rfl) (by kernel_rfl) (by kernel_rfl) rfl rfl rfl (v_move rfl rfl) ?_
                  refine a_v 31 rfl (by kernel_rfl) (by kernel_rfl) (by kernel_rfl) rfl rfl rfl (v_move rfl rfl) ?_
                  refine a_v 32 rfl (by kernel_rfl) (by kernel_rfl) (by kernel_rfl) rfl rfl rfl (v_iaK (i := 1) rfl Try.underlying42 SZ46 rfl rfl rfl rfl n140_ (dec_t h67_)) ?_
                  refine a_v 33 rfl (by kernel_rfl) (by kernel_rfl) (by kernel_rfl) rfl rfl rfl (v_fax rfl Try.underlying46 rfl SZ3 rfl) ?_
                  refine a_v 34 rfl (by kernel_rfl) (by kernel_rfl) (by kernel_rfl) rfl rfl rfl (v_ldKf (v := .int .i64 ((rd_T46 l1 x34_).f2)) z46 [.int .u64 ((rd_T46 l1 x34_).f0), .int .u64 ((rd_T46 l1 x34_).f1), .int .i64 ((rd_T46 l1 x34_).f2), .int .i64 ((rd_T46 l1 x34_).f3), .bool ((rd_T46 l1 x34_).f4)] 1 rfl Try.underlying3 rfl rfl rfl rfl n140_ (dec_t h67_) (fun w K h => k46_open h) rfl) ?_
                  refine a_v 35 rfl (by kernel_rfl) (by kernel_rfl) (by kernel_rfl) rfl rfl rfl (OpV.cast (v := .bool true) (v_arith rfl rfl rfl rfl) (congrArg Value.bool h144_)) ?_
                  refine a_v 36 rfl (by kernel_rfl) (by kernel_rfl) (by kernel_rfl) rfl rfl rfl (v_pick rfl rfl rfl rfl) ?_
                  refine a_v 37 rfl (by kernel_rfl) (by kernel_rfl) (by kernel_rfl) rfl rfl rfl (v_move rfl rfl) ?_
                  refine a_no 38 rfl (by kernel_rfl) (by kernel_rfl) (by kernel_rfl) rfl rfl rfl ?_
                  refine a_no 39 rfl (by kernel_rfl) (by kernel_rfl) (by kernel_rfl) rfl rfl rfl ?_
                  refine a_no 40 rfl (by kernel_rfl) (by kernel_rfl) (by kernel_rfl) rfl rfl rfl ?_
                  refine a_no 41 rfl (by kernel_rfl) (by kernel_rfl) (by kernel_rfl) rfl rfl rfl ?_
                  refine a_no 42 rfl (by kernel_rfl) (by kernel_rfl) (by kernel_rfl) rfl rfl rfl ?_
                  refine a_no 43 rfl (by kernel_rfl) (by kernel_rfl) (by kernel_rfl) rfl rfl rfl ?_
                  refine a_no 44 rfl (by kernel_rfl) (by kernel_rfl) (by kernel_rfl) rfl rfl rfl ?_
                  refine a_no 45 rfl (by kernel_rfl) (by kernel_rfl) (by kernel_rfl) rfl rfl rfl ?_
                  refine a_no 46 rfl (by kernel_rfl) (by kernel_rfl) (by kernel_rfl) rfl rfl rfl ?_
                  refine a_no 47 rfl (by kernel_rfl) (by kernel_rfl) (by kernel_rfl) rfl rfl rfl ?_
                  refine a_no 48 rfl (by kernel_rfl) (by kernel_rfl) (by kernel_rfl) rfl rfl rfl ?_
                  refine a_no 49 rfl (by kernel_rfl) (by kernel_rfl) (by kernel_rfl) rfl rfl rfl ?_
                  refine a_no 50 rfl (by kernel_rfl) (by kernel_rfl) (by kernel_rfl) rfl rfl rfl ?_
                  refine a_no 51 rfl (by kernel_rfl) (by kernel_rfl) (by kernel_rfl) rfl rfl rfl ?_
                  refine a_v 52 rfl (by kernel_rfl) (by kernel_rfl) (by kernel_rfl) rfl rfl rfl (v_pick rfl rfl rfl rfl) ?_
                  refine a_v 53 rfl (by kernel_rfl) (by kernel_rfl) (by kernel_rfl) rfl rfl rfl (v_move rfl rfl) ?_
                  refine a_no 54 rfl (by kernel_rfl) (by kernel_rfl) (by kernel_rfl) rfl rfl rfl ?_
                  refine a_no 55 rfl (by kernel_rfl) (by kernel_rfl) (by kernel_rfl) rfl rfl rfl ?_
                  refine a_no 56 rfl (by kernel_rfl) (by kernel_rfl) (by kernel_rfl) rfl rfl rfl ?_
                  refine a_no 57 rfl (by kernel_rfl) (by kernel_rfl) (by kernel_rfl) rfl rfl rfl ?_
                  refine a_no 58 rfl (by kernel_rfl) (by kernel_rfl) (by kernel_rfl) rfl rfl rfl ?_
                  refine a_no 59 rfl (by kernel_rfl) (by kernel_rfl) (by kernel_rfl) rfl rfl rfl ?_
                  refine a_v 60 rfl (by kernel_rfl) (by kernel_rfl) (by kernel_rfl) rfl rfl rfl (v_pick rfl rfl rfl rfl) ?_
                  refine a_end (by kernel_rfl) ?_
                  have hq_0 := Option.some.inj H
                  obtain ⟨ee_0, hq_1⟩ := Prod.mk.inj hq_0
                  obtain ⟨ee_1, hq_2⟩ := Prod.mk.inj hq_1
                  obtain ⟨ee_2, hq_3⟩ := Prod.mk.inj hq_2
                  obtain ⟨ee_3, hq_4⟩ := Prod.mk.inj hq_3
                  obtain ⟨ee_4, hq_5⟩ := Prod.mk.inj hq_4
                  obtain ⟨ee_5, hq_6⟩ := Prod.mk.inj hq_5
                  obtain ⟨ee_6, hq_7⟩ := Prod.mk.inj hq_6
                  obtain ⟨ee_7, hq_8⟩ := Prod.mk.inj hq_7
                  obtain ⟨ee_8, hq_9⟩ := Prod.mk.inj hq_8
                  obtain ⟨ee_9, hq_10⟩ := Prod.mk.inj hq_9
                  subst ee_0
                  subst ee_1
                  subst ee_2
                  subst ee_3
                  subst ee_4
                  subst ee_5
                  subst ee_6
                  subst ee_7
                  subst ee_8
                  subst ee_9
                  subst hq_10
                  exact q_seq (c_frame (subF_spec (by exact ⟨rfl, rfl, rfl, rfl, rfl, rfl, rfl, rfl, rfl, rfl, rfl, rfl, rfl, rfl, rfl, rfl, rfl, rfl, rfl, rfl, rfl, rfl, rfl, rfl, trivial⟩)) (c_take [0, 1] rfl (by decide) (J_ () trivial)))
                ·
                  replace H := ite_n (dec_f h144_) H
                  rcases Bool.eq_false_or_eq_true (decide (((rd_T46 l1 x34_).f3 : Int) > 0)) with h145_ | h145_
                  ·
                    replace H := ite_y (dec_t h145_) H
                    rcases Bool.eq_false_or_eq_true (!((rd_T46 l1 x34_).f4)) with h146_ | h146_
                    ·
                      replace H := ite_n (not_t (bnot_t h146_)) H
                      refine r_any [.b b2_ (.cells #[.int .i64 a0_0, .int .i64 a0_1, .int .i64 a0_2, .int .i64 a0_3, .int .i64 a0_4, .int .i64 a0_5, .int .i64 a0_6] 23 (0, 0)), .f (KC k46 A1 c1 l1)] (by kernel_rfl) rfl (by kernel_rfl) (mem_pick (idx := [0, 1]) rfl) ?_
                      refine a_v 0 rfl (by kernel_rfl) (by kernel_rfl) (by kernel_rfl) rfl rfl rfl (v_move rfl rfl) ?_
                      refine a_v 1 rfl (by kernel_rfl) (by kernel_rfl) (by kernel_rfl) rfl rfl rfl (v_move rfl rfl) ?_
                      refine a_v 2 rfl (by kernel_rfl) (by kernel_rfl) (by kernel_rfl) rfl rfl rfl (v_iaK (i := 1) rfl Try.underlying42 SZ46 rfl rfl rfl rfl n140_ (dec_t h67_)) ?_
                      refine a_v 3 rfl (by kernel_rfl) (by kernel_rfl) (by kernel_rfl) rfl rfl rfl (v_fax rfl Try.underlying46 rfl SZ3 rfl) ?_
                      refine a_v 4 rfl (by kernel_rfl) (by kernel_rfl) (by kernel_rfl) rfl rfl rfl (v_ldKf (v := .int .i64 ((rd_T46 l1 x34_).f2)) z46 [.int .u64 ((rd_T46 l1 x34_).f0), .int .u64 ((rd_T46 l1 x34_).f1), .int .i64 ((rd_T46 l1 x34_).f2), .int .i64 ((rd_T46 l1 x34_).f3), .bool ((rd_T46 l1 x34_).f4)] 1 rfl Try.underlying3 rfl rfl rfl rfl n140_ (dec_t h67_) (fun w K h => k46_open h) rfl) ?_
                      refine a_v 5 rfl (by kernel_rfl) (by kernel_rfl) (by kernel_rfl) rfl rfl rfl (OpV.cast (v := .bool false) (v_arith rfl rfl rfl rfl) (congrArg Value.bool h141_)) ?_
                      refine a_v 6 rfl (by kernel_rfl) (by kernel_rfl) (by kernel_rfl) rfl rfl rfl (v_move rfl rfl) ?_
                      refine a_v 7 rfl (by kernel_rfl) (by kernel_rfl) (by kernel_rfl) rfl rfl rfl (v_move rfl rfl) ?_
                      refine a_v 8 rfl (by kernel_rfl) (by kernel_rfl) (by kernel_rfl) rfl rfl rfl (v_move rfl rfl) ?_
                      refine a_v 9 rfl (by kernel_rfl) (by kernel_rfl) (by kernel_rfl) rfl rfl rfl (v_iaK (i := 1) rfl Try.underlying42 SZ46 rfl rfl rfl rfl n140_ (dec_t h67_)) ?_
                      refine a_v 10 rfl (by kernel_rfl) (by kernel_rfl) (by kernel_rfl) rfl rfl rfl (v_fax rfl Try.underlying46 rfl SZ3 rfl) ?_
                      refine a_v 11 rfl (by kernel_rfl) (by kernel_rfl) (by kernel_rfl) rfl rfl rfl (v_ldKf (v := .int .i64 ((rd_T46 l1 x34_).f2)) z46 [.int .u64 ((rd_T46 l1 x34_).f0), .int .u64 ((rd_T46 l1 x34_).f1), .int .i64 ((rd_T46 l1 x34_).f2), .int .i64 ((rd_T46 l1 x34_).f3), .bool ((rd_T46 l1 x34_).f4)] 1 rfl Try.underlying3 rfl rfl rfl rfl n140_ (dec_t h67_) (fun w K h => k46_open h) rfl) ?_
                      refine a_v 12 rfl (by kernel_rfl) (by kernel_rfl) (by kernel_rfl) rfl rfl rfl (v_fa rfl Try.underlying23 rfl SZ3 rfl) ?_
                      refine a_v 13 rfl (by kernel_rfl) (by kernel_rfl) (by kernel_rfl) rfl rfl rfl (v_ld 0 rfl Try.underlying3 rfl rfl rfl rfl) ?_
                      refine a_v 14 rfl (by kernel_rfl) (by kernel_rfl) (by kernel_rfl) rfl rfl rfl (OpV.cast (v := .bool false) (v_arith rfl rfl rfl rfl) (congrArg Value.bool h142_)) ?_
                      refine a_v 15 rfl (by kernel_rfl) (by kernel_rfl) (by kernel_rfl) rfl rfl rfl (v_pick rfl rfl rfl rfl) ?_
                      refine a_v 16 rfl (by kernel_rfl) (by kernel_rfl) (by kernel_rfl) rfl rfl rfl (v_move rfl rfl) ?_
                      refine a_v 17 rfl (by kernel_rfl) (by kernel_rfl) (by kernel_rfl) rfl rfl rfl (v_move rfl rfl) ?_
                      refine a_v 18 rfl (by kernel_rfl) (by kernel_rfl) (by kernel_rfl) rfl rfl rfl (v_move rfl rfl) ?_
                      refine a_v 19 rfl (by kernel_rfl) (by kernel_rfl) (by kernel_rfl) rfl rfl rfl (v_iaK (i := 1) rfl Try.underlying42 SZ46 rfl rfl rfl rfl n140_ (dec_t h67_)) ?_
                      refine a_v 20 rfl (by kernel_rfl) (by kernel_rfl) (by kernel_rfl) rfl rfl rfl (v_fax rfl Try.underlying46 rfl SZ3 rfl) ?_
                      refine a_v 21 rfl (by kernel_rfl) (by kernel_rfl) (by kernel_rfl) rfl rfl rfl (v_ldKf (v := .int .i64 ((rd_T46 l1 x34_).f3)) z46 [.int .u64 ((rd_T46 l1 x34_).f0), .int .u64 ((rd_T46 l1 x34_).f1), .int .i64 ((rd_T46 l1 x34_).f2), .int .i64 ((rd_T46 l1 x34_).f3), .bool ((rd_T46 l1 x34_).f4)] 1 rfl Try.underlying3 rfl rfl rfl rfl n140_ (dec_t h67_) (fun w K h => k46_open h) rfl) ?_
                      refine a_v 22 rfl (by kernel_rfl) (by kernel_rfl) (by kernel_rfl) rfl rfl rfl (OpV.cast (v := .bool false) (v_arith rfl rfl rfl rfl) (congrArg Value.bool h143_)) ?_
                      refine a_v 23 rfl (by kernel_rfl) (by kernel_rfl) (by kernel_rfl) rfl rfl rfl (v_pick rfl rfl rfl rfl) ?_
                      refine a_v 24 rfl (by kernel_rfl) (by kernel_rfl) (by kernel_rfl) rfl rfl rfl (v_move rfl rfl) ?_
                      refine a_v 25 rfl (by kernel_rfl) (by kernel_rfl) (by kernel_rfl) rfl rfl rfl (v_move rfl rfl) ?_
                      refine a_v 26 rfl (by kernel_rfl) (by kernel_rfl) (by kernel_rfl) rfl rfl rfl (v_move rfl rfl) ?_
                      refine a_v 27 rfl (by kernel_rfl) (by kernel_rfl) (by kernel_rfl) rfl rfl rfl (v_iaK (i := 1) rfl Try.underlying42 SZ46 rfl rfl rfl rfl n140_ (dec_t h67_)) ?_
                      refine a_v 28 rfl (by kernel_rfl) (by kernel_rfl) (by kernel_rfl) rfl rfl rfl (v_fax rfl Try.underlying46 rfl SZ3 rfl) ?_
                      refine a_v 29 rfl (by kernel_rfl) (by kernel_rfl) (by kernel_rfl) rfl rfl rfl (v_ldKf (v := .int .i64 ((rd_T46 l1 x34_).f3)) z46 [.int .u64 ((rd_T46 l1 x34_).f0), .int .u64 ((rd_T46 l1 x34_).f1), .int .i64 ((rd_T46 l1 x34_).f2), .int .i64 ((rd_T46 l1 x34_).f3), .bool ((rd_T46 l1 x34_).f4)] 1 rfl Try.underlying3 rfl rfl rfl rfl n140_ (dec_t h67_) (fun w K h => k46_open h) rfl) ?_
                      refine a_v 30 rfl (by kernel_rfl) (by kernel_rfl) (by kernel_rfl) rfl rfl rfl (v_move rfl rfl) ?_
                      refine a_v 31 rfl (by kernel_rfl) (by kernel_rfl) (by kernel_rfl) rfl rfl rfl (v_move rfl rfl) ?_
                      refine a_v 32 rfl (by kernel_rfl) (by kernel_rfl) (by kernel_rfl) rfl rfl rfl (v_iaK (i := 1) rfl Try.underlying42 SZ46 rfl rfl rfl rfl n140_ (dec_t h67_)) ?_
                      refine a_v 33 rfl (by kernel_rfl) (by kernel_rfl) (by kernel_rfl) rfl rfl rfl (v_fax rfl Try.underlying46 rfl SZ3 rfl) ?_
                      refine a_v 34 rfl (by kernel_rfl) (by kernel_rfl) (by kernel_rfl) rfl rfl rfl (v_ldKf (v := .int .i64 ((rd_T46 l1 x34_).f2)) z46 [.int .u64 ((rd_T46 l1 x34_).f0), .int .u64 ((rd_T46 l1 x34_).f1), .int .i64 ((rd_T46 l1 x34_).f2), .int .i64 ((rd_T46 l1 x34_).f3), .bool ((rd_T46 l1 x34_).f4)] 1 rfl Try.underlying3 rfl rfl rfl rfl n140_ (dec_t h67_) (fun w K h => k46_open h) rfl) ?_
                      refine a_v 35 rfl (by kernel_rfl) (by kernel_rfl) (by kernel_rfl) rfl rfl rfl (OpV.cast (v := .bool false) (v_arith rfl rfl rfl rfl) (congrArg Value.bool h144_)) ?_
                      refine a_v 36 rfl (by kernel_rfl) (by kernel_rfl) (by kernel_rfl) rfl rfl rfl (v_pick rfl rfl rfl rfl) ?_
                      refine a_v 37 rfl (by kernel_rfl) (by kernel_rfl) (by kernel_rfl) rfl rfl rfl (v_move rfl rfl) ?_
                      refine a_v 38 rfl (by kernel_rfl) (by kernel_rfl) (by kernel_rfl) rfl rfl rfl (v_move rfl rfl) ?_
                      refine a_v 39 rfl (by kernel_rfl) (by kernel_rfl) (by kernel_rfl) rfl rfl rfl (v_move rfl rfl) ?_
                      refine a_v 40 rfl (by kernel_rfl) (by kernel_rfl) (by kernel_rfl) rfl rfl rfl (v_iaK (i := 1) rfl Try.underlying42 SZ46 rfl rfl rfl rfl n140_ (dec_t h67_)) ?_
                      refine a_v 41 rfl (by kernel_rfl) (by kernel_rfl) (by kernel_rfl) rfl rfl rfl (v_fax rfl Try.underlying46 rfl SZ3 rfl) ?_
                      refine a_v 42 rfl (by kernel_rfl) (by kernel_rfl) (by kernel_rfl) rfl rfl rfl (v_ldKf (v := .int .i64 ((rd_T46 l1 x34_).f3)) z46 [.int .u64 ((rd_T46 l1 x34_).f0), .int .u64 ((rd_T46 l1 x34_).f1), .int .i64 ((rd_T46 l1 x34_).f2), .int .i64 ((rd_T46 l1 x34_).f3), .bool ((rd_T46 l1 x34_).f4)] 1 rfl Try.underlying3 rfl rfl rfl rfl n140_ (dec_t h67_) (fun w K h => k46_open h) rfl) ?_
                      refine a_v 43 rfl (by kernel_rfl) (by kernel_rfl) (by kernel_rfl) rfl rfl rfl (OpV.cast (v := .bool true) (v_arith rfl rfl rfl rfl) (congrArg Value.bool h145_)) ?_
                      refine a_v 44 rfl (by kernel_rfl) (by kernel_rfl) (by kernel_rfl) rfl rfl rfl (v_move rfl rfl) ?_
                      refine a_v 45 rfl (by kernel_rfl) (by kernel_rfl) (by kernel_rfl) rfl rfl rfl (v_move rfl rfl) ?_
                      refine a_v 46 rfl (by kernel_rfl) (by kernel_rfl) (by kernel_rfl) rfl rfl rfl (v_move rfl rfl) ?_
                      refine a_v 47 rfl (by kernel_rfl) (by kernel_rfl) (by kernel_rfl) rfl rfl rfl (v_iaK (i := 1) rfl Try.underlying42 SZ46 rfl rfl rfl rfl n140_ (dec_t h67_)) ?_
                      refine a_v 48 rfl (by kernel_rfl) (by kernel_rfl) (by kernel_rfl) rfl rfl rfl (v_fax rfl Try.underlying46 rfl SZ4 rfl) ?_
                      refine a_v 49 rfl (by kernel_rfl) (by kernel_rfl) (by kernel_rfl) rfl rfl rfl (v_ldKf (v := .bool ((rd_T46 l1 x34_).f4)) z46 [.int .u64 ((rd_T46 l1 x34_).f0), .int .u64 ((rd_T46 l1 x34_).f1), .int .i64 ((rd_T46 l1 x34_).f2), .int .i64 ((rd_T46 l1 x34_).f3), .bool ((rd_T46 l1 x34_).f4)] 1 rfl Try.underlying4 rfl rfl rfl rfl n140_ (dec_t h67_) (fun w K h => k46_open h) rfl) ?_
                      refine a_v 50 rfl (by kernel_rfl) (by kernel_rfl) (by kernel_rfl) rfl rfl rfl (OpV.cast (v := .bool true) (v_not rfl rfl) (congrArg Value.bool h146_)) ?_
                      refine a_v 51 rfl (by kernel_rfl) (by kernel_rfl) (by kernel_rfl) rfl rfl rfl (v_pick rfl rfl rfl rfl) ?_
                      refine a_v 52 rfl (by kernel_rfl) (by kernel_rfl) (by kernel_rfl) rfl rfl rfl (v_pick rfl rfl rfl rfl) ?_
                      refine a_v 53 rfl (by kernel_rfl) (by kernel_rfl) (by kernel_rfl) rfl rfl rfl (v_move rfl rfl) ?_
                      refine a_no 54 rfl (by kernel_rfl) (by kernel_rfl) (by kernel_rfl) rfl rfl rfl ?_
                      refine a_no 55 rfl (by kernel_rfl) (by kernel_rfl) (by kernel_rfl) rfl rfl rfl ?_
                      refine a_no 56 rfl (by kernel_rfl) (by kernel_rfl) (by kernel_rfl) rfl rfl rfl ?_
                      refine a_no 57 rfl (by kernel_rfl) (by kernel_rfl) (by kernel_rfl) rfl rfl rfl ?_
                      refine a_no 58 rfl (by kernel_rfl) (by kernel_rfl) (by kernel_rfl) rfl rfl rfl ?_
                      refine a_no 59 rfl (by kernel_rfl) (by kernel_rfl) (by kernel_rfl) rfl rfl rfl ?_
                      refine a_v 60 rfl (by kernel_rfl) (by kernel_rfl) (by kernel_rfl) rfl rfl rfl (v_pick rfl rfl rfl rfl) ?_
                      refine a_end (by kernel_rfl) ?_
                      have hq_0 := Option.some.inj H
                      obtain ⟨ee_0, hq_1⟩ := Prod.mk.inj hq_0
                      obtain ⟨ee_1, hq_2⟩ := Prod.mk.inj hq_1
                      obtain ⟨ee_2, hq_3⟩ := Prod.mk.inj hq_2
                      obtain ⟨ee_3, hq_4⟩ := Prod.mk.inj hq_3
                      obtain ⟨ee_4, hq_5⟩ := Prod.mk.inj hq_4
                      obtain ⟨ee_5, hq_6⟩ := Prod.mk.inj hq_5
                      obtain ⟨ee_6, hq_7⟩ := Prod.mk.inj hq_6
                      obtain ⟨ee_7, hq_8⟩ := Prod.mk.inj hq_7
                      obtain ⟨ee_8, hq_9⟩ := Prod.mk.inj hq_8
                      obtain ⟨ee_9, hq_10⟩ := Prod.mk.inj hq_9
                      subst ee_0
                      subst ee_1
                      subst ee_2
                      subst ee_3
                      subst ee_4
                      subst ee_5
                      subst ee_6
                      subst ee_7
                      subst ee_8
                      subst ee_9
                      subst hq_10
                      exact q_seq (c_frame (subF_spec (by exact ⟨rfl, rfl, rfl, rfl, rfl, rfl, rfl, rfl, rfl, rfl, rfl, rfl, rfl, rfl, rfl, rfl, rfl, rfl, rfl, rfl, rfl, rfl, rfl, rfl, trivial⟩)) (c_take [0, 1] rfl (by decide) (J_ () trivial)))
                    ·
                      replace H := ite_y (bnot_f h146_) H
                      refine r_any [.b b2_ (.cells #[.int .i64 a0_0, .int .i64 a0_1, .int .i64 a0_2, .int .i64 a0_3, .int .i64 a0_4, .int .i64 a0_5, .int .i64 a0_6] 23 (0, 0)), .f (KC k46 A1 c1 l1)] (by kernel_rfl) rfl (by kernel_rfl) (mem_pick (idx := [0, 1]) rfl) ?_
                      refine a_v 0 rfl (by kernel_rfl) (by kernel_rfl) (by kernel_rfl) rfl rfl rfl (v_move rfl rfl) ?_
                      refine a_v 1 rfl (by kernel_rfl) (by kernel_rfl) (by kernel_rfl) rfl rfl rfl (v_move rfl rfl) ?_
                      refine a_v 2 rfl (by kernel_rfl) (by kernel_rfl) (by kernel_rfl) rfl rfl rfl (v_iaK (i := 1) rfl Try.underlying42 SZ46 rfl rfl rfl rfl n140_ (dec_t h67_)) ?_
                      refine a_v 3 rfl (by kernel_rfl) (by kernel_rfl) (by kernel_rfl) rfl rfl rfl (v_fax rfl Try.underlying46 rfl SZ3 rfl) ?_
                      refine a_v 4 rfl (by kernel_rfl) (by kernel_rfl) (by kernel_rfl) rfl rfl rfl (v_ldKf (v := .int .i64 ((rd_T46 l1 x34_).f2)) z46 [.int .u64 ((rd_T46 l1 x34_).f0), .int .u64 ((rd_T46 l1 x34_).f1), .int .i64 ((rd_T46 l1 x34_).f2), .int .i64 ((rd_T46 l1 x34_).f3), .bool ((rd_T46 l1 x34_).f4)] 1 rfl Try.underlying3 rfl rfl rfl rfl n140_ (dec_t h67_) (fun w K h => k46_open h) rfl) ?_
                      refine a_v 5 rfl (by kernel_rfl) (by kernel_rfl) (by kernel_rfl) rfl rfl rfl (OpV.cast (v := .bool false) (v_arith rfl rfl rfl rfl) (congrArg Value.bool h141_)) ?_
                      refine a_v 6 rfl (by kernel_rfl) (by kernel_rfl) (by kernel_rfl) rfl rfl rfl (v_move rfl rfl) ?_
                      refine a_v 7 rfl (by kernel_rfl) (by kernel_rfl) (by kernel_rfl) rfl rfl rfl (v_move rfl rfl) ?_
                      refine a_v 8 rfl (by kernel_rfl) (by kernel_rfl) (by kernel_rfl) rfl rfl rfl (v_move rfl rfl) ?_
                      refine a_v 9 rfl (by kernel_rfl) (by kernel_rfl) (by kernel_rfl) rfl rfl rfl (v_iaK (i := 1) rfl Try.underlying42 SZ46 rfl rfl rfl rfl n140_ (dec_t h67_)) ?_
                      refine a_v 10 rfl (by kernel_rfl) (by kernel_rfl) (by kernel_rfl) rfl rfl rfl (v_fax rfl Try.underlying46 rfl SZ3 rfl) ?_
                      refine a_v 11 rfl (by kernel_rfl) (by kernel_rfl) (by kernel_rfl) rfl rfl rfl (v_ldKf (v := .int .i64 ((rd_T46 l1 x34_).f2)) z46 [.int .u64 ((rd_T46 l1 x34_).f0), .int .u64 ((rd_T46 l1 x34_).f1), .int .i64 ((rd_T46 l1 x34_).f2), .int .i64 ((rd_T46 l1 x34_).f3), .bool ((rd_T46 l1 x34_).f4)] 1 rfl Try.underlying3 rfl rfl rfl rfl n140_ (dec_t h67_) (fun w K h => k46_open h) rfl) ?_
                      refine a_v 12 rfl (by kernel_rfl) (by kernel_rfl) (by kernel_rfl) rfl rfl rfl (v_fa rfl Try.underlying23 rfl SZ3 rfl) ?_
                      refine a_v 13 rfl (by kernel_rfl) (by kernel_rfl) (by kernel_rfl) rfl rfl rfl (v_ld 0 rfl Try.underlying3 rfl rfl rfl rfl) ?_
                      refine a_v 14 rfl (by kernel_rfl) (by kernel_rfl) (by kernel_rfl) rfl rfl rfl (OpV.cast (v := .bool false) (v_arith rfl rfl rfl rfl) (congrArg Value.bool h142_)) ?_
                      refine a_v 15 rfl (by kernel_rfl) (by kernel_rfl) (by kernel_rfl) rfl rfl rfl (v_pick rfl rfl rfl rfl) ?_
                      refine a_v 16 rfl (by kernel_rfl) (by kernel_rfl) (by kernel_rfl) rfl rfl rfl (v_move rfl rfl) ?_
                      refine a_v 17 rfl (by kernel_rfl) (by kernel_rfl) (by kernel_rfl) rfl rfl rfl (v_move rfl rfl) ?_
                      refine a_v 18 rfl (by kernel_rfl) (by kernel_rfl) (by kernel_rfl) rfl rfl rfl (v_move rfl rfl) ?_
                      refine a_v 19 rfl (by kernel_rfl) (by kernel_rfl) (by kernel_rfl) rfl rfl rfl (v_iaK (i := 1) rfl Try.underlying42 SZ46 rfl rfl rfl rfl n140_ (dec_t h67_)) ?_
                      refine a_v 20 rfl (by kernel_rfl) (by kernel_rfl) (by kernel_rfl) rfl rfl rfl (v_fax rfl Try.underlying46 rfl SZ3 rfl) ?_
                      refine a_v 21 rfl (by kernel_rfl) (by kernel_rfl) (by kernel_rfl) rfl rfl rfl (v_ldKf (v := .int .i64 ((rd_T46 l1 x34_).f3)) z46 [.int .u64 ((rd_T46 l1 x34_).f0), .int .u64 ((rd_T46 l1 x34_).f1), .int .i64 ((rd_T46 l1 x34_).f2), .int .i64 ((rd_T46 l1 x34_).f3), .bool ((rd_T46 l1 x34_).f4)] 1 rfl Try.underlying3 rfl rfl rfl rfl n140_ (dec_t h67_) (fun w K h => k46_open h) rfl) ?_
                      refine a_v 22 rfl (by kernel_rfl) (by kernel_rfl) (by kernel_rfl) rfl rfl rfl (OpV.cast (v := .bool false) (v_arith rfl rfl rfl rfl) (congrArg Value.bool h143_)) ?_
                      refine a_v 23 rfl (by kernel_rfl) (by kernel_rfl) (by kernel_rfl) rfl rfl rfl (v_pick rfl rfl rfl rfl) ?_
                      refine a_v 24 rfl (by kernel_rfl) (by kernel_rfl) (by kernel_rfl) rfl rfl rfl (v_move rfl rfl) ?_
                      refine a_v 25 rfl (by kernel_rfl) (by kernel_rfl) (by kernel_rfl) rfl rfl rfl (v_move rfl rfl) ?_
                      refine a_v 26 rfl (by kernel_rfl) (by kernel_rfl) (by kernel_rfl) rfl rfl rfl (v_move rfl rfl) ?_
                      refine a_v 27 rfl (by kernel_rfl) (by kernel_rfl) (by kernel_rfl) rfl rfl rfl (v_iaK (i := 1) rfl Try.underlying42 SZ46 rfl rfl rfl rfl n140_ (dec_t h67_)) ?_
                      refine a_v 28 rfl (by kernel_rfl) (by kernel_rfl) (by kernel_rfl) rfl rfl rfl (v_fax rfl Try.underlying46 rfl SZ3 rfl) ?_
                      refine a_v 29 rfl (by kernel_rfl) (by kernel_rfl) (by kernel_rfl) rfl rfl rfl (v_ldKf (v := .int .i64 ((rd_T46 l1 x34_).f3)) z46 [.int .u64 ((rd_T46 l1 x34_).f0), .int .u64 ((rd_T46 l1 x34_).f1), .int .i64 ((rd_T46 l1 x34_).f2), .int .i64 ((rd_T46 l1 x34_).f3), .bool ((rd_T46 l1 x34_).f4)] 1 rfl Try.underlying3 rfl rfl rfl rfl n140_ (dec_t h67_) (fun w K h => k46_open h) rfl) ?_
                      refine a_v 30 rfl (by kernel_rfl) (by kernel_rfl) (by kernel_rfl) rfl rfl rfl (v_move rfl rfl) ?_
                      refine a_v 31 rfl (by kernel_rfl) (by kernel_rfl) (by kernel_rfl) rfl rfl rfl (v_move rfl rfl) ?_
                      refine a_v 32 rfl (by kernel_rfl) (by kernel_rfl) (by kernel_rfl) rfl rfl rfl (v_iaK (i := 1) rfl Try.underlying42 SZ46 rfl rfl rfl rfl n140_ (dec_t h67_)) ?_
                      refine a_v 33 rfl (by kernel_rfl) (by kernel_rfl) (by kernel_rfl) rfl rfl rfl (v_fax rfl Try.underlying46 rfl SZ3 rfl) ?_
                      refine a_v 34 rfl (by kernel_rfl) (by kernel_rfl) (by kernel_rfl) rfl rfl rfl (v_ldKf (v := .int .i64 ((rd_T46 l1 x34_).f2)) z46 [.int .u64 ((rd_T46 l1 x34_).f0), .int .u64 ((rd_T46 l1 x34_).f1), .int .i64 ((rd_T46 l1 x34_).f2), .int .i64 ((rd_T46 l1 x34_).f3), .bool ((rd_T46 l1 x34_).f4)] 1 rfl Try.underlying3 rfl rfl rfl rfl n140_ (dec_t h67_) (fun w K h => k46_open h) rfl) ?_
                      refine a_v 35 rfl (by kernel_rfl) (by kernel_rfl) (by kernel_rfl) rfl rfl rfl (OpV.cast (v := .bool false) (v_arith rfl rfl rfl rfl) (congrArg Value.bool h144_)) ?_
                      refine a_v 36 rfl (by kernel_rfl) (by kernel_rfl) (by kernel_rfl) rfl rfl rfl (v_pick rfl rfl rfl rfl) ?_
                      refine a_v 37 rfl (by kernel_rfl) (by kernel_rfl) (by kernel_rfl) rfl rfl rfl (v_move rfl rfl) ?_
                      refine a_v 38 rfl (by kernel_rfl) (by kernel_rfl) (by kernel_rfl) rfl rfl rfl (v_move rfl rfl) ?_
                      refine a_v 39 rfl (by kernel_rfl) (by kernel_rfl) (by kernel_rfl) rfl rfl rfl (v_move rfl rfl) ?_
                      refine a_v 40 rfl (by kernel_rfl) (by kernel_rfl) (by kernel_rfl) rfl rfl rfl (v_iaK (i := 1) rfl Try.underlying42 SZ46 rfl rfl rfl rfl n140_ (dec_t h67_)) ?_
                      refine a_v 41 rfl (by kernel_rfl) (by kernel_rfl) (by kernel_rfl) rfl rfl rfl (v_fax rfl Try.underlying46 rfl SZ3 rfl) ?_
                      refine a_v 42 rfl (by kernel_rfl) (by kernel_rfl) (by kernel_rfl) rfl rfl rfl (v_ldKf (v := .int .i64 ((rd_T46 l1 x34_).f3)) z46 [.int .u64 ((rd_T46 l1 x34_).f0), .int .u64 ((rd_T46 l1 x34_).f1), .int .i64 ((rd_T46 l1 x34_).f2), .int .i64 ((rd_T46 l1 x34_).f3), .bool ((rd_T46 l1 x34_).f4)] 1 rfl Try.underlying3 rfl rfl rfl rfl n140_ (dec_t h67_) (fun w K h => k46_open h) rfl) ?_
                      refine a_v 43 rfl (by kernel_rfl) (by kernel_rfl) (by kernel_rfl) rfl rfl rfl (OpV.cast (v := .bool true) (v_arith rfl rfl rfl rfl) (congrArg Value.bool h145_)) ?_
                      refine a_v 44 rfl (by kernel_rfl) (by kernel_rfl) (by kernel_rfl) rfl rfl rfl (v_move rfl rfl) ?_
                      refine a_v 45 rfl (by kernel_rfl) (by kernel_rfl) (by kernel_rfl) rfl rfl rfl (v_move rfl rfl) ?_
                      refine a_v 46 rfl (by kernel_rfl) (by kernel_rfl) (by kernel_rfl) rfl rfl rfl (v_move rfl rfl) ?_
                      refine a_v 47 rfl (by kernel_rfl) (by kernel_rfl) (by kernel_rfl) rfl rfl rfl (v_iaK (i := 1) rfl Try.underlying42 SZ46 rfl rfl rfl rfl n140_ (dec_t h67_)) ?_
                      refine a_v 48 rfl (by kernel_rfl) (by kernel_rfl) (by kernel_rfl) rfl rfl rfl (v_fax rfl Try.underlying46 rfl SZ4 rfl) ?_
                      refine a_v 49 rfl (by kernel_rfl) (by kernel_rfl) (by kernel_rfl) rfl rfl rfl (v_ldKf (v := .bool ((rd_T46 l1 x34_).f4)) z46 [.int .u64 ((rd_T46 l1 x34_).f0), .int .u64 ((rd_T46 l1 x34_).f1), .int .i64 ((rd_T46 l1 x34_).f2), .int .i64 ((rd_T46 l1 x34_).f3), .bool ((rd_T46 l1 x34_).f4)] 1 rfl Try.underlying4 rfl rfl rfl rfl n140_ (dec_t h67_) (fun w K h => k46_open h) rfl) ?_
                      refine a_v 50 rfl (by kernel_rfl) (by kernel_rfl) (by kernel_rfl) rfl rfl rfl (OpV.cast (v := .bool false) (v_not rfl rfl) (congrArg Value.bool h146_)) ?_
                      refine a_v 51 rfl (by kernel_rfl) (by kernel_rfl) (by kernel_rfl) rfl rfl rfl (v_pick rfl rfl rfl rfl) ?_
                      refine a_v 52 rfl (by kernel_rfl) (by kernel_rfl) (by kernel_rfl) rfl rfl rfl (v_pick rfl rfl rfl rfl) ?_
                      refine a_v 53 rfl (by kernel_rfl) (by kernel_rfl) (by kernel_rfl) rfl rfl rfl (v_move rfl rfl) ?_
                      refine a_v 54 rfl (by kernel_rfl) (by kernel_rfl) (by kernel_rfl) rfl rfl rfl (v_move rfl rfl) ?_
                      refine a_v 55 rfl (by kernel_rfl) (by kernel_rfl) (by kernel_rfl) rfl rfl rfl (v_move rfl rfl) ?_
                      refine a_v 56 rfl (by kernel_rfl) (by kernel_rfl) (by kernel_rfl) rfl rfl rfl (v_iaK (i := 1) rfl Try.underlying42 SZ46 rfl rfl rfl rfl n140_ (dec_t h67_)) ?_
                      refine a_v 57 rfl (by kernel_rfl) (by kernel_rfl) (by kernel_rfl) rfl rfl rfl (v_fax rfl Try.underlying46 rfl SZ25 rfl) ?_
                      refine a_v 58 rfl (by kernel_rfl) (by kernel_rfl) (by kernel_rfl) rfl rfl rfl (v_ldKf (v := .int .u64 ((rd_T46 l1 x34_).f1)) z46 [.int .u64 ((rd_T46 l1 x34_).f0), .int .u64 ((rd_T46 l1 x34_).f1), .int .i64 ((rd_T46 l1 x34_).f2), .int .i64 ((rd_T46 l1 x34_).f3), .bool ((rd_T46 l1 x34_).f4)] 1 rfl Try.underlying25 rfl rfl rfl rfl n140_ (dec_t h67_) (fun w K h => k46_open h) rfl) ?_
                      refine a_v 59 rfl (by kernel_rfl) (by kernel_rfl) (by kernel_rfl) rfl rfl rfl (v_arith rfl rfl rfl rfl) ?_
                      refine a_v 60 rfl (by kernel_rfl) (by kernel_rfl) (by kernel_rfl) rfl rfl rfl (v_pick rfl rfl rfl rfl) ?_
                      refine a_end (by kernel_rfl) ?_
                      have hq_0 := Option.some.inj H
                      obtain ⟨ee_0, hq_1⟩ := Prod.mk.inj hq_0
                      obtain ⟨ee_1, hq_2⟩ := Prod.mk.inj hq_1
                      obtain ⟨ee_2, hq_3⟩ := Prod.mk.inj hq_2
                      obtain ⟨ee_3, hq_4⟩ := Prod.mk.inj hq_3
                      obtain ⟨ee_4, hq_5⟩ := Prod.mk.inj hq_4
                      obtain ⟨ee_5, hq_6⟩ := Prod.mk.inj hq_5
                      obtain ⟨ee_6, hq_7⟩ := Prod.mk.inj hq_6
                      obtain ⟨ee_7, hq_8⟩ := Prod.mk.inj hq_7
                      obtain ⟨ee_8, hq_9⟩ := Prod.mk.inj hq_8
                      obtain ⟨ee_9, hq_10⟩ := Prod.mk.inj hq_9
                      subst ee_0
                      subst ee_1
                      subst ee_2
                      subst ee_3
                      subst ee_4
                      subst ee_5
                      subst ee_6
                      subst ee_7
                      subst ee_8
                      subst ee_9
                      subst hq_10
                      exact q_seq (c_frame (subF_spec (by exact ⟨rfl, rfl, rfl, rfl, rfl, rfl, rfl, rfl, rfl, rfl, rfl, rfl, rfl, rfl, rfl, rfl, rfl, rfl, rfl, rfl, rfl, rfl, rfl, rfl, trivial⟩)) (c_take [0, 1] rfl (by decide) (J_ () trivial)))
                  ·
                    replace H := ite_n (dec_f h145_) H
                    refine r_any [.b b2_ (.cells #[.int .i64 a0_0, .int .i64 a0_1, .int .i64 a0_2, .int .i64 a0_3, .int .i64 a0_4, .int .i64 a0_5, .int .i64 a0_6] 23 (0, 0)), .f (KC k46 A1 c1 l1)] (by kernel_rfl) rfl (by kernel_rfl) (mem_pick (idx := [0, 1]) rfl) ?_
                    refine a_v 0 rfl (by kernel_rfl) (by kernel_rfl) (by kernel_rfl) rfl rfl rfl (v_move rfl rfl) ?_
                    refine a_v 1 rfl (by kernel_rfl) (by kernel_rfl) (by kernel_rfl) rfl rfl rfl (v_move rfl rfl) ?_
                    refine a_v 2 rfl (by kernel_rfl) (by kernel_rfl) (by kernel_rfl) rfl rfl rfl (v_iaK (i := 1) rfl Try.underlying42 SZ46 rfl rfl rfl rfl n140_ (dec_t h67_)) ?_
                    refine a_v 3 rfl (by kernel_rfl) (by kernel_rfl) (by kernel_rfl) rfl rfl rfl (v_fax rfl Try.underlying46 rfl SZ3 rfl) ?_
                    refine a_v 4 rfl (by kernel_rfl) (by kernel_rfl) (by kernel_rfl) rfl rfl rfl (v_ldKf (v := .int .i64 ((rd_T46 l1 x34_).f2)) z46 [.int .u64 ((rd_T46 l1 x34_).f0), .int .u64 ((rd_T46 l1 x34_).f1), .int .i64 ((rd_T46 l1 x34_).f2), .int .i64 ((rd_T46 l1 x34_).f3), .bool ((rd_T46 l1 x34_).f4)] 1 rfl Try.underlying3 rfl rfl rfl rfl n140_ (dec_t h67_) (fun w K h => k46_open h) rfl) ?_
                    refine a_v 5 rfl (by kernel_rfl) (by kernel_rfl) (by kernel_rfl) rfl rfl rfl (OpV.cast (v := .bool false) (v_arith rfl rfl rfl rfl) (congrArg Value.bool h141_)) ?_
                    refine a_v 6 rfl (by kernel_rfl) (by kernel_rfl) (by kernel_rfl) rfl rfl rfl (v_move rfl rfl) ?_
                    refine a_v 7 rfl (by kernel_rfl) (by kernel_rfl) (by kernel_rfl) rfl rfl rfl (v_move rfl rfl) ?_
                    refine a_v 8 rfl (by kernel_rfl) (by kernel_rfl) (by kernel_rfl) rfl rfl rfl (v_move rfl rfl) ?_
                    refine a_v 9 rfl (by kernel_rfl) (by kernel_rfl) (by kernel_rfl) rfl rfl rfl (v_iaK (i := 1) rfl Try.underlying42 SZ46 rfl rfl rfl rfl n140_ (dec_t h67_)) ?_
                    refine a_v 10 rfl (by kernel_rfl) (by kernel_rfl) (by kernel_rfl) rfl rfl rfl (v_fax rfl Try.underlying46 rfl SZ3 rfl) ?_
                    refine a_v 11 rfl (by kernel_rfl) (by kernel_rfl) (by kernel_rfl) rfl rfl rfl (v_ldKf (v := .int .i64 ((rd_T46 l1 x34_).f2)) z46 [.int .u64 ((rd_T46 l1 x34_).f0), .int .u64 ((rd_T46 l1 x34_).f1), .int .i64 ((rd_T46 l1 x34_).f2), .int .i64 ((rd_T46 l1 x34_).f3), .bool ((rd_T46 l1 x34_).f4)] 1 rfl Try.underlying3 rfl rfl rfl rfl n140_ (dec_t h67_) (fun w K h => k46_open h) rfl) ?_
                    refine a_v 12 rfl (by kernel_rfl) (by kernel_rfl) (by kernel_rfl) rfl rfl rfl (v_fa rfl Try.underlying23 rfl SZ3 rfl) ?_
                    refine a_v 13 rfl (by kernel_rfl) (by kernel_rfl) (by kernel_rfl) rfl rfl rfl (v_ld 0 rfl Try.underlying3 rfl rfl rfl rfl) ?_
                    refine a_v 14 rfl (by kernel_rfl) (by kernel_rfl) (by kernel_rfl) rfl rfl rfl (OpV.cast (v := .bool false) (v_arith rfl rfl rfl rfl) (congrArg Value.bool h142_)) ?_
                    refine a_v 15 rfl (by kernel_rfl) (by kernel_rfl) (by kernel_rfl) rfl rfl rfl (v_pick rfl rfl rfl rfl) ?_
                    refine a_v 16 rfl (by kernel_rfl) (by kernel_rfl) (by kernel_rfl) rfl rfl rfl (v_move rfl rfl) ?_
                    refine a_v 17 rfl (by kernel_rfl) (by kernel_rfl) (by kernel_rfl) rfl rfl rfl (v_move rfl rfl) ?_
                    refine a_v 18 rfl (by kernel_rfl) (by kernel_rfl) (by kernel_rfl) rfl rfl rfl (v_move rfl rfl) ?_
                    refine a_v 19 rfl (by kernel_rfl) (by kernel_rfl) (by kernel_rfl) rfl rfl rfl (v_iaK (i := 1) rfl Try.underlying42 SZ46 rfl rfl rfl rfl n140_ (dec_t h67_)) ?_
                    refine a_v 20 rfl (by kernel_rfl) (by kernel_rfl) (by kernel_rfl) rfl rfl rfl (v_fax rfl Try.underlying46 rfl SZ3 rfl) ?_
                    refine a_v 21 rfl (by kernel_rfl) (by kernel_rfl) (by kernel_rfl) rfl rfl rfl (v_ldKf (v := .int .i64 ((rd_T46 l1 x34_).f3)) z46 [.int .u64 ((rd_T46 l1 x34_).f0), .int .u64 ((rd_T46 l1 x34_).f1), .int .i64 ((rd_T46 l1 x34_).f2), .int .i64 ((rd_T46 l1 x34_).f3), .bool ((rd_T46 l1 x34_).f4)] 1 rfl Try.underlying3 rfl rfl rfl rfl n140_ (dec_t h67_) (fun w K h => k46_open h) rfl) ?_
                    refine a_v 22 rfl (by kernel_rfl) (by kernel_rfl) (by kernel_rfl) rfl rfl rfl (OpV.cast (v := .bool false) (v_arith rfl rfl rfl rfl) (congrArg Value.bool h143_)) ?_
                    refine a_v 23 rfl (by kernel_rfl) (by kernel_rfl) (by kernel_rfl) rfl rfl rfl (v_pick rfl rfl rfl rfl) ?_
                    refine a_v 24 rfl (by kernel_rfl) (by kernel_rfl) (by kernel_rfl) rfl rfl rfl (v_move rfl rfl) ?_
                    refine a_v 25 rfl (by kernel_rfl) (by kernel_rfl) (by kernel_rfl) rfl rfl rfl (v_move rfl rfl) ?_
                    refine a_v 26 rfl (by kernel_rfl) (by kernel_rfl) (by kernel_rfl) rfl rfl rfl (v_move rfl rfl) ?_
                    refine a_v 27 rfl (by kernel_rfl) (by kernel_rfl) (by kernel_rfl) rfl rfl rfl (v_iaK (i := 1) rfl Try.underlying42 SZ46 rfl rfl rfl rfl n140_ (dec_t h67_)) ?_
                    refine a_v 28 rfl (by kernel_rfl) (by kernel_rfl) (by kernel_rfl) rfl rfl rfl (v_fax rfl Try.underlying46 rfl SZ3 rfl) ?_
                    refine a_v 29 rfl (by kernel_rfl) (by kernel_rfl) (by kernel_rfl) rfl rfl rfl (v_ldKf (v := .int .i64 ((rd_T46 l1 x34_).f3)) z46 [.int .u64 ((rd_T46 l1 x34_).f0), .int .u64 ((rd_T46 l1 x34_).f1), .int .i64 ((rd_T46 l1 x34_).f2), .int .i64 ((rd_T46 l1 x34_).f3), .bool ((rd_T46 l1 x34_).f4)] 1 rfl Try.underlying3 rfl rfl rfl rfl n140_ (dec_t h67_) (fun w K h => k46_open h) rfl) ?_
                    refine a_v 30 rfl (by kernel_rfl) (by kernel_rfl) (by kernel_rfl) rfl rfl rfl (v_move rfl rfl) ?_
                    refine a_v 31 rfl (by kernel_rfl) (by kernel_rfl) (by kernel_rfl) rfl rfl rfl (v_move rfl rfl) ?_
                    refine a_v 32 rfl (by kernel_rfl) (by kernel_rfl) (by kernel_rfl) rfl rfl rfl (v_iaK (i := 1) rfl Try.underlying42 SZ46 rfl rfl rfl rfl n140_ (dec_t h67_)) ?_
                    refine a_v 33 rfl (by kernel_rfl) (by kernel_rfl) (by kernel_rfl) rfl rfl rfl (v_fax rfl Try.underlying46 rfl SZ3 rfl) ?_
                    refine a_v 34 rfl (by kernel_rfl) (by kernel_rfl) (by kernel_rfl) rfl rfl rfl (v_ldKf (v := .int .i64 ((rd_T46 l1 x34_).f2)) z46 [.int .u64 ((rd_T46 l1 x34_).f0), .int .u64 ((rd_T46 l1 x34_).f1), .int .i64 ((rd_T46 l1 x34_).f2), .int .i64 ((rd_T46 l1 x34_).f3), .bool ((rd_T46 l1 x34_).f4)] 1 rfl Try.underlying3 rfl rfl rfl rfl n140_ (dec_t h67_) (fun w K h => k46_open h) rfl) ?_
                    refine a_v 35 rfl (by kernel_rfl) (by kernel_rfl) (by kernel_rfl) rfl rfl rfl (OpV.cast (v := .bool false) (v_arith rfl rfl rfl rfl) (congrArg Value.bool h144_)) ?_
                    refine a_v 36 rfl (by kernel_rfl) (by kernel_rfl) (by kernel_rfl) rfl rfl rfl (v_pick rfl rfl rfl rfl) ?_
                    refine a_v 37 rfl (by kernel_rfl) (by kernel_rfl) (by kernel_rfl) rfl rfl rfl (v_move rfl rfl) ?_
                    refine a_v 38 rfl (by kernel_rfl) (by kernel_rfl) (by kernel_rfl) rfl rfl rfl (v_move rfl rfl) ?_
                    refine a_v 39 rfl (by kernel_rfl) (by kernel_rfl) (by kernel_rfl) rfl rfl rfl (v_move rfl rfl) ?_
                    refine a_v 40 rfl (by kernel_rfl) (by kernel_rfl) (by kernel_rfl) rfl rfl rfl (v_iaK (i := 1) rfl Try.underlying42 SZ46 rfl rfl rfl rfl n140_ (dec_t h67_)) ?_
                    refine a_v 41 rfl (by kernel_rfl) (by kernel_rfl) (by kernel_rfl) rfl rfl rfl (v_fax rfl Try.underlying46 rfl SZ3 rfl) ?_
                    refine a_v 42 rfl (by kernel_rfl) (by kernel_rfl) (by kernel_rfl) rfl rfl rfl (v_ldKf (v := .int .i64 ((rd_T46 l1 x34_).f3)) z46 [.int .u64 ((rd_T46 l1 x34_).f0), .int .u64 ((rd_T46 l1 x34_).f1), .int .i64 ((rd_T46 l1 x34_).f2), .int .i64 ((rd_T46 l1 x34_).f3), .bool ((rd_T46 l1 x34_).f4)] 1 rfl Try.underlying3 rfl rfl rfl rfl n140_ (dec_t h67_) (fun w K h => k46_open h) rfl) ?_
                    refine a_v 43 rfl (by kernel_rfl) (by kernel_rfl) (by kernel_rfl) rfl rfl rfl (OpV.cast (v := .bool false) (v_arith rfl rfl rfl rfl) (congrArg Value.bool h145_)) ?_
                    refine a_v 44 rfl (by kernel_rfl) (by kernel_rfl) (by kernel_rfl) rfl rfl rfl (v_move rfl rfl) ?_
                    refine a_no 45 rfl (by kernel_rfl) (by kernel_rfl) (by kernel_rfl) rfl rfl rfl ?_
                    refine a_no 46 rfl (by kernel_rfl) (by kernel_rfl) (by kernel_rfl) rfl rfl rfl ?_
                    refine a_no 47 rfl (by kernel_rfl) (by kernel_rfl) (by kernel_rfl) rfl rfl rfl ?_
                    refine a_no 48 rfl (by kernel_rfl) (by kernel_rfl) (by kernel_rfl) rfl rfl rfl ?_
                    refine a_no 49 rfl (by kernel_rfl) (by kernel_rfl) (by kernel_rfl) rfl rfl rfl ?_
                    refine a_no 50 rfl (by kernel_rfl) (by kernel_rfl) (by kernel_rfl) rfl rfl rfl ?_
                    refine a_v 51 rfl (by kernel_rfl) (by kernel_rfl) (by kernel_rfl) rfl rfl rfl (v_pick rfl rfl rfl rfl) ?_
                    refine a_v 52 rfl (by kernel_rfl) (by kernel_rfl) (by kernel_rfl) rfl rfl rfl (v_pick rfl rfl rfl rfl) ?_
                    refine a_v 53 rfl (by kernel_rfl) (by kernel_rfl) (by kernel_rfl) rfl rfl rfl (v_move rfl rfl) ?_
                    refine a_v 54 rfl (by kernel_rfl) (by kernel_rfl) (by kernel_rfl) rfl rfl rfl (v_move rfl rfl) ?_
                    refine a_v 55 rfl (by kernel_rfl) (by kernel_rfl) (by kernel_rfl) rfl rfl rfl (v_move rfl rfl) ?_
                    refine a_v 56 rfl (by kernel_rfl) (by kernel_rfl) (by kernel_rfl) rfl rfl rfl (v_iaK (i := 1) rfl Try.underlying42 SZ46 rfl rfl rfl rfl n140_ (dec_t h67_)) ?_
                    refine a_v 57 rfl (by kernel_rfl) (by kernel_rfl) (by kernel_rfl) rfl rfl rfl (v_fax rfl Try.underlying46 rfl SZ25 rfl) ?_
                    refine a_v 58 rfl (by kernel_rfl) (by kernel_rfl) (by kernel_rfl) rfl rfl rfl (v_ldKf (v := .int .u64 ((rd_T46 l1 x34_).f1)) z46 [.int .u64 ((rd_T46 l1 x34_).f0), .int .u64 ((rd_T46 l1 x34_).f1), .int .i64 ((rd_T46 l1 x34_).f2), .int .i64 ((rd_T46 l1 x34_).f3), .bool ((rd_T46 l1 x34_).f4)] 1 rfl Try.underlying25 rfl rfl rfl rfl n140_ (dec_t h67_) (fun w K h => k46_open h) rfl) ?_
                    refine a_v 59 rfl (by kernel_rfl) (by kernel_rfl) (by kernel_rfl) rfl rfl rfl (v_arith rfl rfl rfl rfl) ?_
                    refine a_v 60 rfl (by kernel_rfl) (by kernel_rfl) (by kernel_rfl) rfl rfl rfl (v_pick rfl rfl rfl rfl) ?_
                    refine a_end (by kernel_rfl) ?_
                    have hq_0 := Option.some.inj H
                    obtain ⟨ee_0, hq_1⟩ := Prod.mk.inj hq_0
                    obtain ⟨ee_1, hq_2⟩ := Prod.mk.inj hq_1
                    obtain ⟨ee_2, hq_3⟩ := Prod.mk.inj hq_2
                    obtain ⟨ee_3, hq_4⟩ := Prod.mk.inj hq_3
                    obtain ⟨ee_4, hq_5⟩ := Prod.mk.inj hq_4
                    obtain ⟨ee_5, hq_6⟩ := Prod.mk.inj hq_5
                    obtain ⟨ee_6, hq_7⟩ := Prod.mk.inj hq_6
                    obtain ⟨ee_7, hq_8⟩ := Prod.mk.inj hq_7
                    obtain ⟨ee_8, hq_9⟩ := Prod.mk.inj hq_8
                    obtain ⟨ee_9, hq_10⟩ := Prod.mk.inj hq_9
                    subst ee_0
                    subst ee_1
                    subst ee_2
                    subst ee_3
                    subst ee_4
                    subst ee_5
                    subst ee_6
                    subst ee_7
                    subst ee_8
                    subst ee_9
                    subst hq_10
                    exact q_seq (c_frame (subF_spec (by exact ⟨rfl, rfl, rfl, rfl, rfl, rfl, rfl, rfl, rfl, rfl, rfl, rfl, rfl, rfl, rfl, rfl, rfl, rfl, rfl, rfl, rfl, rfl, rfl, rfl, trivial⟩)) (c_take [0, 1] rfl (by decide) (J_ () trivial)))
      ·
        replace H := ite_n (dec_f h67_) H
        refine c_cond rfl rfl (fun h147_ => absurd (h147_.symm.trans h67_) (by decide)) (fun _ => ?_)
        refine c_exit (i := 0) rfl rfl ?_
        refine q_then_exit ?_
        refine q_then_exit ?_
        refine q_block_here rfl ?_
        refine q_seq ?_
        refine c_seq rfl ?_
        refine r_ord (l := [0]) rfl (by kernel_rfl) (by kernel_rfl) ?_
        refine s_v rfl rfl rfl rfl (v_assign rfl rfl) ?_
        refine s_end ?_
        refine q_seq ?_
        refine c_ret rfl ?_
        have e_ := Option.some.inj H
        subst e_
        exact q_ret (vs := [.bool true]) rfl (.tmp rfl .nil) [] rfl (by decide) (hX)
  ·
    clear H
    have H := e17_
    clear e17_
    refine r_ord (l := [0, 1, 2, 3, 4, 5, 6, 7, 8, 9]) rfl (by kernel_rfl) (by kernel_rfl) ?_
    refine s_v rfl rfl rfl rfl (v_ldA [.int .i64 a0_0, .int .i64 a0_1, .int .i64 a0_2, .int .i64 a0_3, .int .i64 a0_4, .int .i64 a0_5, .int .i64 a0_6] 0 rfl Try.underlying23 rfl SZ23 rfl rfl rfl rfl) ?_
    obtain ⟨t148_, e149_, H⟩ := bind_s H
    refine s_e rfl rfl (e_callF [] #[.agg #[.int .i64 a0_0, .int .i64 a0_1, .int .i64 a0_2, .int .i64 a0_3, .int .i64 a0_4, .int .i64 a0_5, .int .i64 a0_6]] rfl rfl rfl rfl rfl Try.func36 rfl (by decide) rfl rfl rfl rfl (fun w ht => stepstoneref04_Right_con a0_0 a0_1 a0_2 a0_3 a0_4 a0_5 a0_6 t148_ e149_ w _)) ?_
    refine s_v rfl rfl rfl rfl (v_not rfl rfl) ?_
    refine s_v rfl rfl rfl rfl (v_move rfl rfl) ?_
    rcases Bool.eq_false_or_eq_true (!t148_) with h150_ | h150_
    ·
      replace H := ite_n (not_t (bnot_t h150_)) H
      refine s_splitv (d := 9) (t := !t148_) rfl (fun _ => ?_) (fun h151_ => absurd (h151_.symm.trans h150_) (by decide))
      refine s_no rfl rfl rfl rfl ?_
      refine s_no rfl rfl rfl rfl ?_
      refine s_no rfl rfl rfl rfl ?_
      refine s_no rfl rfl rfl rfl ?_
      refine s_no rfl rfl rfl rfl ?_
      refine s_v rfl rfl rfl rfl (v_pick rfl rfl rfl rfl) ?_
      refine s_end ?_
      have hq_0 := Option.some.inj H
      subst hq_0
      exact q_seq (c_frame (subF_spec (by exact ⟨rfl, rfl, rfl, rfl, trivial⟩)) (c_take [0, 1] rfl (by decide) (J_ () trivial)))
    ·
      replace H := ite_y (bnot_f h150_) H
      refine s_splitv (d := 9) (t := !t148_) rfl (fun h152_ => absurd (h152_.symm.trans h150_) (by decide)) (fun _ => ?_)
      refine s_vg rfl rfl rfl rfl (v_move rfl rfl) ?_
      refine s_vg rfl rfl rfl rfl (v_len rfl rfl rfl Try.underlying42 rfl rfl) ?_
      refine s_vg rfl rfl rfl rfl (v_fa rfl Try.underlying23 rfl SZ3 rfl) ?_
      refine s_vg rfl rfl rfl rfl (v_ld 0 rfl Try.underlying3 rfl rfl rfl rfl) ?_
      refine s_vg rfl rfl rfl rfl (v_arith rfl rfl rfl rfl) ?_
      refine s_v rfl rfl rfl rfl (v_pick rfl rfl rfl rfl) ?_
      refine s_end ?_
      have hq_0 := Option.some.inj H
      subst hq_0
      exact q_seq (c_frame (subF_spec (by exact ⟨rfl, rfl, rfl, rfl, trivial⟩)) (c_take [0, 1] rfl (by decide) (J_ () trivial)))
end Go.Eng
