/-
Own text, put together by an own program (shake.py) out of this claim's texts: what its theorem needs of them.
-/
import Derived.Test.YtlipgpeninlcdaaGreatA6
namespace Go.Eng
open Go.Proofs Go.RowKit Go.Proofs.YtlipgpeninlcdaaGreatW.PrintWords
set_option linter.unusedVariables false
set_option linter.unusedSimpArgs false
set_option maxHeartbeats 4000000 in
structure S57 where
  f0 : Int
  f1 : Int
  f2 : Int
def k57 : Kd S57 := Kd.iso (Kd.pair (Kd.int .u64) (Kd.pair (Kd.int .u64) (Kd.int .u64))) (fun x : S57 => (x.f0, x.f1, x.f2))
def z57 : S57 := (⟨0, 0, 0⟩ : S57)
def rd_T57 (xs : List S57) (i : Int) : S57 := xs.getD i.toNat z57
theorem k57_open {w : World} {x : S57} {cs : List Value} (h : k57.K w x cs) : cs = [.int .u64 x.f0, .int .u64 x.f1, .int .u64 x.f2] := by
  obtain ⟨_, _, rfl, rfl, ⟨_, _, rfl, rfl, rfl⟩⟩ := h
  rfl
structure S58 where
  f0 : Int
  f1 : Int
  f2 : Int
def k58 : Kd S58 := Kd.iso (Kd.pair (Kd.int .u64) (Kd.pair (Kd.int .u64) (Kd.int .u64))) (fun x : S58 => (x.f0, x.f1, x.f2))
def enc58 (x : S58) : List Value := [.int .u64 x.f0, .int .u64 x.f1, .int .u64 x.f2]
theorem k58_open {w : World} {x : S58} {cs : List Value} (h : k58.K w x cs) : cs = [.int .u64 x.f0, .int .u64 x.f1, .int .u64 x.f2] := by
  obtain ⟨_, _, rfl, rfl, ⟨_, _, rfl, rfl, rfl⟩⟩ := h
  rfl
theorem flat58 : Flat k58 enc58 := ⟨fun w x cs => ⟨fun h => k58_open h, fun h => by subst h; exact ⟨_, _, rfl, rfl, ⟨_, _, rfl, rfl, rfl⟩⟩⟩, fun x u hu => by
    simp only [enc58, List.mem_cons, List.not_mem_nil, or_false] at hu
    rcases hu with rfl | rfl | rfl <;> rfl, fun _ => rfl, by decide⟩
set_option maxHeartbeats 4000000 in
theorem eqS23 (x0 : Int) (x1 : Int) (x2 : Int) (x3 : Int) (x4 : Int) (x5 : Int) (x6 : Int) (y0 : Int) (y1 : Int) (y2 : Int) (y3 : Int) (y4 : Int) (y5 : Int) (y6 : Int) (d : Nat) (w : World) : (Op.equalIn (d + 2) 23 (.agg #[.int .i64 x0, .int .i64 x1, .int .i64 x2, .int .i64 x3, .int .i64 x4, .int .i64 x5, .int .i64 x6]) (.agg #[.int .i64 y0, .int .i64 y1, .int .i64 y2, .int .i64 y3, .int .i64 y4, .int .i64 y5, .int .i64 y6])).run Tryz.prog w = .ok ((x0 == y0) && ((x1 == y1) && ((x2 == y2) && ((x3 == y3) && ((x4 == y4) && ((x5 == y5) && ((x6 == y6)))))))) w := by
  refine eqA_of Tryz.underlying23 (by kernel_rfl) ?_
  refine eqf_cons (by rfl) (by go_simp; rfl) (by go_simp; rfl) (by go_simp) ?_
  refine eqf_cons (by rfl) (by go_simp; rfl) (by go_simp; rfl) (by go_simp) ?_
  refine eqf_cons (by rfl) (by go_simp; rfl) (by go_simp; rfl) (by go_simp) ?_
  refine eqf_cons (by rfl) (by go_simp; rfl) (by go_simp; rfl) (by go_simp) ?_
  refine eqf_cons (by rfl) (by go_simp; rfl) (by go_simp; rfl) (by go_simp) ?_
  refine eqf_cons (by rfl) (by go_simp; rfl) (by go_simp; rfl) (by go_simp) ?_
  exact eqf_last (by rfl) (by go_simp; rfl) (by go_simp; rfl) (by go_simp)
set_option maxHeartbeats 4000000 in
theorem eqS30 (x0 : Int) (x1 : Int) (x2 : Int) (x3 : Int) (y0 : Int) (y1 : Int) (y2 : Int) (y3 : Int) (d : Nat) (w : World) : (Op.equalIn (d + 2) 30 (.agg #[.int .i64 x0, .int .i64 x1, .int .i64 x2, .int .i64 x3]) (.agg #[.int .i64 y0, .int .i64 y1, .int .i64 y2, .int .i64 y3])).run Tryz.prog w = .ok ((x0 == y0) && ((x1 == y1) && ((x2 == y2) && ((x3 == y3))))) w := by
  refine eqA_of Tryz.underlying30 (by kernel_rfl) ?_
  refine eqf_cons (by rfl) (by go_simp; rfl) (by go_simp; rfl) (by go_simp) ?_
  refine eqf_cons (by rfl) (by go_simp; rfl) (by go_simp; rfl) (by go_simp) ?_
  refine eqf_cons (by rfl) (by go_simp; rfl) (by go_simp; rfl) (by go_simp) ?_
  exact eqf_last (by rfl) (by go_simp; rfl) (by go_simp; rfl) (by go_simp)
theorem a_alive : Run.isT (Run.go Tryz.prog (Run.noO Run.nvOf) 1000000 (.call 4 [] ⟨.e, 0, [], []⟩)) = true := by kernel_rfl
theorem zfollows : Tryz.prog.follows .mixedOrders = true := by kernel_rfl
theorem znames : (Tryz.prog.funcs.toList.all fun fn => !(fn.name == "runtime.NumGoroutine")) = true := by kernel_rfl
theorem alive_con (w0 : World) (Hs : List Nat) : Con Tryz.prog 4 #[] w0 Hs [] (fun X => X (.bool true) []) := con_of_calls (fun w => Run.run_true zfollows znames Run.noO_ok 1000000 4 a_alive w) w0 Hs
end Go.Eng
namespace Go.Eng
open Go.Proofs Go.RowKit Go.Proofs.YtlipgpeninlcdaaGreatW.PrintWords
set_option linter.unusedVariables false
set_option linter.unusedSimpArgs false
def stepstoneref04_Right.f (a0_0 : Int) (a0_1 : Int) (a0_2 : Int) (a0_3 : Int) (a0_4 : Int) (a0_5 : Int) (a0_6 : Int) : Option Bool := ((if (a0_0 : Int) < 1 then some true else (if (a0_0 : Int) > 8 then some true else (if (a0_1 : Int) < 1 then some true else (if (a0_1 : Int) > 8 then some true else (if (a0_2 : Int) < 1 then some true else (if (a0_2 : Int) > 64 then some true else (if (a0_3 : Int) < 1 then some true else some (decide ((a0_3 : Int) > 6))))))))) : Option Bool).bind fun j48_ => (if j48_ = true then some false else ((if (a0_4 : Int) ≥ 1 then (if (a0_4 : Int) ≤ 64 then (if (a0_5 : Int) ≥ 1 then (if (a0_5 : Int) ≤ 64 then (if (a0_6 : Int) ≥ 0 then some (decide ((a0_6 : Int) ≤ 1073741823)) else some false) else some false) else some false) else some false) else some false) : Option Bool).bind fun j66_ => some j66_)
set_option maxRecDepth 100000 in
set_option maxHeartbeats 4000000 in
theorem stepstoneref04_Right_con (a0_0 : Int) (a0_1 : Int) (a0_2 : Int) (a0_3 : Int) (a0_4 : Int) (a0_5 : Int) (a0_6 : Int) (r0 : Bool) (h : stepstoneref04_Right.f a0_0 a0_1 a0_2 a0_3 a0_4 a0_5 a0_6 = some r0) (w0 : World) (Hs : List Nat) : Con Tryz.prog 17 #[.agg #[.int .i64 a0_0, .int .i64 a0_1, .int .i64 a0_2, .int .i64 a0_3, .int .i64 a0_4, .int .i64 a0_5, .int .i64 a0_6]] w0 Hs [] (fun X => X (.bool r0) []) := by
 refine con_enter (c := bodyOf Tryz.f17) Tryz.func17 rfl (m := 69) rfl rfl rfl ?_
 intro X hX _
 have H := h
 unfold stepstoneref04_Right.f at H
 clear h
 refine c_seq rfl ?_
 refine r_ord (l := [0, 1]) rfl (by kernel_rfl) (by kernel_rfl) ?_
 refine s_e rfl rfl (e_box rfl rfl rfl rfl) ?_
 intro b2_
 refine s_v rfl rfl rfl rfl (v_assign rfl rfl) ?_
 refine s_end ?_
 refine q_seq ?_
 refine c_seq rfl ?_
 obtain ⟨j48_, e49_, H⟩ := bind_s H
 refine c_join (β := Unit) (fun _ => True) (fun _ => [(1, .pointer (some ⟨b2_, 0, none⟩)), (2, .bool false), (40, .bool j48_)]) (fun _ => [.b b2_ (.cells #[.int .i64 a0_0, .int .i64 a0_1, .int .i64 a0_2, .int .i64 a0_3, .int .i64 a0_4, .int .i64 a0_5, .int .i64 a0_6] 23 (0, 0))]) rfl (fun _ _ => ?_) (fun J_ => ?_)
 rcases Bool.eq_false_or_eq_true j48_ with h50_ | h50_
 subst h50_
 replace H := ite_y rfl H
 refine c_cond1 rfl rfl ?_
 refine c_seq rfl ?_
 refine r_ord (l := [0]) rfl (by kernel_rfl) (by kernel_rfl) ?_
 refine s_v rfl rfl rfl rfl (v_assign rfl rfl) ?_
 refine s_end ?_
 refine q_seq ?_
 refine c_ret rfl ?_
 refine q_then_ret ?_
 have e_ := Option.some.inj H
 subst e_
 exact q_ret (vs := [.bool false]) rfl (.tmp rfl .nil) [] rfl (by decide) (hX)
 subst h50_
 replace H := ite_n (by decide) H
 refine c_cond0 rfl rfl ?_
 refine c_skip rfl ?_
 refine q_seq ?_
 obtain ⟨j66_, e67_, H⟩ := bind_s H
 refine c_join (β := Unit) (fun _ => True) (fun _ => [(2, .bool j66_)]) (fun _ => [.b b2_ (.cells #[.int .i64 a0_0, .int .i64 a0_1, .int .i64 a0_2, .int .i64 a0_3, .int .i64 a0_4, .int .i64 a0_5, .int .i64 a0_6] 23 (0, 0))]) rfl (fun _ _ => ?_) (fun J_ => ?_)
 refine c_ret rfl ?_
 have e_ := Option.some.inj H
 subst e_
 exact q_ret (vs := [.bool j66_]) rfl (.tmp rfl .nil) [] rfl (by decide) (hX)
 clear H
 have H := e67_
 clear e67_
 refine r_ord (l := [0, 1, 2, 3, 4, 5, 6, 7, 8, 9, 10, 11, 12, 13, 14, 15, 16, 17, 18, 19, 20, 21, 22, 23, 24, 25, 26, 27, 28]) rfl (by kernel_rfl) (by kernel_rfl) ?_
 refine s_v rfl rfl rfl rfl (v_fa rfl Tryz.underlying23 rfl SZ3 rfl) ?_
 refine s_v rfl rfl rfl rfl (v_ld 0 rfl Tryz.underlying3 rfl rfl rfl rfl) ?_
 refine s_v rfl rfl rfl rfl (v_arith rfl rfl rfl rfl) ?_
 refine s_v rfl rfl rfl rfl (v_move rfl rfl) ?_
 rcases Bool.eq_false_or_eq_true (decide ((a0_4 : Int) ≥ 1)) with h68_ | h68_
 replace H := ite_y (dec_t h68_) H
 refine s_splitv (d := 44) (t := decide ((a0_4 : Int) ≥ 1)) rfl (fun _ => ?_) (fun h69_ => absurd (h69_.symm.trans h68_) (by decide))
 refine s_vg rfl rfl rfl rfl (v_fa rfl Tryz.underlying23 rfl SZ3 rfl) ?_
 refine s_vg rfl rfl rfl rfl (v_ld 0 rfl Tryz.underlying3 rfl rfl rfl rfl) ?_
 refine s_vg rfl rfl rfl rfl (v_arith rfl rfl rfl rfl) ?_
 refine s_v rfl rfl rfl rfl (v_pick rfl rfl rfl rfl) ?_
 refine s_v rfl rfl rfl rfl (v_move rfl rfl) ?_
 rcases Bool.eq_false_or_eq_true (decide ((a0_4 : Int) ≤ 64)) with h70_ | h70_
 replace H := ite_y (dec_t h70_) H
 refine s_splitv (d := 49) (t := decide ((a0_4 : Int) ≤ 64)) rfl (fun _ => ?_) (fun h71_ => absurd (h71_.symm.trans h70_) (by decide))
 refine s_vg rfl rfl rfl rfl (v_fa rfl Tryz.underlying23 rfl SZ3 rfl) ?_
 refine s_vg rfl rfl rfl rfl (v_ld 0 rfl Tryz.underlying3 rfl rfl rfl rfl) ?_
 refine s_vg rfl rfl rfl rfl (v_arith rfl rfl rfl rfl) ?_
 refine s_v rfl rfl rfl rfl (v_pick rfl rfl rfl rfl) ?_
 refine s_v rfl rfl rfl rfl (v_move rfl rfl) ?_
 rcases Bool.eq_false_or_eq_true (decide ((a0_5 : Int) ≥ 1)) with h72_ | h72_
 replace H := ite_y (dec_t h72_) H
 refine s_splitv (d := 54) (t := decide ((a0_5 : Int) ≥ 1)) rfl (fun _ => ?_) (fun h73_ => absurd (h73_.symm.trans h72_) (by decide))
 refine s_vg rfl rfl rfl rfl (v_fa rfl Tryz.underlying23 rfl SZ3 rfl) ?_
 refine s_vg rfl rfl rfl rfl (v_ld 0 rfl Tryz.underlying3 rfl rfl rfl rfl) ?_
 refine s_vg rfl rfl rfl rfl (v_arith rfl rfl rfl rfl) ?_
 refine s_v rfl rfl rfl rfl (v_pick rfl rfl rfl rfl) ?_
 refine s_v rfl rfl rfl rfl (v_move rfl rfl) ?_
 rcases Bool.eq_false_or_eq_true (decide ((a0_5 : Int) ≤ 64)) with h74_ | h74_
 replace H := ite_y (dec_t h74_) H
 refine s_splitv (d := 59) (t := decide ((a0_5 : Int) ≤ 64)) rfl (fun _ => ?_) (fun h75_ => absurd (h75_.symm.trans h74_) (by decide))
 refine s_vg rfl rfl rfl rfl (v_fa rfl Tryz.underlying23 rfl SZ3 rfl) ?_
 refine s_vg rfl rfl rfl rfl (v_ld 0 rfl Tryz.underlying3 rfl rfl rfl rfl) ?_
 refine s_vg rfl rfl rfl rfl (v_arith rfl rfl rfl rfl) ?_
 refine s_v rfl rfl rfl rfl (v_pick rfl rfl rfl rfl) ?_
 refine s_v rfl rfl rfl rfl (v_move rfl rfl) ?_
 rcases Bool.eq_false_or_eq_true (decide ((a0_6 : Int) ≥ 0)) with h76_ | h76_
 replace H := ite_y (dec_t h76_) H
 refine s_splitv (d := 64) (t := decide ((a0_6 : Int) ≥ 0)) rfl (fun _ => ?_) (fun h77_ => absurd (h77_.symm.trans h76_) (by decide))
 refine s_vg rfl rfl rfl rfl (v_fa rfl Tryz.underlying23 rfl SZ3 rfl) ?_
 refine s_vg rfl rfl rfl rfl (v_ld 0 rfl Tryz.underlying3 rfl rfl rfl rfl) ?_
 refine s_vg rfl rfl rfl rfl (v_arith rfl rfl rfl rfl) ?_
 refine s_v rfl rfl rfl rfl (v_pick rfl rfl rfl rfl) ?_
 refine s_v rfl rfl rfl rfl (v_assign rfl rfl) ?_
 refine s_end ?_
 have hq_0 := Option.some.inj H
 subst hq_0
 exact q_seq (c_frame (subF_spec (by exact ⟨rfl, trivial⟩)) (c_take [0] rfl (by decide) (J_ () trivial)))
 replace H := ite_n (dec_f h76_) H
 refine s_splitv (d := 64) (t := decide ((a0_6 : Int) ≥ 0)) rfl (fun h78_ => absurd (h78_.symm.trans h76_) (by decide)) (fun _ => ?_)
 refine s_no rfl rfl rfl rfl ?_
 refine s_no rfl rfl rfl rfl ?_
 refine s_no rfl rfl rfl rfl ?_
 refine s_v rfl rfl rfl rfl (v_pick rfl rfl rfl rfl) ?_
 refine s_v rfl rfl rfl rfl (v_assign rfl rfl) ?_
 refine s_end ?_
 have hq_0 := Option.some.inj H
 subst hq_0
 exact q_seq (c_frame (subF_spec (by exact ⟨rfl, trivial⟩)) (c_take [0] rfl (by decide) (J_ () trivial)))
 replace H := ite_n (dec_f h74_) H
 refine s_splitv (d := 59) (t := decide ((a0_5 : Int) ≤ 64)) rfl (fun h79_ => absurd (h79_.symm.trans h74_) (by decide)) (fun _ => ?_)
 refine s_no rfl rfl rfl rfl ?_
 refine s_no rfl rfl rfl rfl ?_
 refine s_no rfl rfl rfl rfl ?_
 refine s_v rfl rfl rfl rfl (v_pick rfl rfl rfl rfl) ?_
 refine s_v rfl rfl rfl rfl (v_move rfl rfl) ?_
 refine s_no rfl rfl rfl rfl ?_
 refine s_no rfl rfl rfl rfl ?_
 refine s_no rfl rfl rfl rfl ?_
 refine s_v rfl rfl rfl rfl (v_pick rfl rfl rfl rfl) ?_
 refine s_v rfl rfl rfl rfl (v_assign rfl rfl) ?_
 refine s_end ?_
 have hq_0 := Option.some.inj H
 subst hq_0
 exact q_seq (c_frame (subF_spec (by exact ⟨rfl, trivial⟩)) (c_take [0] rfl (by decide) (J_ () trivial)))
 replace H := ite_n (dec_f h72_) H
 refine s_splitv (d := 54) (t := decide ((a0_5 : Int) ≥ 1)) rfl (fun h80_ => absurd (h80_.symm.trans h72_) (by decide)) (fun _ => ?_)
 refine s_no rfl rfl rfl rfl ?_
 refine s_no rfl rfl rfl rfl ?_
 refine s_no rfl rfl rfl rfl ?_
 refine s_v rfl rfl rfl rfl (v_pick rfl rfl rfl rfl) ?_
 refine s_v rfl rfl rfl rfl (v_move rfl rfl) ?_
 refine s_no rfl rfl rfl rfl ?_
 refine s_no rfl rfl rfl rfl ?_
 refine s_no rfl rfl rfl rfl ?_
 refine s_v rfl rfl rfl rfl (v_pick rfl rfl rfl rfl) ?_
 refine s_v rfl rfl rfl rfl (v_move rfl rfl) ?_
 refine s_no rfl rfl rfl rfl ?_
 refine s_no rfl rfl rfl rfl ?_
 refine s_no rfl rfl rfl rfl ?_
 refine s_v rfl rfl rfl rfl (v_pick rfl rfl rfl rfl) ?_
 refine s_v rfl rfl rfl rfl (v_assign rfl rfl) ?_
 refine s_end ?_
 have hq_0 := Option.some.inj H
 subst hq_0
 exact q_seq (c_frame (subF_spec (by exact ⟨rfl, trivial⟩)) (c_take [0] rfl (by decide) (J_ () trivial)))
 replace H := ite_n (dec_f h70_) H
 refine s_splitv (d := 49) (t := decide ((a0_4 : Int) ≤ 64)) rfl (fun h81_ => absurd (h81_.symm.trans h70_) (by decide)) (fun _ => ?_)
 refine s_no rfl rfl rfl rfl ?_
 refine s_no rfl rfl rfl rfl ?_
 refine s_no rfl rfl rfl rfl ?_
 refine s_v rfl rfl rfl rfl (v_pick rfl rfl rfl rfl) ?_
 refine s_v rfl rfl rfl rfl (v_move rfl rfl) ?_
 refine s_no rfl rfl rfl rfl ?_
 refine s_no rfl rfl rfl rfl ?_
 refine s_no rfl rfl rfl rfl ?_
 refine s_v rfl rfl rfl rfl (v_pick rfl rfl rfl rfl) ?_
 refine s_v rfl rfl rfl rfl (v_move rfl rfl) ?_
 refine s_no rfl rfl rfl rfl ?_
 refine s_no rfl rfl rfl rfl ?_
 refine s_no rfl rfl rfl rfl ?_
 refine s_v rfl rfl rfl rfl (v_pick rfl rfl rfl rfl) ?_
 refine s_v rfl rfl rfl rfl (v_move rfl rfl) ?_
 refine s_no rfl rfl rfl rfl ?_
 refine s_no rfl rfl rfl rfl ?_
 refine s_no rfl rfl rfl rfl ?_
 refine s_v rfl rfl rfl rfl (v_pick rfl rfl rfl rfl) ?_
 refine s_v rfl rfl rfl rfl (v_assign rfl rfl) ?_
 refine s_end ?_
 have hq_0 := Option.some.inj H
 subst hq_0
 exact q_seq (c_frame (subF_spec (by exact ⟨rfl, trivial⟩)) (c_take [0] rfl (by decide) (J_ () trivial)))
 replace H := ite_n (dec_f h68_) H
 refine s_splitv (d := 44) (t := decide ((a0_4 : Int) ≥ 1)) rfl (fun h82_ => absurd (h82_.symm.trans h68_) (by decide)) (fun _ => ?_)
 refine s_no rfl rfl rfl rfl ?_
 refine s_no rfl rfl rfl rfl ?_
 refine s_no rfl rfl rfl rfl ?_
 refine s_v rfl rfl rfl rfl (v_pick rfl rfl rfl rfl) ?_
 refine s_v rfl rfl rfl rfl (v_move rfl rfl) ?_
 refine s_no rfl rfl rfl rfl ?_
 refine s_no rfl rfl rfl rfl ?_
 refine s_no rfl rfl rfl rfl ?_
 refine s_v rfl rfl rfl rfl (v_pick rfl rfl rfl rfl) ?_
 refine s_v rfl rfl rfl rfl (v_move rfl rfl) ?_
 refine s_no rfl rfl rfl rfl ?_
 refine s_no rfl rfl rfl rfl ?_
 refine s_no rfl rfl rfl rfl ?_
 refine s_v rfl rfl rfl rfl (v_pick rfl rfl rfl rfl) ?_
 refine s_v rfl rfl rfl rfl (v_move rfl rfl) ?_
 refine s_no rfl rfl rfl rfl ?_
 refine s_no rfl rfl rfl rfl ?_
 refine s_no rfl rfl rfl rfl ?_
 refine s_v rfl rfl rfl rfl (v_pick rfl rfl rfl rfl) ?_
 refine s_v rfl rfl rfl rfl (v_move rfl rfl) ?_
 refine s_no rfl rfl rfl rfl ?_
 refine s_no rfl rfl rfl rfl ?_
 refine s_no rfl rfl rfl rfl ?_
 refine s_v rfl rfl rfl rfl (v_pick rfl rfl rfl rfl) ?_
 refine s_v rfl rfl rfl rfl (v_assign rfl rfl) ?_
 refine s_end ?_
 have hq_0 := Option.some.inj H
 subst hq_0
 exact q_seq (c_frame (subF_spec (by exact ⟨rfl, trivial⟩)) (c_take [0] rfl (by decide) (J_ () trivial)))
 clear H
 have H := e49_
 clear e49_
 refine r_ord (l := [0, 1, 2, 3, 4, 5, 6, 7, 8, 9, 10, 11, 12, 13, 14, 15, 16, 17, 18, 19, 20, 21, 22, 23, 24, 25, 26, 27, 28, 29, 30, 31, 32, 33, 34, 35, 36, 37]) rfl (by kernel_rfl) (by kernel_rfl) ?_
 refine s_v rfl rfl rfl rfl (v_fa rfl Tryz.underlying23 rfl SZ3 rfl) ?_
 refine s_v rfl rfl rfl rfl (v_ld 0 rfl Tryz.underlying3 rfl rfl rfl rfl) ?_
 refine s_v rfl rfl rfl rfl (v_arith rfl rfl rfl rfl) ?_
 refine s_v rfl rfl rfl rfl (v_move rfl rfl) ?_
 rcases Bool.eq_false_or_eq_true (decide ((a0_0 : Int) < 1)) with h83_ | h83_
 replace H := ite_y (dec_t h83_) H
 refine s_splitv (d := 6) (t := decide ((a0_0 : Int) < 1)) rfl (fun _ => ?_) (fun h84_ => absurd (h84_.symm.trans h83_) (by decide))
 refine s_no rfl rfl rfl rfl ?_
 refine s_no rfl rfl rfl rfl ?_
 refine s_no rfl rfl rfl rfl ?_
 refine s_v rfl rfl rfl rfl (v_pick rfl rfl rfl rfl) ?_
 refine s_v rfl rfl rfl rfl (v_move rfl rfl) ?_
 refine s_no rfl rfl rfl rfl ?_
 refine s_no rfl rfl rfl rfl ?_
 refine s_no rfl rfl rfl rfl ?_
 refine s_v rfl rfl rfl rfl (v_pick rfl rfl rfl rfl) ?_
 refine s_v rfl rfl rfl rfl (v_move rfl rfl) ?_
 refine s_no rfl rfl rfl rfl ?_
 refine s_no rfl rfl rfl rfl ?_
 refine s_no rfl rfl rfl rfl ?_
 refine s_v rfl rfl rfl rfl (v_pick rfl rfl rfl rfl) ?_
 refine s_v rfl rfl rfl rfl (v_move rfl rfl) ?_
 refine s_no rfl rfl rfl rfl ?_
 refine s_no rfl rfl rfl rfl ?_
 refine s_no rfl rfl rfl rfl ?_
 refine s_v rfl rfl rfl rfl (v_pick rfl rfl rfl rfl) ?_
 refine s_v rfl rfl rfl rfl (v_move rfl rfl) ?_
 refine s_no rfl rfl rfl rfl ?_
 refine s_no rfl rfl rfl rfl ?_
 refine s_no rfl rfl rfl rfl ?_
 refine s_v rfl rfl rfl rfl (v_pick rfl rfl rfl rfl) ?_
 refine s_v rfl rfl rfl rfl (v_move rfl rfl) ?_
 refine s_no rfl rfl rfl rfl ?_
 refine s_no rfl rfl rfl rfl ?_
 refine s_no rfl rfl rfl rfl ?_
 refine s_v rfl rfl rfl rfl (v_pick rfl rfl rfl rfl) ?_
 refine s_v rfl rfl rfl rfl (v_move rfl rfl) ?_
 refine s_no rfl rfl rfl rfl ?_
 refine s_no rfl rfl rfl rfl ?_
 refine s_no rfl rfl rfl rfl ?_
 refine s_v rfl rfl rfl rfl (v_pick rfl rfl rfl rfl) ?_
 refine s_end ?_
 have hq_0 := Option.some.inj H
 subst hq_0
 exact q_seq (c_frame (subF_spec (by exact ⟨rfl, rfl, rfl, trivial⟩)) (c_take [0] rfl (by decide) (J_ () trivial)))
 replace H := ite_n (dec_f h83_) H
 refine s_splitv (d := 6) (t := decide ((a0_0 : Int) < 1)) rfl (fun h85_ => absurd (h85_.symm.trans h83_) (by decide)) (fun _ => ?_)
 refine s_vg rfl rfl rfl rfl (v_fa rfl Tryz.underlying23 rfl SZ3 rfl) ?_
 refine s_vg rfl rfl rfl rfl (v_ld 0 rfl Tryz.underlying3 rfl rfl rfl rfl) ?_
 refine s_vg rfl rfl rfl rfl (v_arith rfl rfl rfl rfl) ?_
 refine s_v rfl rfl rfl rfl (v_pick rfl rfl rfl rfl) ?_
 refine s_v rfl rfl rfl rfl (v_move rfl rfl) ?_
 rcases Bool.eq_false_or_eq_true (decide ((a0_0 : Int) > 8)) with h86_ | h86_
 replace H := ite_y (dec_t h86_) H
 refine s_splitv (d := 11) (t := decide ((a0_0 : Int) > 8)) rfl (fun _ => ?_) (fun h87_ => absurd (h87_.symm.trans h86_) (by decide))
 refine s_no rfl rfl rfl rfl ?_
 refine s_no rfl rfl rfl rfl ?_
 refine s_no rfl rfl rfl rfl ?_
 refine s_v rfl rfl rfl rfl (v_pick rfl rfl rfl rfl) ?_
 refine s_v rfl rfl rfl rfl (v_move rfl rfl) ?_
 refine s_no rfl rfl rfl rfl ?_
 refine s_no rfl rfl rfl rfl ?_
 refine s_no rfl rfl rfl rfl ?_
 refine s_v rfl rfl rfl rfl (v_pick rfl rfl rfl rfl) ?_
 refine s_v rfl rfl rfl rfl (v_move rfl rfl) ?_
 refine s_no rfl rfl rfl rfl ?_
 refine s_no rfl rfl rfl rfl ?_
 refine s_no rfl rfl rfl rfl ?_
 refine s_v rfl rfl rfl rfl (v_pick rfl rfl rfl rfl) ?_
 refine s_v rfl rfl rfl rfl (v_move rfl rfl) ?_
 refine s_no rfl rfl rfl rfl ?_
 refine s_no rfl rfl rfl rfl ?_
 refine s_no rfl rfl rfl rfl ?_
 refine s_v rfl rfl rfl rfl (v_pick rfl rfl rfl rfl) ?_
 refine s_v rfl rfl rfl rfl (v_move rfl rfl) ?_
 refine s_no rfl rfl rfl rfl ?_
 refine s_no rfl rfl rfl rfl ?_
 refine s_no rfl rfl rfl rfl ?_
 refine s_v rfl rfl rfl rfl (v_pick rfl rfl rfl rfl) ?_
 refine s_v rfl rfl rfl rfl (v_move rfl rfl) ?_
 refine s_no rfl rfl rfl rfl ?_
 refine s_no rfl rfl rfl rfl ?_
 refine s_no rfl rfl rfl rfl ?_
 refine s_v rfl rfl rfl rfl (v_pick rfl rfl rfl rfl) ?_
 refine s_end ?_
 have hq_0 := Option.some.inj H
 subst hq_0
 exact q_seq (c_frame (subF_spec (by exact ⟨rfl, rfl, rfl, trivial⟩)) (c_take [0] rfl (by decide) (J_ () trivial)))
 replace H := ite_n (dec_f h86_) H
 refine s_splitv (d := 11) (t := decide ((a0_0 : Int) > 8)) rfl (fun h88_ => absurd (h88_.symm.trans h86_) (by decide)) (fun _ => ?_)
 refine s_vg rfl rfl rfl rfl (v_fa rfl Tryz.underlying23 rfl SZ3 rfl) ?_
 refine s_vg rfl rfl rfl rfl (v_ld 0 rfl Tryz.underlying3 rfl rfl rfl rfl) ?_
 refine s_vg rfl rfl rfl rfl (v_arith rfl rfl rfl rfl) ?_
 refine s_v rfl rfl rfl rfl (v_pick rfl rfl rfl rfl) ?_
 refine s_v rfl rfl rfl rfl (v_move rfl rfl) ?_
 rcases Bool.eq_false_or_eq_true (decide ((a0_1 : Int) < 1)) with h89_ | h89_
 replace H := ite_y (dec_t h89_) H
 refine s_splitv (d := 16) (t := decide ((a0_1 : Int) < 1)) rfl (fun _ => ?_) (fun h90_ => absurd (h90_.symm.trans h89_) (by decide))
 refine s_no rfl rfl rfl rfl ?_
 refine s_no rfl rfl rfl rfl ?_
 refine s_no rfl rfl rfl rfl ?_
 refine s_v rfl rfl rfl rfl (v_pick rfl rfl rfl rfl) ?_
 refine s_v rfl rfl rfl rfl (v_move rfl rfl) ?_
 refine s_no rfl rfl rfl rfl ?_
 refine s_no rfl rfl rfl rfl ?_
 refine s_no rfl rfl rfl rfl ?_
 refine s_v rfl rfl rfl rfl (v_pick rfl rfl rfl rfl) ?_
 refine s_v rfl rfl rfl rfl (v_move rfl rfl) ?_
 refine s_no rfl rfl rfl rfl ?_
 refine s_no rfl rfl rfl rfl ?_
 refine s_no rfl rfl rfl rfl ?_
 refine s_v rfl rfl rfl rfl (v_pick rfl rfl rfl rfl) ?_
 refine s_v rfl rfl rfl rfl (v_move rfl rfl) ?_
 refine s_no rfl rfl rfl rfl ?_
 refine s_no rfl rfl rfl rfl ?_
 refine s_no rfl rfl rfl rfl ?_
 refine s_v rfl rfl rfl rfl (v_pick rfl rfl rfl rfl) ?_
 refine s_v rfl rfl rfl rfl (v_move rfl rfl) ?_
 refine s_no rfl rfl rfl rfl ?_
 refine s_no rfl rfl rfl rfl ?_
 refine s_no rfl rfl rfl rfl ?_
 refine s_v rfl rfl rfl rfl (v_pick rfl rfl rfl rfl) ?_
 refine s_end ?_
 have hq_0 := Option.some.inj H
 subst hq_0
 exact q_seq (c_frame (subF_spec (by exact ⟨rfl, rfl, rfl, trivial⟩)) (c_take [0] rfl (by decide) (J_ () trivial)))
 replace H := ite_n (dec_f h89_) H
 refine s_splitv (d := 16) (t := decide ((a0_1 : Int) < 1)) rfl (fun h91_ => absurd (h91_.symm.trans h89_) (by decide)) (fun _ => ?_)
 refine s_vg rfl rfl rfl rfl (v_fa rfl Tryz.underlying23 rfl SZ3 rfl) ?_
 refine s_vg rfl rfl rfl rfl (v_ld 0 rfl Tryz.underlying3 rfl rfl rfl rfl) ?_
 refine s_vg rfl rfl rfl rfl (v_arith rfl rfl rfl rfl) ?_
 refine s_v rfl rfl rfl rfl (v_pick rfl rfl rfl rfl) ?_
 refine s_v rfl rfl rfl rfl (v_move rfl rfl) ?_
 rcases Bool.eq_false_or_eq_true (decide ((a0_1 : Int) > 8)) with h92_ | h92_
 replace H := ite_y (dec_t h92_) H
 refine s_splitv (d := 21) (t := decide ((a0_1 : Int) > 8)) rfl (fun _ => ?_) (fun h93_ => absurd (h93_.symm.trans h92_) (by decide))
 refine s_no rfl rfl rfl rfl ?_
 refine s_no rfl rfl rfl rfl ?_
 refine s_no rfl rfl rfl rfl ?_
 refine s_v rfl rfl rfl rfl (v_pick rfl rfl rfl rfl) ?_
 refine s_v rfl rfl rfl rfl (v_move rfl rfl) ?_
 refine s_no rfl rfl rfl rfl ?_
 refine s_no rfl rfl rfl rfl ?_
 refine s_no rfl rfl rfl rfl ?_
 refine s_v rfl rfl rfl rfl (v_pick rfl rfl rfl rfl) ?_
 refine s_v rfl rfl rfl rfl (v_move rfl rfl) ?_
 refine s_no rfl rfl rfl rfl ?_
 refine s_no rfl rfl rfl rfl ?_
 refine s_no rfl rfl rfl rfl ?_
 refine s_v rfl rfl rfl rfl (v_pick rfl rfl rfl rfl) ?_
 refine s_v rfl rfl rfl rfl (v_move rfl rfl) ?_
 refine s_no rfl rfl rfl rfl ?_
 refine s_no rfl rfl rfl rfl ?_
 refine s_no rfl rfl rfl rfl ?_
 refine s_v rfl rfl rfl rfl (v_pick rfl rfl rfl rfl) ?_
 refine s_end ?_
 have hq_0 := Option.some.inj H
 subst hq_0
 exact q_seq (c_frame (subF_spec (by exact ⟨rfl, rfl, rfl, trivial⟩)) (c_take [0] rfl (by decide) (J_ () trivial)))
 replace H := ite_n (dec_f h92_) H
 refine s_splitv (d := 21) (t := decide ((a0_1 : Int) > 8)) rfl (fun h94_ => absurd (h94_.symm.trans h92_) (by decide)) (fun _ => ?_)
 refine s_vg rfl rfl rfl rfl (v_fa rfl Tryz.underlying23 rfl SZ3 rfl) ?_
 refine s_vg rfl rfl rfl rfl (v_ld 0 rfl Tryz.underlying3 rfl rfl rfl rfl) ?_
 refine s_vg rfl rfl rfl rfl (v_arith rfl rfl rfl rfl) ?_
 refine s_v rfl rfl rfl rfl (v_pick rfl rfl rfl rfl) ?_
 refine s_v rfl rfl rfl rfl (v_move rfl rfl) ?_
 rcases Bool.eq_false_or_eq_true (decide ((a0_2 : Int) < 1)) with h95_ | h95_
 replace H := ite_y (dec_t h95_) H
 refine s_splitv (d := 26) (t := decide ((a0_2 : Int) < 1)) rfl (fun _ => ?_) (fun h96_ => absurd (h96_.symm.trans h95_) (by decide))
 refine s_no rfl rfl rfl rfl ?_
 refine s_no rfl rfl rfl rfl ?_
 refine s_no rfl rfl rfl rfl ?_
 refine s_v rfl rfl rfl rfl (v_pick rfl rfl rfl rfl) ?_
 refine s_v rfl rfl rfl rfl (v_move rfl rfl) ?_
 refine s_no rfl rfl rfl rfl ?_
 refine s_no rfl rfl rfl rfl ?_
 refine s_no rfl rfl rfl rfl ?_
 refine s_v rfl rfl rfl rfl (v_pick rfl rfl rfl rfl) ?_
 refine s_v rfl rfl rfl rfl (v_move rfl rfl) ?_
 refine s_no rfl rfl rfl rfl ?_
 refine s_no rfl rfl rfl rfl ?_
 refine s_no rfl rfl rfl rfl ?_
 refine s_v rfl rfl rfl rfl (v_pick rfl rfl rfl rfl) ?_
 refine s_end ?_
 have hq_0 := Option.some.inj H
 subst hq_0
 exact q_seq (c_frame (subF_spec (by exact ⟨rfl, rfl, rfl, trivial⟩)) (c_take [0] rfl (by decide) (J_ () trivial)))
 replace H := ite_n (dec_f h95_) H
 refine s_splitv (d := 26) (t := decide ((a0_2 : Int) < 1)) rfl (fun h97_ => absurd (h97_.symm.trans h95_) (by decide)) (fun _ => ?_)
 refine s_vg rfl rfl rfl rfl (v_fa rfl Tryz.underlying23 rfl SZ3 rfl) ?_
 refine s_vg rfl rfl rfl rfl (v_ld 0 rfl Tryz.underlying3 rfl rfl rfl rfl) ?_
 refine s_vg rfl rfl rfl rfl (v_arith rfl rfl rfl rfl) ?_
 refine s_v rfl rfl rfl rfl (v_pick rfl rfl rfl rfl) ?_
 refine s_v rfl rfl rfl rfl (v_move rfl rfl) ?_
 rcases Bool.eq_false_or_eq_true (decide ((a0_2 : Int) > 64)) with h98_ | h98_
 replace H := ite_y (dec_t h98_) H
 refine s_splitv (d := 31) (t := decide ((a0_2 : Int) > 64)) rfl (fun _ => ?_) (fun h99_ => absurd (h99_.symm.trans h98_) (by decide))
 refine s_no rfl rfl rfl rfl ?_
 refine s_no rfl rfl rfl rfl ?_
 refine s_no rfl rfl rfl rfl ?_
 refine s_v rfl rfl rfl rfl (v_pick rfl rfl rfl rfl) ?_
 refine s_v rfl rfl rfl rfl (v_move rfl rfl) ?_
 refine s_no rfl rfl rfl rfl ?_
 refine s_no rfl rfl rfl rfl ?_
 refine s_no rfl rfl rfl rfl ?_
 refine s_v rfl rfl rfl rfl (v_pick rfl rfl rfl rfl) ?_
 refine s_end ?_
 have hq_0 := Option.some.inj H
 subst hq_0
 exact q_seq (c_frame (subF_spec (by exact ⟨rfl, rfl, rfl, trivial⟩)) (c_take [0] rfl (by decide) (J_ () trivial)))
 replace H := ite_n (dec_f h98_) H
 refine s_splitv (d := 31) (t := decide ((a0_2 : Int) > 64)) rfl (fun h100_ => absurd (h100_.symm.trans h98_) (by decide)) (fun _ => ?_)
 refine s_vg rfl rfl rfl rfl (v_fa rfl Tryz.underlying23 rfl SZ3 rfl) ?_
 refine s_vg rfl rfl rfl rfl (v_ld 0 rfl Tryz.underlying3 rfl rfl rfl rfl) ?_
 refine s_vg rfl rfl rfl rfl (v_arith rfl rfl rfl rfl) ?_
 refine s_v rfl rfl rfl rfl (v_pick rfl rfl rfl rfl) ?_
 refine s_v rfl rfl rfl rfl (v_move rfl rfl) ?_
 rcases Bool.eq_false_or_eq_true (decide ((a0_3 : Int) < 1)) with h101_ | h101_
 replace H := ite_y (dec_t h101_) H
 refine s_splitv (d := 36) (t := decide ((a0_3 : Int) < 1)) rfl (fun _ => ?_) (fun h102_ => absurd (h102_.symm.trans h101_) (by decide))
 refine s_no rfl rfl rfl rfl ?_
 refine s_no rfl rfl rfl rfl ?_
 refine s_no rfl rfl rfl rfl ?_
 refine s_v rfl rfl rfl rfl (v_pick rfl rfl rfl rfl) ?_
 refine s_end ?_
 have hq_0 := Option.some.inj H
 subst hq_0
 exact q_seq (c_frame (subF_spec (by exact ⟨rfl, rfl, rfl, trivial⟩)) (c_take [0] rfl (by decide) (J_ () trivial)))
 replace H := ite_n (dec_f h101_) H
 refine s_splitv (d := 36) (t := decide ((a0_3 : Int) < 1)) rfl (fun h103_ => absurd (h103_.symm.trans h101_) (by decide)) (fun _ => ?_)
 refine s_vg rfl rfl rfl rfl (v_fa rfl Tryz.underlying23 rfl SZ3 rfl) ?_
 refine s_vg rfl rfl rfl rfl (v_ld 0 rfl Tryz.underlying3 rfl rfl rfl rfl) ?_
 refine s_vg rfl rfl rfl rfl (v_arith rfl rfl rfl rfl) ?_
 refine s_v rfl rfl rfl rfl (v_pick rfl rfl rfl rfl) ?_
 refine s_end ?_
 have hq_0 := Option.some.inj H
 subst hq_0
 exact q_seq (c_frame (subF_spec (by exact ⟨rfl, rfl, rfl, trivial⟩)) (c_take [0] rfl (by decide) (J_ () trivial)))
def stepstoneref04_Len.f (a0_0 : Int) (a0_1 : Int) (a0_2 : Int) (a0_3 : Int) (a0_4 : Int) (a0_5 : Int) (a0_6 : Int) : Option Int := (stepstoneref04_Right.f a0_0 a0_1 a0_2 a0_3 a0_4 a0_5 a0_6).bind fun t10_ => (if t10_ = true then some (IntKind.wrap .i64 ((IntKind.wrap .i64 (1 + (IntKind.wrap .i64 (a0_0 * a0_1)))) + (IntKind.wrap .i64 ((IntKind.wrap .i64 (a0_2 + 1)) * (IntKind.wrap .i64 (6 + a0_3)))))) else some 0)
set_option maxRecDepth 100000 in
set_option maxHeartbeats 4000000 in
theorem stepstoneref04_Len_con (a0_0 : Int) (a0_1 : Int) (a0_2 : Int) (a0_3 : Int) (a0_4 : Int) (a0_5 : Int) (a0_6 : Int) (r0 : Int) (h : stepstoneref04_Len.f a0_0 a0_1 a0_2 a0_3 a0_4 a0_5 a0_6 = some r0) (w0 : World) (Hs : List Nat) : Con Tryz.prog 18 #[.agg #[.int .i64 a0_0, .int .i64 a0_1, .int .i64 a0_2, .int .i64 a0_3, .int .i64 a0_4, .int .i64 a0_5, .int .i64 a0_6]] w0 Hs [] (fun X => X (.int .i64 r0) []) := by
 refine con_enter (c := bodyOf Tryz.f18) Tryz.func18 rfl (m := 20) rfl rfl rfl ?_
 intro X hX _
 have H := h
 unfold stepstoneref04_Len.f at H
 clear h
 refine c_seq rfl ?_
 refine r_ord (l := [0, 1]) rfl (by kernel_rfl) (by kernel_rfl) ?_
 refine s_e rfl rfl (e_box rfl rfl rfl rfl) ?_
 intro b2_
 refine s_v rfl rfl rfl rfl (v_assign rfl rfl) ?_
 refine s_end ?_
 refine q_seq ?_
 refine c_seq rfl ?_
 refine c_seq rfl ?_
 refine r_ord (l := [0, 1, 2]) rfl (by kernel_rfl) (by kernel_rfl) ?_
 refine s_v rfl rfl rfl rfl (v_ldA [.int .i64 a0_0, .int .i64 a0_1, .int .i64 a0_2, .int .i64 a0_3, .int .i64 a0_4, .int .i64 a0_5, .int .i64 a0_6] 0 rfl Tryz.underlying23 rfl SZ23 rfl rfl rfl rfl) ?_
 obtain ⟨t10_, e11_, H⟩ := bind_s H
 refine s_e rfl rfl (e_callF [] #[.agg #[.int .i64 a0_0, .int .i64 a0_1, .int .i64 a0_2, .int .i64 a0_3, .int .i64 a0_4, .int .i64 a0_5, .int .i64 a0_6]] rfl rfl rfl rfl rfl Tryz.func17 rfl (by decide) rfl rfl rfl rfl (fun w ht => stepstoneref04_Right_con a0_0 a0_1 a0_2 a0_3 a0_4 a0_5 a0_6 t10_ e11_ w _)) ?_
 refine s_v rfl rfl rfl rfl (v_not rfl rfl) ?_
 refine s_end ?_
 refine q_seq ?_
 rcases Bool.eq_false_or_eq_true (!t10_) with h12_ | h12_
 replace H := ite_n (not_t (bnot_t h12_)) H
 refine c_cond rfl rfl (fun _ => ?_) (fun h13_ => absurd (h13_.symm.trans h12_) (by decide))
 refine c_seq rfl ?_
 refine r_ord (l := [0]) rfl (by kernel_rfl) (by kernel_rfl) ?_
 refine s_v rfl rfl rfl rfl (v_assign rfl rfl) ?_
 refine s_end ?_
 refine q_seq ?_
 refine c_ret rfl ?_
 refine q_then_ret ?_
 have e_ := Option.some.inj H
 subst e_
 exact q_ret (vs := [.int .i64 0]) rfl (.tmp rfl .nil) [] rfl (by decide) (hX)
 replace H := ite_y (bnot_f h12_) H
 refine c_cond rfl rfl (fun h14_ => absurd (h14_.symm.trans h12_) (by decide)) (fun _ => ?_)
 refine c_skip rfl ?_
 refine q_seq ?_
 refine c_seq rfl ?_
 refine r_ord (l := [0, 1, 2, 3, 4, 5, 6, 7, 8, 9, 10, 11, 12, 13, 14]) rfl (by kernel_rfl) (by kernel_rfl) ?_
 refine s_v rfl rfl rfl rfl (v_fa rfl Tryz.underlying23 rfl SZ3 rfl) ?_
 refine s_v rfl rfl rfl rfl (v_ld 0 rfl Tryz.underlying3 rfl rfl rfl rfl) ?_
 refine s_v rfl rfl rfl rfl (v_fa rfl Tryz.underlying23 rfl SZ3 rfl) ?_
 refine s_v rfl rfl rfl rfl (v_ld 0 rfl Tryz.underlying3 rfl rfl rfl rfl) ?_
 refine s_v rfl rfl rfl rfl (v_arith rfl rfl rfl rfl) ?_
 refine s_v rfl rfl rfl rfl (v_arith rfl rfl rfl rfl) ?_
 refine s_v rfl rfl rfl rfl (v_fa rfl Tryz.underlying23 rfl SZ3 rfl) ?_
 refine s_v rfl rfl rfl rfl (v_ld 0 rfl Tryz.underlying3 rfl rfl rfl rfl) ?_
 refine s_v rfl rfl rfl rfl (v_arith rfl rfl rfl rfl) ?_
 refine s_v rfl rfl rfl rfl (v_fa rfl Tryz.underlying23 rfl SZ3 rfl) ?_
 refine s_v rfl rfl rfl rfl (v_ld 0 rfl Tryz.underlying3 rfl rfl rfl rfl) ?_
 refine s_v rfl rfl rfl rfl (v_arith rfl rfl rfl rfl) ?_
 refine s_v rfl rfl rfl rfl (v_arith rfl rfl rfl rfl) ?_
 refine s_v rfl rfl rfl rfl (v_arith rfl rfl rfl rfl) ?_
 refine s_v rfl rfl rfl rfl (v_assign rfl rfl) ?_
 refine s_end ?_
 refine q_seq ?_
 refine c_ret rfl ?_
 have e_ := Option.some.inj H
 subst e_
 exact q_ret (vs := [.int .i64 (IntKind.wrap .i64 ((IntKind.wrap .i64 (1 + (IntKind.wrap .i64 (a0_0 * a0_1)))) + (IntKind.wrap .i64 ((IntKind.wrap .i64 (a0_2 + 1)) * (IntKind.wrap .i64 (6 + a0_3))))))]) rfl (.tmp rfl .nil) [] rfl (by decide) (hX)
def stepstoneref04_Cell.f (a0_0 : Int) (a0_1 : Int) (a0_2 : Int) (a0_3 : Int) (a0_4 : Int) (a0_5 : Int) (a0_6 : Int) (a1 : Int) (a2 : Int) : Option Int := ((stepstoneref04_Right.f a0_0 a0_1 a0_2 a0_3 a0_4 a0_5 a0_6).bind fun t37_ => (if t37_ = true then (if (a1 : Int) < 0 then some true else (if (a1 : Int) > a0_2 then some true else (if (a2 : Int) < 0 then some true else some (decide ((a2 : Int) ≥ (IntKind.wrap .i64 (6 + a0_3))))))) else some true) : Option Bool).bind fun j34_ => (if j34_ = true then some (-1) else some (IntKind.wrap .i64 ((IntKind.wrap .i64 ((IntKind.wrap .i64 (1 + (IntKind.wrap .i64 (a0_0 * a0_1)))) + (IntKind.wrap .i64 (a1 * (IntKind.wrap .i64 (6 + a0_3)))))) + a2)))
set_option maxRecDepth 100000 in
set_option maxHeartbeats 4000000 in
theorem stepstoneref04_Cell_con (a0_0 : Int) (a0_1 : Int) (a0_2 : Int) (a0_3 : Int) (a0_4 : Int) (a0_5 : Int) (a0_6 : Int) (a1 : Int) (a2 : Int) (r0 : Int) (h : stepstoneref04_Cell.f a0_0 a0_1 a0_2 a0_3 a0_4 a0_5 a0_6 a1 a2 = some r0) (w0 : World) (Hs : List Nat) : Con Tryz.prog 38 #[.agg #[.int .i64 a0_0, .int .i64 a0_1, .int .i64 a0_2, .int .i64 a0_3, .int .i64 a0_4, .int .i64 a0_5, .int .i64 a0_6], .int .i64 a1, .int .i64 a2] w0 Hs [] (fun X => X (.int .i64 r0) []) := by
 refine con_enter (c := bodyOf Tryz.f38) Tryz.func38 rfl (m := 45) rfl rfl rfl ?_
 intro X hX _
 have H := h
 unfold stepstoneref04_Cell.f at H
 clear h
 refine c_seq rfl ?_
 refine r_ord (l := [0, 1]) rfl (by kernel_rfl) (by kernel_rfl) ?_
 refine s_e rfl rfl (e_box rfl rfl rfl rfl) ?_
 intro b2_
 refine s_v rfl rfl rfl rfl (v_assign rfl rfl) ?_
 refine s_end ?_
 refine q_seq ?_
 refine c_seq rfl ?_
 obtain ⟨j34_, e35_, H⟩ := bind_s H
 refine c_join (β := Unit) (fun _ => True) (fun _ => [(1, .int .i64 a1), (2, .int .i64 a2), (3, .pointer (some ⟨b2_, 0, none⟩)), (6, .int .i64 0), (30, .bool j34_)]) (fun _ => [.b b2_ (.cells #[.int .i64 a0_0, .int .i64 a0_1, .int .i64 a0_2, .int .i64 a0_3, .int .i64 a0_4, .int .i64 a0_5, .int .i64 a0_6] 23 (0, 0))]) rfl (fun _ _ => ?_) (fun J_ => ?_)
 rcases Bool.eq_false_or_eq_true j34_ with h36_ | h36_
 subst h36_
 replace H := ite_y rfl H
 refine c_cond1 rfl rfl ?_
 refine c_seq rfl ?_
 refine r_ord (l := [0]) rfl (by kernel_rfl) (by kernel_rfl) ?_
 refine s_v rfl rfl rfl rfl (v_assign rfl rfl) ?_
 refine s_end ?_
 refine q_seq ?_
 refine c_ret rfl ?_
 refine q_then_ret ?_
 have e_ := Option.some.inj H
 subst e_
 exact q_ret (vs := [.int .i64 (-1)]) rfl (.tmp rfl .nil) [] rfl (by decide) (hX)
 subst h36_
 replace H := ite_n (by decide) H
 refine c_cond0 rfl rfl ?_
 refine c_skip rfl ?_
 refine q_seq ?_
 refine c_seq rfl ?_
 refine r_ord (l := [0, 1, 2, 3, 4, 5, 6, 7, 8, 9, 10, 11, 12, 13, 14]) rfl (by kernel_rfl) (by kernel_rfl) ?_
 refine s_v rfl rfl rfl rfl (v_fa rfl Tryz.underlying23 rfl SZ3 rfl) ?_
 refine s_v rfl rfl rfl rfl (v_ld 0 rfl Tryz.underlying3 rfl rfl rfl rfl) ?_
 refine s_v rfl rfl rfl rfl (v_fa rfl Tryz.underlying23 rfl SZ3 rfl) ?_
 refine s_v rfl rfl rfl rfl (v_ld 0 rfl Tryz.underlying3 rfl rfl rfl rfl) ?_
 refine s_v rfl rfl rfl rfl (v_arith rfl rfl rfl rfl) ?_
 refine s_v rfl rfl rfl rfl (v_arith rfl rfl rfl rfl) ?_
 refine s_v rfl rfl rfl rfl (v_move rfl rfl) ?_
 refine s_v rfl rfl rfl rfl (v_fa rfl Tryz.underlying23 rfl SZ3 rfl) ?_
 refine s_v rfl rfl rfl rfl (v_ld 0 rfl Tryz.underlying3 rfl rfl rfl rfl) ?_
 refine s_v rfl rfl rfl rfl (v_arith rfl rfl rfl rfl) ?_
 refine s_v rfl rfl rfl rfl (v_arith rfl rfl rfl rfl) ?_
 refine s_v rfl rfl rfl rfl (v_arith rfl rfl rfl rfl) ?_
 refine s_v rfl rfl rfl rfl (v_move rfl rfl) ?_
 refine s_v rfl rfl rfl rfl (v_arith rfl rfl rfl rfl) ?_
 refine s_v rfl rfl rfl rfl (v_assign rfl rfl) ?_
 refine s_end ?_
 refine q_seq ?_
 refine c_ret rfl ?_
 have e_ := Option.some.inj H
 subst e_
 exact q_ret (vs := [.int .i64 (IntKind.wrap .i64 ((IntKind.wrap .i64 ((IntKind.wrap .i64 (1 + (IntKind.wrap .i64 (a0_0 * a0_1)))) + (IntKind.wrap .i64 (a1 * (IntKind.wrap .i64 (6 + a0_3)))))) + a2))]) rfl (.tmp rfl .nil) [] rfl (by decide) (hX)
 clear H
 have H := e35_
 clear e35_
 refine r_ord (l := [0, 1, 2, 3, 4, 5, 6, 7, 8, 9, 10, 11, 12, 13, 14, 15, 16, 17, 18, 19, 20, 21, 22, 23]) rfl (by kernel_rfl) (by kernel_rfl) ?_
 refine s_v rfl rfl rfl rfl (v_ldA [.int .i64 a0_0, .int .i64 a0_1, .int .i64 a0_2, .int .i64 a0_3, .int .i64 a0_4, .int .i64 a0_5, .int .i64 a0_6] 0 rfl Tryz.underlying23 rfl SZ23 rfl rfl rfl rfl) ?_
 obtain ⟨t37_, e38_, H⟩ := bind_s H
 refine s_e rfl rfl (e_callF [] #[.agg #[.int .i64 a0_0, .int .i64 a0_1, .int .i64 a0_2, .int .i64 a0_3, .int .i64 a0_4, .int .i64 a0_5, .int .i64 a0_6]] rfl rfl rfl rfl rfl Tryz.func17 rfl (by decide) rfl rfl rfl rfl (fun w ht => stepstoneref04_Right_con a0_0 a0_1 a0_2 a0_3 a0_4 a0_5 a0_6 t37_ e38_ w _)) ?_
 refine s_v rfl rfl rfl rfl (v_not rfl rfl) ?_
 refine s_v rfl rfl rfl rfl (v_move rfl rfl) ?_
 rcases Bool.eq_false_or_eq_true (!t37_) with h39_ | h39_
 replace H := ite_n (not_t (bnot_t h39_)) H
 refine s_splitv (d := 10) (t := !t37_) rfl (fun _ => ?_) (fun h40_ => absurd (h40_.symm.trans h39_) (by decide))
 refine s_no rfl rfl rfl rfl ?_
 refine s_no rfl rfl rfl rfl ?_
 refine s_v rfl rfl rfl rfl (v_pick rfl rfl rfl rfl) ?_
 refine s_v rfl rfl rfl rfl (v_move rfl rfl) ?_
 refine s_no rfl rfl rfl rfl ?_
 refine s_no rfl rfl rfl rfl ?_
 refine s_no rfl rfl rfl rfl ?_
 refine s_no rfl rfl rfl rfl ?_
 refine s_v rfl rfl rfl rfl (v_pick rfl rfl rfl rfl) ?_
 refine s_v rfl rfl rfl rfl (v_move rfl rfl) ?_
 refine s_no rfl rfl rfl rfl ?_
 refine s_no rfl rfl rfl rfl ?_
 refine s_v rfl rfl rfl rfl (v_pick rfl rfl rfl rfl) ?_
 refine s_v rfl rfl rfl rfl (v_move rfl rfl) ?_
 refine s_no rfl rfl rfl rfl ?_
 refine s_no rfl rfl rfl rfl ?_
 refine s_no rfl rfl rfl rfl ?_
 refine s_no rfl rfl rfl rfl ?_
 refine s_no rfl rfl rfl rfl ?_
 refine s_v rfl rfl rfl rfl (v_pick rfl rfl rfl rfl) ?_
 refine s_end ?_
 have hq_0 := Option.some.inj H
 subst hq_0
 exact q_seq (c_frame (subF_spec (by exact ⟨rfl, rfl, rfl, rfl, rfl, trivial⟩)) (c_take [0] rfl (by decide) (J_ () trivial)))
 replace H := ite_y (bnot_f h39_) H
 refine s_splitv (d := 10) (t := !t37_) rfl (fun h41_ => absurd (h41_.symm.trans h39_) (by decide)) (fun _ => ?_)
 refine s_vg rfl rfl rfl rfl (v_move rfl rfl) ?_
 refine s_vg rfl rfl rfl rfl (v_arith rfl rfl rfl rfl) ?_
 refine s_v rfl rfl rfl rfl (v_pick rfl rfl rfl rfl) ?_
 refine s_v rfl rfl rfl rfl (v_move rfl rfl) ?_
 rcases Bool.eq_false_or_eq_true (decide ((a1 : Int) < 0)) with h42_ | h42_
 replace H := ite_y (dec_t h42_) H
 refine s_splitv (d := 14) (t := decide ((a1 : Int) < 0)) rfl (fun _ => ?_) (fun h43_ => absurd (h43_.symm.trans h42_) (by decide))
 refine s_no rfl rfl rfl rfl ?_
 refine s_no rfl rfl rfl rfl ?_
 refine s_no rfl rfl rfl rfl ?_
 refine s_no rfl rfl rfl rfl ?_
 refine s_v rfl rfl rfl rfl (v_pick rfl rfl rfl rfl) ?_
 refine s_v rfl rfl rfl rfl (v_move rfl rfl) ?_
 refine s_no rfl rfl rfl rfl ?_
 refine s_no rfl rfl rfl rfl ?_
 refine s_v rfl rfl rfl rfl (v_pick rfl rfl rfl rfl) ?_
 refine s_v rfl rfl rfl rfl (v_move rfl rfl) ?_
 refine s_no rfl rfl rfl rfl ?_
 refine s_no rfl rfl rfl rfl ?_
 refine s_no rfl rfl rfl rfl ?_
 refine s_no rfl rfl rfl rfl ?_
 refine s_no rfl rfl rfl rfl ?_
 refine s_v rfl rfl rfl rfl (v_pick rfl rfl rfl rfl) ?_
 refine s_end ?_
 have hq_0 := Option.some.inj H
 subst hq_0
 exact q_seq (c_frame (subF_spec (by exact ⟨rfl, rfl, rfl, rfl, rfl, trivial⟩)) (c_take [0] rfl (by decide) (J_ () trivial)))
 replace H := ite_n (dec_f h42_) H
 refine s_splitv (d := 14) (t := decide ((a1 : Int) < 0)) rfl (fun h44_ => absurd (h44_.symm.trans h42_) (by decide)) (fun _ => ?_)
 refine s_vg rfl rfl rfl rfl (v_move rfl rfl) ?_
 refine s_vg rfl rfl rfl rfl (v_fa rfl Tryz.underlying23 rfl SZ3 rfl) ?_
 refine s_vg rfl rfl rfl rfl (v_ld 0 rfl Tryz.underlying3 rfl rfl rfl rfl) ?_
 refine s_vg rfl rfl rfl rfl (v_arith rfl rfl rfl rfl) ?_
 refine s_v rfl rfl rfl rfl (v_pick rfl rfl rfl rfl) ?_
 refine s_v rfl rfl rfl rfl (v_move rfl rfl) ?_
 rcases Bool.eq_false_or_eq_true (decide ((a1 : Int) > a0_2)) with h45_ | h45_
 replace H := ite_y (dec_t h45_) H
 refine s_splitv (d := 20) (t := decide ((a1 : Int) > a0_2)) rfl (fun _ => ?_) (fun h46_ => absurd (h46_.symm.trans h45_) (by decide))
 refine s_no rfl rfl rfl rfl ?_
 refine s_no rfl rfl rfl rfl ?_
 refine s_v rfl rfl rfl rfl (v_pick rfl rfl rfl rfl) ?_
 refine s_v rfl rfl rfl rfl (v_move rfl rfl) ?_
 refine s_no rfl rfl rfl rfl ?_
 refine s_no rfl rfl rfl rfl ?_
 refine s_no rfl rfl rfl rfl ?_
 refine s_no rfl rfl rfl rfl ?_
 refine s_no rfl rfl rfl rfl ?_
 refine s_v rfl rfl rfl rfl (v_pick rfl rfl rfl rfl) ?_
 refine s_end ?_
 have hq_0 := Option.some.inj H
 subst hq_0
 exact q_seq (c_frame (subF_spec (by exact ⟨rfl, rfl, rfl, rfl, rfl, trivial⟩)) (c_take [0] rfl (by decide) (J_ () trivial)))
 replace H := ite_n (dec_f h45_) H
 refine s_splitv (d := 20) (t := decide ((a1 : Int) > a0_2)) rfl (fun h47_ => absurd (h47_.symm.trans h45_) (by decide)) (fun _ => ?_)
 refine s_vg rfl rfl rfl rfl (v_move rfl rfl) ?_
 refine s_vg rfl rfl rfl rfl (v_arith rfl rfl rfl rfl) ?_
 refine s_v rfl rfl rfl rfl (v_pick rfl rfl rfl rfl) ?_
 refine s_v rfl rfl rfl rfl (v_move rfl rfl) ?_
 rcases Bool.eq_false_or_eq_true (decide ((a2 : Int) < 0)) with h48_ | h48_
 replace H := ite_y (dec_t h48_) H
 refine s_splitv (d := 24) (t := decide ((a2 : Int) < 0)) rfl (fun _ => ?_) (fun h49_ => absurd (h49_.symm.trans h48_) (by decide))
 refine s_no rfl rfl rfl rfl ?_
 refine s_no rfl rfl rfl rfl ?_
 refine s_no rfl rfl rfl rfl ?_
 refine s_no rfl rfl rfl rfl ?_
 refine s_no rfl rfl rfl rfl ?_
 refine s_v rfl rfl rfl rfl (v_pick rfl rfl rfl rfl) ?_
 refine s_end ?_
 have hq_0 := Option.some.inj H
 subst hq_0
 exact q_seq (c_frame (subF_spec (by exact ⟨rfl, rfl, rfl, rfl, rfl, trivial⟩)) (c_take [0] rfl (by decide) (J_ () trivial)))
 replace H := ite_n (dec_f h48_) H
 refine s_splitv (d := 24) (t := decide ((a2 : Int) < 0)) rfl (fun h50_ => absurd (h50_.symm.trans h48_) (by decide)) (fun _ => ?_)
 refine s_vg rfl rfl rfl rfl (v_move rfl rfl) ?_
 refine s_vg rfl rfl rfl rfl (v_fa rfl Tryz.underlying23 rfl SZ3 rfl) ?_
 refine s_vg rfl rfl rfl rfl (v_ld 0 rfl Tryz.underlying3 rfl rfl rfl rfl) ?_
 refine s_vg rfl rfl rfl rfl (v_arith rfl rfl rfl rfl) ?_
 refine s_vg rfl rfl rfl rfl (v_arith rfl rfl rfl rfl) ?_
 refine s_v rfl rfl rfl rfl (v_pick rfl rfl rfl rfl) ?_
 refine s_end ?_
 have hq_0 := Option.some.inj H
 subst hq_0
 exact q_seq (c_frame (subF_spec (by exact ⟨rfl, rfl, rfl, rfl, rfl, trivial⟩)) (c_take [0] rfl (by decide) (J_ () trivial)))
def stepstoneref02_State.f (a0 : Int) : Option Int := some (IntKind.wrap .i64 (Int.tmod a0 4))
set_option maxRecDepth 100000 in
set_option maxHeartbeats 4000000 in
theorem stepstoneref02_State_con (a0 : Int) (r0 : Int) (h : stepstoneref02_State.f a0 = some r0) (w0 : World) (Hs : List Nat) : Con Tryz.prog 37 #[.int .u64 a0] w0 Hs [] (fun X => X (.int .i64 r0) []) := by
  refine con_enter (c := bodyOf Tryz.f37) Tryz.func37 rfl (m := 6) rfl rfl rfl ?_
  intro X hX _
  have H := h
  unfold stepstoneref02_State.f at H
  clear h
  refine c_seq rfl ?_
  refine r_ord (l := [0]) rfl (by kernel_rfl) (by kernel_rfl) ?_
  refine s_v rfl rfl rfl rfl (v_assign rfl rfl) ?_
  refine s_end ?_
  refine q_seq ?_
  refine c_seq rfl ?_
  refine r_ord (l := [0, 1, 2, 3]) rfl (by kernel_rfl) (by kernel_rfl) ?_
  refine s_v rfl rfl rfl rfl (v_move rfl rfl) ?_
  refine s_v rfl rfl rfl rfl (v_rem rfl rfl rfl (by decide)) ?_
  refine s_v rfl rfl rfl rfl (v_conv rfl Tryz.underlying41 Tryz.underlying3 rfl) ?_
  refine s_v rfl rfl rfl rfl (v_assign rfl rfl) ?_
  refine s_end ?_
  refine q_seq ?_
  refine c_ret rfl ?_
  have e_ := Option.some.inj H
  subst e_
  exact q_ret (vs := [.int .i64 (IntKind.wrap .i64 (Int.tmod a0 4))]) rfl (.tmp rfl .nil) [] rfl (by decide) (hX)
def stepstoneref23_states.l0 : Nat → Int → Int → Int → Int → Int → Int → Int → List Int → Int → Int → Int → Option Int
  | 0, _, _, _, _, _, _, _, _, _, _, _ => none
  | k + 1, a0_0, a0_1, a0_2, a0_3, a0_4, a0_5, a0_6, l1, a2, x15_, x16_ => (if (x16_ : Int) ≤ a0_2 then (stepstoneref04_Cell.f a0_0 a0_1 a0_2 a0_3 a0_4 a0_5 a0_6 x16_ 0).bind fun t50_ => (if 0 ≤ (t50_ : Int) then (if (t50_ : Int) < (l1.length : Int) then (stepstoneref02_State.f (rd l1 t50_)).bind fun t54_ => (if (t54_ : Int) = a2 then stepstoneref23_states.l0 k a0_0 a0_1 a0_2 a0_3 a0_4 a0_5 a0_6 l1 a2 (IntKind.wrap .i64 (x15_ + 1)) (IntKind.wrap .i64 (x16_ + 1)) else stepstoneref23_states.l0 k a0_0 a0_1 a0_2 a0_3 a0_4 a0_5 a0_6 l1 a2 x15_ (IntKind.wrap .i64 (x16_ + 1))) else none) else none) else some x15_)
def stepstoneref23_states.f (k : Nat) (a0_0 : Int) (a0_1 : Int) (a0_2 : Int) (a0_3 : Int) (a0_4 : Int) (a0_5 : Int) (a0_6 : Int) (l1 : List Int) (a2 : Int) : Option Int := stepstoneref23_states.l0 k a0_0 a0_1 a0_2 a0_3 a0_4 a0_5 a0_6 l1 a2 0 1
set_option maxRecDepth 100000 in
set_option maxHeartbeats 4000000 in
theorem stepstoneref23_states_con (k : Nat) (a0_0 : Int) (a0_1 : Int) (a0_2 : Int) (a0_3 : Int) (a0_4 : Int) (a0_5 : Int) (a0_6 : Int) (A1 : Option Addr) (c1 : Nat) (l1 : List Int) (a2 : Int) (r0 : Int) (h : stepstoneref23_states.f k a0_0 a0_1 a0_2 a0_3 a0_4 a0_5 a0_6 l1 a2 = some r0) (w0 : World) (Hs : List Nat) : Con Tryz.prog 19 #[.agg #[.int .i64 a0_0, .int .i64 a0_1, .int .i64 a0_2, .int .i64 a0_3, .int .i64 a0_4, .int .i64 a0_5, .int .i64 a0_6], .slice A1 l1.length c1, .int .i64 a2] w0 Hs [.f (KC (Kd.int .u64) A1 c1 l1)] (fun X => X (.int .i64 r0) []) := by
  refine con_enter (c := bodyOf Tryz.f19) Tryz.func19 rfl (m := 27) rfl rfl rfl ?_
  intro X hX _
  have H := h
  unfold stepstoneref23_states.f at H
  clear h
  refine c_seq rfl ?_
  refine r_ord (l := [0, 1]) rfl (by kernel_rfl) (by kernel_rfl) ?_
  refine s_e rfl rfl (e_box rfl rfl rfl rfl) ?_
  intro b2_
  refine s_v rfl rfl rfl rfl (v_assign rfl rfl) ?_
  refine s_end ?_
  refine q_seq ?_
  refine c_seq rfl ?_
  refine r_ord (l := [0]) rfl (by kernel_rfl) (by kernel_rfl) ?_
  refine s_v rfl rfl rfl rfl (v_assign rfl rfl) ?_
  refine s_end ?_
  refine q_seq ?_
  refine c_seq rfl ?_
  refine c_seq rfl ?_
  refine r_ord (l := [0]) rfl (by kernel_rfl) (by kernel_rfl) ?_
  refine s_v rfl rfl rfl rfl (v_assign rfl rfl) ?_
  refine s_end ?_
  refine q_seq ?_
  refine c_block rfl ?_
  refine c_loop (σ := Nat × Int × Int) (fun s_ : Nat × Int × Int => match s_ with | (k, x15_, x16_) => stepstoneref23_states.l0 k a0_0 a0_1 a0_2 a0_3 a0_4 a0_5 a0_6 l1 a2 x15_ x16_ = some r0) (fun s_ : Nat × Int × Int => match s_ with | (k, x15_, x16_) => k) (fun s_ : Nat × Int × Int => match s_ with | (k, x15_, x16_) => [(1, .slice A1 l1.length c1), (2, .int .i64 a2), (3, .pointer (some ⟨b2_, 0, none⟩)), (6, .int .i64 0), (7, .int .i64 x15_), (8, .int .i64 x16_)]) (fun s_ : Nat × Int × Int => match s_ with | (k, x15_, x16_) => [.b b2_ (.cells #[.int .i64 a0_0, .int .i64 a0_1, .int .i64 a0_2, .int .i64 a0_3, .int .i64 a0_4, .int .i64 a0_5, .int .i64 a0_6] 23 (0, 0)), .f (KC (Kd.int .u64) A1 c1 l1)]) (k, 0, 1) [0, 1] rfl H (subF_spec ⟨rfl, rfl, rfl, rfl, rfl, rfl, trivial⟩) rfl (by decide) ?_
  rintro ⟨k, x15_, x16_⟩ hs29_
  clear H
  have H : stepstoneref23_states.l0 k a0_0 a0_1 a0_2 a0_3 a0_4 a0_5 a0_6 l1 a2 x15_ x16_ = some r0 := hs29_
  try clear hs29_
  rcases k with _ | k
  · exact none_no (show none = _ from H)
  unfold stepstoneref23_states.l0 at H
  refine c_seq rfl ?_
  refine c_seq rfl ?_
  refine r_ord (l := [0, 1, 2, 3]) rfl (by kernel_rfl) (by kernel_rfl) ?_
  refine s_v rfl rfl rfl rfl (v_move rfl rfl) ?_
  refine s_v rfl rfl rfl rfl (v_fa rfl Tryz.underlying23 rfl SZ3 rfl) ?_
  refine s_v rfl rfl rfl rfl (v_ld 0 rfl Tryz.underlying3 rfl rfl rfl rfl) ?_
  refine s_v rfl rfl rfl rfl (v_arith rfl rfl rfl rfl) ?_
  refine s_end ?_
  refine q_seq ?_
  rcases Bool.eq_false_or_eq_true (decide ((x16_ : Int) ≤ a0_2)) with h33_ | h33_
  ·
    replace H := ite_y (dec_t h33_) H
    refine c_cond rfl rfl (fun _ => ?_) (fun h34_ => absurd (h34_.symm.trans h33_) (by decide))
    refine c_skip rfl ?_
    refine q_seq ?_
    refine c_seq rfl ?_
    refine c_block rfl ?_
    refine c_seq rfl ?_
    refine r_ord (l := [0, 1, 2, 3, 4, 5, 6, 7, 8]) rfl (by kernel_rfl) (by kernel_rfl) ?_
    refine s_v rfl rfl rfl rfl (v_move rfl rfl) ?_
    refine s_v rfl rfl rfl rfl (v_ldA [.int .i64 a0_0, .int .i64 a0_1, .int .i64 a0_2, .int .i64 a0_3, .int .i64 a0_4, .int .i64 a0_5, .int .i64 a0_6] 0 rfl Tryz.underlying23 rfl SZ23 rfl rfl rfl rfl) ?_
    refine s_v rfl rfl rfl rfl (v_move rfl rfl) ?_
    obtain ⟨t50_, e51_, H⟩ := bind_s H
    refine s_e rfl rfl (e_callF [] #[.agg #[.int .i64 a0_0, .int .i64 a0_1, .int .i64 a0_2, .int .i64 a0_3, .int .i64 a0_4, .int .i64 a0_5, .int .i64 a0_6], .int .i64 x16_, .int .i64 0] rfl rfl rfl rfl rfl Tryz.func38 rfl (by decide) rfl rfl rfl rfl (fun w ht => stepstoneref04_Cell_con a0_0 a0_1 a0_2 a0_3 a0_4 a0_5 a0_6 x16_ 0 t50_ e51_ w _)) ?_
    obtain ⟨n52_, H⟩ := ite_no H
    obtain ⟨n53_, H⟩ := ite_no H
    refine s_v rfl rfl rfl rfl (v_iaK (i := 1) rfl Tryz.underlying24 SZ41 rfl rfl rfl rfl n52_ n53_) ?_
    refine s_v rfl rfl rfl rfl (v_ldK (v := .int .u64 (rd l1 t50_)) 0 1 rfl Tryz.underlying41 rfl rfl rfl rfl n52_ n53_ (fun w K h => h)) ?_
    obtain ⟨t54_, e55_, H⟩ := bind_s H
    refine s_e rfl rfl (e_callF [] #[.int .u64 (rd l1 t50_)] rfl rfl rfl rfl rfl Tryz.func37 rfl (by decide) rfl rfl rfl rfl (fun w ht => stepstoneref02_State_con (rd l1 t50_) t54_ e55_ w _)) ?_
    refine s_v rfl rfl rfl rfl (v_move rfl rfl) ?_
    refine s_v rfl rfl rfl rfl (v_arith rfl rfl rfl rfl) ?_
    refine s_end ?_
    refine q_seq ?_
    rcases Bool.eq_false_or_eq_true ((t54_ : Int) == a2) with h56_ | h56_
    ·
      replace H := ite_y (ibeq_t h56_) H
      refine c_cond rfl rfl (fun _ => ?_) (fun h57_ => absurd (h57_.symm.trans h56_) (by decide))
      refine r_ord (l := [0, 1, 2]) rfl (by kernel_rfl) (by kernel_rfl) ?_
      refine s_v rfl rfl rfl rfl (v_move rfl rfl) ?_
      refine s_v rfl rfl rfl rfl (v_arith rfl rfl rfl rfl) ?_
      refine s_v rfl rfl rfl rfl (v_assign rfl rfl) ?_
      refine s_end ?_
      refine q_block ?_
      refine q_seq ?_
      refine r_ord (l := [0, 1, 2]) rfl (by kernel_rfl) (by kernel_rfl) ?_
      refine s_v rfl rfl rfl rfl (v_move rfl rfl) ?_
      refine s_v rfl rfl rfl rfl (v_arith rfl rfl rfl rfl) ?_
      refine s_v rfl rfl rfl rfl (v_assign rfl rfl) ?_
      refine s_end ?_
      exact q_again (k, IntKind.wrap .i64 (x15_ + 1), IntKind.wrap .i64 (x16_ + 1)) [0, 1] H (Nat.lt_succ_self _) (subF_spec ⟨rfl, rfl, rfl, rfl, rfl, rfl, trivial⟩) rfl (by decide)
    ·
      replace H := ite_n (ibeq_f h56_) H
      refine c_cond rfl rfl (fun h58_ => absurd (h58_.symm.trans h56_) (by decide)) (fun _ => ?_)
      refine c_skip rfl ?_
      refine q_block ?_
      refine q_seq ?_
      refine r_ord (l := [0, 1, 2]) rfl (by kernel_rfl) (by kernel_rfl) ?_
      refine s_v rfl rfl rfl rfl (v_move rfl rfl) ?_
      refine s_v rfl rfl rfl rfl (v_arith rfl rfl rfl rfl) ?_
      refine s_v rfl rfl rfl rfl (v_assign rfl rfl) ?_
      refine s_end ?_
      exact q_again (k, x15_, IntKind.wrap .i64 (x16_ + 1)) [0, 1] H (Nat.lt_succ_self _) (subF_spec ⟨rfl, rfl, rfl, rfl, rfl, rfl, trivial⟩) rfl (by decide)
  ·
    replace H := ite_n (dec_f h33_) H
    refine c_cond rfl rfl (fun h59_ => absurd (h59_.symm.trans h33_) (by decide)) (fun _ => ?_)
    refine c_exit (i := 0) rfl rfl ?_
    refine q_then_exit ?_
    refine q_then_exit ?_
    refine q_block_here rfl ?_
    refine q_seq ?_
    refine c_seq rfl ?_
    refine r_ord (l := [0, 1]) rfl (by kernel_rfl) (by kernel_rfl) ?_
    refine s_v rfl rfl rfl rfl (v_move rfl rfl) ?_
    refine s_v rfl rfl rfl rfl (v_assign rfl rfl) ?_
    refine s_end ?_
    refine q_seq ?_
    refine c_ret rfl ?_
    have e_ := Option.some.inj H
    subst e_
    exact q_ret (vs := [.int .i64 x15_]) rfl (.tmp rfl .nil) [] rfl (by decide) (hX)
def stepstoneref23_Of.f (k : Nat) (a0_0 : Int) (a0_1 : Int) (a0_2 : Int) (a0_3 : Int) (a0_4 : Int) (a0_5 : Int) (a0_6 : Int) (l1 : List Int) (a2 : Int) : Option (Int × Int × Int × Int) := ((stepstoneref04_Right.f a0_0 a0_1 a0_2 a0_3 a0_4 a0_5 a0_6).bind fun t37_ => (if t37_ = true then (stepstoneref04_Len.f a0_0 a0_1 a0_2 a0_3 a0_4 a0_5 a0_6).bind fun t42_ => some (((l1.length : Int) : Int) != t42_) else some true) : Option Bool).bind fun j22_ => (if j22_ = true then some (0, 0, 0, 0) else (stepstoneref23_states.f k a0_0 a0_1 a0_2 a0_3 a0_4 a0_5 a0_6 l1 1).bind fun t31_ => (stepstoneref23_states.f k a0_0 a0_1 a0_2 a0_3 a0_4 a0_5 a0_6 l1 0).bind fun t33_ => (stepstoneref23_states.f k a0_0 a0_1 a0_2 a0_3 a0_4 a0_5 a0_6 l1 2).bind fun t35_ => some (IntKind.wrap .i64 (t31_ - a2), a2, t33_, t35_))
set_option maxRecDepth 100000 in
set_option maxHeartbeats 4000000 in
theorem stepstoneref23_Of_con (k : Nat) (a0_0 : Int) (a0_1 : Int) (a0_2 : Int) (a0_3 : Int) (a0_4 : Int) (a0_5 : Int) (a0_6 : Int) (A1 : Option Addr) (c1 : Nat) (l1 : List Int) (a2 : Int) (r0 : Int) (r1 : Int) (r2 : Int) (r3 : Int) (h : stepstoneref23_Of.f k a0_0 a0_1 a0_2 a0_3 a0_4 a0_5 a0_6 l1 a2 = some (r0, r1, r2, r3)) (w0 : World) (Hs : List Nat) : Con Tryz.prog 5 #[.agg #[.int .i64 a0_0, .int .i64 a0_1, .int .i64 a0_2, .int .i64 a0_3, .int .i64 a0_4, .int .i64 a0_5, .int .i64 a0_6], .slice A1 l1.length c1, .int .i64 a2] w0 Hs [.f (KC (Kd.int .u64) A1 c1 l1)] (fun X => X (.agg #[.int .i64 r0, .int .i64 r1, .int .i64 r2, .int .i64 r3]) []) := by
 refine con_enter (c := bodyOf Tryz.f5) Tryz.func5 rfl (m := 31) rfl rfl rfl ?_
 intro X hX _
 have H := h
 unfold stepstoneref23_Of.f at H
 clear h
 refine c_seq rfl ?_
 refine r_ord (l := [0, 1]) rfl (by kernel_rfl) (by kernel_rfl) ?_
 refine s_e rfl rfl (e_box rfl rfl rfl rfl) ?_
 intro b3_
 refine s_e rfl rfl (e_alloc rfl rfl rfl ZR30) ?_
 intro b4_
 refine s_end ?_
 refine q_seq ?_
 refine c_seq rfl ?_
 obtain ⟨j22_, e23_, H⟩ := bind_s H
 refine c_join (β := Unit) (fun _ => True) (fun _ => [(1, .slice A1 l1.length c1), (2, .int .i64 a2), (3, .pointer (some ⟨b3_, 0, none⟩)), (6, .pointer (some ⟨b4_, 0, none⟩)), (16, .bool j22_)]) (fun _ => [.b b4_ (.cells #[.int .i64 0, .int .i64 0, .int .i64 0, .int .i64 0] 30 (0, 0)), .b b3_ (.cells #[.int .i64 a0_0, .int .i64 a0_1, .int .i64 a0_2, .int .i64 a0_3, .int .i64 a0_4, .int .i64 a0_5, .int .i64 a0_6] 23 (0, 0)), .f (KC (Kd.int .u64) A1 c1 l1)]) rfl (fun _ _ => ?_) (fun J_ => ?_)
 rcases Bool.eq_false_or_eq_true j22_ with h24_ | h24_
 subst h24_
 replace H := ite_y rfl H
 refine c_cond1 rfl rfl ?_
 refine c_seq rfl ?_
 refine r_ord (l := [0, 1]) rfl (by kernel_rfl) (by kernel_rfl) ?_
 refine s_v rfl rfl rfl rfl (v_build (places := #[(0, 1), (1, 1), (2, 1), (3, 1)]) #[.int .i64 0, .int .i64 0, .int .i64 0, .int .i64 0] rfl ZR30 Tryz.underlying30 (by kernel_rfl) rfl (by kernel_rfl)) ?_
 refine s_e rfl rfl (e_stA 0 rfl rfl SZ30 rfl rfl rfl rfl rfl rfl) ?_
 refine s_end ?_
 refine q_seq ?_
 refine c_ret rfl ?_
 refine q_then_ret ?_
 have hq_0 := Option.some.inj H
 obtain ⟨ee_0, hq_1⟩ := Prod.mk.inj hq_0
 obtain ⟨ee_1, hq_2⟩ := Prod.mk.inj hq_1
 obtain ⟨ee_2, hq_3⟩ := Prod.mk.inj hq_2
 subst ee_0
 subst ee_1
 subst ee_2
 subst hq_3
 exact q_ret (vs := [.agg #[.int .i64 0, .int .i64 0, .int .i64 0, .int .i64 0]]) rfl (.agg [.int .i64 0, .int .i64 0, .int .i64 0, .int .i64 0] 0 rfl Tryz.underlying30 rfl SZ30 rfl rfl rfl .nil) [] rfl (by decide) (hX)
 subst h24_
 replace H := ite_n (by decide) H
 refine c_cond0 rfl rfl ?_
 refine c_skip rfl ?_
 refine q_seq ?_
 refine c_seq rfl ?_
 obtain ⟨t31_, e32_, H⟩ := bind_s H
 obtain ⟨t33_, e34_, H⟩ := bind_s H
 obtain ⟨t35_, e36_, H⟩ := bind_s H
 refine r_any [.b b3_ (.cells #[.int .i64 a0_0, .int .i64 a0_1, .int .i64 a0_2, .int .i64 a0_3, .int .i64 a0_4, .int .i64 a0_5, .int .i64 a0_6] 23 (0, 0)), .f (KC (Kd.int .u64) A1 c1 l1)] (by kernel_rfl) rfl (by kernel_rfl) (mem_pick (idx := [1, 2]) rfl) ?_
 refine a_v 0 rfl (by kernel_rfl) (by kernel_rfl) (by kernel_rfl) rfl rfl rfl (v_ldA [.int .i64 a0_0, .int .i64 a0_1, .int .i64 a0_2, .int .i64 a0_3, .int .i64 a0_4, .int .i64 a0_5, .int .i64 a0_6] 0 rfl Tryz.underlying23 rfl SZ23 rfl rfl rfl rfl) ?_
 refine a_v 1 rfl (by kernel_rfl) (by kernel_rfl) (by kernel_rfl) rfl rfl rfl (v_move rfl rfl) ?_
 refine a_v 3 rfl (by kernel_rfl) (by kernel_rfl) (by kernel_rfl) rfl rfl rfl (v_move rfl rfl) ?_
 refine a_v 5 rfl (by kernel_rfl) (by kernel_rfl) (by kernel_rfl) rfl rfl rfl (v_move rfl rfl) ?_
 refine a_v 6 rfl (by kernel_rfl) (by kernel_rfl) (by kernel_rfl) rfl rfl rfl (v_ldA [.int .i64 a0_0, .int .i64 a0_1, .int .i64 a0_2, .int .i64 a0_3, .int .i64 a0_4, .int .i64 a0_5, .int .i64 a0_6] 0 rfl Tryz.underlying23 rfl SZ23 rfl rfl rfl rfl) ?_
 refine a_v 7 rfl (by kernel_rfl) (by kernel_rfl) (by kernel_rfl) rfl rfl rfl (v_move rfl rfl) ?_
 refine a_v 9 rfl (by kernel_rfl) (by kernel_rfl) (by kernel_rfl) rfl rfl rfl (v_ldA [.int .i64 a0_0, .int .i64 a0_1, .int .i64 a0_2, .int .i64 a0_3, .int .i64 a0_4, .int .i64 a0_5, .int .i64 a0_6] 0 rfl Tryz.underlying23 rfl SZ23 rfl rfl rfl rfl) ?_
 refine a_v 10 rfl (by kernel_rfl) (by kernel_rfl) (by kernel_rfl) rfl rfl rfl (v_move rfl rfl) ?_
 refine a_1 (i := 2) (by kernel_rfl) ?_
 refine i_e rfl rfl (e_callF [2] #[.agg #[.int .i64 a0_0, .int .i64 a0_1, .int .i64 a0_2, .int .i64 a0_3, .int .i64 a0_4, .int .i64 a0_5, .int .i64 a0_6], .slice A1 l1.length c1, .int .i64 1] rfl rfl rfl rfl rfl Tryz.func19 rfl (by decide) rfl rfl rfl rfl (fun w ht => stepstoneref23_states_con _ a0_0 a0_1 a0_2 a0_3 a0_4 a0_5 a0_6 A1 c1 l1 1 t31_ e32_ w _)) ?_
 refine ⟨(mem_pick (idx := [1, 2]) rfl), ?_⟩
 refine a_v 4 rfl (by kernel_rfl) (by kernel_rfl) (by kernel_rfl) rfl rfl rfl (v_arith rfl rfl rfl rfl) ?_
 refine a_1 (i := 8) (by kernel_rfl) ?_
 refine i_e rfl rfl (e_callF [2] #[.agg #[.int .i64 a0_0, .int .i64 a0_1, .int .i64 a0_2, .int .i64 a0_3, .int .i64 a0_4, .int .i64 a0_5, .int .i64 a0_6], .slice A1 l1.length c1, .int .i64 0] rfl rfl rfl rfl rfl Tryz.func19 rfl (by decide) rfl rfl rfl rfl (fun w ht => stepstoneref23_states_con _ a0_0 a0_1 a0_2 a0_3 a0_4 a0_5 a0_6 A1 c1 l1 0 t33_ e34_ w _)) ?_
 refine ⟨(mem_pick (idx := [1, 2]) rfl), ?_⟩
 refine a_1 (i := 11) (by kernel_rfl) ?_
 refine i_e rfl rfl (e_callF [2] #[.agg #[.int .i64 a0_0, .int .i64 a0_1, .int .i64 a0_2, .int .i64 a0_3, .int .i64 a0_4, .int .i64 a0_5, .int .i64 a0_6], .slice A1 l1.length c1, .int .i64 2] rfl rfl rfl rfl rfl Tryz.func19 rfl (by decide) rfl rfl rfl rfl (fun w ht => stepstoneref23_states_con _ a0_0 a0_1 a0_2 a0_3 a0_4 a0_5 a0_6 A1 c1 l1 2 t35_ e36_ w _)) ?_
 refine ⟨(mem_pick (idx := [1, 2]) rfl), ?_⟩
 refine a_v 12 rfl (by kernel_rfl) (by kernel_rfl) (by kernel_rfl) rfl rfl rfl (v_build (places := #[(0, 1), (1, 1), (2, 1), (3, 1)]) #[.int .i64 (IntKind.wrap .i64 (t31_ - a2)), .int .i64 a2, .int .i64 t33_, .int .i64 t35_] rfl ZR30 Tryz.underlying30 (by kernel_rfl) rfl (by kernel_rfl)) ?_
 refine a_1 (i := 13) (by kernel_rfl) ?_
 refine i_e rfl rfl (e_stA 0 rfl rfl SZ30 rfl rfl rfl rfl rfl rfl) ?_
 refine ⟨(mem_pick (idx := [1, 2]) rfl), ?_⟩
 refine a_end (by kernel_rfl) ?_
 refine q_seq ?_
 refine c_ret rfl ?_
 have hq_0 := Option.some.inj H
 obtain ⟨ee_0, hq_1⟩ := Prod.mk.inj hq_0
 obtain ⟨ee_1, hq_2⟩ := Prod.mk.inj hq_1
 obtain ⟨ee_2, hq_3⟩ := Prod.mk.inj hq_2
 subst ee_0
 subst ee_1
 subst ee_2
 subst hq_3
 exact q_ret (vs := [.agg #[.int .i64 (IntKind.wrap .i64 (t31_ - a2)), .int .i64 a2, .int .i64 t33_, .int .i64 t35_]]) rfl (.agg [.int .i64 (IntKind.wrap .i64 (t31_ - a2)), .int .i64 a2, .int .i64 t33_, .int .i64 t35_] 0 rfl Tryz.underlying30 rfl SZ30 rfl rfl rfl .nil) [] rfl (by decide) (hX)
 clear H
 have H := e23_
 clear e23_
 refine r_ord (l := [0, 1, 2, 3, 4, 5, 6, 7, 8, 9]) rfl (by kernel_rfl) (by kernel_rfl) ?_
 refine s_v rfl rfl rfl rfl (v_ldA [.int .i64 a0_0, .int .i64 a0_1, .int .i64 a0_2, .int .i64 a0_3, .int .i64 a0_4, .int .i64 a0_5, .int .i64 a0_6] 1 rfl Tryz.underlying23 rfl SZ23 rfl rfl rfl rfl) ?_
 obtain ⟨t37_, e38_, H⟩ := bind_s H
 refine s_e rfl rfl (e_callF [] #[.agg #[.int .i64 a0_0, .int .i64 a0_1, .int .i64 a0_2, .int .i64 a0_3, .int .i64 a0_4, .int .i64 a0_5, .int .i64 a0_6]] rfl rfl rfl rfl rfl Tryz.func17 rfl (by decide) rfl rfl rfl rfl (fun w ht => stepstoneref04_Right_con a0_0 a0_1 a0_2 a0_3 a0_4 a0_5 a0_6 t37_ e38_ w _)) ?_
 refine s_v rfl rfl rfl rfl (v_not rfl rfl) ?_
 refine s_v rfl rfl rfl rfl (v_move rfl rfl) ?_
 rcases Bool.eq_false_or_eq_true (!t37_) with h39_ | h39_
 replace H := ite_n (not_t (bnot_t h39_)) H
 refine s_splitv (d := 10) (t := !t37_) rfl (fun _ => ?_) (fun h40_ => absurd (h40_.symm.trans h39_) (by decide))
 refine s_no rfl rfl rfl rfl ?_
 refine s_no rfl rfl rfl rfl ?_
 refine s_no rfl rfl rfl rfl ?_
 refine s_no rfl rfl rfl rfl ?_
 refine s_no rfl rfl rfl rfl ?_
 refine s_v rfl rfl rfl rfl (v_pick rfl rfl rfl rfl) ?_
 refine s_end ?_
 have hq_0 := Option.some.inj H
 subst hq_0
 exact q_seq (c_frame (subF_spec (by exact ⟨rfl, rfl, rfl, rfl, rfl, trivial⟩)) (c_take [0, 1, 2] rfl (by decide) (J_ () trivial)))
 replace H := ite_y (bnot_f h39_) H
 refine s_splitv (d := 10) (t := !t37_) rfl (fun h41_ => absurd (h41_.symm.trans h39_) (by decide)) (fun _ => ?_)
 refine s_vg rfl rfl rfl rfl (v_move rfl rfl) ?_
 refine s_vg rfl rfl rfl rfl (v_len rfl rfl rfl Tryz.underlying24 rfl rfl) ?_
 refine s_vg rfl rfl rfl rfl (v_ldA [.int .i64 a0_0, .int .i64 a0_1, .int .i64 a0_2, .int .i64 a0_3, .int .i64 a0_4, .int .i64 a0_5, .int .i64 a0_6] 1 rfl Tryz.underlying23 rfl SZ23 rfl rfl rfl rfl) ?_
 obtain ⟨t42_, e43_, H⟩ := bind_s H
 refine s_eg rfl rfl (e_callF [] #[.agg #[.int .i64 a0_0, .int .i64 a0_1, .int .i64 a0_2, .int .i64 a0_3, .int .i64 a0_4, .int .i64 a0_5, .int .i64 a0_6]] rfl rfl rfl rfl rfl Tryz.func18 rfl (by decide) rfl rfl rfl rfl (fun w ht => stepstoneref04_Len_con a0_0 a0_1 a0_2 a0_3 a0_4 a0_5 a0_6 t42_ e43_ w _)) ?_
 refine s_vg rfl rfl rfl rfl (v_arith rfl rfl rfl rfl) ?_
 refine s_v rfl rfl rfl rfl (v_pick rfl rfl rfl rfl) ?_
 refine s_end ?_
 have hq_0 := Option.some.inj H
 subst hq_0
 exact q_seq (c_frame (subF_spec (by exact ⟨rfl, rfl, rfl, rfl, rfl, trivial⟩)) (c_take [0, 1, 2] rfl (by decide) (J_ () trivial)))
def stepstonelaw06_News.l0 : Nat → List S57 → Int → List S58 → Option (List S58)
  | 0, _, _, _ => none
  | k + 1, l0, x13_, xs11_ => (if (x13_ : Int) < (l0.length : Int) then (if 0 ≤ (x13_ : Int) then (if xs11_.length < 5864062014805 then stepstonelaw06_News.l0 k l0 (IntKind.wrap .i64 (x13_ + 1)) (xs11_ ++ [(⟨(rd_T57 l0 x13_).f0, (rd_T57 l0 x13_).f1, (rd_T57 l0 x13_).f2⟩ : S58)]) else none) else none) else some xs11_)
def stepstonelaw06_News.f (k : Nat) (l0 : List S57) : Option (List S58) := stepstonelaw06_News.l0 k l0 0 ([] : List S58)
set_option maxRecDepth 100000 in
set_option maxHeartbeats 4000000 in
theorem stepstonelaw06_News_con (k : Nat) (A0 : Option Addr) (c0 : Nat) (l0 : List S57) (r0 : List S58) (h : stepstonelaw06_News.f k l0 = some r0) (w0 : World) (Hs : List Nat) : Con Tryz.prog 6 #[.slice A0 l0.length c0] w0 Hs [.f (KC k57 A0 c0 l0)] (fun X => ∀ A_r0 c_r0, X (.slice A_r0 r0.length c_r0) [.f (KC k58 A_r0 c_r0 r0)]) := by
  refine con_enter (c := bodyOf Tryz.f6) Tryz.func6 rfl (m := 18) rfl rfl rfl ?_
  intro X hX _
  have H := h
  unfold stepstonelaw06_News.f at H
  clear h
  refine c_seq rfl ?_
  refine r_ord (l := [0]) rfl (by kernel_rfl) (by kernel_rfl) ?_
  refine s_v rfl rfl rfl rfl (v_assign rfl rfl) ?_
  refine s_end ?_
  refine q_seq ?_
  refine c_seq rfl ?_
  refine r_ord (l := [0]) rfl (by kernel_rfl) (by kernel_rfl) ?_
  refine s_v rfl rfl rfl rfl (v_assign rfl rfl) ?_
  refine s_end ?_
  refine q_seq ?_
  refine c_seq rfl ?_
  refine c_seq rfl ?_
  refine r_ord (l := [0, 1, 2]) rfl (by kernel_rfl) (by kernel_rfl) ?_
  refine s_v rfl rfl rfl rfl (v_move rfl rfl) ?_
  refine s_v rfl rfl rfl rfl (v_len rfl rfl rfl Tryz.underlying25 rfl rfl) ?_
  refine s_v rfl rfl rfl rfl (v_move rfl rfl) ?_
  refine s_end ?_
  refine q_seq ?_
  refine c_block rfl ?_
  refine c_knowT (φ := fun _ => True) (fun _ => trivial) ?_
  refine c_loop (σ := Nat × Int × Ro × List S58) (fun s_ : Nat × Int × Ro × List S58 => match s_ with | (k, x13_, ro10_, xs11_) => stepstonelaw06_News.l0 k l0 x13_ xs11_ = some r0 ∧ ORow 3 enc58 ro10_ xs11_) (fun s_ : Nat × Int × Ro × List S58 => match s_ with | (k, x13_, ro10_, xs11_) => k) (fun s_ : Nat × Int × Ro × List S58 => match s_ with | (k, x13_, ro10_, xs11_) => [(2, .slice none 0 0), (3, .slice (OA ro10_) xs11_.length (OC ro10_)), (6, .slice A0 l0.length c0), (7, .int .i64 (l0.length : Int)), (8, .int .i64 x13_)]) (fun s_ : Nat × Int × Ro × List S58 => match s_ with | (k, x13_, ro10_, xs11_) => [.f (KC k57 A0 c0 l0), OE 58 ro10_]) (k, 0, none, ([] : List S58)) [1, 0] rfl ⟨H, ORow.nil⟩ (subF_spec ⟨rfl, rfl, rfl, rfl, rfl, trivial⟩) rfl (by decide) ?_
  rintro ⟨k, x13_, ro10_, xs11_⟩ hs24_
  clear H
  obtain ⟨H, hr12_⟩ : stepstonelaw06_News.l0 k l0 x13_ xs11_ = some r0 ∧ ORow 3 enc58 ro10_ xs11_ := hs24_
  try clear hs24_
  rcases k with _ | k
  · exact none_no (show none = _ from H)
  unfold stepstonelaw06_News.l0 at H
  refine c_seq rfl ?_
  refine r_ord (l := [0]) rfl (by kernel_rfl) (by kernel_rfl) ?_
  refine s_v rfl rfl rfl rfl (v_arith rfl rfl rfl rfl) ?_
  refine s_end ?_
  refine q_seq ?_
  refine c_seq rfl ?_
  rcases Bool.eq_false_or_eq_true (decide ((x13_ : Int) < (l0.length : Int))) with h28_ | h28_
  ·
    replace H := ite_y (dec_t h28_) H
    refine c_cond rfl rfl (fun _ => ?_) (fun h29_ => absurd (h29_.symm.trans h28_) (by decide))
    refine c_skip rfl ?_
    refine q_seq ?_
    refine c_seq rfl ?_
    refine c_block rfl ?_
    refine c_seq rfl ?_
    refine r_ord (l := [0, 1, 2, 3]) rfl (by kernel_rfl) (by kernel_rfl) ?_
    obtain ⟨n39_, H⟩ := ite_no H
    refine s_v rfl rfl rfl rfl (v_iaK (i := 0) rfl Tryz.underlying25 SZ57 rfl rfl rfl rfl n39_ (dec_t h28_)) ?_
    refine s_v rfl rfl rfl rfl (v_ldKA z57 [.int .u64 ((rd_T57 l0 x13_).f0), .int .u64 ((rd_T57 l0 x13_).f1), .int .u64 ((rd_T57 l0 x13_).f2)] 0 rfl Tryz.underlying57 rfl SZ57 rfl rfl rfl rfl n39_ (dec_t h28_) (fun w K h => k57_open h)) ?_
    refine s_e rfl rfl (e_alloc rfl rfl rfl ZR57) ?_
    intro b40_
    refine s_e rfl rfl (e_stA 0 rfl rfl SZ57 rfl rfl rfl rfl rfl rfl) ?_
    refine s_end ?_
    refine q_seq ?_
    refine r_ord (l := [0, 1, 2, 3, 4]) rfl (by kernel_rfl) (by kernel_rfl) ?_
    refine s_v rfl rfl rfl rfl (v_move rfl rfl) ?_
    refine s_v rfl rfl rfl rfl (v_ldA [.int .u64 ((rd_T57 l0 x13_).f0), .int .u64 ((rd_T57 l0 x13_).f1), .int .u64 ((rd_T57 l0 x13_).f2)] 0 rfl Tryz.underlying57 rfl SZ57 rfl rfl rfl rfl) ?_
    refine s_e rfl rfl (e_bslice #[.int .u64 ((rd_T57 l0 x13_).f0), .int .u64 ((rd_T57 l0 x13_).f1), .int .u64 ((rd_T57 l0 x13_).f2)] (.agg #[.int .u64 0, .int .u64 0, .int .u64 0]) rfl rfl rfl Tryz.underlying32 SZ58 ZR58 (by decide) rfl (by kernel_rfl)) ?_
    intro b41_
    obtain ⟨n42_, H⟩ := ite_no H
    refine s_e rfl rfl (e_appO (enc := enc58) (v := (⟨(rd_T57 l0 x13_).f0, (rd_T57 l0 x13_).f1, (rd_T57 l0 x13_).f2⟩ : S58)) (xs := xs11_) (ro := ro10_) (z := (.agg #[.int .u64 0, .int .u64 0, .int .u64 0])) (m := 3) (bytes := 24) (i := 0) (j := 3) rfl rfl rfl rfl rfl rfl Tryz.underlying32 (by kernel_rfl) rfl (by decide) rfl rfl hr12_ rfl rfl rfl rfl (flat58.one _) (by omega) (by simp only [maxLen]; omega)) ?_
    intro ro43_ hr44_ sm45_
    refine s_v rfl rfl rfl rfl (v_assign rfl rfl) ?_
    refine s_end ?_
    refine q_block ?_
    refine q_seq ?_
    refine r_ord (l := [0, 1]) rfl (by kernel_rfl) (by kernel_rfl) ?_
    refine s_v rfl rfl rfl rfl (v_arith rfl rfl rfl rfl) ?_
    refine s_v rfl rfl rfl rfl (v_move rfl rfl) ?_
    refine s_end ?_
    exact q_again (k, IntKind.wrap .i64 (x13_ + 1), ro43_, (xs11_ ++ [(⟨(rd_T57 l0 x13_).f0, (rd_T57 l0 x13_).f1, (rd_T57 l0 x13_).f2⟩ : S58)])) [2, 3] ⟨H, hr44_⟩ (Nat.lt_succ_self _) (subF_spec ⟨rfl, rfl, rfl, rfl, rfl, trivial⟩) rfl (by decide)
  ·
    replace H := ite_n (dec_f h28_) H
    refine c_cond rfl rfl (fun h46_ => absurd (h46_.symm.trans h28_) (by decide)) (fun _ => ?_)
    refine c_exit (i := 0) rfl rfl ?_
    refine q_then_exit ?_
    refine q_then_exit ?_
    refine q_block_here rfl ?_
    refine q_seq ?_
    refine c_seq rfl ?_
    refine r_ord (l := [0, 1]) rfl (by kernel_rfl) (by kernel_rfl) ?_
    refine s_v rfl rfl rfl rfl (v_move rfl rfl) ?_
    refine s_v rfl rfl rfl rfl (v_assign rfl rfl) ?_
    refine s_end ?_
    refine q_seq ?_
    refine c_ret rfl ?_
    refine q_giveO flat58 hr12_ [1, 0] rfl (by decide) rfl ?_
    have e_ := Option.some.inj H
    subst e_
    exact q_ret (vs := [.slice (OA ro10_) xs11_.length (OC ro10_)]) rfl (.tmp rfl .nil) [0] rfl (by decide) (hX (OA ro10_) (OC ro10_))
def plan_to.f (a0 : Int) (a1 : Int) (a2 : Int) : Option Int := some (if (a1 : Int) < (if (a2 : Int) < a0 then a2 else a0) then (if (a2 : Int) < a0 then a2 else a0) else a1)
set_option maxRecDepth 100000 in
set_option maxHeartbeats 4000000 in
theorem plan_to_con (a0 : Int) (a1 : Int) (a2 : Int) (r0 : Int) (h : plan_to.f a0 a1 a2 = some r0) (w0 : World) (Hs : List Nat) : Con Tryz.prog 39 #[.int .i64 a0, .int .i64 a1, .int .i64 a2] w0 Hs [] (fun X => X (.int .i64 r0) []) := by
  refine con_enter (c := bodyOf Tryz.f39) Tryz.func39 rfl (m := 12) rfl rfl rfl ?_
  intro X hX _
  have H := h
  unfold plan_to.f at H
  clear h
  refine c_seq rfl ?_
  refine r_ord (l := [0]) rfl (by kernel_rfl) (by kernel_rfl) ?_
  refine s_v rfl rfl rfl rfl (v_assign rfl rfl) ?_
  refine s_end ?_
  refine q_seq ?_
  refine c_seq rfl ?_
  refine r_ord (l := [0, 1, 2, 3, 4, 5]) rfl (by kernel_rfl) (by kernel_rfl) ?_
  refine s_v rfl rfl rfl rfl (v_move rfl rfl) ?_
  refine s_v rfl rfl rfl rfl (v_move rfl rfl) ?_
  refine s_v rfl rfl rfl rfl (v_move rfl rfl) ?_
  refine s_v rfl rfl rfl rfl (v_min (x := .tmp 0) (y := .tmp 0) rfl rfl rfl) ?_
  refine s_v rfl rfl rfl rfl (v_max (x := .tmp 0) (y := .tmp 0) rfl rfl rfl) ?_
  refine s_v rfl rfl rfl rfl (v_assign rfl rfl) ?_
  refine s_end ?_
  refine q_seq ?_
  refine c_ret rfl ?_
  have e_ := Option.some.inj H
  subst e_
  exact q_ret (vs := [.int .i64 (if (a1 : Int) < (if (a2 : Int) < a0 then a2 else a0) then (if (a2 : Int) < a0 then a2 else a0) else a1)]) rfl (.tmp rfl .nil) [] rfl (by decide) (hX)
def plan_Right.f (a0_0 : Int) (a0_1 : Int) (a0_2 : Int) (a0_3 : Int) (a0_4 : Int) (a0_5 : Int) (a0_6 : Int) : Option Bool := (plan_to.f a0_0 1 8).bind fun t18_ => (plan_to.f a0_1 1 8).bind fun t20_ => (plan_to.f a0_2 1 64).bind fun t22_ => (plan_to.f a0_3 1 6).bind fun t24_ => (plan_to.f a0_4 1 64).bind fun t26_ => (plan_to.f a0_5 1 64).bind fun t28_ => (plan_to.f a0_6 0 1073741823).bind fun t30_ => some (((a0_0 : Int) == t18_) && (((a0_1 : Int) == t20_) && (((a0_2 : Int) == t22_) && (((a0_3 : Int) == t24_) && (((a0_4 : Int) == t26_) && (((a0_5 : Int) == t28_) && (((a0_6 : Int) == t30_))))))))
set_option maxRecDepth 100000 in
set_option maxHeartbeats 4000000 in
theorem plan_Right_con (a0_0 : Int) (a0_1 : Int) (a0_2 : Int) (a0_3 : Int) (a0_4 : Int) (a0_5 : Int) (a0_6 : Int) (r0 : Bool) (h : plan_Right.f a0_0 a0_1 a0_2 a0_3 a0_4 a0_5 a0_6 = some r0) (w0 : World) (Hs : List Nat) : Con Tryz.prog 20 #[.agg #[.int .i64 a0_0, .int .i64 a0_1, .int .i64 a0_2, .int .i64 a0_3, .int .i64 a0_4, .int .i64 a0_5, .int .i64 a0_6]] w0 Hs [] (fun X => X (.bool r0) []) := by
 refine con_enter (c := bodyOf Tryz.f20) Tryz.func20 rfl (m := 29) rfl rfl rfl ?_
 intro X hX _
 have H := h
 unfold plan_Right.f at H
 clear h
 refine c_seq rfl ?_
 refine r_ord (l := [0, 1]) rfl (by kernel_rfl) (by kernel_rfl) ?_
 refine s_e rfl rfl (e_box rfl rfl rfl rfl) ?_
 intro b2_
 refine s_v rfl rfl rfl rfl (v_assign rfl rfl) ?_
 refine s_end ?_
 refine q_seq ?_
 refine c_seq rfl ?_
 obtain ⟨t18_, e19_, H⟩ := bind_s H
 obtain ⟨t20_, e21_, H⟩ := bind_s H
 obtain ⟨t22_, e23_, H⟩ := bind_s H
 obtain ⟨t24_, e25_, H⟩ := bind_s H
 obtain ⟨t26_, e27_, H⟩ := bind_s H
 obtain ⟨t28_, e29_, H⟩ := bind_s H
 obtain ⟨t30_, e31_, H⟩ := bind_s H
 refine r_any [.b b2_ (.cells #[.int .i64 a0_0, .int .i64 a0_1, .int .i64 a0_2, .int .i64 a0_3, .int .i64 a0_4, .int .i64 a0_5, .int .i64 a0_6] 23 (0, 0))] (by kernel_rfl) rfl (by kernel_rfl) (mem_pick (idx := [0]) rfl) ?_
 refine a_join (β := Nat) 0 #[true, true, true, true, true, true, true, true, true, true, true, true, true, true, true, true, true, true, true, true, true, true, true, true] (fun bo22_1_ => [(0, .agg #[.int .i64 a0_0, .int .i64 a0_1, .int .i64 a0_2, .int .i64 a0_3, .int .i64 a0_4, .int .i64 a0_5, .int .i64 a0_6]), (1, .pointer (some ⟨b2_, 0, none⟩)), (2, .bool false), (3, .pointer (some ⟨bo22_1_, 0, none⟩)), (4, .pointer (some ⟨b2_, 0, none⟩)), (5, .int .i64 a0_0), (6, .int .i64 t18_), (7, .pointer (some ⟨b2_, 1, none⟩)), (8, .int .i64 a0_1), (9, .int .i64 t20_), (10, .pointer (some ⟨b2_, 2, none⟩)), (11, .int .i64 a0_2), (12, .int .i64 t22_), (13, .pointer (some ⟨b2_, 3, none⟩)), (14, .int .i64 a0_3), (15, .int .i64 t24_), (16, .pointer (some ⟨b2_, 4, none⟩)), (17, .int .i64 a0_4), (18, .int .i64 t26_), (19, .pointer (some ⟨b2_, 5, none⟩)), (20, .int .i64 a0_5), (21, .int .i64 t28_), (22, .pointer (some ⟨b2_, 6, none⟩)), (23, .int .i64 a0_6), (24, .int .i64 t30_), (25, .agg #[.int .i64 t18_, .int .i64 t20_, .int .i64 t22_, .int .i64 t24_, .int .i64 t26_, .int .i64 t28_, .int .i64 t30_])]) (fun bo22_1_ => [.b b2_ (.cells #[.int .i64 a0_0, .int .i64 a0_1, .int .i64 a0_2, .int .i64 a0_3, .int .i64 a0_4, .int .i64 a0_5, .int .i64 a0_6] 23 (0, 0)), .b bo22_1_ (.cells #[.int .i64 t18_, .int .i64 t20_, .int .i64 t22_, .int .i64 t24_, .int .i64 t26_, .int .i64 t28_, .int .i64 t30_] 23 (0, 0))]) ?_ ?_
 rintro bo22_1_
 refine a_w (F := [(0, .agg #[.int .i64 a0_0, .int .i64 a0_1, .int .i64 a0_2, .int .i64 a0_3, .int .i64 a0_4, .int .i64 a0_5, .int .i64 a0_6]), (1, .pointer (some ⟨b2_, 0, none⟩)), (2, .bool false), (3, .pointer (some ⟨bo22_1_, 0, none⟩)), (4, .pointer (some ⟨b2_, 0, none⟩)), (5, .int .i64 a0_0), (6, .int .i64 t18_), (7, .pointer (some ⟨b2_, 1, none⟩)), (8, .int .i64 a0_1), (9, .int .i64 t20_), (10, .pointer (some ⟨b2_, 2, none⟩)), (11, .int .i64 a0_2), (12, .int .i64 t22_), (13, .pointer (some ⟨b2_, 3, none⟩)), (14, .int .i64 a0_3), (15, .int .i64 t24_), (16, .pointer (some ⟨b2_, 4, none⟩)), (17, .int .i64 a0_4), (18, .int .i64 t26_), (19, .pointer (some ⟨b2_, 5, none⟩)), (20, .int .i64 a0_5), (21, .int .i64 t28_), (22, .pointer (some ⟨b2_, 6, none⟩)), (23, .int .i64 a0_6), (24, .int .i64 t30_), (25, .agg #[.int .i64 t18_, .int .i64 t20_, .int .i64 t22_, .int .i64 t24_, .int .i64 t26_, .int .i64 t28_, .int .i64 t30_])]) (L := [.b b2_ (.cells #[.int .i64 a0_0, .int .i64 a0_1, .int .i64 a0_2, .int .i64 a0_3, .int .i64 a0_4, .int .i64 a0_5, .int .i64 a0_6] 23 (0, 0)), .b bo22_1_ (.cells #[.int .i64 t18_, .int .i64 t20_, .int .i64 t22_, .int .i64 t24_, .int .i64 t26_, .int .i64 t28_, .int .i64 t30_] 23 (0, 0))]) ?_
 refine a_end (by kernel_rfl) ?_
 refine q_seq ?_
 refine c_seq rfl ?_
 refine r_ord (l := [0, 1, 2, 3]) rfl (by kernel_rfl) (by kernel_rfl) ?_
 refine s_v rfl rfl rfl rfl (v_ldA [.int .i64 a0_0, .int .i64 a0_1, .int .i64 a0_2, .int .i64 a0_3, .int .i64 a0_4, .int .i64 a0_5, .int .i64 a0_6] 0 rfl Tryz.underlying23 rfl SZ23 rfl rfl rfl rfl) ?_
 refine s_v rfl rfl rfl rfl (v_ldA [.int .i64 t18_, .int .i64 t20_, .int .i64 t22_, .int .i64 t24_, .int .i64 t26_, .int .i64 t28_, .int .i64 t30_] 1 rfl Tryz.underlying23 rfl SZ23 rfl rfl rfl rfl) ?_
 refine s_v rfl rfl rfl rfl (v_eqA rfl rfl rfl (by kernel_rfl) (eqS23 a0_0 a0_1 a0_2 a0_3 a0_4 a0_5 a0_6 t18_ t20_ t22_ t24_ t26_ t28_ t30_)) ?_
 refine s_v rfl rfl rfl rfl (v_assign rfl rfl) ?_
 refine s_end ?_
 refine q_seq ?_
 refine c_ret rfl ?_
 have e_ := Option.some.inj H
 subst e_
 exact q_ret (vs := [.bool (((a0_0 : Int) == t18_) && (((a0_1 : Int) == t20_) && (((a0_2 : Int) == t22_) && (((a0_3 : Int) == t24_) && (((a0_4 : Int) == t26_) && (((a0_5 : Int) == t28_) && (((a0_6 : Int) == t30_))))))))]) rfl (.tmp rfl .nil) [] rfl (by decide) (hX)
 intro J2_5_8_11_14_17_20_22_23
 refine a_join (β := Nat) 1 #[true, true, true, true, true, true, true, true, true, true, true, true, true, true, true, true, true, true, true, true, true, true, true, false] (fun bo22_1_ => [(0, .agg #[.int .i64 a0_0, .int .i64 a0_1, .int .i64 a0_2, .int .i64 a0_3, .int .i64 a0_4, .int .i64 a0_5, .int .i64 a0_6]), (1, .pointer (some ⟨b2_, 0, none⟩)), (2, .bool false), (3, .pointer (some ⟨bo22_1_, 0, none⟩)), (4, .pointer (some ⟨b2_, 0, none⟩)), (5, .int .i64 a0_0), (6, .int .i64 t18_), (7, .pointer (some ⟨b2_, 1, none⟩)), (8, .int .i64 a0_1), (9, .int .i64 t20_), (10, .pointer (some ⟨b2_, 2, none⟩)), (11, .int .i64 a0_2), (12, .int .i64 t22_), (13, .pointer (some ⟨b2_, 3, none⟩)), (14, .int .i64 a0_3), (15, .int .i64 t24_), (16, .pointer (some ⟨b2_, 4, none⟩)), (17, .int .i64 a0_4), (18, .int .i64 t26_), (19, .pointer (some ⟨b2_, 5, none⟩)), (20, .int .i64 a0_5), (21, .int .i64 t28_), (22, .pointer (some ⟨b2_, 6, none⟩)), (23, .int .i64 a0_6), (24, .int .i64 t30_), (25, .agg #[.int .i64 t18_, .int .i64 t20_, .int .i64 t22_, .int .i64 t24_, .int .i64 t26_, .int .i64 t28_, .int .i64 t30_])]) (fun bo22_1_ => [.b b2_ (.cells #[.int .i64 a0_0, .int .i64 a0_1, .int .i64 a0_2, .int .i64 a0_3, .int .i64 a0_4, .int .i64 a0_5, .int .i64 a0_6] 23 (0, 0)), .b bo22_1_ (.cells #[.int .i64 0, .int .i64 0, .int .i64 0, .int .i64 0, .int .i64 0, .int .i64 0, .int .i64 0] 23 (0, 0))]) ?_ ?_
 rintro bo22_1_
 refine a_w (F := [(0, .agg #[.int .i64 a0_0, .int .i64 a0_1, .int .i64 a0_2, .int .i64 a0_3, .int .i64 a0_4, .int .i64 a0_5, .int .i64 a0_6]), (1, .pointer (some ⟨b2_, 0, none⟩)), (2, .bool false), (3, .pointer (some ⟨bo22_1_, 0, none⟩)), (4, .pointer (some ⟨b2_, 0, none⟩)), (5, .int .i64 a0_0), (6, .int .i64 t18_), (7, .pointer (some ⟨b2_, 1, none⟩)), (8, .int .i64 a0_1), (9, .int .i64 t20_), (10, .pointer (some ⟨b2_, 2, none⟩)), (11, .int .i64 a0_2), (12, .int .i64 t22_), (13, .pointer (some ⟨b2_, 3, none⟩)), (14, .int .i64 a0_3), (15, .int .i64 t24_), (16, .pointer (some ⟨b2_, 4, none⟩)), (17, .int .i64 a0_4), (18, .int .i64 t26_), (19, .pointer (some ⟨b2_, 5, none⟩)), (20, .int .i64 a0_5), (21, .int .i64 t28_), (22, .pointer (some ⟨b2_, 6, none⟩)), (23, .int .i64 a0_6), (24, .int .i64 t30_), (25, .agg #[.int .i64 t18_, .int .i64 t20_, .int .i64 t22_, .int .i64 t24_, .int .i64 t26_, .int .i64 t28_, .int .i64 t30_])]) (L := [.b b2_ (.cells #[.int .i64 a0_0, .int .i64 a0_1, .int .i64 a0_2, .int .i64 a0_3, .int .i64 a0_4, .int .i64 a0_5, .int .i64 a0_6] 23 (0, 0)), .b bo22_1_ (.cells #[.int .i64 0, .int .i64 0, .int .i64 0, .int .i64 0, .int .i64 0, .int .i64 0, .int .i64 0] 23 (0, 0))]) ?_
 refine a_1 (i := 23) (by kernel_rfl) ?_
 refine i_e rfl rfl (e_stA 1 rfl rfl SZ23 rfl rfl rfl rfl rfl rfl) ?_
 refine ⟨(mem_pick (idx := [0]) rfl), ?_⟩
 exact a_take (J2_5_8_11_14_17_20_22_23 bo22_1_) [0, 1] (by kernel_rfl) rfl (subF_spec ⟨rfl, rfl, rfl, rfl, rfl, rfl, rfl, rfl, rfl, rfl, rfl, rfl, rfl, rfl, rfl, rfl, rfl, rfl, rfl, rfl, rfl, rfl, rfl, rfl, rfl, rfl, trivial⟩) rfl (by decide)
 intro J2_5_8_11_14_17_20_22
 refine a_join (β := Unit) 2 #[true, true, true, true, true, true, true, true, true, true, true, true, true, true, true, true, true, true, true, true, true, true, false, false] (fun _ => [(0, .agg #[.int .i64 a0_0, .int .i64 a0_1, .int .i64 a0_2, .int .i64 a0_3, .int .i64 a0_4, .int .i64 a0_5, .int .i64 a0_6]), (1, .pointer (some ⟨b2_, 0, none⟩)), (2, .bool false), (4, .pointer (some ⟨b2_, 0, none⟩)), (5, .int .i64 a0_0), (6, .int .i64 t18_), (7, .pointer (some ⟨b2_, 1, none⟩)), (8, .int .i64 a0_1), (9, .int .i64 t20_), (10, .pointer (some ⟨b2_, 2, none⟩)), (11, .int .i64 a0_2), (12, .int .i64 t22_), (13, .pointer (some ⟨b2_, 3, none⟩)), (14, .int .i64 a0_3), (15, .int .i64 t24_), (16, .pointer (some ⟨b2_, 4, none⟩)), (17, .int .i64 a0_4), (18, .int .i64 t26_), (19, .pointer (some ⟨b2_, 5, none⟩)), (20, .int .i64 a0_5), (21, .int .i64 t28_), (22, .pointer (some ⟨b2_, 6, none⟩)), (23, .int .i64 a0_6), (24, .int .i64 t30_), (25, .agg #[.int .i64 t18_, .int .i64 t20_, .int .i64 t22_, .int .i64 t24_, .int .i64 t26_, .int .i64 t28_, .int .i64 t30_])]) (fun _ => [.b b2_ (.cells #[.int .i64 a0_0, .int .i64 a0_1, .int .i64 a0_2, .int .i64 a0_3, .int .i64 a0_4, .int .i64 a0_5, .int .i64 a0_6] 23 (0, 0))]) ?_ ?_
 rintro _
 refine a_w (F := [(0, .agg #[.int .i64 a0_0, .int .i64 a0_1, .int .i64 a0_2, .int .i64 a0_3, .int .i64 a0_4, .int .i64 a0_5, .int .i64 a0_6]), (1, .pointer (some ⟨b2_, 0, none⟩)), (2, .bool false), (4, .pointer (some ⟨b2_, 0, none⟩)), (5, .int .i64 a0_0), (6, .int .i64 t18_), (7, .pointer (some ⟨b2_, 1, none⟩)), (8, .int .i64 a0_1), (9, .int .i64 t20_), (10, .pointer (some ⟨b2_, 2, none⟩)), (11, .int .i64 a0_2), (12, .int .i64 t22_), (13, .pointer (some ⟨b2_, 3, none⟩)), (14, .int .i64 a0_3), (15, .int .i64 t24_), (16, .pointer (some ⟨b2_, 4, none⟩)), (17, .int .i64 a0_4), (18, .int .i64 t26_), (19, .pointer (some ⟨b2_, 5, none⟩)), (20, .int .i64 a0_5), (21, .int .i64 t28_), (22, .pointer (some ⟨b2_, 6, none⟩)), (23, .int .i64 a0_6), (24, .int .i64 t30_), (25, .agg #[.int .i64 t18_, .int .i64 t20_, .int .i64 t22_, .int .i64 t24_, .int .i64 t26_, .int .i64 t28_, .int .i64 t30_])]) (L := [.b b2_ (.cells #[.int .i64 a0_0, .int .i64 a0_1, .int .i64 a0_2, .int .i64 a0_3, .int .i64 a0_4, .int .i64 a0_5, .int .i64 a0_6] 23 (0, 0))]) ?_
 refine a_1 (i := 22) (by kernel_rfl) ?_
 refine i_e rfl rfl (e_alloc rfl rfl rfl ZR23) ?_
 intro bo22_1_
 refine ⟨(mem_pick (idx := [1]) rfl), ?_⟩
 exact a_take (J2_5_8_11_14_17_20_22 bo22_1_) [1, 0] (by kernel_rfl) rfl (subF_spec ⟨rfl, rfl, rfl, rfl, rfl, rfl, rfl, rfl, rfl, rfl, rfl, rfl, rfl, rfl, rfl, rfl, rfl, rfl, rfl, rfl, rfl, rfl, rfl, rfl, rfl, rfl, trivial⟩) rfl (by decide)
 intro J2_5_8_11_14_17_20
 refine a_join (β := Nat) 3 #[true, true, true, true, true, true, true, true, true, true, true, true, true, true, true, true, true, true, true, true, false, false, true, false] (fun bo22_1_ => [(0, .agg #[.int .i64 a0_0, .int .i64 a0_1, .int .i64 a0_2, .int .i64 a0_3, .int .i64 a0_4, .int .i64 a0_5, .int .i64 a0_6]), (1, .pointer (some ⟨b2_, 0, none⟩)), (2, .bool false), (3, .pointer (some ⟨bo22_1_, 0, none⟩)), (4, .pointer (some ⟨b2_, 0, none⟩)), (5, .int .i64 a0_0), (6, .int .i64 t18_), (7, .pointer (some ⟨b2_, 1, none⟩)), (8, .int .i64 a0_1), (9, .int .i64 t20_), (10, .pointer (some ⟨b2_, 2, none⟩)), (11, .int .i64 a0_2), (12, .int .i64 t22_), (13, .pointer (some ⟨b2_, 3, none⟩)), (14, .int .i64 a0_3), (15, .int .i64 t24_), (16, .pointer (some ⟨b2_, 4, none⟩)), (17, .int .i64 a0_4), (18, .int .i64 t26_), (19, .pointer (some ⟨b2_, 5, none⟩)), (20, .int .i64 a0_5), (21, .int .i64 t28_), (22, .pointer (some ⟨b2_, 6, none⟩)), (23, .int .i64 a0_6)]) (fun bo22_1_ => [.b b2_ (.cells #[.int .i64 a0_0, .int .i64 a0_1, .int .i64 a0_2, .int .i64 a0_3, .int .i64 a0_4, .int .i64 a0_5, .int .i64 a0_6] 23 (0, 0)), .b bo22_1_ (.cells #[.int .i64 0, .int .i64 0, .int .i64 0, .int .i64 0, .int .i64 0, .int .i64 0, .int .i64 0] 23 (0, 0))]) ?_ ?_
 rintro bo22_1_
 refine a_w (F := [(0, .agg #[.int .i64 a0_0, .int .i64 a0_1, .int .i64 a0_2, .int .i64 a0_3, .int .i64 a0_4, .int .i64 a0_5, .int .i64 a0_6]), (1, .pointer (some ⟨b2_, 0, none⟩)), (2, .bool false), (3, .pointer (some ⟨bo22_1_, 0, none⟩)), (4, .pointer (some ⟨b2_, 0, none⟩)), (5, .int .i64 a0_0), (6, .int .i64 t18_), (7, .pointer (some ⟨b2_, 1, none⟩)), (8, .int .i64 a0_1), (9, .int .i64 t20_), (10, .pointer (some ⟨b2_, 2, none⟩)), (11, .int .i64 a0_2), (12, .int .i64 t22_), (13, .pointer (some ⟨b2_, 3, none⟩)), (14, .int .i64 a0_3), (15, .int .i64 t24_), (16, .pointer (some ⟨b2_, 4, none⟩)), (17, .int .i64 a0_4), (18, .int .i64 t26_), (19, .pointer (some ⟨b2_, 5, none⟩)), (20, .int .i64 a0_5), (21, .int .i64 t28_), (22, .pointer (some ⟨b2_, 6, none⟩)), (23, .int .i64 a0_6)]) (L := [.b b2_ (.cells #[.int .i64 a0_0, .int .i64 a0_1, .int .i64 a0_2, .int .i64 a0_3, .int .i64 a0_4, .int .i64 a0_5, .int .i64 a0_6] 23 (0, 0)), .b bo22_1_ (.cells #[.int .i64 0, .int .i64 0, .int .i64 0, .int .i64 0, .int .i64 0, .int .i64 0, .int .i64 0] 23 (0, 0))]) ?_
 refine a_1 (i := 20) (by kernel_rfl) ?_
 refine i_e rfl rfl (e_callF [] #[.int .i64 a0_6, .int .i64 0, .int .i64 1073741823] rfl rfl rfl rfl rfl Tryz.func39 rfl (by decide) rfl rfl rfl rfl (fun w ht => plan_to_con a0_6 0 1073741823 t30_ e31_ w _)) ?_
 refine ⟨(mem_pick (idx := [0]) rfl), ?_⟩
 refine a_v 21 rfl (by kernel_rfl) (by kernel_rfl) (by kernel_rfl) rfl rfl rfl (v_build (places := #[(0, 1), (1, 1), (2, 1), (3, 1), (4, 1), (5, 1), (6, 1)]) #[.int .i64 t18_, .int .i64 t20_, .int .i64 t22_, .int .i64 t24_, .int .i64 t26_, .int .i64 t28_, .int .i64 t30_] rfl ZR23 Tryz.underlying23 (by kernel_rfl) rfl (by kernel_rfl)) ?_
 exact a_take (J2_5_8_11_14_17_20_22 bo22_1_) [0, 1] (by kernel_rfl) rfl (subF_spec ⟨rfl, rfl, rfl, rfl, rfl, rfl, rfl, rfl, rfl, rfl, rfl, rfl, rfl, rfl, rfl, rfl, rfl, rfl, rfl, rfl, rfl, rfl, rfl, rfl, rfl, rfl, trivial⟩) rfl (by decide)
 intro J2_5_8_11_14_17_22
 refine a_join (β := Unit) 4 #[true, true, true, true, true, true, true, true, true, true, true, true, true, true, true, true, true, true, true, true, false, false, false, false] (fun _ => [(0, .agg #[.int .i64 a0_0, .int .i64 a0_1, .int .i64 a0_2, .int .i64 a0_3, .int .i64 a0_4, .int .i64 a0_5, .int .i64 a0_6]), (1, .pointer (some ⟨b2_, 0, none⟩)), (2, .bool false), (4, .pointer (some ⟨b2_, 0, none⟩)), (5, .int .i64 a0_0), (6, .int .i64 t18_), (7, .pointer (some ⟨b2_, 1, none⟩)), (8, .int .i64 a0_1), (9, .int .i64 t20_), (10, .pointer (some ⟨b2_, 2, none⟩)), (11, .int .i64 a0_2), (12, .int .i64 t22_), (13, .pointer (some ⟨b2_, 3, none⟩)), (14, .int .i64 a0_3), (15, .int .i64 t24_), (16, .pointer (some ⟨b2_, 4, none⟩)), (17, .int .i64 a0_4), (18, .int .i64 t26_), (19, .pointer (some ⟨b2_, 5, none⟩)), (20, .int .i64 a0_5), (21, .int .i64 t28_), (22, .pointer (some ⟨b2_, 6, none⟩)), (23, .int .i64 a0_6)]) (fun _ => [.b b2_ (.cells #[.int .i64 a0_0, .int .i64 a0_1, .int .i64 a0_2, .int .i64 a0_3, .int .i64 a0_4, .int .i64 a0_5, .int .i64 a0_6] 23 (0, 0))]) ?_ ?_
 rintro _
 refine a_w (F := [(0, .agg #[.int .i64 a0_0, .int .i64 a0_1, .int .i64 a0_2, .int .i64 a0_3, .int .i64 a0_4, .int .i64 a0_5, .int .i64 a0_6]), (1, .pointer (some ⟨b2_, 0, none⟩)), (2, .bool false), (4, .pointer (some ⟨b2_, 0, none⟩)), (5, .int .i64 a0_0), (6, .int .i64 t18_), (7, .pointer (some ⟨b2_, 1, none⟩)), (8, .int .i64 a0_1), (9, .int .i64 t20_), (10, .pointer (some ⟨b2_, 2, none⟩)), (11, .int .i64 a0_2), (12, .int .i64 t22_), (13, .pointer (some ⟨b2_, 3, none⟩)), (14, .int .i64 a0_3), (15, .int .i64 t24_), (16, .pointer (some ⟨b2_, 4, none⟩)), (17, .int .i64 a0_4), (18, .int .i64 t26_), (19, .pointer (some ⟨b2_, 5, none⟩)), (20, .int .i64 a0_5), (21, .int .i64 t28_), (22, .pointer (some ⟨b2_, 6, none⟩)), (23, .int .i64 a0_6)]) (L := [.b b2_ (.cells #[.int .i64 a0_0, .int .i64 a0_1, .int .i64 a0_2, .int .i64 a0_3, .int .i64 a0_4, .int .i64 a0_5, .int .i64 a0_6] 23 (0, 0))]) ?_
 refine a_2 (i := 20) (j := 22) (by kernel_rfl) ?_ ?_
 refine i_e rfl rfl (e_callF [] #[.int .i64 a0_6, .int .i64 0, .int .i64 1073741823] rfl rfl rfl rfl rfl Tryz.func39 rfl (by decide) rfl rfl rfl rfl (fun w ht => plan_to_con a0_6 0 1073741823 t30_ e31_ w _)) ?_
 refine ⟨(mem_pick (idx := [0]) rfl), ?_⟩
 refine a_v 21 rfl (by kernel_rfl) (by kernel_rfl) (by kernel_rfl) rfl rfl rfl (v_build (places := #[(0, 1), (1, 1), (2, 1), (3, 1), (4, 1), (5, 1), (6, 1)]) #[.int .i64 t18_, .int .i64 t20_, .int .i64 t22_, .int .i64 t24_, .int .i64 t26_, .int .i64 t28_, .int .i64 t30_] rfl ZR23 Tryz.underlying23 (by kernel_rfl) rfl (by kernel_rfl)) ?_
 exact a_take (J2_5_8_11_14_17_20 ()) [0] (by kernel_rfl) rfl (subF_spec ⟨rfl, rfl, rfl, rfl, rfl, rfl, rfl, rfl, rfl, rfl, rfl, rfl, rfl, rfl, rfl, rfl, rfl, rfl, rfl, rfl, rfl, rfl, rfl, rfl, rfl, trivial⟩) rfl (by decide)
 refine i_e rfl rfl (e_alloc rfl rfl rfl ZR23) ?_
 intro bo22_1_
 refine ⟨(mem_pick (idx := [1]) rfl), ?_⟩
 exact a_take (J2_5_8_11_14_17_22 bo22_1_) [1, 0] (by kernel_rfl) rfl (subF_spec ⟨rfl, rfl, rfl, rfl, rfl, rfl, rfl, rfl, rfl, rfl, rfl, rfl, rfl, rfl, rfl, rfl, rfl, rfl, rfl, rfl, rfl, rfl, rfl, rfl, trivial⟩) rfl (by decide)
 intro J2_5_8_11_14_17
 refine a_join (β := Nat) 4 #[true, true, true, true, true, true, true, true, true, true, true, true, true, true, true, true, true, false, true, true, false, false, true, false] (fun bo22_1_ => [(0, .agg #[.int .i64 a0_0, .int .i64 a0_1, .int .i64 a0_2, .int .i64 a0_3, .int .i64 a0_4, .int .i64 a0_5, .int .i64 a0_6]), (1, .pointer (some ⟨b2_, 0, none⟩)), (2, .bool false), (3, .pointer (some ⟨bo22_1_, 0, none⟩)), (4, .pointer (some ⟨b2_, 0, none⟩)), (5, .int .i64 a0_0), (6, .int .i64 t18_), (7, .pointer (some ⟨b2_, 1, none⟩)), (8, .int .i64 a0_1), (9, .int .i64 t20_), (10, .pointer (some ⟨b2_, 2, none⟩)), (11, .int .i64 a0_2), (12, .int .i64 t22_), (13, .pointer (some ⟨b2_, 3, none⟩)), (14, .int .i64 a0_3), (15, .int .i64 t24_), (16, .pointer (some ⟨b2_, 4, none⟩)), (17, .int .i64 a0_4), (18, .int .i64 t26_), (19, .pointer (some ⟨b2_, 5, none⟩)), (20, .int .i64 a0_5), (22, .pointer (some ⟨b2_, 6, none⟩)), (23, .int .i64 a0_6)]) (fun bo22_1_ => [.b b2_ (.cells #[.int .i64 a0_0, .int .i64 a0_1, .int .i64 a0_2, .int .i64 a0_3, .int .i64 a0_4, .int .i64 a0_5, .int .i64 a0_6] 23 (0, 0)), .b bo22_1_ (.cells #[.int .i64 0, .int .i64 0, .int .i64 0, .int .i64 0, .int .i64 0, .int .i64 0, .int .i64 0] 23 (0, 0))]) ?_ ?_
 rintro bo22_1_
 refine a_w (F := [(0, .agg #[.int .i64 a0_0, .int .i64 a0_1, .int .i64 a0_2, .int .i64 a0_3, .int .i64 a0_4, .int .i64 a0_5, .int .i64 a0_6]), (1, .pointer (some ⟨b2_, 0, none⟩)), (2, .bool false), (3, .pointer (some ⟨bo22_1_, 0, none⟩)), (4, .pointer (some ⟨b2_, 0, none⟩)), (5, .int .i64 a0_0), (6, .int .i64 t18_), (7, .pointer (some ⟨b2_, 1, none⟩)), (8, .int .i64 a0_1), (9, .int .i64 t20_), (10, .pointer (some ⟨b2_, 2, none⟩)), (11, .int .i64 a0_2), (12, .int .i64 t22_), (13, .pointer (some ⟨b2_, 3, none⟩)), (14, .int .i64 a0_3), (15, .int .i64 t24_), (16, .pointer (some ⟨b2_, 4, none⟩)), (17, .int .i64 a0_4), (18, .int .i64 t26_), (19, .pointer (some ⟨b2_, 5, none⟩)), (20, .int .i64 a0_5), (22, .pointer (some ⟨b2_, 6, none⟩)), (23, .int .i64 a0_6)]) (L := [.b b2_ (.cells #[.int .i64 a0_0, .int .i64 a0_1, .int .i64 a0_2, .int .i64 a0_3, .int .i64 a0_4, .int .i64 a0_5, .int .i64 a0_6] 23 (0, 0)), .b bo22_1_ (.cells #[.int .i64 0, .int .i64 0, .int .i64 0, .int .i64 0, .int .i64 0, .int .i64 0, .int .i64 0] 23 (0, 0))]) ?_
 refine a_1 (i := 17) (by kernel_rfl) ?_
 refine i_e rfl rfl (e_callF [] #[.int .i64 a0_5, .int .i64 1, .int .i64 64] rfl rfl rfl rfl rfl Tryz.func39 rfl (by decide) rfl rfl rfl rfl (fun w ht => plan_to_con a0_5 1 64 t28_ e29_ w _)) ?_
 refine ⟨(mem_pick (idx := [0]) rfl), ?_⟩
 exact a_take (J2_5_8_11_14_17_22 bo22_1_) [0, 1] (by kernel_rfl) rfl (subF_spec ⟨rfl, rfl, rfl, rfl, rfl, rfl, rfl, rfl, rfl, rfl, rfl, rfl, rfl, rfl, rfl, rfl, rfl, rfl, rfl, rfl, rfl, rfl, rfl, rfl, trivial⟩) rfl (by decide)
 intro J2_5_8_11_14_22
 refine a_join (β := Unit) 5 #[true, true, true, true, true, true, true, true, true, true, true, true, true, true, true, true, true, false, true, true, false, false, false, false] (fun _ => [(0, .agg #[.int .i64 a0_0, .int .i64 a0_1, .int .i64 a0_2, .int .i64 a0_3, .int .i64 a0_4, .int .i64 a0_5, .int .i64 a0_6]), (1, .pointer (some ⟨b2_, 0, none⟩)), (2, .bool false), (4, .pointer (some ⟨b2_, 0, none⟩)), (5, .int .i64 a0_0), (6, .int .i64 t18_), (7, .pointer (some ⟨b2_, 1, none⟩)), (8, .int .i64 a0_1), (9, .int .i64 t20_), (10, .pointer (some ⟨b2_, 2, none⟩)), (11, .int .i64 a0_2), (12, .int .i64 t22_), (13, .pointer (some ⟨b2_, 3, none⟩)), (14, .int .i64 a0_3), (15, .int .i64 t24_), (16, .pointer (some ⟨b2_, 4, none⟩)), (17, .int .i64 a0_4), (18, .int .i64 t26_), (19, .pointer (some ⟨b2_, 5, none⟩)), (20, .int .i64 a0_5), (22, .pointer (some ⟨b2_, 6, none⟩)), (23, .int .i64 a0_6)]) (fun _ => [.b b2_ (.cells #[.int .i64 a0_0, .int .i64 a0_1, .int .i64 a0_2, .int .i64 a0_3, .int .i64 a0_4, .int .i64 a0_5, .int .i64 a0_6] 23 (0, 0))]) ?_ ?_
 rintro _
 refine a_w (F := [(0, .agg #[.int .i64 a0_0, .int .i64 a0_1, .int .i64 a0_2, .int .i64 a0_3, .int .i64 a0_4, .int .i64 a0_5, .int .i64 a0_6]), (1, .pointer (some ⟨b2_, 0, none⟩)), (2, .bool false), (4, .pointer (some ⟨b2_, 0, none⟩)), (5, .int .i64 a0_0), (6, .int .i64 t18_), (7, .pointer (some ⟨b2_, 1, none⟩)), (8, .int .i64 a0_1), (9, .int .i64 t20_), (10, .pointer (some ⟨b2_, 2, none⟩)), (11, .int .i64 a0_2), (12, .int .i64 t22_), (13, .pointer (some ⟨b2_, 3, none⟩)), (14, .int .i64 a0_3), (15, .int .i64 t24_), (16, .pointer (some ⟨b2_, 4, none⟩)), (17, .int .i64 a0_4), (18, .int .i64 t26_), (19, .pointer (some ⟨b2_, 5, none⟩)), (20, .int .i64 a0_5), (22, .pointer (some ⟨b2_, 6, none⟩)), (23, .int .i64 a0_6)]) (L := [.b b2_ (.cells #[.int .i64 a0_0, .int .i64 a0_1, .int .i64 a0_2, .int .i64 a0_3, .int .i64 a0_4, .int .i64 a0_5, .int .i64 a0_6] 23 (0, 0))]) ?_
 refine a_2 (i := 17) (j := 22) (by kernel_rfl) ?_ ?_
 refine i_e rfl rfl (e_callF [] #[.int .i64 a0_5, .int .i64 1, .int .i64 64] rfl rfl rfl rfl rfl Tryz.func39 rfl (by decide) rfl rfl rfl rfl (fun w ht => plan_to_con a0_5 1 64 t28_ e29_ w _)) ?_
 refine ⟨(mem_pick (idx := [0]) rfl), ?_⟩
 exact a_take (J2_5_8_11_14_17 ()) [0] (by kernel_rfl) rfl (subF_spec ⟨rfl, rfl, rfl, rfl, rfl, rfl, rfl, rfl, rfl, rfl, rfl, rfl, rfl, rfl, rfl, rfl, rfl, rfl, rfl, rfl, rfl, rfl, rfl, trivial⟩) rfl (by decide)
 refine i_e rfl rfl (e_alloc rfl rfl rfl ZR23) ?_
 intro bo22_1_
 refine ⟨(mem_pick (idx := [1]) rfl), ?_⟩
 exact a_take (J2_5_8_11_14_22 bo22_1_) [1, 0] (by kernel_rfl) rfl (subF_spec ⟨rfl, rfl, rfl, rfl, rfl, rfl, rfl, rfl, rfl, rfl, rfl, rfl, rfl, rfl, rfl, rfl, rfl, rfl, rfl, rfl, rfl, rfl, rfl, trivial⟩) rfl (by decide)
 intro J2_5_8_11_14
 refine a_join (β := Nat) 5 #[true, true, true, true, true, true, true, true, true, true, true, true, true, true, false, true, true, false, true, true, false, false, true, false] (fun bo22_1_ => [(0, .agg #[.int .i64 a0_0, .int .i64 a0_1, .int .i64 a0_2, .int .i64 a0_3, .int .i64 a0_4, .int .i64 a0_5, .int .i64 a0_6]), (1, .pointer (some ⟨b2_, 0, none⟩)), (2, .bool false), (3, .pointer (some ⟨bo22_1_, 0, none⟩)), (4, .pointer (some ⟨b2_, 0, none⟩)), (5, .int .i64 a0_0), (6, .int .i64 t18_), (7, .pointer (some ⟨b2_, 1, none⟩)), (8, .int .i64 a0_1), (9, .int .i64 t20_), (10, .pointer (some ⟨b2_, 2, none⟩)), (11, .int .i64 a0_2), (12, .int .i64 t22_), (13, .pointer (some ⟨b2_, 3, none⟩)), (14, .int .i64 a0_3), (15, .int .i64 t24_), (16, .pointer (some ⟨b2_, 4, none⟩)), (17, .int .i64 a0_4), (19, .pointer (some ⟨b2_, 5, none⟩)), (20, .int .i64 a0_5), (22, .pointer (some ⟨b2_, 6, none⟩)), (23, .int .i64 a0_6)]) (fun bo22_1_ => [.b b2_ (.cells #[.int .i64 a0_0, .int .i64 a0_1, .int .i64 a0_2, .int .i64 a0_3, .int .i64 a0_4, .int .i64 a0_5, .int .i64 a0_6] 23 (0, 0)), .b bo22_1_ (.cells #[.int .i64 0, .int .i64 0, .int .i64 0, .int .i64 0, .int .i64 0, .int .i64 0, .int .i64 0] 23 (0, 0))]) ?_ ?_
 rintro bo22_1_
 refine a_w (F := [(0, .agg #[.int .i64 a0_0, .int .i64 a0_1, .int .i64 a0_2, .int .i64 a0_3, .int .i64 a0_4, .int .i64 a0_5, .int .i64 a0_6]), (1, .pointer (some ⟨b2_, 0, none⟩)), (2, .bool false), (3, .pointer (some ⟨bo22_1_, 0, none⟩)), (4, .pointer (some ⟨b2_, 0, none⟩)), (5, .int .i64 a0_0), (6, .int .i64 t18_), (7, .pointer (some ⟨b2_, 1, none⟩)), (8, .int .i64 a0_1), (9, .int .i64 t20_), (10, .pointer (some ⟨b2_, 2, none⟩)), (11, .int .i64 a0_2), (12, .int .i64 t22_), (13, .pointer (some ⟨b2_, 3, none⟩)), (14, .int .i64 a0_3), (15, .int .i64 t24_), (16, .pointer (some ⟨b2_, 4, none⟩)), (17, .int .i64 a0_4), (19, .pointer (some ⟨b2_, 5, none⟩)), (20, .int .i64 a0_5), (22, .pointer (some ⟨b2_, 6, none⟩)), (23, .int .i64 a0_6)]) (L := [.b b2_ (.cells #[.int .i64 a0_0, .int .i64 a0_1, .int .i64 a0_2, .int .i64 a0_3, .int .i64 a0_4, .int .i64 a0_5, .int .i64 a0_6] 23 (0, 0)), .b bo22_1_ (.cells #[.int .i64 0, .int .i64 0, .int .i64 0, .int .i64 0, .int .i64 0, .int .i64 0, .int .i64 0] 23 (0, 0))]) ?_
 refine a_1 (i := 14) (by kernel_rfl) ?_
 refine i_e rfl rfl (e_callF [] #[.int .i64 a0_4, .int .i64 1, .int .i64 64] rfl rfl rfl rfl rfl Tryz.func39 rfl (by decide) rfl rfl rfl rfl (fun w ht => plan_to_con a0_4 1 64 t26_ e27_ w _)) ?_
 refine ⟨(mem_pick (idx := [0]) rfl), ?_⟩
 exact a_take (J2_5_8_11_14_22 bo22_1_) [0, 1] (by kernel_rfl) rfl (subF_spec ⟨rfl, rfl, rfl, rfl, rfl, rfl, rfl, rfl, rfl, rfl, rfl, rfl, rfl, rfl, rfl, rfl, rfl, rfl, rfl, rfl, rfl, rfl, rfl, trivial⟩) rfl (by decide)
 intro J2_5_8_11_22
 refine a_join (β := Unit) 6 #[true, true, true, true, true, true, true, true, true, true, true, true, true, true, false, true, true, false, true, true, false, false, false, false] (fun _ => [(0, .agg #[.int .i64 a0_0, .int .i64 a0_1, .int .i64 a0_2, .int .i64 a0_3, .int .i64 a0_4, .int .i64 a0_5, .int .i64 a0_6]), (1, .pointer (some ⟨b2_, 0, none⟩)), (2, .bool false), (4, .pointer (some ⟨b2_, 0, none⟩)), (5, .int .i64 a0_0), (6, .int .i64 t18_), (7, .pointer (some ⟨b2_, 1, none⟩)), (8, .int .i64 a0_1), (9, .int .i64 t20_), (10, .pointer (some ⟨b2_, 2, none⟩)), (11, .int .i64 a0_2), (12, .int .i64 t22_), (13, .pointer (some ⟨b2_, 3, none⟩)), (14, .int .i64 a0_3), (15, .int .i64 t24_), (16, .pointer (some ⟨b2_, 4, none⟩)), (17, .int .i64 a0_4), (19, .pointer (some ⟨b2_, 5, none⟩)), (20, .int .i64 a0_5), (22, .pointer (some ⟨b2_, 6, none⟩)), (23, .int .i64 a0_6)]) (fun _ => [.b b2_ (.cells #[.int .i64 a0_0, .int .i64 a0_1, .int .i64 a0_2, .int .i64 a0_3, .int .i64 a0_4, .int .i64 a0_5, .int .i64 a0_6] 23 (0, 0))]) ?_ ?_
 rintro _
 refine a_w (F := [(0, .agg #[.int .i64 a0_0, .int .i64 a0_1, .int .i64 a0_2, .int .i64 a0_3, .int .i64 a0_4, .int .i64 a0_5, .int .i64 a0_6]), (1, .pointer (some ⟨b2_, 0, none⟩)), (2, .bool false), (4, .pointer (some ⟨b2_, 0, none⟩)), (5, .int .i64 a0_0), (6, .int .i64 t18_), (7, .pointer (some ⟨b2_, 1, none⟩)), (8, .int .i64 a0_1), (9, .int .i64 t20_), (10, .pointer (some ⟨b2_, 2, none⟩)), (11, .int .i64 a0_2), (12, .int .i64 t22_), (13, .pointer (some ⟨b2_, 3, none⟩)), (14, .int .i64 a0_3), (15, .int .i64 t24_), (16, .pointer (some ⟨b2_, 4, none⟩)), (17, .int .i64 a0_4), (19, .pointer (some ⟨b2_, 5, none⟩)), (20, .int .i64 a0_5), (22, .pointer (some ⟨b2_, 6, none⟩)), (23, .int .i64 a0_6)]) (L := [.b b2_ (.cells #[.int .i64 a0_0, .int .i64 a0_1, .int .i64 a0_2, .int .i64 a0_3, .int .i64 a0_4, .int .i64 a0_5, .int .i64 a0_6] 23 (0, 0))]) ?_
 refine a_2 (i := 14) (j := 22) (by kernel_rfl) ?_ ?_
 refine i_e rfl rfl (e_callF [] #[.int .i64 a0_4, .int .i64 1, .int .i64 64] rfl rfl rfl rfl rfl Tryz.func39 rfl (by decide) rfl rfl rfl rfl (fun w ht => plan_to_con a0_4 1 64 t26_ e27_ w _)) ?_
 refine ⟨(mem_pick (idx := [0]) rfl), ?_⟩
 exact a_take (J2_5_8_11_14 ()) [0] (by kernel_rfl) rfl (subF_spec ⟨rfl, rfl, rfl, rfl, rfl, rfl, rfl, rfl, rfl, rfl, rfl, rfl, rfl, rfl, rfl, rfl, rfl, rfl, rfl, rfl, rfl, rfl, trivial⟩) rfl (by decide)
 refine i_e rfl rfl (e_alloc rfl rfl rfl ZR23) ?_
 intro bo22_1_
 refine ⟨(mem_pick (idx := [1]) rfl), ?_⟩
 exact a_take (J2_5_8_11_22 bo22_1_) [1, 0] (by kernel_rfl) rfl (subF_spec ⟨rfl, rfl, rfl, rfl, rfl, rfl, rfl, rfl, rfl, rfl, rfl, rfl, rfl, rfl, rfl, rfl, rfl, rfl, rfl, rfl, rfl, rfl, trivial⟩) rfl (by decide)
 intro J2_5_8_11
 refine a_join (β := Nat) 6 #[true, true, true, true, true, true, true, true, true, true, true, false, true, true, false, true, true, false, true, true, false, false, true, false] (fun bo22_1_ => [(0, .agg #[.int .i64 a0_0, .int .i64 a0_1, .int .i64 a0_2, .int .i64 a0_3, .int .i64 a0_4, .int .i64 a0_5, .int .i64 a0_6]), (1, .pointer (some ⟨b2_, 0, none⟩)), (2, .bool false), (3, .pointer (some ⟨bo22_1_, 0, none⟩)), (4, .pointer (some ⟨b2_, 0, none⟩)), (5, .int .i64 a0_0), (6, .int .i64 t18_), (7, .pointer (some ⟨b2_, 1, none⟩)), (8, .int .i64 a0_1), (9, .int .i64 t20_), (10, .pointer (some ⟨b2_, 2, none⟩)), (11, .int .i64 a0_2), (12, .int .i64 t22_), (13, .pointer (some ⟨b2_, 3, none⟩)), (14, .int .i64 a0_3), (16, .pointer (some ⟨b2_, 4, none⟩)), (17, .int .i64 a0_4), (19, .pointer (some ⟨b2_, 5, none⟩)), (20, .int .i64 a0_5), (22, .pointer (some ⟨b2_, 6, none⟩)), (23, .int .i64 a0_6)]) (fun bo22_1_ => [.b b2_ (.cells #[.int .i64 a0_0, .int .i64 a0_1, .int .i64 a0_2, .int .i64 a0_3, .int .i64 a0_4, .int .i64 a0_5, .int .i64 a0_6] 23 (0, 0)), .b bo22_1_ (.cells #[.int .i64 0, .int .i64 0, .int .i64 0, .int .i64 0, .int .i64 0, .int .i64 0, .int .i64 0] 23 (0, 0))]) ?_ ?_
 rintro bo22_1_
 refine a_w (F := [(0, .agg #[.int .i64 a0_0, .int .i64 a0_1, .int .i64 a0_2, .int .i64 a0_3, .int .i64 a0_4, .int .i64 a0_5, .int .i64 a0_6]), (1, .pointer (some ⟨b2_, 0, none⟩)), (2, .bool false), (3, .pointer (some ⟨bo22_1_, 0, none⟩)), (4, .pointer (some ⟨b2_, 0, none⟩)), (5, .int .i64 a0_0), (6, .int .i64 t18_), (7, .pointer (some ⟨b2_, 1, none⟩)), (8, .int .i64 a0_1), (9, .int .i64 t20_), (10, .pointer (some ⟨b2_, 2, none⟩)), (11, .int .i64 a0_2), (12, .int .i64 t22_), (13, .pointer (some ⟨b2_, 3, none⟩)), (14, .int .i64 a0_3), (16, .pointer (some ⟨b2_, 4, none⟩)), (17, .int .i64 a0_4), (19, .pointer (some ⟨b2_, 5, none⟩)), (20, .int .i64 a0_5), (22, .pointer (some ⟨b2_, 6, none⟩)), (23, .int .i64 a0_6)]) (L := [.b b2_ (.cells #[.int .i64 a0_0, .int .i64 a0_1, .int .i64 a0_2, .int .i64 a0_3, .int .i64 a0_4, .int .i64 a0_5, .int .i64 a0_6] 23 (0, 0)), .b bo22_1_ (.cells #[.int .i64 0, .int .i64 0, .int .i64 0, .int .i64 0, .int .i64 0, .int .i64 0, .int .i64 0] 23 (0, 0))]) ?_
 refine a_1 (i := 11) (by kernel_rfl) ?_
 refine i_e rfl rfl (e_callF [] #[.int .i64 a0_3, .int .i64 1, .int .i64 6] rfl rfl rfl rfl rfl Tryz.func39 rfl (by decide) rfl rfl rfl rfl (fun w ht => plan_to_con a0_3 1 6 t24_ e25_ w _)) ?_
 refine ⟨(mem_pick (idx := [0]) rfl), ?_⟩
 exact a_take (J2_5_8_11_22 bo22_1_) [0, 1] (by kernel_rfl) rfl (subF_spec ⟨rfl, rfl, rfl, rfl, rfl, rfl, rfl, rfl, rfl, rfl, rfl, rfl, rfl, rfl, rfl, rfl, rfl, rfl, rfl, rfl, rfl, rfl, trivial⟩) rfl (by decide)
 intro J2_5_8_22
 refine a_join (β := Unit) 7 #[true, true, true, true, true, true, true, true, true, true, true, false, true, true, false, true, true, false, true, true, false, false, false, false] (fun _ => [(0, .agg #[.int .i64 a0_0, .int .i64 a0_1, .int .i64 a0_2, .int .i64 a0_3, .int .i64 a0_4, .int .i64 a0_5, .int .i64 a0_6]), (1, .pointer (some ⟨b2_, 0, none⟩)), (2, .bool false), (4, .pointer (some ⟨b2_, 0, none⟩)), (5, .int .i64 a0_0), (6, .int .i64 t18_), (7, .pointer (some ⟨b2_, 1, none⟩)), (8, .int .i64 a0_1), (9, .int .i64 t20_), (10, .pointer (some ⟨b2_, 2, none⟩)), (11, .int .i64 a0_2), (12, .int .i64 t22_), (13, .pointer (some ⟨b2_, 3, none⟩)), (14, .int .i64 a0_3), (16, .pointer (some ⟨b2_, 4, none⟩)), (17, .int .i64 a0_4), (19, .pointer (some ⟨b2_, 5, none⟩)), (20, .int .i64 a0_5), (22, .pointer (some ⟨b2_, 6, none⟩)), (23, .int .i64 a0_6)]) (fun _ => [.b b2_ (.cells #[.int .i64 a0_0, .int .i64 a0_1, .int .i64 a0_2, .int .i64 a0_3, .int .i64 a0_4, .int .i64 a0_5, .int .i64 a0_6] 23 (0, 0))]) ?_ ?_
 rintro _
 refine a_w (F := [(0, .agg #[.int .i64 a0_0, .int .i64 a0_1, .int .i64 a0_2, .int .i64 a0_3, .int .i64 a0_4, .int .i64 a0_5, .int .i64 a0_6]), (1, .pointer (some ⟨b2_, 0, none⟩)), (2, .bool false), (4, .pointer (some ⟨b2_, 0, none⟩)), (5, .int .i64 a0_0), (6, .int .i64 t18_), (7, .pointer (some ⟨b2_, 1, none⟩)), (8, .int .i64 a0_1), (9, .int .i64 t20_), (10, .pointer (some ⟨b2_, 2, none⟩)), (11, .int .i64 a0_2), (12, .int .i64 t22_), (13, .pointer (some ⟨b2_, 3, none⟩)), (14, .int .i64 a0_3), (16, .pointer (some ⟨b2_, 4, none⟩)), (17, .int .i64 a0_4), (19, .pointer (some ⟨b2_, 5, none⟩)), (20, .int .i64 a0_5), (22, .pointer (some ⟨b2_, 6, none⟩)), (23, .int .i64 a0_6)]) (L := [.b b2_ (.cells #[.int .i64 a0_0, .int .i64 a0_1, .int .i64 a0_2, .int .i64 a0_3, .int .i64 a0_4, .int .i64 a0_5, .int .i64 a0_6] 23 (0, 0))]) ?_
 refine a_2 (i := 11) (j := 22) (by kernel_rfl) ?_ ?_
 refine i_e rfl rfl (e_callF [] #[.int .i64 a0_3, .int .i64 1, .int .i64 6] rfl rfl rfl rfl rfl Tryz.func39 rfl (by decide) rfl rfl rfl rfl (fun w ht => plan_to_con a0_3 1 6 t24_ e25_ w _)) ?_
 refine ⟨(mem_pick (idx := [0]) rfl), ?_⟩
 exact a_take (J2_5_8_11 ()) [0] (by kernel_rfl) rfl (subF_spec ⟨rfl, rfl, rfl, rfl, rfl, rfl, rfl, rfl, rfl, rfl, rfl, rfl, rfl, rfl, rfl, rfl, rfl, rfl, rfl, rfl, rfl, trivial⟩) rfl (by decide)
 refine i_e rfl rfl (e_alloc rfl rfl rfl ZR23) ?_
 intro bo22_1_
 refine ⟨(mem_pick (idx := [1]) rfl), ?_⟩
 exact a_take (J2_5_8_22 bo22_1_) [1, 0] (by kernel_rfl) rfl (subF_spec ⟨rfl, rfl, rfl, rfl, rfl, rfl, rfl, rfl, rfl, rfl, rfl, rfl, rfl, rfl, rfl, rfl, rfl, rfl, rfl, rfl, rfl, trivial⟩) rfl (by decide)
 intro J2_5_8
 refine a_join (β := Nat) 7 #[true, true, true, true, true, true, true, true, false, true, true, false, true, true, false, true, true, false, true, true, false, false, true, false] (fun bo22_1_ => [(0, .agg #[.int .i64 a0_0, .int .i64 a0_1, .int .i64 a0_2, .int .i64 a0_3, .int .i64 a0_4, .int .i64 a0_5, .int .i64 a0_6]), (1, .pointer (some ⟨b2_, 0, none⟩)), (2, .bool false), (3, .pointer (some ⟨bo22_1_, 0, none⟩)), (4, .pointer (some ⟨b2_, 0, none⟩)), (5, .int .i64 a0_0), (6, .int .i64 t18_), (7, .pointer (some ⟨b2_, 1, none⟩)), (8, .int .i64 a0_1), (9, .int .i64 t20_), (10, .pointer (some ⟨b2_, 2, none⟩)), (11, .int .i64 a0_2), (13, .pointer (some ⟨b2_, 3, none⟩)), (14, .int .i64 a0_3), (16, .pointer (some ⟨b2_, 4, none⟩)), (17, .int .i64 a0_4), (19, .pointer (some ⟨b2_, 5, none⟩)), (20, .int .i64 a0_5), (22, .pointer (some ⟨b2_, 6, none⟩)), (23, .int .i64 a0_6)]) (fun bo22_1_ => [.b b2_ (.cells #[.int .i64 a0_0, .int .i64 a0_1, .int .i64 a0_2, .int .i64 a0_3, .int .i64 a0_4, .int .i64 a0_5, .int .i64 a0_6] 23 (0, 0)), .b bo22_1_ (.cells #[.int .i64 0, .int .i64 0, .int .i64 0, .int .i64 0, .int .i64 0, .int .i64 0, .int .i64 0] 23 (0, 0))]) ?_ ?_
 rintro bo22_1_
 refine a_w (F := [(0, .agg #[.int .i64 a0_0, .int .i64 a0_1, .int .i64 a0_2, .int .i64 a0_3, .int .i64 a0_4, .int .i64 a0_5, .int .i64 a0_6]), (1, .pointer (some ⟨b2_, 0, none⟩)), (2, .bool false), (3, .pointer (some ⟨bo22_1_, 0, none⟩)), (4, .pointer (some ⟨b2_, 0, none⟩)), (5, .int .i64 a0_0), (6, .int .i64 t18_), (7, .pointer (some ⟨b2_, 1, none⟩)), (8, .int .i64 a0_1), (9, .int .i64 t20_), (10, .pointer (some ⟨b2_, 2, none⟩)), (11, .int .i64 a0_2), (13, .pointer (some ⟨b2_, 3, none⟩)), (14, .int .i64 a0_3), (16, .pointer (some ⟨b2_, 4, none⟩)), (17, .int .i64 a0_4), (19, .pointer (some ⟨b2_, 5, none⟩)), (20, .int .i64 a0_5), (22, .pointer (some ⟨b2_, 6, none⟩)), (23, .int .i64 a0_6)]) (L := [.b b2_ (.cells #[.int .i64 a0_0, .int .i64 a0_1, .int .i64 a0_2, .int .i64 a0_3, .int .i64 a0_4, .int .i64 a0_5, .int .i64 a0_6] 23 (0, 0)), .b bo22_1_ (.cells #[.int .i64 0, .int .i64 0, .int .i64 0, .int .i64 0, .int .i64 0, .int .i64 0, .int .i64 0] 23 (0, 0))]) ?_
 refine a_1 (i := 8) (by kernel_rfl) ?_
 refine i_e rfl rfl (e_callF [] #[.int .i64 a0_2, .int .i64 1, .int .i64 64] rfl rfl rfl rfl rfl Tryz.func39 rfl (by decide) rfl rfl rfl rfl (fun w ht => plan_to_con a0_2 1 64 t22_ e23_ w _)) ?_
 refine ⟨(mem_pick (idx := [0]) rfl), ?_⟩
 exact a_take (J2_5_8_22 bo22_1_) [0, 1] (by kernel_rfl) rfl (subF_spec ⟨rfl, rfl, rfl, rfl, rfl, rfl, rfl, rfl, rfl, rfl, rfl, rfl, rfl, rfl, rfl, rfl, rfl, rfl, rfl, rfl, rfl, trivial⟩) rfl (by decide)
 intro J2_5_22
 refine a_join (β := Unit) 8 #[true, true, true, true, true, true, true, true, false, true, true, false, true, true, false, true, true, false, true, true, false, false, false, false] (fun _ => [(0, .agg #[.int .i64 a0_0, .int .i64 a0_1, .int .i64 a0_2, .int .i64 a0_3, .int .i64 a0_4, .int .i64 a0_5, .int .i64 a0_6]), (1, .pointer (some ⟨b2_, 0, none⟩)), (2, .bool false), (4, .pointer (some ⟨b2_, 0, none⟩)), (5, .int .i64 a0_0), (6, .int .i64 t18_), (7, .pointer (some ⟨b2_, 1, none⟩)), (8, .int .i64 a0_1), (9, .int .i64 t20_), (10, .pointer (some ⟨b2_, 2, none⟩)), (11, .int .i64 a0_2), (13, .pointer (some ⟨b2_, 3, none⟩)), (14, .int .i64 a0_3), (16, .pointer (some ⟨b2_, 4, none⟩)), (17, .int .i64 a0_4), (19, .pointer (some ⟨b2_, 5, none⟩)), (20, .int .i64 a0_5), (22, .pointer (some ⟨b2_, 6, none⟩)), (23, .int .i64 a0_6)]) (fun _ => [.b b2_ (.cells #[.int .i64 a0_0, .int .i64 a0_1, .int .i64 a0_2, .int .i64 a0_3, .int .i64 a0_4, .int .i64 a0_5, .int .i64 a0_6] 23 (0, 0))]) ?_ ?_
 rintro _
 refine a_w (F := [(0, .agg #[.int .i64 a0_0, .int .i64 a0_1, .int .i64 a0_2, .int .i64 a0_3, .int .i64 a0_4, .int .i64 a0_5, .int .i64 a0_6]), (1, .pointer (some ⟨b2_, 0, none⟩)), (2, .bool false), (4, .pointer (some ⟨b2_, 0, none⟩)), (5, .int .i64 a0_0), (6, .int .i64 t18_), (7, .pointer (some ⟨b2_, 1, none⟩)), (8, .int .i64 a0_1), (9, .int .i64 t20_), (10, .pointer (some ⟨b2_, 2, none⟩)), (11, .int .i64 a0_2), (13, .pointer (some ⟨b2_, 3, none⟩)), (14, .int .i64 a0_3), (16, .pointer (some ⟨b2_, 4, none⟩)), (17, .int .i64 a0_4), (19, .pointer (some ⟨b2_, 5, none⟩)), (20, .int .i64 a0_5), (22, .pointer (some ⟨b2_, 6, none⟩)), (23, .int .i64 a0_6)]) (L := [.b b2_ (.cells #[.int .i64 a0_0, .int .i64 a0_1, .int .i64 a0_2, .int .i64 a0_3, .int .i64 a0_4, .int .i64 a0_5, .int .i64 a0_6] 23 (0, 0))]) ?_
 refine a_2 (i := 8) (j := 22) (by kernel_rfl) ?_ ?_
 refine i_e rfl rfl (e_callF [] #[.int .i64 a0_2, .int .i64 1, .int .i64 64] rfl rfl rfl rfl rfl Tryz.func39 rfl (by decide) rfl rfl rfl rfl (fun w ht => plan_to_con a0_2 1 64 t22_ e23_ w _)) ?_
 refine ⟨(mem_pick (idx := [0]) rfl), ?_⟩
 exact a_take (J2_5_8 ()) [0] (by kernel_rfl) rfl (subF_spec ⟨rfl, rfl, rfl, rfl, rfl, rfl, rfl, rfl, rfl, rfl, rfl, rfl, rfl, rfl, rfl, rfl, rfl, rfl, rfl, rfl, trivial⟩) rfl (by decide)
 refine i_e rfl rfl (e_alloc rfl rfl rfl ZR23) ?_
 intro bo22_1_
 refine ⟨(mem_pick (idx := [1]) rfl), ?_⟩
 exact a_take (J2_5_22 bo22_1_) [1, 0] (by kernel_rfl) rfl (subF_spec ⟨rfl, rfl, rfl, rfl, rfl, rfl, rfl, rfl, rfl, rfl, rfl, rfl, rfl, rfl, rfl, rfl, rfl, rfl, rfl, rfl, trivial⟩) rfl (by decide)
 intro J2_5
 refine a_join (β := Nat) 8 #[true, true, true, true, true, false, true, true, false, true, true, false, true, true, false, true, true, false, true, true, false, false, true, false] (fun bo22_1_ => [(0, .agg #[.int .i64 a0_0, .int .i64 a0_1, .int .i64 a0_2, .int .i64 a0_3, .int .i64 a0_4, .int .i64 a0_5, .int .i64 a0_6]), (1, .pointer (some ⟨b2_, 0, none⟩)), (2, .bool false), (3, .pointer (some ⟨bo22_1_, 0, none⟩)), (4, .pointer (some ⟨b2_, 0, none⟩)), (5, .int .i64 a0_0), (6, .int .i64 t18_), (7, .pointer (some ⟨b2_, 1, none⟩)), (8, .int .i64 a0_1), (10, .pointer (some ⟨b2_, 2, none⟩)), (11, .int .i64 a0_2), (13, .pointer (some ⟨b2_, 3, none⟩)), (14, .int .i64 a0_3), (16, .pointer (some ⟨b2_, 4, none⟩)), (17, .int .i64 a0_4), (19, .pointer (some ⟨b2_, 5, none⟩)), (20, .int .i64 a0_5), (22, .pointer (some ⟨b2_, 6, none⟩)), (23, .int .i64 a0_6)]) (fun bo22_1_ => [.b b2_ (.cells #[.int .i64 a0_0, .int .i64 a0_1, .int .i64 a0_2, .int .i64 a0_3, .int .i64 a0_4, .int .i64 a0_5, .int .i64 a0_6] 23 (0, 0)), .b bo22_1_ (.cells #[.int .i64 0, .int .i64 0, .int .i64 0, .int .i64 0, .int .i64 0, .int .i64 0, .int .i64 0] 23 (0, 0))]) ?_ ?_
 rintro bo22_1_
 refine a_w (F := [(0, .agg #[.int .i64 a0_0, .int .i64 a0_1, .int .i64 a0_2, .int .i64 a0_3, .int .i64 a0_4, .int .i64 a0_5, .int .i64 a0_6]), (1, .pointer (some ⟨b2_, 0, none⟩)), (2, .bool false), (3, .pointer (some ⟨bo22_1_, 0, none⟩)), (4, .pointer (some ⟨b2_, 0, none⟩)), (5, .int .i64 a0_0), (6, .int .i64 t18_), (7, .pointer (some ⟨b2_, 1, none⟩)), (8, .int .i64 a0_1), (10, .pointer (some ⟨b2_, 2, none⟩)), (11, .int .i64 a0_2), (13, .pointer (some ⟨b2_, 3, none⟩)), (14, .int .i64 a0_3), (16, .pointer (some ⟨b2_, 4, none⟩)), (17, .int .i64 a0_4), (19, .pointer (some ⟨b2_, 5, none⟩)), (20, .int .i64 a0_5), (22, .pointer (some ⟨b2_, 6, none⟩)), (23, .int .i64 a0_6)]) (L := [.b b2_ (.cells #[.int .i64 a0_0, .int .i64 a0_1, .int .i64 a0_2, .int .i64 a0_3, .int .i64 a0_4, .int .i64 a0_5, .int .i64 a0_6] 23 (0, 0)), .b bo22_1_ (.cells #[.int .i64 0, .int .i64 0, .int .i64 0, .int .i64 0, .int .i64 0, .int .i64 0, .int .i64 0] 23 (0, 0))]) ?_
 refine a_1 (i := 5) (by kernel_rfl) ?_
 refine i_e rfl rfl (e_callF [] #[.int .i64 a0_1, .int .i64 1, .int .i64 8] rfl rfl rfl rfl rfl Tryz.func39 rfl (by decide) rfl rfl rfl rfl (fun w ht => plan_to_con a0_1 1 8 t20_ e21_ w _)) ?_
 refine ⟨(mem_pick (idx := [0]) rfl), ?_⟩
 exact a_take (J2_5_22 bo22_1_) [0, 1] (by kernel_rfl) rfl (subF_spec ⟨rfl, rfl, rfl, rfl, rfl, rfl, rfl, rfl, rfl, rfl, rfl, rfl, rfl, rfl, rfl, rfl, rfl, rfl, rfl, rfl, trivial⟩) rfl (by decide)
 intro J2_22
 refine a_join (β := Unit) 9 #[true, true, true, true, true, false, true, true, false, true, true, false, true, true, false, true, true, false, true, true, false, false, false, false] (fun _ => [(0, .agg #[.int .i64 a0_0, .int .i64 a0_1, .int .i64 a0_2, .int .i64 a0_3, .int .i64 a0_4, .int .i64 a0_5, .int .i64 a0_6]), (1, .pointer (some ⟨b2_, 0, none⟩)), (2, .bool false), (4, .pointer (some ⟨b2_, 0, none⟩)), (5, .int .i64 a0_0), (6, .int .i64 t18_), (7, .pointer (some ⟨b2_, 1, none⟩)), (8, .int .i64 a0_1), (10, .pointer (some ⟨b2_, 2, none⟩)), (11, .int .i64 a0_2), (13, .pointer (some ⟨b2_, 3, none⟩)), (14, .int .i64 a0_3), (16, .pointer (some ⟨b2_, 4, none⟩)), (17, .int .i64 a0_4), (19, .pointer (some ⟨b2_, 5, none⟩)), (20, .int .i64 a0_5), (22, .pointer (some ⟨b2_, 6, none⟩)), (23, .int .i64 a0_6)]) (fun _ => [.b b2_ (.cells #[.int .i64 a0_0, .int .i64 a0_1, .int .i64 a0_2, .int .i64 a0_3, .int .i64 a0_4, .int .i64 a0_5, .int .i64 a0_6] 23 (0, 0))]) ?_ ?_
 rintro _
 refine a_w (F := [(0, .agg #[.int .i64 a0_0, .int .i64 a0_1, .int .i64 a0_2, .int .i64 a0_3, .int .i64 a0_4, .int .i64 a0_5, .int .i64 a0_6]), (1, .pointer (some ⟨b2_, 0, none⟩)), (2, .bool false), (4, .pointer (some ⟨b2_, 0, none⟩)), (5, .int .i64 a0_0), (6, .int .i64 t18_), (7, .pointer (some ⟨b2_, 1, none⟩)), (8, .int .i64 a0_1), (10, .pointer (some ⟨b2_, 2, none⟩)), (11, .int .i64 a0_2), (13, .pointer (some ⟨b2_, 3, none⟩)), (14, .int .i64 a0_3), (16, .pointer (some ⟨b2_, 4, none⟩)), (17, .int .i64 a0_4), (19, .pointer (some ⟨b2_, 5, none⟩)), (20, .int .i64 a0_5), (22, .pointer (some ⟨b2_, 6, none⟩)), (23, .int .i64 a0_6)]) (L := [.b b2_ (.cells #[.int .i64 a0_0, .int .i64 a0_1, .int .i64 a0_2, .int .i64 a0_3, .int .i64 a0_4, .int .i64 a0_5, .int .i64 a0_6] 23 (0, 0))]) ?_
 refine a_2 (i := 5) (j := 22) (by kernel_rfl) ?_ ?_
 refine i_e rfl rfl (e_callF [] #[.int .i64 a0_1, .int .i64 1, .int .i64 8] rfl rfl rfl rfl rfl Tryz.func39 rfl (by decide) rfl rfl rfl rfl (fun w ht => plan_to_con a0_1 1 8 t20_ e21_ w _)) ?_
 refine ⟨(mem_pick (idx := [0]) rfl), ?_⟩
 exact a_take (J2_5 ()) [0] (by kernel_rfl) rfl (subF_spec ⟨rfl, rfl, rfl, rfl, rfl, rfl, rfl, rfl, rfl, rfl, rfl, rfl, rfl, rfl, rfl, rfl, rfl, rfl, rfl, trivial⟩) rfl (by decide)
 refine i_e rfl rfl (e_alloc rfl rfl rfl ZR23) ?_
 intro bo22_1_
 refine ⟨(mem_pick (idx := [1]) rfl), ?_⟩
 exact a_take (J2_22 bo22_1_) [1, 0] (by kernel_rfl) rfl (subF_spec ⟨rfl, rfl, rfl, rfl, rfl, rfl, rfl, rfl, rfl, rfl, rfl, rfl, rfl, rfl, rfl, rfl, rfl, rfl, rfl, trivial⟩) rfl (by decide)
 intro J2
 refine a_join (β := Nat) 9 #[true, true, false, true, true, false, true, true, false, true, true, false, true, true, false, true, true, false, true, true, false, false, true, false] (fun bo22_1_ => [(0, .agg #[.int .i64 a0_0, .int .i64 a0_1, .int .i64 a0_2, .int .i64 a0_3, .int .i64 a0_4, .int .i64 a0_5, .int .i64 a0_6]), (1, .pointer (some ⟨b2_, 0, none⟩)), (2, .bool false), (3, .pointer (some ⟨bo22_1_, 0, none⟩)), (4, .pointer (some ⟨b2_, 0, none⟩)), (5, .int .i64 a0_0), (7, .pointer (some ⟨b2_, 1, none⟩)), (8, .int .i64 a0_1), (10, .pointer (some ⟨b2_, 2, none⟩)), (11, .int .i64 a0_2), (13, .pointer (some ⟨b2_, 3, none⟩)), (14, .int .i64 a0_3), (16, .pointer (some ⟨b2_, 4, none⟩)), (17, .int .i64 a0_4), (19, .pointer (some ⟨b2_, 5, none⟩)), (20, .int .i64 a0_5), (22, .pointer (some ⟨b2_, 6, none⟩)), (23, .int .i64 a0_6)]) (fun bo22_1_ => [.b b2_ (.cells #[.int .i64 a0_0, .int .i64 a0_1, .int .i64 a0_2, .int .i64 a0_3, .int .i64 a0_4, .int .i64 a0_5, .int .i64 a0_6] 23 (0, 0)), .b bo22_1_ (.cells #[.int .i64 0, .int .i64 0, .int .i64 0, .int .i64 0, .int .i64 0, .int .i64 0, .int .i64 0] 23 (0, 0))]) ?_ ?_
 rintro bo22_1_
 refine a_w (F := [(0, .agg #[.int .i64 a0_0, .int .i64 a0_1, .int .i64 a0_2, .int .i64 a0_3, .int .i64 a0_4, .int .i64 a0_5, .int .i64 a0_6]), (1, .pointer (some ⟨b2_, 0, none⟩)), (2, .bool false), (3, .pointer (some ⟨bo22_1_, 0, none⟩)), (4, .pointer (some ⟨b2_, 0, none⟩)), (5, .int .i64 a0_0), (7, .pointer (some ⟨b2_, 1, none⟩)), (8, .int .i64 a0_1), (10, .pointer (some ⟨b2_, 2, none⟩)), (11, .int .i64 a0_2), (13, .pointer (some ⟨b2_, 3, none⟩)), (14, .int .i64 a0_3), (16, .pointer (some ⟨b2_, 4, none⟩)), (17, .int .i64 a0_4), (19, .pointer (some ⟨b2_, 5, none⟩)), (20, .int .i64 a0_5), (22, .pointer (some ⟨b2_, 6, none⟩)), (23, .int .i64 a0_6)]) (L := [.b b2_ (.cells #[.int .i64 a0_0, .int .i64 a0_1, .int .i64 a0_2, .int .i64 a0_3, .int .i64 a0_4, .int .i64 a0_5, .int .i64 a0_6] 23 (0, 0)), .b bo22_1_ (.cells #[.int .i64 0, .int .i64 0, .int .i64 0, .int .i64 0, .int .i64 0, .int .i64 0, .int .i64 0] 23 (0, 0))]) ?_
 refine a_1 (i := 2) (by kernel_rfl) ?_
 refine i_e rfl rfl (e_callF [] #[.int .i64 a0_0, .int .i64 1, .int .i64 8] rfl rfl rfl rfl rfl Tryz.func39 rfl (by decide) rfl rfl rfl rfl (fun w ht => plan_to_con a0_0 1 8 t18_ e19_ w _)) ?_
 refine ⟨(mem_pick (idx := [0]) rfl), ?_⟩
 exact a_take (J2_22 bo22_1_) [0, 1] (by kernel_rfl) rfl (subF_spec ⟨rfl, rfl, rfl, rfl, rfl, rfl, rfl, rfl, rfl, rfl, rfl, rfl, rfl, rfl, rfl, rfl, rfl, rfl, rfl, trivial⟩) rfl (by decide)
 intro J22
 refine a_v 0 rfl (by kernel_rfl) (by kernel_rfl) (by kernel_rfl) rfl rfl rfl (v_fa rfl Tryz.underlying23 rfl SZ3 rfl) ?_
 refine a_v 1 rfl (by kernel_rfl) (by kernel_rfl) (by kernel_rfl) rfl rfl rfl (v_ld 0 rfl Tryz.underlying3 rfl rfl rfl rfl) ?_
 refine a_v 3 rfl (by kernel_rfl) (by kernel_rfl) (by kernel_rfl) rfl rfl rfl (v_fa rfl Tryz.underlying23 rfl SZ3 rfl) ?_
 refine a_v 4 rfl (by kernel_rfl) (by kernel_rfl) (by kernel_rfl) rfl rfl rfl (v_ld 0 rfl Tryz.underlying3 rfl rfl rfl rfl) ?_
 refine a_v 6 rfl (by kernel_rfl) (by kernel_rfl) (by kernel_rfl) rfl rfl rfl (v_fa rfl Tryz.underlying23 rfl SZ3 rfl) ?_
 refine a_v 7 rfl (by kernel_rfl) (by kernel_rfl) (by kernel_rfl) rfl rfl rfl (v_ld 0 rfl Tryz.underlying3 rfl rfl rfl rfl) ?_
 refine a_v 9 rfl (by kernel_rfl) (by kernel_rfl) (by kernel_rfl) rfl rfl rfl (v_fa rfl Tryz.underlying23 rfl SZ3 rfl) ?_
 refine a_v 10 rfl (by kernel_rfl) (by kernel_rfl) (by kernel_rfl) rfl rfl rfl (v_ld 0 rfl Tryz.underlying3 rfl rfl rfl rfl) ?_
 refine a_v 12 rfl (by kernel_rfl) (by kernel_rfl) (by kernel_rfl) rfl rfl rfl (v_fa rfl Tryz.underlying23 rfl SZ3 rfl) ?_
 refine a_v 13 rfl (by kernel_rfl) (by kernel_rfl) (by kernel_rfl) rfl rfl rfl (v_ld 0 rfl Tryz.underlying3 rfl rfl rfl rfl) ?_
 refine a_v 15 rfl (by kernel_rfl) (by kernel_rfl) (by kernel_rfl) rfl rfl rfl (v_fa rfl Tryz.underlying23 rfl SZ3 rfl) ?_
 refine a_v 16 rfl (by kernel_rfl) (by kernel_rfl) (by kernel_rfl) rfl rfl rfl (v_ld 0 rfl Tryz.underlying3 rfl rfl rfl rfl) ?_
 refine a_v 18 rfl (by kernel_rfl) (by kernel_rfl) (by kernel_rfl) rfl rfl rfl (v_fa rfl Tryz.underlying23 rfl SZ3 rfl) ?_
 refine a_v 19 rfl (by kernel_rfl) (by kernel_rfl) (by kernel_rfl) rfl rfl rfl (v_ld 0 rfl Tryz.underlying3 rfl rfl rfl rfl) ?_
 refine a_2 (i := 2) (j := 22) (by kernel_rfl) ?_ ?_
 refine i_e rfl rfl (e_callF [] #[.int .i64 a0_0, .int .i64 1, .int .i64 8] rfl rfl rfl rfl rfl Tryz.func39 rfl (by decide) rfl rfl rfl rfl (fun w ht => plan_to_con a0_0 1 8 t18_ e19_ w _)) ?_
 refine ⟨(mem_pick (idx := [0]) rfl), ?_⟩
 exact a_take (J2 ()) [0] (by kernel_rfl) rfl (subF_spec ⟨rfl, rfl, rfl, rfl, rfl, rfl, rfl, rfl, rfl, rfl, rfl, rfl, rfl, rfl, rfl, rfl, rfl, rfl, trivial⟩) rfl (by decide)
 refine i_e rfl rfl (e_alloc rfl rfl rfl ZR23) ?_
 intro bo22_1_
 refine ⟨(mem_pick (idx := [1]) rfl), ?_⟩
 exact a_take (J22 bo22_1_) [1, 0] (by kernel_rfl) rfl (subF_spec ⟨rfl, rfl, rfl, rfl, rfl, rfl, rfl, rfl, rfl, rfl, rfl, rfl, rfl, rfl, rfl, rfl, rfl, rfl, trivial⟩) rfl (by decide)
def plan_first.f (a0_0 : Int) (a0_1 : Int) (a0_2 : Int) (a0_3 : Int) (a0_4 : Int) (a0_5 : Int) (a0_6 : Int) : Option Int := some (IntKind.wrap .i64 (1 + (IntKind.wrap .i64 (a0_0 * a0_1))))
set_option maxRecDepth 100000 in
set_option maxHeartbeats 4000000 in
theorem plan_first_con (a0_0 : Int) (a0_1 : Int) (a0_2 : Int) (a0_3 : Int) (a0_4 : Int) (a0_5 : Int) (a0_6 : Int) (r0 : Int) (h : plan_first.f a0_0 a0_1 a0_2 a0_3 a0_4 a0_5 a0_6 = some r0) (w0 : World) (Hs : List Nat) : Con Tryz.prog 40 #[.agg #[.int .i64 a0_0, .int .i64 a0_1, .int .i64 a0_2, .int .i64 a0_3, .int .i64 a0_4, .int .i64 a0_5, .int .i64 a0_6]] w0 Hs [] (fun X => X (.int .i64 r0) []) := by
  refine con_enter (c := bodyOf Tryz.f40) Tryz.func40 rfl (m := 9) rfl rfl rfl ?_
  intro X hX _
  have H := h
  unfold plan_first.f at H
  clear h
  refine c_seq rfl ?_
  refine r_ord (l := [0, 1]) rfl (by kernel_rfl) (by kernel_rfl) ?_
  refine s_e rfl rfl (e_box rfl rfl rfl rfl) ?_
  intro b2_
  refine s_v rfl rfl rfl rfl (v_assign rfl rfl) ?_
  refine s_end ?_
  refine q_seq ?_
  refine c_seq rfl ?_
  refine r_ord (l := [0, 1, 2, 3, 4, 5, 6]) rfl (by kernel_rfl) (by kernel_rfl) ?_
  refine s_v rfl rfl rfl rfl (v_fa rfl Tryz.underlying23 rfl SZ3 rfl) ?_
  refine s_v rfl rfl rfl rfl (v_ld 0 rfl Tryz.underlying3 rfl rfl rfl rfl) ?_
  refine s_v rfl rfl rfl rfl (v_fa rfl Tryz.underlying23 rfl SZ3 rfl) ?_
  refine s_v rfl rfl rfl rfl (v_ld 0 rfl Tryz.underlying3 rfl rfl rfl rfl) ?_
  refine s_v rfl rfl rfl rfl (v_arith rfl rfl rfl rfl) ?_
  refine s_v rfl rfl rfl rfl (v_arith rfl rfl rfl rfl) ?_
  refine s_v rfl rfl rfl rfl (v_assign rfl rfl) ?_
  refine s_end ?_
  refine q_seq ?_
  refine c_ret rfl ?_
  have e_ := Option.some.inj H
  subst e_
  exact q_ret (vs := [.int .i64 (IntKind.wrap .i64 (1 + (IntKind.wrap .i64 (a0_0 * a0_1))))]) rfl (.tmp rfl .nil) [] rfl (by decide) (hX)
def plan_fields.f (a0_0 : Int) (a0_1 : Int) (a0_2 : Int) (a0_3 : Int) (a0_4 : Int) (a0_5 : Int) (a0_6 : Int) : Option Int := some (IntKind.wrap .i64 (6 + a0_3))
set_option maxRecDepth 100000 in
set_option maxHeartbeats 4000000 in
theorem plan_fields_con (a0_0 : Int) (a0_1 : Int) (a0_2 : Int) (a0_3 : Int) (a0_4 : Int) (a0_5 : Int) (a0_6 : Int) (r0 : Int) (h : plan_fields.f a0_0 a0_1 a0_2 a0_3 a0_4 a0_5 a0_6 = some r0) (w0 : World) (Hs : List Nat) : Con Tryz.prog 41 #[.agg #[.int .i64 a0_0, .int .i64 a0_1, .int .i64 a0_2, .int .i64 a0_3, .int .i64 a0_4, .int .i64 a0_5, .int .i64 a0_6]] w0 Hs [] (fun X => X (.int .i64 r0) []) := by
  refine con_enter (c := bodyOf Tryz.f41) Tryz.func41 rfl (m := 6) rfl rfl rfl ?_
  intro X hX _
  have H := h
  unfold plan_fields.f at H
  clear h
  refine c_seq rfl ?_
  refine r_ord (l := [0, 1]) rfl (by kernel_rfl) (by kernel_rfl) ?_
  refine s_e rfl rfl (e_box rfl rfl rfl rfl) ?_
  intro b2_
  refine s_v rfl rfl rfl rfl (v_assign rfl rfl) ?_
  refine s_end ?_
  refine q_seq ?_
  refine c_seq rfl ?_
  refine r_ord (l := [0, 1, 2, 3]) rfl (by kernel_rfl) (by kernel_rfl) ?_
  refine s_v rfl rfl rfl rfl (v_fa rfl Tryz.underlying23 rfl SZ3 rfl) ?_
  refine s_v rfl rfl rfl rfl (v_ld 0 rfl Tryz.underlying3 rfl rfl rfl rfl) ?_
  refine s_v rfl rfl rfl rfl (v_arith rfl rfl rfl rfl) ?_
  refine s_v rfl rfl rfl rfl (v_assign rfl rfl) ?_
  refine s_end ?_
  refine q_seq ?_
  refine c_ret rfl ?_
  have e_ := Option.some.inj H
  subst e_
  exact q_ret (vs := [.int .i64 (IntKind.wrap .i64 (6 + a0_3))]) rfl (.tmp rfl .nil) [] rfl (by decide) (hX)
def plan_Len.f (a0_0 : Int) (a0_1 : Int) (a0_2 : Int) (a0_3 : Int) (a0_4 : Int) (a0_5 : Int) (a0_6 : Int) : Option Int := (plan_Right.f a0_0 a0_1 a0_2 a0_3 a0_4 a0_5 a0_6).bind fun t10_ => (if t10_ = true then (plan_first.f a0_0 a0_1 a0_2 a0_3 a0_4 a0_5 a0_6).bind fun t19_ => (plan_fields.f a0_0 a0_1 a0_2 a0_3 a0_4 a0_5 a0_6).bind fun t21_ => some (IntKind.wrap .i64 (t19_ + (IntKind.wrap .i64 ((IntKind.wrap .i64 (a0_2 + 1)) * t21_)))) else some 0)
set_option maxRecDepth 100000 in
set_option maxHeartbeats 4000000 in
theorem plan_Len_con (a0_0 : Int) (a0_1 : Int) (a0_2 : Int) (a0_3 : Int) (a0_4 : Int) (a0_5 : Int) (a0_6 : Int) (r0 : Int) (h : plan_Len.f a0_0 a0_1 a0_2 a0_3 a0_4 a0_5 a0_6 = some r0) (w0 : World) (Hs : List Nat) : Con Tryz.prog 21 #[.agg #[.int .i64 a0_0, .int .i64 a0_1, .int .i64 a0_2, .int .i64 a0_3, .int .i64 a0_4, .int .i64 a0_5, .int .i64 a0_6]] w0 Hs [] (fun X => X (.int .i64 r0) []) := by
 refine con_enter (c := bodyOf Tryz.f21) Tryz.func21 rfl (m := 15) rfl rfl rfl ?_
 intro X hX _
 have H := h
 unfold plan_Len.f at H
 clear h
 refine c_seq rfl ?_
 refine r_ord (l := [0, 1]) rfl (by kernel_rfl) (by kernel_rfl) ?_
 refine s_e rfl rfl (e_box rfl rfl rfl rfl) ?_
 intro b2_
 refine s_v rfl rfl rfl rfl (v_assign rfl rfl) ?_
 refine s_end ?_
 refine q_seq ?_
 refine c_seq rfl ?_
 refine c_seq rfl ?_
 refine r_ord (l := [0, 1, 2]) rfl (by kernel_rfl) (by kernel_rfl) ?_
 refine s_v rfl rfl rfl rfl (v_ldA [.int .i64 a0_0, .int .i64 a0_1, .int .i64 a0_2, .int .i64 a0_3, .int .i64 a0_4, .int .i64 a0_5, .int .i64 a0_6] 0 rfl Tryz.underlying23 rfl SZ23 rfl rfl rfl rfl) ?_
 obtain ⟨t10_, e11_, H⟩ := bind_s H
 refine s_e rfl rfl (e_callF [] #[.agg #[.int .i64 a0_0, .int .i64 a0_1, .int .i64 a0_2, .int .i64 a0_3, .int .i64 a0_4, .int .i64 a0_5, .int .i64 a0_6]] rfl rfl rfl rfl rfl Tryz.func20 rfl (by decide) rfl rfl rfl rfl (fun w ht => plan_Right_con a0_0 a0_1 a0_2 a0_3 a0_4 a0_5 a0_6 t10_ e11_ w _)) ?_
 refine s_v rfl rfl rfl rfl (v_not rfl rfl) ?_
 refine s_end ?_
 refine q_seq ?_
 rcases Bool.eq_false_or_eq_true (!t10_) with h12_ | h12_
 replace H := ite_n (not_t (bnot_t h12_)) H
 refine c_cond rfl rfl (fun _ => ?_) (fun h13_ => absurd (h13_.symm.trans h12_) (by decide))
 refine c_seq rfl ?_
 refine r_ord (l := [0]) rfl (by kernel_rfl) (by kernel_rfl) ?_
 refine s_v rfl rfl rfl rfl (v_assign rfl rfl) ?_
 refine s_end ?_
 refine q_seq ?_
 refine c_ret rfl ?_
 refine q_then_ret ?_
 have e_ := Option.some.inj H
 subst e_
 exact q_ret (vs := [.int .i64 0]) rfl (.tmp rfl .nil) [] rfl (by decide) (hX)
 replace H := ite_y (bnot_f h12_) H
 refine c_cond rfl rfl (fun h14_ => absurd (h14_.symm.trans h12_) (by decide)) (fun _ => ?_)
 refine c_skip rfl ?_
 refine q_seq ?_
 refine c_seq rfl ?_
 obtain ⟨t19_, e20_, H⟩ := bind_s H
 obtain ⟨t21_, e22_, H⟩ := bind_s H
 refine r_any [.b b2_ (.cells #[.int .i64 a0_0, .int .i64 a0_1, .int .i64 a0_2, .int .i64 a0_3, .int .i64 a0_4, .int .i64 a0_5, .int .i64 a0_6] 23 (0, 0))] (by kernel_rfl) rfl (by kernel_rfl) (mem_pick (idx := [0]) rfl) ?_
 refine a_v 0 rfl (by kernel_rfl) (by kernel_rfl) (by kernel_rfl) rfl rfl rfl (v_ldA [.int .i64 a0_0, .int .i64 a0_1, .int .i64 a0_2, .int .i64 a0_3, .int .i64 a0_4, .int .i64 a0_5, .int .i64 a0_6] 0 rfl Tryz.underlying23 rfl SZ23 rfl rfl rfl rfl) ?_
 refine a_v 2 rfl (by kernel_rfl) (by kernel_rfl) (by kernel_rfl) rfl rfl rfl (v_fa rfl Tryz.underlying23 rfl SZ3 rfl) ?_
 refine a_v 3 rfl (by kernel_rfl) (by kernel_rfl) (by kernel_rfl) rfl rfl rfl (v_ld 0 rfl Tryz.underlying3 rfl rfl rfl rfl) ?_
 refine a_v 4 rfl (by kernel_rfl) (by kernel_rfl) (by kernel_rfl) rfl rfl rfl (v_arith rfl rfl rfl rfl) ?_
 refine a_v 5 rfl (by kernel_rfl) (by kernel_rfl) (by kernel_rfl) rfl rfl rfl (v_ldA [.int .i64 a0_0, .int .i64 a0_1, .int .i64 a0_2, .int .i64 a0_3, .int .i64 a0_4, .int .i64 a0_5, .int .i64 a0_6] 0 rfl Tryz.underlying23 rfl SZ23 rfl rfl rfl rfl) ?_
 refine a_1 (i := 1) (by kernel_rfl) ?_
 refine i_e rfl rfl (e_callF [] #[.agg #[.int .i64 a0_0, .int .i64 a0_1, .int .i64 a0_2, .int .i64 a0_3, .int .i64 a0_4, .int .i64 a0_5, .int .i64 a0_6]] rfl rfl rfl rfl rfl Tryz.func40 rfl (by decide) rfl rfl rfl rfl (fun w ht => plan_first_con a0_0 a0_1 a0_2 a0_3 a0_4 a0_5 a0_6 t19_ e20_ w _)) ?_
 refine ⟨(mem_pick (idx := [0]) rfl), ?_⟩
 refine a_1 (i := 6) (by kernel_rfl) ?_
 refine i_e rfl rfl (e_callF [] #[.agg #[.int .i64 a0_0, .int .i64 a0_1, .int .i64 a0_2, .int .i64 a0_3, .int .i64 a0_4, .int .i64 a0_5, .int .i64 a0_6]] rfl rfl rfl rfl rfl Tryz.func41 rfl (by decide) rfl rfl rfl rfl (fun w ht => plan_fields_con a0_0 a0_1 a0_2 a0_3 a0_4 a0_5 a0_6 t21_ e22_ w _)) ?_
 refine ⟨(mem_pick (idx := [0]) rfl), ?_⟩
 refine a_v 7 rfl (by kernel_rfl) (by kernel_rfl) (by kernel_rfl) rfl rfl rfl (v_arith rfl rfl rfl rfl) ?_
 refine a_v 8 rfl (by kernel_rfl) (by kernel_rfl) (by kernel_rfl) rfl rfl rfl (v_arith rfl rfl rfl rfl) ?_
 refine a_v 9 rfl (by kernel_rfl) (by kernel_rfl) (by kernel_rfl) rfl rfl rfl (v_assign rfl rfl) ?_
 refine a_end (by kernel_rfl) ?_
 refine q_seq ?_
 refine c_ret rfl ?_
 have e_ := Option.some.inj H
 subst e_
 exact q_ret (vs := [.int .i64 (IntKind.wrap .i64 (t19_ + (IntKind.wrap .i64 ((IntKind.wrap .i64 (a0_2 + 1)) * t21_))))]) rfl (.tmp rfl .nil) [] rfl (by decide) (hX)
set_option maxRecDepth 100000 in
set_option maxHeartbeats 4000000 in
theorem slices_Grow_cover_Entry_cover_Entry_con (a1 : Int) (h0 : 0 ≤ a1) (h1 : a1 < 5864062014805) (w0 : World) (Hs : List Nat) : Con Tryz.prog 42 #[.slice none 0 0, .int .i64 a1] w0 Hs [] (fun X => ∀ ro, ORow 3 enc58 ro ([] : List S58) → X (.slice (OA ro) 0 (OC ro)) [OE 58 ro]) := by
 have hk0 : decide ((a1 : Int) < 0) = false := decide_eq_false (by omega)
 rcases Int.lt_or_le 0 a1 with hp | hp
 have hk1 : decide ((a1 : Int) > 0) = true := decide_eq_true hp
 refine con_enter (c := bodyOf Tryz.f42) Tryz.func42 rfl (m := 27) rfl rfl rfl ?_
 intro X hX _
 refine c_seq rfl ?_
 refine r_ord (l := [0]) rfl (by kernel_rfl) (by kernel_rfl) ?_
 refine s_v rfl rfl rfl rfl (v_assign rfl rfl) ?_
 refine s_end ?_
 refine q_seq ?_
 refine c_seq rfl ?_
 refine c_seq rfl ?_
 refine r_ord (l := [0, 1]) rfl (by kernel_rfl) (by kernel_rfl) ?_
 refine s_v rfl rfl rfl rfl (v_move rfl rfl) ?_
 refine s_v rfl rfl rfl rfl (OpV.cast (v := .bool false) (v_arith rfl rfl rfl rfl) (congrArg Value.bool hk0)) ?_
 refine s_end ?_
 refine q_seq ?_
 refine c_cond0 rfl rfl ?_
 refine c_skip rfl ?_
 refine q_seq ?_
 refine c_seq rfl ?_
 refine c_seq rfl ?_
 refine r_ord (l := [0, 1, 2, 3, 4, 5, 6, 7]) rfl (by kernel_rfl) (by kernel_rfl) ?_
 refine s_v rfl rfl rfl rfl (v_move rfl rfl) ?_
 refine s_v rfl rfl rfl rfl (v_move rfl rfl) ?_
 refine s_v rfl rfl rfl rfl (v_cap0 rfl rfl rfl Tryz.underlying32 rfl rfl) ?_
 refine s_v rfl rfl rfl rfl (v_move rfl rfl) ?_
 refine s_v rfl rfl rfl rfl (v_len rfl rfl rfl Tryz.underlying32 rfl rfl) ?_
 refine s_v rfl rfl rfl rfl (v_arith rfl rfl rfl rfl) ?_
 refine s_v rfl rfl rfl rfl (OpV.cast (v := .int .i64 a1) (v_arith rfl rfl rfl rfl) (congrArg (Value.int .i64) (by rw [show IntKind.wrap .i64 (((0 : Nat) : Int) - ((0 : Nat) : Int)) = 0 from by decide, Int.sub_zero, wi64 (by omega) (by omega)]))) ?_
 refine s_v rfl rfl rfl rfl (v_assign rfl rfl) ?_
 refine s_end ?_
 refine q_seq ?_
 refine c_seq rfl ?_
 refine r_ord (l := [0, 1]) rfl (by kernel_rfl) (by kernel_rfl) ?_
 refine s_v rfl rfl rfl rfl (v_move rfl rfl) ?_
 refine s_v rfl rfl rfl rfl (OpV.cast (v := .bool true) (v_arith rfl rfl rfl rfl) (congrArg Value.bool hk1)) ?_
 refine s_end ?_
 refine q_seq ?_
 refine c_cond1 rfl rfl ?_
 refine r_ord (l := [0, 1, 2, 3, 4, 5, 6, 7, 8, 9]) rfl (by kernel_rfl) (by kernel_rfl) ?_
 refine s_v rfl rfl rfl rfl (v_move rfl rfl) ?_
 refine s_v rfl rfl rfl rfl (v_move rfl rfl) ?_
 refine s_v rfl rfl rfl rfl (v_cap0 rfl rfl rfl Tryz.underlying32 rfl rfl) ?_
 refine s_v rfl rfl rfl rfl (v_slHi (h := 0) rfl Tryz.underlying32 SZ58 rfl rfl (by decide) (by decide)) ?_
 refine s_v rfl rfl rfl rfl (v_move rfl rfl) ?_
 refine s_e rfl rfl (e_appZ (z := (.agg #[.int .u64 0, .int .u64 0, .int .u64 0])) (m := 3) (bytes := 24) rfl rfl rfl rfl rfl rfl Tryz.underlying32 Tryz.underlying3 (by kernel_rfl) rfl (by decide) rfl rfl hp (by omega) (by simp only [maxLen]; omega)) ?_
 intro g6_ cap7_ cur8_ h9_ h10_
 refine s_v rfl rfl rfl rfl (v_move rfl rfl) ?_
 refine s_v rfl rfl rfl rfl (v_len rfl rfl rfl Tryz.underlying32 rfl rfl) ?_
 refine s_v rfl rfl rfl rfl (v_slHi (h := 0) rfl Tryz.underlying32 SZ58 rfl rfl (by decide) (by omega)) ?_
 refine s_v rfl rfl rfl rfl (v_assign rfl rfl) ?_
 refine s_end ?_
 refine q_seq ?_
 refine c_seq rfl ?_
 refine r_ord (l := [0, 1]) rfl (by kernel_rfl) (by kernel_rfl) ?_
 refine s_v rfl rfl rfl rfl (v_move rfl rfl) ?_
 refine s_v rfl rfl rfl rfl (v_assign rfl rfl) ?_
 refine s_end ?_
 refine q_seq ?_
 refine c_ret rfl ?_
 exact q_ret (vs := [.slice (some ⟨g6_, 0, none⟩) 0 cap7_]) rfl (.tmp rfl .nil) [0] rfl (by decide) (hX (some (g6_, cap7_, cur8_)) ⟨Nat.zero_le _, h9_, h10_, by simp⟩)
 have hk1 : decide ((a1 : Int) > 0) = false := decide_eq_false (by omega)
 refine con_enter (c := bodyOf Tryz.f42) Tryz.func42 rfl (m := 27) rfl rfl rfl ?_
 intro X hX _
 refine c_seq rfl ?_
 refine r_ord (l := [0]) rfl (by kernel_rfl) (by kernel_rfl) ?_
 refine s_v rfl rfl rfl rfl (v_assign rfl rfl) ?_
 refine s_end ?_
 refine q_seq ?_
 refine c_seq rfl ?_
 refine c_seq rfl ?_
 refine r_ord (l := [0, 1]) rfl (by kernel_rfl) (by kernel_rfl) ?_
 refine s_v rfl rfl rfl rfl (v_move rfl rfl) ?_
 refine s_v rfl rfl rfl rfl (OpV.cast (v := .bool false) (v_arith rfl rfl rfl rfl) (congrArg Value.bool hk0)) ?_
 refine s_end ?_
 refine q_seq ?_
 refine c_cond0 rfl rfl ?_
 refine c_skip rfl ?_
 refine q_seq ?_
 refine c_seq rfl ?_
 refine c_seq rfl ?_
 refine r_ord (l := [0, 1, 2, 3, 4, 5, 6, 7]) rfl (by kernel_rfl) (by kernel_rfl) ?_
 refine s_v rfl rfl rfl rfl (v_move rfl rfl) ?_
 refine s_v rfl rfl rfl rfl (v_move rfl rfl) ?_
 refine s_v rfl rfl rfl rfl (v_cap0 rfl rfl rfl Tryz.underlying32 rfl rfl) ?_
 refine s_v rfl rfl rfl rfl (v_move rfl rfl) ?_
 refine s_v rfl rfl rfl rfl (v_len rfl rfl rfl Tryz.underlying32 rfl rfl) ?_
 refine s_v rfl rfl rfl rfl (v_arith rfl rfl rfl rfl) ?_
 refine s_v rfl rfl rfl rfl (OpV.cast (v := .int .i64 a1) (v_arith rfl rfl rfl rfl) (congrArg (Value.int .i64) (by rw [show IntKind.wrap .i64 (((0 : Nat) : Int) - ((0 : Nat) : Int)) = 0 from by decide, Int.sub_zero, wi64 (by omega) (by omega)]))) ?_
 refine s_v rfl rfl rfl rfl (v_assign rfl rfl) ?_
 refine s_end ?_
 refine q_seq ?_
 refine c_seq rfl ?_
 refine r_ord (l := [0, 1]) rfl (by kernel_rfl) (by kernel_rfl) ?_
 refine s_v rfl rfl rfl rfl (v_move rfl rfl) ?_
 refine s_v rfl rfl rfl rfl (OpV.cast (v := .bool false) (v_arith rfl rfl rfl rfl) (congrArg Value.bool hk1)) ?_
 refine s_end ?_
 refine q_seq ?_
 refine c_cond0 rfl rfl ?_
 refine c_skip rfl ?_
 refine q_seq ?_
 refine c_seq rfl ?_
 refine r_ord (l := [0, 1]) rfl (by kernel_rfl) (by kernel_rfl) ?_
 refine s_v rfl rfl rfl rfl (v_move rfl rfl) ?_
 refine s_v rfl rfl rfl rfl (v_assign rfl rfl) ?_
 refine s_end ?_
 refine q_seq ?_
 refine c_ret rfl ?_
 refine q_know (φ := fun _ => True) (fun _ => trivial) ?_
 exact q_ret (vs := [.slice none 0 0]) rfl (.tmp rfl .nil) [0] rfl (by decide) (hX none rfl)
mutual
def slices_Concat_cover_Entry_cover_Entry.l1 : Nat → List (List S58) → Int → List S58 → Option (List S58)
  | 0, _, _, _ => none
  | k + 1, l0, x62_, xs60_ => (if (x62_ : Int) < (l0.length : Int) then (if 0 ≤ (x62_ : Int) then (if xs60_.length + (l0.getD (Int.toNat x62_) []).length < 5864062014805 then slices_Concat_cover_Entry_cover_Entry.l1 k l0 (IntKind.wrap .i64 (x62_ + 1)) (xs60_ ++ (l0.getD (Int.toNat x62_) [])) else none) else none) else some xs60_)
def slices_Concat_cover_Entry_cover_Entry.l0 : Nat → List (List S58) → Int → Int → Option (List S58)
  | 0, _, _, _ => none
  | k + 1, l0, x9_, x10_ => (if (x10_ : Int) < (l0.length : Int) then (if 0 ≤ (x10_ : Int) then (if (IntKind.wrap .i64 (x9_ + ((l0.getD (Int.toNat x10_) []).length : Int)) : Int) < 0 then none else slices_Concat_cover_Entry_cover_Entry.l0 k l0 (IntKind.wrap .i64 (x9_ + ((l0.getD (Int.toNat x10_) []).length : Int))) (IntKind.wrap .i64 (x10_ + 1))) else none) else (if 0 ≤ (x9_ : Int) then (if (x9_ : Int) < 5864062014805 then slices_Concat_cover_Entry_cover_Entry.l1 k l0 0 ([] : List S58) else none) else none))
end
def slices_Concat_cover_Entry_cover_Entry.f (k : Nat) (l0 : List (List S58)) : Option (List S58) := slices_Concat_cover_Entry_cover_Entry.l0 k l0 0 0
set_option maxRecDepth 100000 in
set_option maxHeartbeats 4000000 in
theorem slices_Concat_cover_Entry_cover_Entry_con (k : Nat) (A0 : Option Addr) (c0 : Nat) (l0 : List (List S58)) (r0 : List S58) (h : slices_Concat_cover_Entry_cover_Entry.f k l0 = some r0) (w0 : World) (Hs : List Nat) : Con Tryz.prog 22 #[.slice A0 l0.length c0] w0 Hs [.f (KC (Kd.slice 58 k58) A0 c0 l0)] (fun X => ∀ A_r0 c_r0, X (.slice A_r0 r0.length c_r0) [.f (KC k58 A_r0 c_r0 r0)]) := by
  refine con_enter (c := bodyOf Tryz.f22) Tryz.func22 rfl (m := 36) rfl rfl rfl ?_
  intro X hX _
  have H := h
  unfold slices_Concat_cover_Entry_cover_Entry.f at H
  clear h
  refine c_seq rfl ?_
  refine r_ord (l := [0]) rfl (by kernel_rfl) (by kernel_rfl) ?_
  refine s_v rfl rfl rfl rfl (v_assign rfl rfl) ?_
  refine s_end ?_
  refine q_seq ?_
  refine c_seq rfl ?_
  refine r_ord (l := [0]) rfl (by kernel_rfl) (by kernel_rfl) ?_
  refine s_v rfl rfl rfl rfl (v_assign rfl rfl) ?_
  refine s_end ?_
  refine q_seq ?_
  refine c_seq rfl ?_
  refine c_seq rfl ?_
  refine r_ord (l := [0, 1, 2]) rfl (by kernel_rfl) (by kernel_rfl) ?_
  refine s_v rfl rfl rfl rfl (v_move rfl rfl) ?_
  refine s_v rfl rfl rfl rfl (v_len rfl rfl rfl Tryz.underlying59 rfl rfl) ?_
  refine s_v rfl rfl rfl rfl (v_move rfl rfl) ?_
  refine s_end ?_
  refine q_seq ?_
  refine c_block rfl ?_
  refine c_loop (σ := Nat × Int × Int) (fun s_ : Nat × Int × Int => match s_ with | (k, x9_, x10_) => slices_Concat_cover_Entry_cover_Entry.l0 k l0 x9_ x10_ = some r0) (fun s_ : Nat × Int × Int => match s_ with | (k, x9_, x10_) => k) (fun s_ : Nat × Int × Int => match s_ with | (k, x9_, x10_) => [(0, .slice A0 l0.length c0), (2, .slice none 0 0), (3, .int .i64 x9_), (9, .slice A0 l0.length c0), (10, .int .i64 (l0.length : Int)), (11, .int .i64 x10_)]) (fun s_ : Nat × Int × Int => match s_ with | (k, x9_, x10_) => [.f (KC (Kd.slice 58 k58) A0 c0 l0)]) (k, 0, 0) [0] rfl H (subF_spec ⟨rfl, rfl, rfl, rfl, rfl, rfl, trivial⟩) rfl (by decide) ?_
  rintro ⟨k, x9_, x10_⟩ hs20_
  clear H
  have H : slices_Concat_cover_Entry_cover_Entry.l0 k l0 x9_ x10_ = some r0 := hs20_
  try clear hs20_
  rcases k with _ | k
  · exact none_no (show none = _ from H)
  unfold slices_Concat_cover_Entry_cover_Entry.l0 at H
  refine c_seq rfl ?_
  refine r_ord (l := [0]) rfl (by kernel_rfl) (by kernel_rfl) ?_
  refine s_v rfl rfl rfl rfl (v_arith rfl rfl rfl rfl) ?_
  refine s_end ?_
  refine q_seq ?_
  refine c_seq rfl ?_
  rcases Bool.eq_false_or_eq_true (decide ((x10_ : Int) < (l0.length : Int))) with h24_ | h24_
  ·
    replace H := ite_y (dec_t h24_) H
    refine c_cond rfl rfl (fun _ => ?_) (fun h25_ => absurd (h25_.symm.trans h24_) (by decide))
    refine c_skip rfl ?_
    refine q_seq ?_
    refine c_seq rfl ?_
    refine c_block rfl ?_
    refine c_seq rfl ?_
    refine r_ord (l := [0, 1, 2]) rfl (by kernel_rfl) (by kernel_rfl) ?_
    obtain ⟨n35_, H⟩ := ite_no H
    refine s_v rfl rfl rfl rfl (v_iaK (i := 0) rfl Tryz.underlying59 SZ32 rfl rfl rfl rfl n35_ (dec_t h24_)) ?_
    refine s_e rfl rfl (e_ldRR 0 rfl rfl rfl Tryz.underlying32 rfl rfl n35_ (dec_t h24_)) ?_
    intro A36_ c37_
    refine s_v rfl rfl rfl rfl (v_assign rfl rfl) ?_
    refine s_end ?_
    refine q_seq ?_
    refine c_seq rfl ?_
    refine r_ord (l := [0, 1, 2, 3, 4]) rfl (by kernel_rfl) (by kernel_rfl) ?_
    refine s_v rfl rfl rfl rfl (v_move rfl rfl) ?_
    refine s_v rfl rfl rfl rfl (v_move rfl rfl) ?_
    refine s_v rfl rfl rfl rfl (v_len rfl rfl rfl Tryz.underlying32 rfl rfl) ?_
    refine s_v rfl rfl rfl rfl (v_arith rfl rfl rfl rfl) ?_
    refine s_v rfl rfl rfl rfl (v_assign rfl rfl) ?_
    refine s_end ?_
    refine q_seq ?_
    refine c_seq rfl ?_
    refine r_ord (l := [0, 1]) rfl (by kernel_rfl) (by kernel_rfl) ?_
    refine s_v rfl rfl rfl rfl (v_move rfl rfl) ?_
    refine s_v rfl rfl rfl rfl (v_arith rfl rfl rfl rfl) ?_
    refine s_end ?_
    refine q_seq ?_
    rcases Bool.eq_false_or_eq_true (decide ((IntKind.wrap .i64 (x9_ + ((l0.getD (Int.toNat x10_) []).length : Int)) : Int) < 0)) with h38_ | h38_
    ·
      replace H := ite_y (dec_t h38_) H
      refine c_cond rfl rfl (fun _ => ?_) (fun h39_ => absurd (h39_.symm.trans h38_) (by decide))
      exact none_no H
    ·
      replace H := ite_n (dec_f h38_) H
      refine c_cond rfl rfl (fun h40_ => absurd (h40_.symm.trans h38_) (by decide)) (fun _ => ?_)
      refine c_skip rfl ?_
      refine q_block ?_
      refine q_seq ?_
      refine r_ord (l := [0, 1]) rfl (by kernel_rfl) (by kernel_rfl) ?_
      refine s_v rfl rfl rfl rfl (v_arith rfl rfl rfl rfl) ?_
      refine s_v rfl rfl rfl rfl (v_move rfl rfl) ?_
      refine s_end ?_
      exact q_again (k, IntKind.wrap .i64 (x9_ + ((l0.getD (Int.toNat x10_) []).length : Int)), IntKind.wrap .i64 (x10_ + 1)) [1] H (Nat.lt_succ_self _) (subF_spec ⟨rfl, rfl, rfl, rfl, rfl, rfl, trivial⟩) rfl (by decide)
  ·
    replace H := ite_n (dec_f h24_) H
    refine c_cond rfl rfl (fun h41_ => absurd (h41_.symm.trans h24_) (by decide)) (fun _ => ?_)
    refine c_exit (i := 0) rfl rfl ?_
    refine q_then_exit ?_
    refine q_then_exit ?_
    refine q_block_here rfl ?_
    refine q_seq ?_
    refine c_seq rfl ?_
    refine r_ord (l := [0, 1, 2]) rfl (by kernel_rfl) (by kernel_rfl) ?_
    refine s_v rfl rfl rfl rfl (v_move rfl rfl) ?_
    obtain ⟨n46_, H⟩ := ite_no H
    obtain ⟨n47_, H⟩ := ite_no H
    refine s_e rfl rfl (e_callF [] #[.slice none 0 0, .int .i64 x9_] rfl rfl rfl rfl rfl Tryz.func42 rfl (by decide) rfl rfl rfl rfl (fun w ht => slices_Grow_cover_Entry_cover_Entry_con x9_ n46_ n47_ w _)) ?_
    intro ro48_ hr49_
    refine s_v rfl rfl rfl rfl (v_assign rfl rfl) ?_
    refine s_end ?_
    refine q_seq ?_
    refine c_seq rfl ?_
    refine c_seq rfl ?_
    refine r_ord (l := [0, 1, 2]) rfl (by kernel_rfl) (by kernel_rfl) ?_
    refine s_v rfl rfl rfl rfl (v_move rfl rfl) ?_
    refine s_v rfl rfl rfl rfl (v_len rfl rfl rfl Tryz.underlying59 rfl rfl) ?_
    refine s_v rfl rfl rfl rfl (v_move rfl rfl) ?_
    refine s_end ?_
    refine q_seq ?_
    refine c_block rfl ?_
    refine c_loop (σ := Nat × Int × Ro × List S58) (fun s_ : Nat × Int × Ro × List S58 => match s_ with | (k, x62_, ro59_, xs60_) => slices_Concat_cover_Entry_cover_Entry.l1 k l0 x62_ xs60_ = some r0 ∧ ORow 3 enc58 ro59_ xs60_) (fun s_ : Nat × Int × Ro × List S58 => match s_ with | (k, x62_, ro59_, xs60_) => k) (fun s_ : Nat × Int × Ro × List S58 => match s_ with | (k, x62_, ro59_, xs60_) => [(2, .slice none 0 0), (6, .slice (OA ro59_) xs60_.length (OC ro59_)), (25, .slice A0 l0.length c0), (26, .int .i64 (l0.length : Int)), (27, .int .i64 x62_)]) (fun s_ : Nat × Int × Ro × List S58 => match s_ with | (k, x62_, ro59_, xs60_) => [OE 58 ro59_, .f (KC (Kd.slice 58 k58) A0 c0 l0)]) (k, 0, ro48_, ([] : List S58)) [0, 1] rfl ⟨H, hr49_⟩ (subF_spec ⟨rfl, rfl, rfl, rfl, rfl, trivial⟩) rfl (by decide) ?_
    rintro ⟨k, x62_, ro59_, xs60_⟩ hs73_
    clear H
    obtain ⟨H, hr61_⟩ : slices_Concat_cover_Entry_cover_Entry.l1 k l0 x62_ xs60_ = some r0 ∧ ORow 3 enc58 ro59_ xs60_ := hs73_
    try clear hs73_
    rcases k with _ | k
    · exact none_no (show none = _ from H)
    unfold slices_Concat_cover_Entry_cover_Entry.l1 at H
    refine c_seq rfl ?_
    refine r_ord (l := [0]) rfl (by kernel_rfl) (by kernel_rfl) ?_
    refine s_v rfl rfl rfl rfl (v_arith rfl rfl rfl rfl) ?_
    refine s_end ?_
    refine q_seq ?_
    refine c_seq rfl ?_
    rcases Bool.eq_false_or_eq_true (decide ((x62_ : Int) < (l0.length : Int))) with h77_ | h77_
    ·
      replace H := ite_y (dec_t h77_) H
      refine c_cond rfl rfl (fun _ => ?_) (fun h78_ => absurd (h78_.symm.trans h77_) (by decide))
      refine c_skip rfl ?_
      refine q_seq ?_
      refine c_seq rfl ?_
      refine c_block rfl ?_
      refine c_seq rfl ?_
      refine r_ord (l := [0, 1, 2]) rfl (by kernel_rfl) (by kernel_rfl) ?_
      obtain ⟨n89_, H⟩ := ite_no H
      refine s_v rfl rfl rfl rfl (v_iaK (i := 1) rfl Tryz.underlying59 SZ32 rfl rfl rfl rfl n89_ (dec_t h77_)) ?_
      refine s_e rfl rfl (e_ldRR 1 rfl rfl rfl Tryz.underlying32 rfl rfl n89_ (dec_t h77_)) ?_
      intro A90_ c91_
      refine s_v rfl rfl rfl rfl (v_assign rfl rfl) ?_
      refine s_end ?_
      refine q_seq ?_
      refine r_ord (l := [0, 1, 2, 3]) rfl (by kernel_rfl) (by kernel_rfl) ?_
      refine s_v rfl rfl rfl rfl (v_move rfl rfl) ?_
      refine s_v rfl rfl rfl rfl (v_move rfl rfl) ?_
      obtain ⟨n92_, H⟩ := ite_no H
      refine s_e rfl rfl (e_appOK flat58 (xs := xs60_) (ro := ro59_) (l := (l0.getD (Int.toNat x62_) [])) (z := (.agg #[.int .u64 0, .int .u64 0, .int .u64 0])) (m := 3) (bytes := 24) (i := 0) (j := 1) rfl rfl rfl rfl rfl rfl Tryz.underlying32 (by kernel_rfl) rfl rfl rfl rfl hr61_ rfl rfl rfl (by first | omega | (simp only [List.length_nil, Nat.zero_add]; omega)) (by simp only [maxLen]; first | omega | (simp only [List.length_nil, Nat.zero_add]; omega))) ?_
      intro ro93_ hr94_ sm95_
      refine s_v rfl rfl rfl rfl (v_assign rfl rfl) ?_
      refine s_end ?_
      refine q_block ?_
      refine q_seq ?_
      refine r_ord (l := [0, 1]) rfl (by kernel_rfl) (by kernel_rfl) ?_
      refine s_v rfl rfl rfl rfl (v_arith rfl rfl rfl rfl) ?_
      refine s_v rfl rfl rfl rfl (v_move rfl rfl) ?_
      refine s_end ?_
      exact q_again (k, IntKind.wrap .i64 (x62_ + 1), ro93_, (xs60_ ++ (l0.getD (Int.toNat x62_) []))) [1, 2] ⟨H, hr94_⟩ (Nat.lt_succ_self _) (subF_spec ⟨rfl, rfl, rfl, rfl, rfl, trivial⟩) rfl (by decide)
    ·
      replace H := ite_n (dec_f h77_) H
      refine c_cond rfl rfl (fun h96_ => absurd (h96_.symm.trans h77_) (by decide)) (fun _ => ?_)
      refine c_exit (i := 2) rfl rfl ?_
      refine q_then_exit ?_
      refine q_then_exit ?_
      refine q_block_here rfl ?_
      refine q_seq ?_
      refine c_seq rfl ?_
      refine r_ord (l := [0, 1]) rfl (by kernel_rfl) (by kernel_rfl) ?_
      refine s_v rfl rfl rfl rfl (v_move rfl rfl) ?_
      refine s_v rfl rfl rfl rfl (v_assign rfl rfl) ?_
      refine s_end ?_
      refine q_seq ?_
      refine c_ret rfl ?_
      refine q_giveO flat58 hr61_ [0, 1] rfl (by decide) rfl ?_
      have e_ := Option.some.inj H
      subst e_
      exact q_ret (vs := [.slice (OA ro59_) xs60_.length (OC ro59_)]) rfl (.tmp rfl .nil) [0] rfl (by decide) (hX (OA ro59_) (OC ro59_))
def plan_within.f (a0 : Int) (a1 : Int) (a2 : Int) : Option Bool := ((if (a0 : Int) ≥ a1 then some (decide ((a0 : Int) ≤ a2)) else some false) : Option Bool).bind fun j4_ => some j4_
set_option maxRecDepth 100000 in
set_option maxHeartbeats 4000000 in
theorem plan_within_con (a0 : Int) (a1 : Int) (a2 : Int) (r0 : Bool) (h : plan_within.f a0 a1 a2 = some r0) (w0 : World) (Hs : List Nat) : Con Tryz.prog 43 #[.int .i64 a0, .int .i64 a1, .int .i64 a2] w0 Hs [] (fun X => X (.bool r0) []) := by
 refine con_enter (c := bodyOf Tryz.f43) Tryz.func43 rfl (m := 15) rfl rfl rfl ?_
 intro X hX _
 have H := h
 unfold plan_within.f at H
 clear h
 refine c_seq rfl ?_
 refine r_ord (l := [0]) rfl (by kernel_rfl) (by kernel_rfl) ?_
 refine s_v rfl rfl rfl rfl (v_assign rfl rfl) ?_
 refine s_end ?_
 refine q_seq ?_
 obtain ⟨j4_, e5_, H⟩ := bind_s H
 refine c_join (β := Unit) (fun _ => True) (fun _ => [(6, .bool j4_)]) (fun _ => []) rfl (fun _ _ => ?_) (fun J_ => ?_)
 refine c_ret rfl ?_
 have e_ := Option.some.inj H
 subst e_
 exact q_ret (vs := [.bool j4_]) rfl (.tmp rfl .nil) [] rfl (by decide) (hX)
 clear H
 have H := e5_
 clear e5_
 refine r_ord (l := [0, 1, 2, 3, 4, 5, 6, 7, 8]) rfl (by kernel_rfl) (by kernel_rfl) ?_
 refine s_v rfl rfl rfl rfl (v_move rfl rfl) ?_
 refine s_v rfl rfl rfl rfl (v_move rfl rfl) ?_
 refine s_v rfl rfl rfl rfl (v_arith rfl rfl rfl rfl) ?_
 refine s_v rfl rfl rfl rfl (v_move rfl rfl) ?_
 rcases Bool.eq_false_or_eq_true (decide ((a0 : Int) ≥ a1)) with h6_ | h6_
 replace H := ite_y (dec_t h6_) H
 refine s_splitv (d := 10) (t := decide ((a0 : Int) ≥ a1)) rfl (fun _ => ?_) (fun h7_ => absurd (h7_.symm.trans h6_) (by decide))
 refine s_vg rfl rfl rfl rfl (v_move rfl rfl) ?_
 refine s_vg rfl rfl rfl rfl (v_move rfl rfl) ?_
 refine s_vg rfl rfl rfl rfl (v_arith rfl rfl rfl rfl) ?_
 refine s_v rfl rfl rfl rfl (v_pick rfl rfl rfl rfl) ?_
 refine s_v rfl rfl rfl rfl (v_assign rfl rfl) ?_
 refine s_end ?_
 have hq_0 := Option.some.inj H
 subst hq_0
 exact q_seq (c_frame (subF_spec (by exact ⟨rfl, trivial⟩)) (c_take [] rfl (by decide) (J_ () trivial)))
 replace H := ite_n (dec_f h6_) H
 refine s_splitv (d := 10) (t := decide ((a0 : Int) ≥ a1)) rfl (fun h8_ => absurd (h8_.symm.trans h6_) (by decide)) (fun _ => ?_)
 refine s_no rfl rfl rfl rfl ?_
 refine s_no rfl rfl rfl rfl ?_
 refine s_no rfl rfl rfl rfl ?_
 refine s_v rfl rfl rfl rfl (v_pick rfl rfl rfl rfl) ?_
 refine s_v rfl rfl rfl rfl (v_assign rfl rfl) ?_
 refine s_end ?_
 have hq_0 := Option.some.inj H
 subst hq_0
 exact q_seq (c_frame (subF_spec (by exact ⟨rfl, trivial⟩)) (c_take [] rfl (by decide) (J_ () trivial)))
def plan_Cell.f (a0_0 : Int) (a0_1 : Int) (a0_2 : Int) (a0_3 : Int) (a0_4 : Int) (a0_5 : Int) (a0_6 : Int) (a1 : Int) (a2 : Int) : Option Int := ((plan_Right.f a0_0 a0_1 a0_2 a0_3 a0_4 a0_5 a0_6).bind fun t45_ => (if t45_ = true then (plan_within.f a1 0 a0_2).bind fun t50_ => (if t50_ = true then (plan_fields.f a0_0 a0_1 a0_2 a0_3 a0_4 a0_5 a0_6).bind fun t55_ => (plan_within.f a2 0 (IntKind.wrap .i64 (t55_ - 1))).bind fun t57_ => some (!t57_) else some true) else some true) : Option Bool).bind fun j34_ => (if j34_ = true then some (-1) else (plan_first.f a0_0 a0_1 a0_2 a0_3 a0_4 a0_5 a0_6).bind fun t41_ => (plan_fields.f a0_0 a0_1 a0_2 a0_3 a0_4 a0_5 a0_6).bind fun t43_ => some (IntKind.wrap .i64 ((IntKind.wrap .i64 (t41_ + (IntKind.wrap .i64 (a1 * t43_)))) + a2)))
set_option maxRecDepth 100000 in
set_option maxHeartbeats 4000000 in
theorem plan_Cell_con (a0_0 : Int) (a0_1 : Int) (a0_2 : Int) (a0_3 : Int) (a0_4 : Int) (a0_5 : Int) (a0_6 : Int) (a1 : Int) (a2 : Int) (r0 : Int) (h : plan_Cell.f a0_0 a0_1 a0_2 a0_3 a0_4 a0_5 a0_6 a1 a2 = some r0) (w0 : World) (Hs : List Nat) : Con Tryz.prog 24 #[.agg #[.int .i64 a0_0, .int .i64 a0_1, .int .i64 a0_2, .int .i64 a0_3, .int .i64 a0_4, .int .i64 a0_5, .int .i64 a0_6], .int .i64 a1, .int .i64 a2] w0 Hs [] (fun X => X (.int .i64 r0) []) := by
 refine con_enter (c := bodyOf Tryz.f24) Tryz.func24 rfl (m := 34) rfl rfl rfl ?_
 intro X hX _
 have H := h
 unfold plan_Cell.f at H
 clear h
 refine c_seq rfl ?_
 refine r_ord (l := [0, 1]) rfl (by kernel_rfl) (by kernel_rfl) ?_
 refine s_e rfl rfl (e_box rfl rfl rfl rfl) ?_
 intro b2_
 refine s_v rfl rfl rfl rfl (v_assign rfl rfl) ?_
 refine s_end ?_
 refine q_seq ?_
 refine c_seq rfl ?_
 obtain ⟨j34_, e35_, H⟩ := bind_s H
 refine c_join (β := Unit) (fun _ => True) (fun _ => [(1, .int .i64 a1), (2, .int .i64 a2), (3, .pointer (some ⟨b2_, 0, none⟩)), (6, .int .i64 0), (24, .bool j34_)]) (fun _ => [.b b2_ (.cells #[.int .i64 a0_0, .int .i64 a0_1, .int .i64 a0_2, .int .i64 a0_3, .int .i64 a0_4, .int .i64 a0_5, .int .i64 a0_6] 23 (0, 0))]) rfl (fun _ _ => ?_) (fun J_ => ?_)
 rcases Bool.eq_false_or_eq_true j34_ with h36_ | h36_
 subst h36_
 replace H := ite_y rfl H
 refine c_cond1 rfl rfl ?_
 refine c_seq rfl ?_
 refine r_ord (l := [0]) rfl (by kernel_rfl) (by kernel_rfl) ?_
 refine s_v rfl rfl rfl rfl (v_assign rfl rfl) ?_
 refine s_end ?_
 refine q_seq ?_
 refine c_ret rfl ?_
 refine q_then_ret ?_
 have e_ := Option.some.inj H
 subst e_
 exact q_ret (vs := [.int .i64 (-1)]) rfl (.tmp rfl .nil) [] rfl (by decide) (hX)
 subst h36_
 replace H := ite_n (by decide) H
 refine c_cond0 rfl rfl ?_
 refine c_skip rfl ?_
 refine q_seq ?_
 refine c_seq rfl ?_
 obtain ⟨t41_, e42_, H⟩ := bind_s H
 obtain ⟨t43_, e44_, H⟩ := bind_s H
 refine r_any [.b b2_ (.cells #[.int .i64 a0_0, .int .i64 a0_1, .int .i64 a0_2, .int .i64 a0_3, .int .i64 a0_4, .int .i64 a0_5, .int .i64 a0_6] 23 (0, 0))] (by kernel_rfl) rfl (by kernel_rfl) (mem_pick (idx := [0]) rfl) ?_
 refine a_v 0 rfl (by kernel_rfl) (by kernel_rfl) (by kernel_rfl) rfl rfl rfl (v_ldA [.int .i64 a0_0, .int .i64 a0_1, .int .i64 a0_2, .int .i64 a0_3, .int .i64 a0_4, .int .i64 a0_5, .int .i64 a0_6] 0 rfl Tryz.underlying23 rfl SZ23 rfl rfl rfl rfl) ?_
 refine a_v 2 rfl (by kernel_rfl) (by kernel_rfl) (by kernel_rfl) rfl rfl rfl (v_move rfl rfl) ?_
 refine a_v 3 rfl (by kernel_rfl) (by kernel_rfl) (by kernel_rfl) rfl rfl rfl (v_ldA [.int .i64 a0_0, .int .i64 a0_1, .int .i64 a0_2, .int .i64 a0_3, .int .i64 a0_4, .int .i64 a0_5, .int .i64 a0_6] 0 rfl Tryz.underlying23 rfl SZ23 rfl rfl rfl rfl) ?_
 refine a_v 7 rfl (by kernel_rfl) (by kernel_rfl) (by kernel_rfl) rfl rfl rfl (v_move rfl rfl) ?_
 refine a_1 (i := 1) (by kernel_rfl) ?_
 refine i_e rfl rfl (e_callF [] #[.agg #[.int .i64 a0_0, .int .i64 a0_1, .int .i64 a0_2, .int .i64 a0_3, .int .i64 a0_4, .int .i64 a0_5, .int .i64 a0_6]] rfl rfl rfl rfl rfl Tryz.func40 rfl (by decide) rfl rfl rfl rfl (fun w ht => plan_first_con a0_0 a0_1 a0_2 a0_3 a0_4 a0_5 a0_6 t41_ e42_ w _)) ?_
 refine ⟨(mem_pick (idx := [0]) rfl), ?_⟩
 refine a_1 (i := 4) (by kernel_rfl) ?_
 refine i_e rfl rfl (e_callF [] #[.agg #[.int .i64 a0_0, .int .i64 a0_1, .int .i64 a0_2, .int .i64 a0_3, .int .i64 a0_4, .int .i64 a0_5, .int .i64 a0_6]] rfl rfl rfl rfl rfl Tryz.func41 rfl (by decide) rfl rfl rfl rfl (fun w ht => plan_fields_con a0_0 a0_1 a0_2 a0_3 a0_4 a0_5 a0_6 t43_ e44_ w _)) ?_
 refine ⟨(mem_pick (idx := [0]) rfl), ?_⟩
 refine a_v 5 rfl (by kernel_rfl) (by kernel_rfl) (by kernel_rfl) rfl rfl rfl (v_arith rfl rfl rfl rfl) ?_
 refine a_v 6 rfl (by kernel_rfl) (by kernel_rfl) (by kernel_rfl) rfl rfl rfl (v_arith rfl rfl rfl rfl) ?_
 refine a_v 8 rfl (by kernel_rfl) (by kernel_rfl) (by kernel_rfl) rfl rfl rfl (v_arith rfl rfl rfl rfl) ?_
 refine a_v 9 rfl (by kernel_rfl) (by kernel_rfl) (by kernel_rfl) rfl rfl rfl (v_assign rfl rfl) ?_
 refine a_end (by kernel_rfl) ?_
 refine q_seq ?_
 refine c_ret rfl ?_
 have e_ := Option.some.inj H
 subst e_
 exact q_ret (vs := [.int .i64 (IntKind.wrap .i64 ((IntKind.wrap .i64 (t41_ + (IntKind.wrap .i64 (a1 * t43_)))) + a2))]) rfl (.tmp rfl .nil) [] rfl (by decide) (hX)
 clear H
 have H := e35_
 clear e35_
 refine r_ord (l := [0, 1, 2, 3, 4, 5, 6, 7, 8, 9, 10, 11, 12, 13, 14, 15, 16, 17]) rfl (by kernel_rfl) (by kernel_rfl) ?_
 refine s_v rfl rfl rfl rfl (v_ldA [.int .i64 a0_0, .int .i64 a0_1, .int .i64 a0_2, .int .i64 a0_3, .int .i64 a0_4, .int .i64 a0_5, .int .i64 a0_6] 0 rfl Tryz.underlying23 rfl SZ23 rfl rfl rfl rfl) ?_
 obtain ⟨t45_, e46_, H⟩ := bind_s H
 refine s_e rfl rfl (e_callF [] #[.agg #[.int .i64 a0_0, .int .i64 a0_1, .int .i64 a0_2, .int .i64 a0_3, .int .i64 a0_4, .int .i64 a0_5, .int .i64 a0_6]] rfl rfl rfl rfl rfl Tryz.func20 rfl (by decide) rfl rfl rfl rfl (fun w ht => plan_Right_con a0_0 a0_1 a0_2 a0_3 a0_4 a0_5 a0_6 t45_ e46_ w _)) ?_
 refine s_v rfl rfl rfl rfl (v_not rfl rfl) ?_
 refine s_v rfl rfl rfl rfl (v_move rfl rfl) ?_
 rcases Bool.eq_false_or_eq_true (!t45_) with h47_ | h47_
 replace H := ite_n (not_t (bnot_t h47_)) H
 refine s_splitv (d := 10) (t := !t45_) rfl (fun _ => ?_) (fun h48_ => absurd (h48_.symm.trans h47_) (by decide))
 refine s_no rfl rfl rfl rfl ?_
 refine s_no rfl rfl rfl rfl ?_
 refine s_no rfl rfl rfl rfl ?_
 refine s_no rfl rfl rfl rfl ?_
 refine s_no rfl rfl rfl rfl ?_
 refine s_v rfl rfl rfl rfl (v_pick rfl rfl rfl rfl) ?_
 refine s_v rfl rfl rfl rfl (v_move rfl rfl) ?_
 refine s_no rfl rfl rfl rfl ?_
 refine s_no rfl rfl rfl rfl ?_
 refine s_no rfl rfl rfl rfl ?_
 refine s_no rfl rfl rfl rfl ?_
 refine s_no rfl rfl rfl rfl ?_
 refine s_no rfl rfl rfl rfl ?_
 refine s_v rfl rfl rfl rfl (v_pick rfl rfl rfl rfl) ?_
 refine s_end ?_
 have hq_0 := Option.some.inj H
 subst hq_0
 exact q_seq (c_frame (subF_spec (by exact ⟨rfl, rfl, rfl, rfl, rfl, trivial⟩)) (c_take [0] rfl (by decide) (J_ () trivial)))
 replace H := ite_y (bnot_f h47_) H
 refine s_splitv (d := 10) (t := !t45_) rfl (fun h49_ => absurd (h49_.symm.trans h47_) (by decide)) (fun _ => ?_)
 refine s_vg rfl rfl rfl rfl (v_move rfl rfl) ?_
 refine s_vg rfl rfl rfl rfl (v_fa rfl Tryz.underlying23 rfl SZ3 rfl) ?_
 refine s_vg rfl rfl rfl rfl (v_ld 0 rfl Tryz.underlying3 rfl rfl rfl rfl) ?_
 obtain ⟨t50_, e51_, H⟩ := bind_s H
 refine s_eg rfl rfl (e_callF [] #[.int .i64 a1, .int .i64 0, .int .i64 a0_2] rfl rfl rfl rfl rfl Tryz.func43 rfl (by decide) rfl rfl rfl rfl (fun w ht => plan_within_con a1 0 a0_2 t50_ e51_ w _)) ?_
 refine s_vg rfl rfl rfl rfl (v_not rfl rfl) ?_
 refine s_v rfl rfl rfl rfl (v_pick rfl rfl rfl rfl) ?_
 refine s_v rfl rfl rfl rfl (v_move rfl rfl) ?_
 rcases Bool.eq_false_or_eq_true (!t50_) with h52_ | h52_
 replace H := ite_n (not_t (bnot_t h52_)) H
 refine s_splitv (d := 17) (t := !t50_) rfl (fun _ => ?_) (fun h53_ => absurd (h53_.symm.trans h52_) (by decide))
 refine s_no rfl rfl rfl rfl ?_
 refine s_no rfl rfl rfl rfl ?_
 refine s_no rfl rfl rfl rfl ?_
 refine s_no rfl rfl rfl rfl ?_
 refine s_no rfl rfl rfl rfl ?_
 refine s_no rfl rfl rfl rfl ?_
 refine s_v rfl rfl rfl rfl (v_pick rfl rfl rfl rfl) ?_
 refine s_end ?_
 have hq_0 := Option.some.inj H
 subst hq_0
 exact q_seq (c_frame (subF_spec (by exact ⟨rfl, rfl, rfl, rfl, rfl, trivial⟩)) (c_take [0] rfl (by decide) (J_ () trivial)))
 replace H := ite_y (bnot_f h52_) H
 refine s_splitv (d := 17) (t := !t50_) rfl (fun h54_ => absurd (h54_.symm.trans h52_) (by decide)) (fun _ => ?_)
 refine s_vg rfl rfl rfl rfl (v_move rfl rfl) ?_
 refine s_vg rfl rfl rfl rfl (v_ldA [.int .i64 a0_0, .int .i64 a0_1, .int .i64 a0_2, .int .i64 a0_3, .int .i64 a0_4, .int .i64 a0_5, .int .i64 a0_6] 0 rfl Tryz.underlying23 rfl SZ23 rfl rfl rfl rfl) ?_
 obtain ⟨t55_, e56_, H⟩ := bind_s H
 refine s_eg rfl rfl (e_callF [] #[.agg #[.int .i64 a0_0, .int .i64 a0_1, .int .i64 a0_2, .int .i64 a0_3, .int .i64 a0_4, .int .i64 a0_5, .int .i64 a0_6]] rfl rfl rfl rfl rfl Tryz.func41 rfl (by decide) rfl rfl rfl rfl (fun w ht => plan_fields_con a0_0 a0_1 a0_2 a0_3 a0_4 a0_5 a0_6 t55_ e56_ w _)) ?_
 refine s_vg rfl rfl rfl rfl (v_arith rfl rfl rfl rfl) ?_
 obtain ⟨t57_, e58_, H⟩ := bind_s H
 refine s_eg rfl rfl (e_callF [] #[.int .i64 a2, .int .i64 0, .int .i64 (IntKind.wrap .i64 (t55_ - 1))] rfl rfl rfl rfl rfl Tryz.func43 rfl (by decide) rfl rfl rfl rfl (fun w ht => plan_within_con a2 0 (IntKind.wrap .i64 (t55_ - 1)) t57_ e58_ w _)) ?_
 refine s_vg rfl rfl rfl rfl (v_not rfl rfl) ?_
 refine s_v rfl rfl rfl rfl (v_pick rfl rfl rfl rfl) ?_
 refine s_end ?_
 have hq_0 := Option.some.inj H
 subst hq_0
 exact q_seq (c_frame (subF_spec (by exact ⟨rfl, rfl, rfl, rfl, rfl, trivial⟩)) (c_take [0] rfl (by decide) (J_ () trivial)))
def slot_State.f (a0 : Int) : Option Int := some (IntKind.wrap .i64 (IntKind.wrap .u64 (BitVec.ofInt (IntKind.bits .u64) a0 &&& BitVec.ofInt (IntKind.bits .u64) 3).toNat))
set_option maxRecDepth 100000 in
set_option maxHeartbeats 4000000 in
theorem slot_State_con (a0 : Int) (r0 : Int) (h : slot_State.f a0 = some r0) (w0 : World) (Hs : List Nat) : Con Tryz.prog 23 #[.int .u64 a0] w0 Hs [] (fun X => X (.int .i64 r0) []) := by
  refine con_enter (c := bodyOf Tryz.f23) Tryz.func23 rfl (m := 6) rfl rfl rfl ?_
  intro X hX _
  have H := h
  unfold slot_State.f at H
  clear h
  refine c_seq rfl ?_
  refine r_ord (l := [0]) rfl (by kernel_rfl) (by kernel_rfl) ?_
  refine s_v rfl rfl rfl rfl (v_assign rfl rfl) ?_
  refine s_end ?_
  refine q_seq ?_
  refine c_seq rfl ?_
  refine r_ord (l := [0, 1, 2, 3]) rfl (by kernel_rfl) (by kernel_rfl) ?_
  refine s_v rfl rfl rfl rfl (v_move rfl rfl) ?_
  refine s_v rfl rfl rfl rfl (v_bits rfl rfl rfl rfl) ?_
  refine s_v rfl rfl rfl rfl (v_conv rfl Tryz.underlying41 Tryz.underlying3 rfl) ?_
  refine s_v rfl rfl rfl rfl (v_assign rfl rfl) ?_
  refine s_end ?_
  refine q_seq ?_
  refine c_ret rfl ?_
  have e_ := Option.some.inj H
  subst e_
  exact q_ret (vs := [.int .i64 (IntKind.wrap .i64 (IntKind.wrap .u64 (BitVec.ofInt (IntKind.bits .u64) a0 &&& BitVec.ofInt (IntKind.bits .u64) 3).toNat))]) rfl (.tmp rfl .nil) [] rfl (by decide) (hX)
def count_Of.l0 : Nat → Int → Int → Int → Int → Int → Int → Int → List Int → List S58 → Int → Int → Int → Int → Option (Int × Int × Int × Int)
  | 0, _, _, _, _, _, _, _, _, _, _, _, _, _ => none
  | k + 1, a0_0, a0_1, a0_2, a0_3, a0_4, a0_5, a0_6, l1, t30_, x53_, x54_, x55_, x56_ => (if (x53_ : Int) < a0_2 then (plan_Cell.f a0_0 a0_1 a0_2 a0_3 a0_4 a0_5 a0_6 (IntKind.wrap .i64 (x53_ + 1)) 0).bind fun t102_ => (if 0 ≤ (t102_ : Int) then (if (t102_ : Int) < (l1.length : Int) then (slot_State.f (rd l1 t102_)).bind fun t106_ => (if (t106_ : Int) = 1 then count_Of.l0 k a0_0 a0_1 a0_2 a0_3 a0_4 a0_5 a0_6 l1 t30_ (IntKind.wrap .i64 (x53_ + 1)) (IntKind.wrap .i64 (x54_ + 1)) x55_ x56_ else (if (t106_ : Int) = 0 then count_Of.l0 k a0_0 a0_1 a0_2 a0_3 a0_4 a0_5 a0_6 l1 t30_ (IntKind.wrap .i64 (x53_ + 1)) x54_ (IntKind.wrap .i64 (x55_ + 1)) x56_ else (if (t106_ : Int) = 2 then count_Of.l0 k a0_0 a0_1 a0_2 a0_3 a0_4 a0_5 a0_6 l1 t30_ (IntKind.wrap .i64 (x53_ + 1)) x54_ x55_ (IntKind.wrap .i64 (x56_ + 1)) else count_Of.l0 k a0_0 a0_1 a0_2 a0_3 a0_4 a0_5 a0_6 l1 t30_ (IntKind.wrap .i64 (x53_ + 1)) x54_ x55_ x56_))) else none) else none) else some (x54_, (t30_.length : Int), x55_, x56_))
def count_Of.f (k : Nat) (a0_0 : Int) (a0_1 : Int) (a0_2 : Int) (a0_3 : Int) (a0_4 : Int) (a0_5 : Int) (a0_6 : Int) (l1 : List Int) (l2 : List (List S58)) : Option (Int × Int × Int × Int) := ((plan_Right.f a0_0 a0_1 a0_2 a0_3 a0_4 a0_5 a0_6).bind fun t118_ => (if t118_ = true then (plan_Len.f a0_0 a0_1 a0_2 a0_3 a0_4 a0_5 a0_6).bind fun t123_ => some (((l1.length : Int) : Int) != t123_) else some true) : Option Bool).bind fun j22_ => (if j22_ = true then some (0, 0, 0, 0) else (slices_Concat_cover_Entry_cover_Entry.f k l2).bind fun t30_ => count_Of.l0 k a0_0 a0_1 a0_2 a0_3 a0_4 a0_5 a0_6 l1 t30_ 0 (IntKind.wrap .i64 (-(t30_.length : Int))) 0 0)
set_option maxRecDepth 100000 in
set_option maxHeartbeats 4000000 in
theorem count_Of_con (k : Nat) (a0_0 : Int) (a0_1 : Int) (a0_2 : Int) (a0_3 : Int) (a0_4 : Int) (a0_5 : Int) (a0_6 : Int) (A1 : Option Addr) (c1 : Nat) (l1 : List Int) (A2 : Option Addr) (c2 : Nat) (l2 : List (List S58)) (r0 : Int) (r1 : Int) (r2 : Int) (r3 : Int) (h : count_Of.f k a0_0 a0_1 a0_2 a0_3 a0_4 a0_5 a0_6 l1 l2 = some (r0, r1, r2, r3)) (w0 : World) (Hs : List Nat) : Con Tryz.prog 7 #[.agg #[.int .i64 a0_0, .int .i64 a0_1, .int .i64 a0_2, .int .i64 a0_3, .int .i64 a0_4, .int .i64 a0_5, .int .i64 a0_6], .slice A1 l1.length c1, .slice A2 l2.length c2] w0 Hs [.f (KC (Kd.int .u64) A1 c1 l1), .f (KC (Kd.slice 58 k58) A2 c2 l2)] (fun X => X (.agg #[.int .i64 r0, .int .i64 r1, .int .i64 r2, .int .i64 r3]) []) := by
  refine con_enter (c := bodyOf Tryz.f7) Tryz.func7 rfl (m := 61) rfl rfl rfl ?_
  intro X hX _
  have H := h
  unfold count_Of.f at H
  clear h
  refine c_seq rfl ?_
  refine r_ord (l := [0, 1]) rfl (by kernel_rfl) (by kernel_rfl) ?_
  refine s_e rfl rfl (e_box rfl rfl rfl rfl) ?_
  intro b3_
  refine s_e rfl rfl (e_alloc rfl rfl rfl ZR34) ?_
  intro b4_
  refine s_end ?_
  refine q_seq ?_
  refine c_seq rfl ?_
  obtain ⟨j22_, e23_, H⟩ := bind_s H
  refine c_join (β := Unit) (fun _ => True) (fun _ => [(1, .slice A1 l1.length c1), (2, .slice A2 l2.length c2), (3, .pointer (some ⟨b3_, 0, none⟩)), (6, .pointer (some ⟨b4_, 0, none⟩)), (18, .bool j22_)]) (fun _ => [.b b4_ (.cells #[.int .i64 0, .int .i64 0, .int .i64 0, .int .i64 0] 34 (0, 0)), .b b3_ (.cells #[.int .i64 a0_0, .int .i64 a0_1, .int .i64 a0_2, .int .i64 a0_3, .int .i64 a0_4, .int .i64 a0_5, .int .i64 a0_6] 23 (0, 0)), .f (KC (Kd.int .u64) A1 c1 l1), .f (KC (Kd.slice 58 k58) A2 c2 l2)]) rfl (fun _ _ => ?_) (fun J_ => ?_)
  ·
    rcases Bool.eq_false_or_eq_true j22_ with h24_ | h24_
    ·
      subst h24_
      replace H := ite_y rfl H
      refine c_cond1 rfl rfl ?_
      refine c_seq rfl ?_
      refine r_ord (l := [0, 1]) rfl (by kernel_rfl) (by kernel_rfl) ?_
      refine s_v rfl rfl rfl rfl (v_build (places := #[(0, 1), (1, 1), (2, 1), (3, 1)]) #[.int .i64 0, .int .i64 0, .int .i64 0, .int .i64 0] rfl ZR34 Tryz.underlying34 (by kernel_rfl) rfl (by kernel_rfl)) ?_
      refine s_e rfl rfl (e_stA 0 rfl rfl SZ34 rfl rfl rfl rfl rfl rfl) ?_
      refine s_end ?_
      refine q_seq ?_
      refine c_ret rfl ?_
      refine q_then_ret ?_
      have hq_0 := Option.some.inj H
      obtain ⟨ee_0, hq_1⟩ := Prod.mk.inj hq_0
      obtain ⟨ee_1, hq_2⟩ := Prod.mk.inj hq_1
      obtain ⟨ee_2, hq_3⟩ := Prod.mk.inj hq_2
      subst ee_0
      subst ee_1
      subst ee_2
      subst hq_3
      exact q_ret (vs := [.agg #[.int .i64 0, .int .i64 0, .int .i64 0, .int .i64 0]]) rfl (.agg [.int .i64 0, .int .i64 0, .int .i64 0, .int .i64 0] 0 rfl Tryz.underlying34 rfl SZ34 rfl rfl rfl .nil) [] rfl (by decide) (hX)
    ·
      subst h24_
      replace H := ite_n (by decide) H
      refine c_cond0 rfl rfl ?_
      refine c_skip rfl ?_
      refine q_seq ?_
      refine c_seq rfl ?_
      refine r_ord (l := [0, 1, 2, 3, 4, 5]) rfl (by kernel_rfl) (by kernel_rfl) ?_
      refine s_v rfl rfl rfl rfl (v_move rfl rfl) ?_
      obtain ⟨t30_, e31_, H⟩ := bind_s H
      refine s_e rfl rfl (e_callF [3] #[.slice A2 l2.length c2] rfl rfl rfl rfl rfl Tryz.func22 rfl (by decide) rfl rfl rfl rfl (fun w ht => slices_Concat_cover_Entry_cover_Entry_con _ A2 c2 l2 t30_ e31_ w _)) ?_
      intro A32_ c33_
      refine s_v rfl rfl rfl rfl (v_len rfl rfl rfl Tryz.underlying32 rfl rfl) ?_
      refine s_v rfl rfl rfl rfl (v_build (places := #[(0, 1), (1, 1), (2, 1), (3, 1)]) #[.int .i64 0, .int .i64 (t30_.length : Int), .int .i64 0, .int .i64 0] rfl ZR34 Tryz.underlying34 (by kernel_rfl) rfl (by kernel_rfl)) ?_
      refine s_e rfl rfl (e_alloc rfl rfl rfl ZR34) ?_
      intro b34_
      refine s_e rfl rfl (e_stA 0 rfl rfl SZ34 rfl rfl rfl rfl rfl rfl) ?_
      refine s_end ?_
      refine q_seq ?_
      refine c_seq rfl ?_
      refine r_ord (l := [0, 1, 2, 3, 4]) rfl (by kernel_rfl) (by kernel_rfl) ?_
      refine s_v rfl rfl rfl rfl (v_fa rfl Tryz.underlying34 rfl SZ3 rfl) ?_
      refine s_v rfl rfl rfl rfl (v_ld 0 rfl Tryz.underlying3 rfl rfl rfl rfl) ?_
      refine s_v rfl rfl rfl rfl (v_neg rfl rfl) ?_
      refine s_v rfl rfl rfl rfl (v_fa rfl Tryz.underlying34 rfl SZ3 rfl) ?_
      refine s_e rfl rfl (e_st 0 rfl rfl SZ3 rfl rfl rfl rfl (blt_lt rfl)) ?_
      refine s_end ?_
      refine q_seq ?_
      refine c_seq rfl ?_
      refine c_seq rfl ?_
      refine r_ord (l := [0, 1, 2]) rfl (by kernel_rfl) (by kernel_rfl) ?_
      refine s_v rfl rfl rfl rfl (v_fa rfl Tryz.underlying23 rfl SZ3 rfl) ?_
      refine s_v rfl rfl rfl rfl (v_ld 3 rfl Tryz.underlying3 rfl rfl rfl rfl) ?_
      refine s_v rfl rfl rfl rfl (v_move rfl rfl) ?_
      refine s_end ?_
      refine q_seq ?_
      refine c_block rfl ?_
      refine c_loop (σ := Nat × Int × Int × Int × Int) (fun s_ : Nat × Int × Int × Int × Int => match s_ with | (k, x53_, x54_, x55_, x56_) => count_Of.l0 k a0_0 a0_1 a0_2 a0_3 a0_4 a0_5 a0_6 l1 t30_ x53_ x54_ x55_ x56_ = some (r0, r1, r2, r3)) (fun s_ : Nat × Int × Int × Int × Int => match s_ with | (k, x53_, x54_, x55_, x56_) => k) (fun s_ : Nat × Int × Int × Int × Int => match s_ with | (k, x53_, x54_, x55_, x56_) => [(1, .slice A1 l1.length c1), (3, .pointer (some ⟨b3_, 0, none⟩)), (6, .pointer (some ⟨b4_, 0, none⟩)), (7, .pointer (some ⟨b34_, 0, none⟩)), (29, .int .i64 a0_2), (30, .int .i64 x53_)]) (fun s_ : Nat × Int × Int × Int × Int => match s_ with | (k, x53_, x54_, x55_, x56_) => [.b b34_ (.cells #[.int .i64 x54_, .int .i64 (t30_.length : Int), .int .i64 x55_, .int .i64 x56_] 34 (0, 0)), .f (KC k58 A32_ c33_ t30_), .b b4_ (.cells #[.int .i64 0, .int .i64 0, .int .i64 0, .int .i64 0] 34 (0, 0)), .b b3_ (.cells #[.int .i64 a0_0, .int .i64 a0_1, .int .i64 a0_2, .int .i64 a0_3, .int .i64 a0_4, .int .i64 a0_5, .int .i64 a0_6] 23 (0, 0)), .f (KC (Kd.int .u64) A1 c1 l1), .f (KC (Kd.slice 58 k58) A2 c2 l2)]) (k, 0, IntKind.wrap .i64 (-(t30_.length : Int)), 0, 0) [0, 1, 2, 3, 4, 5] rfl H (subF_spec ⟨rfl, rfl, rfl, rfl, rfl, rfl, trivial⟩) rfl (by decide) ?_
      rintro ⟨k, x53_, x54_, x55_, x56_⟩ hs75_
      clear H
      have H : count_Of.l0 k a0_0 a0_1 a0_2 a0_3 a0_4 a0_5 a0_6 l1 t30_ x53_ x54_ x55_ x56_ = some (r0, r1, r2, r3) := hs75_
      try clear hs75_
      rcases k with _ | k
      · exact none_no (show none = _ from H)
      unfold count_Of.l0 at H
      refine c_seq rfl ?_
      refine r_ord (l := [0]) rfl (by kernel_rfl) (by kernel_rfl) ?_
      refine s_v rfl rfl rfl rfl (v_arith rfl rfl rfl rfl) ?_
      refine s_end ?_
      refine q_seq ?_
      refine c_seq rfl ?_
      rcases Bool.eq_false_or_eq_true (decide ((x53_ : Int) < a0_2)) with h79_ | h79_
      ·
        replace H := ite_y (dec_t h79_) H
        refine c_cond rfl rfl (fun _ => ?_) (fun h80_ => absurd (h80_.symm.trans h79_) (by decide))
        refine c_skip rfl ?_
        refine q_seq ?_
        refine c_seq rfl ?_
        refine c_block rfl ?_
        refine c_seq rfl ?_
        refine r_ord (l := [0, 1]) rfl (by kernel_rfl) (by kernel_rfl) ?_
        refine s_v rfl rfl rfl rfl (v_move rfl rfl) ?_
        refine s_v rfl rfl rfl rfl (v_assign rfl rfl) ?_
        refine s_end ?_
        refine q_seq ?_
        refine c_seq rfl ?_
        refine r_ord (l := [0, 1, 2, 3, 4, 5, 6, 7]) rfl (by kernel_rfl) (by kernel_rfl) ?_
        refine s_v rfl rfl rfl rfl (v_move rfl rfl) ?_
        refine s_v rfl rfl rfl rfl (v_ldA [.int .i64 a0_0, .int .i64 a0_1, .int .i64 a0_2, .int .i64 a0_3, .int .i64 a0_4, .int .i64 a0_5, .int .i64 a0_6] 3 rfl Tryz.underlying23 rfl SZ23 rfl rfl rfl rfl) ?_
        refine s_v rfl rfl rfl rfl (v_move rfl rfl) ?_
        refine s_v rfl rfl rfl rfl (v_arith rfl rfl rfl rfl) ?_
        obtain ⟨t102_, e103_, H⟩ := bind_s H
        refine s_e rfl rfl (e_callF [] #[.agg #[.int .i64 a0_0, .int .i64 a0_1, .int .i64 a0_2, .int .i64 a0_3, .int .i64 a0_4, .int .i64 a0_5, .int .i64 a0_6], .int .i64 (IntKind.wrap .i64 (x53_ + 1)), .int .i64 0] rfl rfl rfl rfl rfl Tryz.func24 rfl (by decide) rfl rfl rfl rfl (fun w ht => plan_Cell_con a0_0 a0_1 a0_2 a0_3 a0_4 a0_5 a0_6 (IntKind.wrap .i64 (x53_ + 1)) 0 t102_ e103_ w _)) ?_
        obtain ⟨n104_, H⟩ := ite_no H
        obtain ⟨n105_, H⟩ := ite_no H
        refine s_v rfl rfl rfl rfl (v_iaK (i := 4) rfl Tryz.underlying24 SZ41 rfl rfl rfl rfl n104_ n105_) ?_
        refine s_v rfl rfl rfl rfl (v_ldK (v := .int .u64 (rd l1 t102_)) 0 4 rfl Tryz.underlying41 rfl rfl rfl rfl n104_ n105_ (fun w K h => h)) ?_
        obtain ⟨t106_, e107_, H⟩ := bind_s H
        refine s_e rfl rfl (e_callF [] #[.int .u64 (rd l1 t102_)] rfl rfl rfl rfl rfl Tryz.func23 rfl (by decide) rfl rfl rfl rfl (fun w ht => slot_State_con (rd l1 t102_) t106_ e107_ w _)) ?_
        refine s_end ?_
        refine q_seq ?_
        refine c_block rfl ?_
        refine c_seq rfl ?_
        refine r_ord (l := [0, 1]) rfl (by kernel_rfl) (by kernel_rfl) ?_
        refine s_v rfl rfl rfl rfl (v_arith rfl rfl rfl rfl) ?_
        refine s_v rfl rfl rfl rfl (v_assign rfl rfl) ?_
        refine s_end ?_
        refine q_seq ?_
        rcases Bool.eq_false_or_eq_true ((t106_ : Int) == 1) with h108_ | h108_
        ·
          replace H := ite_y (ibeq_t h108_) H
          refine c_cond rfl rfl (fun _ => ?_) (fun h109_ => absurd (h109_.symm.trans h108_) (by decide))
          refine r_ord (l := [0, 1, 2, 3, 4]) rfl (by kernel_rfl) (by kernel_rfl) ?_
          refine s_v rfl rfl rfl rfl (v_fa rfl Tryz.underlying34 rfl SZ3 rfl) ?_
          refine s_v rfl rfl rfl rfl (v_ld 0 rfl Tryz.underlying3 rfl rfl rfl rfl) ?_
          refine s_v rfl rfl rfl rfl (v_arith rfl rfl rfl rfl) ?_
          refine s_v rfl rfl rfl rfl (v_fa rfl Tryz.underlying34 rfl SZ3 rfl) ?_
          refine s_e rfl rfl (e_st 0 rfl rfl SZ3 rfl rfl rfl rfl (blt_lt rfl)) ?_
          refine s_end ?_
          refine q_block ?_
          refine q_block ?_
          refine q_seq ?_
          refine r_ord (l := [0, 1]) rfl (by kernel_rfl) (by kernel_rfl) ?_
          refine s_v rfl rfl rfl rfl (v_arith rfl rfl rfl rfl) ?_
          refine s_v rfl rfl rfl rfl (v_move rfl rfl) ?_
          refine s_end ?_
          exact q_again (k, IntKind.wrap .i64 (x53_ + 1), IntKind.wrap .i64 (x54_ + 1), x55_, x56_) [0, 1, 2, 3, 4, 5] H (Nat.lt_succ_self _) (subF_spec ⟨rfl, rfl, rfl, rfl, rfl, rfl, trivial⟩) rfl (by decide)
        ·
          replace H := ite_n (ibeq_f h108_) H
          refine c_cond rfl rfl (fun h110_ => absurd (h110_.symm.trans h108_) (by decide)) (fun _ => ?_)
          refine c_seq rfl ?_
          refine r_ord (l := [0, 1]) rfl (by kernel_rfl) (by kernel_rfl) ?_
          refine s_v rfl rfl rfl rfl (v_arith rfl rfl rfl rfl) ?_
          refine s_v rfl rfl rfl rfl (v_assign rfl rfl) ?_
          refine s_end ?_
          refine q_seq ?_
          rcases Bool.eq_false_or_eq_true ((t106_ : Int) == 0) with h111_ | h111_
          ·
            replace H := ite_y (ibeq_t h111_) H
            refine c_cond rfl rfl (fun _ => ?_) (fun h112_ => absurd (h112_.symm.trans h111_) (by decide))
            refine r_ord (l := [0, 1, 2, 3, 4]) rfl (by kernel_rfl) (by kernel_rfl) ?_
            refine s_v rfl rfl rfl rfl (v_fa rfl Tryz.underlying34 rfl SZ3 rfl) ?_
            refine s_v rfl rfl rfl rfl (v_ld 0 rfl Tryz.underlying3 rfl rfl rfl rfl) ?_
            refine s_v rfl rfl rfl rfl (v_arith rfl rfl rfl rfl) ?_
            refine s_v rfl rfl rfl rfl (v_fa rfl Tryz.underlying34 rfl SZ3 rfl) ?_
            refine s_e rfl rfl (e_st 0 rfl rfl SZ3 rfl rfl rfl rfl (blt_lt rfl)) ?_
            refine s_end ?_
            refine q_block ?_
            refine q_block ?_
            refine q_seq ?_
            refine r_ord (l := [0, 1]) rfl (by kernel_rfl) (by kernel_rfl) ?_
            refine s_v rfl rfl rfl rfl (v_arith rfl rfl rfl rfl) ?_
            refine s_v rfl rfl rfl rfl (v_move rfl rfl) ?_
            refine s_end ?_
            exact q_again (k, IntKind.wrap .i64 (x53_ + 1), x54_, IntKind.wrap .i64 (x55_ + 1), x56_) [0, 1, 2, 3, 4, 5] H (Nat.lt_succ_self _) (subF_spec ⟨rfl, rfl, rfl, rfl, rfl, rfl, trivial⟩) rfl (by decide)
          ·
            replace H := ite_n (ibeq_f h111_) H
            refine c_cond rfl rfl (fun h113_ => absurd (h113_.symm.trans h111_) (by decide)) (fun _ => ?_)
            refine c_seq rfl ?_
            refine r_ord (l := [0, 1]) rfl (by kernel_rfl) (by kernel_rfl) ?_
            refine s_v rfl rfl rfl rfl (v_arith rfl rfl rfl rfl) ?_
            refine s_v rfl rfl rfl rfl (v_assign rfl rfl) ?_
            refine s_end ?_
            refine q_seq ?_
            rcases Bool.eq_false_or_eq_true ((t106_ : Int) == 2) with h114_ | h114_
            ·
              replace H := ite_y (ibeq_t h114_) H
              refine c_cond rfl rfl (fun _ => ?_) (fun h115_ => absurd (h115_.symm.trans h114_) (by decide))
              refine r_ord (l := [0, 1, 2, 3, 4]) rfl (by kernel_rfl) (by kernel_rfl) ?_
              refine s_v rfl rfl rfl rfl (v_fa rfl Tryz.underlying34 rfl SZ3 rfl) ?_
              refine s_v rfl rfl rfl rfl (v_ld 0 rfl Tryz.underlying3 rfl rfl rfl rfl) ?_
              refine s_v rfl rfl rfl rfl (v_arith rfl rfl rfl rfl) ?_
              refine s_v rfl rfl rfl rfl (v_fa rfl Tryz.underlying34 rfl SZ3 rfl) ?_
              refine s_e rfl rfl (e_st 0 rfl rfl SZ3 rfl rfl rfl rfl (blt_lt rfl)) ?_
              refine s_end ?_
              refine q_block ?_
              refine q_block ?_
              refine q_seq ?_
              refine r_ord (l := [0, 1]) rfl (by kernel_rfl) (by kernel_rfl) ?_
              refine s_v rfl rfl rfl rfl (v_arith rfl rfl rfl rfl) ?_
              refine s_v rfl rfl rfl rfl (v_move rfl rfl) ?_
              refine s_end ?_
              exact q_again (k, IntKind.wrap .i64 (x53_ + 1), x54_, x55_, IntKind.wrap .i64 (x56_ + 1)) [0, 1, 2, 3, 4, 5] H (Nat.lt_succ_self _) (subF_spec ⟨rfl, rfl, rfl, rfl, rfl, rfl, trivial⟩) rfl (by decide)
            ·
              replace H := ite_n (ibeq_f h114_) H
              refine c_cond rfl rfl (fun h116_ => absurd (h116_.symm.trans h114_) (by decide)) (fun _ => ?_)
              refine c_skip rfl ?_
              refine q_block ?_
              refine q_block ?_
              refine q_seq ?_
              refine r_ord (l := [0, 1]) rfl (by kernel_rfl) (by kernel_rfl) ?_
              refine s_v rfl rfl rfl rfl (v_arith rfl rfl rfl rfl) ?_
              refine s_v rfl rfl rfl rfl (v_move rfl rfl) ?_
              refine s_end ?_
              exact q_again (k, IntKind.wrap .i64 (x53_ + 1), x54_, x55_, x56_) [0, 1, 2, 3, 4, 5] H (Nat.lt_succ_self _) (subF_spec ⟨rfl, rfl, rfl, rfl, rfl, rfl, trivial⟩) rfl (by decide)
      ·
        replace H := ite_n (dec_f h79_) H
        refine c_cond rfl rfl (fun h117_ => absurd (h117_.symm.trans h79_) (by decide)) (fun _ => ?_)
        refine c_exit (i := 0) rfl rfl ?_
        refine q_then_exit ?_
        refine q_then_exit ?_
        refine q_block_here rfl ?_
        refine q_seq ?_
        refine c_seq rfl ?_
        refine r_ord (l := [0, 1]) rfl (by kernel_rfl) (by kernel_rfl) ?_
        refine s_v rfl rfl rfl rfl (v_ldA [.int .i64 x54_, .int .i64 (t30_.length : Int), .int .i64 x55_, .int .i64 x56_] 0 rfl Tryz.underlying34 rfl SZ34 rfl rfl rfl rfl) ?_
        refine s_e rfl rfl (e_stA 2 rfl rfl SZ34 rfl rfl rfl rfl rfl rfl) ?_
        refine s_end ?_
        refine q_seq ?_
        refine c_ret rfl ?_
        have hq_0 := Option.some.inj H
        obtain ⟨ee_0, hq_1⟩ := Prod.mk.inj hq_0
        obtain ⟨ee_1, hq_2⟩ := Prod.mk.inj hq_1
        obtain ⟨ee_2, hq_3⟩ := Prod.mk.inj hq_2
        subst ee_0
        subst ee_1
        subst ee_2
        subst hq_3
        exact q_ret (vs := [.agg #[.int .i64 x54_, .int .i64 (t30_.length : Int), .int .i64 x55_, .int .i64 x56_]]) rfl (.agg [.int .i64 x54_, .int .i64 (t30_.length : Int), .int .i64 x55_, .int .i64 x56_] 2 rfl Tryz.underlying34 rfl SZ34 rfl rfl rfl .nil) [] rfl (by decide) (hX)
  ·
    clear H
    have H := e23_
    clear e23_
    refine r_ord (l := [0, 1, 2, 3, 4, 5, 6, 7, 8, 9]) rfl (by kernel_rfl) (by kernel_rfl) ?_
    refine s_v rfl rfl rfl rfl (v_ldA [.int .i64 a0_0, .int .i64 a0_1, .int .i64 a0_2, .int .i64 a0_3, .int .i64 a0_4, .int .i64 a0_5, .int .i64 a0_6] 1 rfl Tryz.underlying23 rfl SZ23 rfl rfl rfl rfl) ?_
    obtain ⟨t118_, e119_, H⟩ := bind_s H
    refine s_e rfl rfl (e_callF [] #[.agg #[.int .i64 a0_0, .int .i64 a0_1, .int .i64 a0_2, .int .i64 a0_3, .int .i64 a0_4, .int .i64 a0_5, .int .i64 a0_6]] rfl rfl rfl rfl rfl Tryz.func20 rfl (by decide) rfl rfl rfl rfl (fun w ht => plan_Right_con a0_0 a0_1 a0_2 a0_3 a0_4 a0_5 a0_6 t118_ e119_ w _)) ?_
    refine s_v rfl rfl rfl rfl (v_not rfl rfl) ?_
    refine s_v rfl rfl rfl rfl (v_move rfl rfl) ?_
    rcases Bool.eq_false_or_eq_true (!t118_) with h120_ | h120_
    ·
      replace H := ite_n (not_t (bnot_t h120_)) H
      refine s_splitv (d := 12) (t := !t118_) rfl (fun _ => ?_) (fun h121_ => absurd (h121_.symm.trans h120_) (by decide))
      refine s_no rfl rfl rfl rfl ?_
      refine s_no rfl rfl rfl rfl ?_
      refine s_no rfl rfl rfl rfl ?_
      refine s_no rfl rfl rfl rfl ?_
      refine s_no rfl rfl rfl rfl ?_
      refine s_v rfl rfl rfl rfl (v_pick rfl rfl rfl rfl) ?_
      refine s_end ?_
      have hq_0 := Option.some.inj H
      subst hq_0
      exact q_seq (c_frame (subF_spec (by exact ⟨rfl, rfl, rfl, rfl, rfl, trivial⟩)) (c_take [0, 1, 2, 3] rfl (by decide) (J_ () trivial)))
    ·
      replace H := ite_y (bnot_f h120_) H
      refine s_splitv (d := 12) (t := !t118_) rfl (fun h122_ => absurd (h122_.symm.trans h120_) (by decide)) (fun _ => ?_)
      refine s_vg rfl rfl rfl rfl (v_move rfl rfl) ?_
      refine s_vg rfl rfl rfl rfl (v_len rfl rfl rfl Tryz.underlying24 rfl rfl) ?_
      refine s_vg rfl rfl rfl rfl (v_ldA [.int .i64 a0_0, .int .i64 a0_1, .int .i64 a0_2, .int .i64 a0_3, .int .i64 a0_4, .int .i64 a0_5, .int .i64 a0_6] 1 rfl Tryz.underlying23 rfl SZ23 rfl rfl rfl rfl) ?_
      obtain ⟨t123_, e124_, H⟩ := bind_s H
      refine s_eg rfl rfl (e_callF [] #[.agg #[.int .i64 a0_0, .int .i64 a0_1, .int .i64 a0_2, .int .i64 a0_3, .int .i64 a0_4, .int .i64 a0_5, .int .i64 a0_6]] rfl rfl rfl rfl rfl Tryz.func21 rfl (by decide) rfl rfl rfl rfl (fun w ht => plan_Len_con a0_0 a0_1 a0_2 a0_3 a0_4 a0_5 a0_6 t123_ e124_ w _)) ?_
      refine s_vg rfl rfl rfl rfl (v_arith rfl rfl rfl rfl) ?_
      refine s_v rfl rfl rfl rfl (v_pick rfl rfl rfl rfl) ?_
      refine s_end ?_
      have hq_0 := Option.some.inj H
      subst hq_0
      exact q_seq (c_frame (subF_spec (by exact ⟨rfl, rfl, rfl, rfl, rfl, trivial⟩)) (c_take [0, 1, 2, 3] rfl (by decide) (J_ () trivial)))
end Go.Eng
namespace Go.Eng
open Go.RowKit Go.Proofs.YtlipgpeninlcdaaGreatW.PrintWords
set_option linter.unusedVariables false
set_option linter.unusedSimpArgs false
structure R7 (T S C H K V L : Int) : Prop where
  t : 1 ≤ T ∧ T ≤ 8
  s : 1 ≤ S ∧ S ≤ 8
  c : 1 ≤ C ∧ C ≤ 64
  h : 1 ≤ H ∧ H ≤ 6
  k : 1 ≤ K ∧ K ≤ 64
  v : 1 ≤ V ∧ V ≤ 64
  l : 0 ≤ L ∧ L ≤ 1073741823
def r7 (T S C H K V L : Int) : Bool := decide (1 ≤ T) && decide (T ≤ 8) && decide (1 ≤ S) && decide (S ≤ 8) && decide (1 ≤ C) && decide (C ≤ 64) && decide (1 ≤ H) && decide (H ≤ 6) && decide (1 ≤ K) && decide (K ≤ 64) && decide (1 ≤ V) && decide (V ≤ 64) && decide (0 ≤ L) && decide (L ≤ 1073741823)
theorem r7_iff {T S C H K V L : Int} : r7 T S C H K V L = true ↔ R7 T S C H K V L := by
  unfold r7
  simp only [Bool.and_eq_true, decide_eq_true_eq]
  constructor
  · rintro ⟨⟨⟨⟨⟨⟨⟨⟨⟨⟨⟨⟨⟨h1, h2⟩, h3⟩, h4⟩, h5⟩, h6⟩, h7⟩, h8⟩, h9⟩, h10⟩, h11⟩, h12⟩, h13⟩, h14⟩
    exact ⟨⟨h1, h2⟩, ⟨h3, h4⟩, ⟨h5, h6⟩, ⟨h7, h8⟩, ⟨h9, h10⟩, ⟨h11, h12⟩, ⟨h13, h14⟩⟩
  · rintro ⟨⟨h1, h2⟩, ⟨h3, h4⟩, ⟨h5, h6⟩, ⟨h7, h8⟩, ⟨h9, h10⟩, ⟨h11, h12⟩, ⟨h13, h14⟩⟩
    exact ⟨⟨⟨⟨⟨⟨⟨⟨⟨⟨⟨⟨⟨h1, h2⟩, h3⟩, h4⟩, h5⟩, h6⟩, h7⟩, h8⟩, h9⟩, h10⟩, h11⟩, h12⟩, h13⟩, h14⟩
theorem to_eq (x lo hi : Int) (h : lo ≤ hi) : ((x : Int) == (if lo < (if hi < x then hi else x) then (if hi < x then hi else x) else lo)) = (decide (lo ≤ x) && decide (x ≤ hi)) := by
  by_cases h1 : hi < x
  · rw [if_pos h1]
    have e1 : decide (x ≤ hi) = false := decide_eq_false (by omega)
    rw [e1, Bool.and_false]
    by_cases h2 : lo < hi
    · rw [if_pos h2]; simp; omega
    · rw [if_neg h2]; simp; omega
  · rw [if_neg h1]
    have e1 : decide (x ≤ hi) = true := decide_eq_true (by omega)
    rw [e1, Bool.and_true]
    by_cases h2 : lo < x
    · rw [if_pos h2]; simp; omega
    · rw [if_neg h2, Bool.eq_iff_iff]; simp; omega
theorem plan_Right_is (T S C H K V L : Int) : plan_Right.f T S C H K V L = some (r7 T S C H K V L) := by
  unfold plan_Right.f plan_to.f
  simp only [Option.bind_some]
  rw [to_eq _ _ _ (by decide), to_eq _ _ _ (by decide), to_eq _ _ _ (by decide), to_eq _ _ _ (by decide), to_eq _ _ _ (by decide), to_eq _ _ _ (by decide), to_eq _ _ _ (by decide)]
  unfold r7
  simp only [Bool.and_assoc]
theorem ref04_Right_is (T S C H K V L : Int) : stepstoneref04_Right.f T S C H K V L = some (r7 T S C H K V L) := by
  unfold stepstoneref04_Right.f
  have key : r7 T S C H K V L = ((!(decide (T < 1) || decide (T > 8) || decide (S < 1) || decide (S > 8) || decide (C < 1) || decide (C > 64) || decide (H < 1) || decide (H > 6))) && (decide (K ≥ 1) && decide (K ≤ 64) && decide (V ≥ 1) && decide (V ≤ 64) && decide (L ≥ 0) && decide (L ≤ 1073741823))) := by
    rw [Bool.eq_iff_iff, r7_iff]
    simp only [Bool.and_eq_true, Bool.not_eq_true', Bool.or_eq_false_iff, decide_eq_true_eq, decide_eq_false_iff_not]
    constructor
    · rintro ⟨⟨h1, h2⟩, ⟨h3, h4⟩, ⟨h5, h6⟩, ⟨h7, h8⟩, ⟨h9, h10⟩, ⟨h11, h12⟩, ⟨h13, h14⟩⟩
      omega
    · intro h
      exact ⟨by omega, by omega, by omega, by omega, by omega, by omega, by omega⟩
  rw [key]
  by_cases h1 : T < 1
  · simp [h1]
  by_cases h2 : T > 8
  · simp [h1, h2]
  by_cases h3 : S < 1
  · simp [h1, h2, h3]
  by_cases h4 : S > 8
  · simp [h1, h2, h3, h4]
  by_cases h5 : C < 1
  · simp [h1, h2, h3, h4, h5]
  by_cases h6 : C > 64
  · simp [h1, h2, h3, h4, h5, h6]
  by_cases h7 : H < 1
  · simp [h1, h2, h3, h4, h5, h6, h7]
  by_cases h8 : H > 6
  · simp [h1, h2, h3, h4, h5, h6, h7, h8]
  by_cases h9 : K ≥ 1
  · by_cases h10 : K ≤ 64
    · by_cases h11 : V ≥ 1
      · by_cases h12 : V ≤ 64
        · by_cases h13 : L ≥ 0
          · simp [h1, h2, h3, h4, h5, h6, h7, h8, h9, h10, h11, h12, h13]
          · simp [h1, h2, h3, h4, h5, h6, h7, h8, h9, h10, h11, h12, h13]
        · simp [h1, h2, h3, h4, h5, h6, h7, h8, h9, h10, h11, h12]
      · simp [h1, h2, h3, h4, h5, h6, h7, h8, h9, h10, h11]
    · simp [h1, h2, h3, h4, h5, h6, h7, h8, h9, h10]
  · simp [h1, h2, h3, h4, h5, h6, h7, h8, h9]
def lenI (T S C H : Int) : Int := 1 + T * S + (C + 1) * (6 + H)
def cellI (T S H i f : Int) : Int := 1 + T * S + i * (6 + H) + f
theorem mul_range {a b : Int} {p q : Int} (h0 : 0 ≤ a) (h1 : a ≤ p) (h2 : 0 ≤ b) (h3 : b ≤ q) : 0 ≤ a * b ∧ a * b ≤ p * q :=
  ⟨Int.mul_nonneg h0 h2, Int.mul_le_mul h1 h3 h2 (Int.le_trans h0 h1)⟩
theorem lens {T S C H K V L : Int} (h : R7 T S C H K V L) : 0 ≤ T * S ∧ T * S ≤ 64 ∧ 0 ≤ (C + 1) * (6 + H) ∧ (C + 1) * (6 + H) ≤ 780 := by
  have h1 := mul_range (a := T) (b := S) (p := 8) (q := 8) (by have := h.t; omega) (by have := h.t; omega) (by have := h.s; omega) (by have := h.s; omega)
  have h2 := mul_range (a := C + 1) (b := 6 + H) (p := 65) (q := 12) (by have := h.c; omega) (by have := h.c; omega) (by have := h.h; omega) (by have := h.h; omega)
  omega
theorem cells {T S C H K V L i f : Int} (h : R7 T S C H K V L) (h0 : 0 ≤ i) (h1 : i ≤ C) (h2 : 0 ≤ f) (h3 : f < 6 + H) : 0 ≤ cellI T S H i f ∧ cellI T S H i f < lenI T S C H ∧ 0 ≤ i * (6 + H) ∧ i * (6 + H) ≤ 768 := by
  have hl := lens h
  have e1 : (C + 1) * (6 + H) = C * (6 + H) + (6 + H) := by rw [Int.add_mul, Int.one_mul]
  have h4 := mul_range (a := i) (b := 6 + H) (p := C) (q := 6 + H) h0 h1 (by have := h.h; omega) (Int.le_refl _)
  have h5 := mul_range (a := i) (b := 6 + H) (p := 64) (q := 12) h0 (by have := h.c; omega) (by have := h.h; omega) (by have := h.h; omega)
  unfold cellI lenI
  have := h.h
  omega
theorem plan_Len_is (T S C H K V L : Int) : plan_Len.f T S C H K V L = some (if r7 T S C H K V L = true then lenI T S C H else 0) := by
  unfold plan_Len.f plan_first.f plan_fields.f
  rw [plan_Right_is]
  simp only [Option.bind_some]
  by_cases h : r7 T S C H K V L = true
  · rw [if_pos h, if_pos h]
    have hl := lens (r7_iff.1 h)
    have hc := (r7_iff.1 h).c
    have hh := (r7_iff.1 h).h
    rw [wi64 (n := T * S) (by omega) (by omega), wi64 (n := 1 + T * S) (by omega) (by omega), wi64 (n := 6 + H) (by omega) (by omega), wi64 (n := C + 1) (by omega) (by omega), wi64 (n := (C + 1) * (6 + H)) (by omega) (by omega), wi64 (by omega) (by omega)]
    rfl
  · rw [if_neg h, if_neg h]
theorem ref04_Len_is (T S C H K V L : Int) : stepstoneref04_Len.f T S C H K V L = some (if r7 T S C H K V L = true then lenI T S C H else 0) := by
  unfold stepstoneref04_Len.f
  rw [ref04_Right_is]
  simp only [Option.bind_some]
  by_cases h : r7 T S C H K V L = true
  · rw [if_pos h, if_pos h]
    have hl := lens (r7_iff.1 h)
    have hc := (r7_iff.1 h).c
    have hh := (r7_iff.1 h).h
    rw [wi64 (n := T * S) (by omega) (by omega), wi64 (n := 1 + T * S) (by omega) (by omega), wi64 (n := 6 + H) (by omega) (by omega), wi64 (n := C + 1) (by omega) (by omega), wi64 (n := (C + 1) * (6 + H)) (by omega) (by omega), wi64 (by omega) (by omega)]
    rfl
  · rw [if_neg h, if_neg h]
def isF (C H i f : Int) : Bool := decide (0 ≤ i) && decide (i ≤ C) && decide (0 ≤ f) && decide (f < 6 + H)
theorem isF_iff {C H i f : Int} : isF C H i f = true ↔ 0 ≤ i ∧ i ≤ C ∧ 0 ≤ f ∧ f < 6 + H := by
  unfold isF
  simp only [Bool.and_eq_true, decide_eq_true_eq]
  constructor
  · rintro ⟨⟨⟨a, b⟩, c⟩, d⟩; exact ⟨a, b, c, d⟩
  · rintro ⟨a, b, c, d⟩; exact ⟨⟨⟨a, b⟩, c⟩, d⟩
theorem cell_wrap {T S C H K V L i f : Int} (h : R7 T S C H K V L) (hf : isF C H i f = true) : IntKind.wrap .i64 (IntKind.wrap .i64 (IntKind.wrap .i64 (1 + IntKind.wrap .i64 (T * S)) + IntKind.wrap .i64 (i * IntKind.wrap .i64 (6 + H))) + f) = cellI T S H i f := by
  obtain ⟨h0, h1, h2, h3⟩ := isF_iff.1 hf
  have hl := lens h
  have hc := cells h h0 h1 h2 h3
  have hh := h.h
  unfold cellI at *
  rw [wi64 (n := T * S) (by omega) (by omega), wi64 (n := 1 + T * S) (by omega) (by omega), wi64 (n := 6 + H) (by omega) (by omega), wi64 (n := i * (6 + H)) (by omega) (by omega), wi64 (n := 1 + T * S + i * (6 + H)) (by omega) (by omega), wi64 (by omega) (by omega)]
theorem within_is (a b c : Int) : plan_within.f a b c = some (decide (b ≤ a) && decide (a ≤ c)) := by
  unfold plan_within.f
  by_cases h : a ≥ b
  · rw [if_pos h, show decide (b ≤ a) = true from decide_eq_true h]; simp
  · rw [if_neg h, show decide (b ≤ a) = false from decide_eq_false h]; simp
theorem plan_Cell_is (T S C H K V L i f : Int) : plan_Cell.f T S C H K V L i f = some (if (r7 T S C H K V L && isF C H i f) = true then cellI T S H i f else -1) := by
  unfold plan_Cell.f plan_first.f plan_fields.f
  rw [plan_Right_is]
  simp only [Option.bind_some, within_is]
  by_cases h : r7 T S C H K V L = true
  · have hh := (r7_iff.1 h).h
    have e6 : IntKind.wrap .i64 (IntKind.wrap .i64 (6 + H) - 1) = 6 + H - 1 := by rw [wi64 (n := 6 + H) (by omega) (by omega), wi64 (by omega) (by omega)]
    rw [if_pos h, h, Bool.true_and, e6]
    by_cases h1 : (decide (0 ≤ i) && decide (i ≤ C)) = true
    · rw [if_pos h1]
      simp only [Option.bind_some]
      have e7 : (decide (0 ≤ f) && decide (f ≤ 6 + H - 1)) = isF C H i f := by
        rw [Bool.eq_iff_iff, isF_iff]
        simp only [Bool.and_eq_true, decide_eq_true_eq] at h1 ⊢
        omega
      rw [e7]
      by_cases h2 : isF C H i f = true
      · rw [h2]
        simp only [Bool.not_true, Bool.false_eq_true, if_false, if_true]
        rw [cell_wrap (r7_iff.1 h) h2]
      · rw [Bool.not_eq_true] at h2
        rw [h2]
        simp
    · have h2 : isF C H i f = false := by
        rw [← Bool.not_eq_true, isF_iff]
        simp only [Bool.and_eq_true, decide_eq_true_eq] at h1
        omega
      rw [if_neg h1, h2]
      simp
  · rw [Bool.not_eq_true] at h
    rw [h]
    simp
theorem ref04_Cell_is (T S C H K V L i f : Int) : stepstoneref04_Cell.f T S C H K V L i f = some (if (r7 T S C H K V L && isF C H i f) = true then cellI T S H i f else -1) := by
  unfold stepstoneref04_Cell.f
  rw [ref04_Right_is]
  simp only [Option.bind_some]
  by_cases h : r7 T S C H K V L = true
  · have hh := (r7_iff.1 h).h
    have e6 : IntKind.wrap .i64 (6 + H) = 6 + H := wi64 (by omega) (by omega)
    rw [if_pos h, h, Bool.true_and]
    by_cases h0 : i < 0
    · have h2 : isF C H i f = false := by rw [← Bool.not_eq_true, isF_iff]; omega
      rw [if_pos h0, h2]; simp
    · by_cases h1 : i > C
      · have h2 : isF C H i f = false := by rw [← Bool.not_eq_true, isF_iff]; omega
        rw [if_neg h0, if_pos h1, h2]; simp
      · by_cases h3 : f < 0
        · have h2 : isF C H i f = false := by rw [← Bool.not_eq_true, isF_iff]; omega
          rw [if_neg h0, if_neg h1, if_pos h3, h2]; simp
        · rw [if_neg h0, if_neg h1, if_neg h3]
          by_cases h2 : isF C H i f = true
          · have h4 : decide (f ≥ IntKind.wrap .i64 (6 + H)) = false := by rw [e6]; have := isF_iff.1 h2; exact decide_eq_false (by omega)
            rw [h4, h2]
            simp only [Option.bind_some, Bool.false_eq_true, if_false, if_true]
            rw [cell_wrap (r7_iff.1 h) h2]
          · have h4 : decide (f ≥ IntKind.wrap .i64 (6 + H)) = true := by rw [e6]; rw [isF_iff] at h2; exact decide_eq_true (by omega)
            rw [Bool.not_eq_true] at h2
            rw [h4, h2]; simp
  · rw [Bool.not_eq_true] at h
    rw [h]
    simp
end Go.Eng
