/-
Own text, put together by an own program (shake.py) out of this claim's texts: what its theorem needs of them.
-/
import Derived.Test.YtbonlagecjealaaA7
namespace Go.Eng
open Go.Proofs Go.RowKit Go.Proofs.YtbonlagecjealaaW.PrintWords Go.Proofs.Ytbonlagecjealaa.GSeq
set_option linter.unusedVariables false
set_option linter.unusedSimpArgs false
structure S46 where
  f0 : Int
  f1 : Int
  f2 : Int
  f3 : Int
  f4 : Bool
def k46 : Kd S46 := Kd.iso (Kd.pair (Kd.int .u64) (Kd.pair (Kd.int .u64) (Kd.pair (Kd.int .i64) (Kd.pair (Kd.int .i64) Kd.bool)))) (fun x : S46 => (x.f0, x.f1, x.f2, x.f3, x.f4))
def z46 : S46 := (⟨0, 0, 0, 0, false⟩ : S46)
def rd_T46 (xs : List S46) (i : Int) : S46 := xs.getD i.toNat z46
def enc46 (x : S46) : List Value := [.int .u64 x.f0, .int .u64 x.f1, .int .i64 x.f2, .int .i64 x.f3, .bool x.f4]
theorem k46_open {w : World} {x : S46} {cs : List Value} (h : k46.K w x cs) : cs = [.int .u64 x.f0, .int .u64 x.f1, .int .i64 x.f2, .int .i64 x.f3, .bool x.f4] := by
  obtain ⟨_, _, rfl, rfl, ⟨_, _, rfl, rfl, ⟨_, _, rfl, rfl, ⟨_, _, rfl, rfl, rfl⟩⟩⟩⟩ := h
  rfl
theorem flat46 : Flat k46 enc46 := ⟨fun w x cs => ⟨fun h => k46_open h, fun h => by subst h; exact ⟨_, _, rfl, rfl, ⟨_, _, rfl, rfl, ⟨_, _, rfl, rfl, ⟨_, _, rfl, rfl, rfl⟩⟩⟩⟩⟩, fun x u hu => by
    simp only [enc46, List.mem_cons, List.not_mem_nil, or_false] at hu
    rcases hu with rfl | rfl | rfl | rfl | rfl <;> rfl, fun _ => rfl, by decide⟩
def enc61 (x : S61) : List Value := [.int .u64 x.f0, .int .u64 x.f1]
theorem flat61 : Flat k61 enc61 := ⟨fun w x cs => ⟨fun h => k61_open h, fun h => by subst h; exact ⟨_, _, rfl, rfl, rfl⟩⟩, fun x u hu => by
    simp only [enc61, List.mem_cons, List.not_mem_nil, or_false] at hu
    rcases hu with rfl | rfl <;> rfl, fun _ => rfl, by decide⟩
structure S81 where
  f0 : Int
  f1 : Int
  f2 : Int
def k81 : Kd S81 := Kd.iso (Kd.pair (Kd.int .u64) (Kd.pair (Kd.int .u64) (Kd.int .u64))) (fun x : S81 => (x.f0, x.f1, x.f2))
def z81 : S81 := (⟨0, 0, 0⟩ : S81)
def rd_T81 (xs : List S81) (i : Int) : S81 := xs.getD i.toNat z81
def enc81 (x : S81) : List Value := [.int .u64 x.f0, .int .u64 x.f1, .int .u64 x.f2]
theorem k81_open {w : World} {x : S81} {cs : List Value} (h : k81.K w x cs) : cs = [.int .u64 x.f0, .int .u64 x.f1, .int .u64 x.f2] := by
  obtain ⟨_, _, rfl, rfl, ⟨_, _, rfl, rfl, rfl⟩⟩ := h
  rfl
theorem flat81 : Flat k81 enc81 := ⟨fun w x cs => ⟨fun h => k81_open h, fun h => by subst h; exact ⟨_, _, rfl, rfl, ⟨_, _, rfl, rfl, rfl⟩⟩⟩, fun x u hu => by
    simp only [enc81, List.mem_cons, List.not_mem_nil, or_false] at hu
    rcases hu with rfl | rfl | rfl <;> rfl, fun _ => rfl, by decide⟩
structure S48 where
  f0 : Int
  f1 : Int
def k48 : Kd S48 := Kd.iso (Kd.pair (Kd.int .u64) (Kd.int .u64)) (fun x : S48 => (x.f0, x.f1))
def z48 : S48 := (⟨0, 0⟩ : S48)
def rd_T48 (xs : List S48) (i : Int) : S48 := xs.getD i.toNat z48
def enc48 (x : S48) : List Value := [.int .u64 x.f0, .int .u64 x.f1]
theorem k48_open {w : World} {x : S48} {cs : List Value} (h : k48.K w x cs) : cs = [.int .u64 x.f0, .int .u64 x.f1] := by
  obtain ⟨_, _, rfl, rfl, rfl⟩ := h
  rfl
theorem flat48 : Flat k48 enc48 := ⟨fun w x cs => ⟨fun h => k48_open h, fun h => by subst h; exact ⟨_, _, rfl, rfl, rfl⟩⟩, fun x u hu => by
    simp only [enc48, List.mem_cons, List.not_mem_nil, or_false] at hu
    rcases hu with rfl | rfl <;> rfl, fun _ => rfl, by decide⟩
set_option maxHeartbeats 4000000 in
theorem eqS23 (x0 : Int) (x1 : Int) (x2 : Int) (x3 : Int) (x4 : Int) (x5 : Int) (x6 : Int) (y0 : Int) (y1 : Int) (y2 : Int) (y3 : Int) (y4 : Int) (y5 : Int) (y6 : Int) (d : Nat) (w : World) : (Op.equalIn (d + 2) 23 (.agg #[.int .i64 x0, .int .i64 x1, .int .i64 x2, .int .i64 x3, .int .i64 x4, .int .i64 x5, .int .i64 x6]) (.agg #[.int .i64 y0, .int .i64 y1, .int .i64 y2, .int .i64 y3, .int .i64 y4, .int .i64 y5, .int .i64 y6])).run Try.prog w = .ok ((x0 == y0) && ((x1 == y1) && ((x2 == y2) && ((x3 == y3) && ((x4 == y4) && ((x5 == y5) && ((x6 == y6)))))))) w := by
  refine eqA_of Try.underlying23 (by kernel_rfl) ?_
  refine eqf_cons (by rfl) (by go_simp; rfl) (by go_simp; rfl) (by go_simp) ?_
  refine eqf_cons (by rfl) (by go_simp; rfl) (by go_simp; rfl) (by go_simp) ?_
  refine eqf_cons (by rfl) (by go_simp; rfl) (by go_simp; rfl) (by go_simp) ?_
  refine eqf_cons (by rfl) (by go_simp; rfl) (by go_simp; rfl) (by go_simp) ?_
  refine eqf_cons (by rfl) (by go_simp; rfl) (by go_simp; rfl) (by go_simp) ?_
  refine eqf_cons (by rfl) (by go_simp; rfl) (by go_simp; rfl) (by go_simp) ?_
  exact eqf_last (by rfl) (by go_simp; rfl) (by go_simp; rfl) (by go_simp)
set_option maxHeartbeats 4000000 in
theorem eqS48 (x0 : Int) (x1 : Int) (y0 : Int) (y1 : Int) (d : Nat) (w : World) : (Op.equalIn (d + 2) 48 (.agg #[.int .u64 x0, .int .u64 x1]) (.agg #[.int .u64 y0, .int .u64 y1])).run Try.prog w = .ok ((x0 == y0) && ((x1 == y1))) w := by
  refine eqA_of Try.underlying48 (by kernel_rfl) ?_
  refine eqf_cons (by rfl) (by go_simp; rfl) (by go_simp; rfl) (by go_simp) ?_
  exact eqf_last (by rfl) (by go_simp; rfl) (by go_simp; rfl) (by go_simp)
set_option maxHeartbeats 4000000 in
theorem eqS104 (x0 : Int) (x1 : Int) (y0 : Int) (y1 : Int) (d : Nat) (w : World) : (Op.equalIn (d + 2) 104 (.agg #[.int .i64 x0, .int .i64 x1]) (.agg #[.int .i64 y0, .int .i64 y1])).run Try.prog w = .ok ((x0 == y0) && ((x1 == y1))) w := by
  refine eqA_of Try.underlying104 (by kernel_rfl) ?_
  refine eqf_cons (by rfl) (by go_simp; rfl) (by go_simp; rfl) (by go_simp) ?_
  exact eqf_last (by rfl) (by go_simp; rfl) (by go_simp; rfl) (by go_simp)
theorem v_buildR {P : Program} {n : Sz} {w0 : World} {I : Ix} {o : Oper} {F : FL} {L : HL} {t : TypeId} {ps : Array (Nat × Operand)} {us : List Value} {v : Value} (ho : o.op = .build t ps) (hu : evs F (ps.toList.map (·.2)) = some us) (he : ∀ w, (Instr.build t ((ps.toList.map (·.1)).zip us).toArray).run P w = .ok v w) : OpV P n w0 I o F L v := by
  intro a w hf hs
  have e1 : (ps.map fun (i, x) => (i, a.eval x)) = ((ps.toList.map (·.1)).zip us).toArray := Array.toList_inj.1 (by
    rw [← hf.evs hu]
    simp [List.zip_map', Function.comp_def])
  simp [execOp, ho, e1, he w]
theorem v_indexR {P : Program} {n : Sz} {w0 : World} {I : Ix} {o : Oper} {F : FL} {L : HL} {t : TypeId} {x y : Operand} {u u' v : Value} (ho : o.op = .index t x y) (hx : ev F x = some u) (hy : ev F y = some u') (he : ∀ w, (Instr.index t u u').run P w = .ok v w) : OpV P n w0 I o F L v := by
  intro a w hf hs
  simp [execOp, ho, hf.ev hx, hf.ev hy, he w]
theorem bitsI (a : Int) : IntKind.wrap .i64 (IntKind.wrap .u64 ((BitVec.ofInt (IntKind.bits .u64) a &&& BitVec.ofInt (IntKind.bits .u64) 4294967295).toNat : Int)) = a % 4294967296 := by
  have e2 := and32 a
  rw [show IntKind.u64.bits = 64 from rfl, e2, wrap_small .u64 _ (by omega) (by omega), wrap_small .i64 _ (by omega) (by omega)]
theorem bitsG (a : Int) : IntKind.wrap .i64 (IntKind.wrap .u64 ((BitVec.ofInt (IntKind.bits .u64) (a / 4294967296) &&& BitVec.ofInt (IntKind.bits .u64) 1073741823).toNat : Int)) = a / 4294967296 % 1073741824 := by
  have e2 := and30 (a / 4294967296)
  rw [show IntKind.u64.bits = 64 from rfl, e2, wrap_small .u64 _ (by omega) (by omega), wrap_small .i64 _ (by omega) (by omega)]
def h9 : Nat → Int
  | 0 => 0
  | _ => 9223372036854775808
set_option maxRecDepth 100000 in
set_option maxHeartbeats 4000000 in
theorem bits_con (a m : Int) (w0 : World) (Hs : List Nat) : Con Try.prog 59 #[.int .i64 a, .int .i64 m] w0 Hs [] (fun X => ∀ b1 b2, X (.func (.func 76) #[] #[.pointer (some ⟨b1, 0, none⟩), .pointer (some ⟨b2, 0, none⟩)]) [.b b1 (.cells #[.int .i64 a] 3 (0, 0)), .b b2 (.cells #[.int .i64 m] 3 (0, 0))]) := by
  refine con_enter (c := bodyOf Try.f59) Try.func59 rfl (m := 6) rfl rfl rfl ?_
  intro X hX _
  refine c_seq rfl ?_
  refine r_ord (l := [0, 1, 2]) rfl (by kernel_rfl) (by kernel_rfl) ?_
  refine s_e rfl rfl (e_box rfl rfl rfl rfl) ?_
  intro b3_
  refine s_e rfl rfl (e_box rfl rfl rfl rfl) ?_
  intro b4_
  refine s_v rfl rfl rfl rfl (v_assign rfl rfl) ?_
  refine s_end ?_
  refine q_seq ?_
  refine c_seq rfl ?_
  refine r_ord (l := [0, 1]) rfl (by kernel_rfl) (by kernel_rfl) ?_
  refine s_v rfl rfl rfl rfl (v_mf rfl rfl rfl) ?_
  refine s_v rfl rfl rfl rfl (v_assign rfl rfl) ?_
  refine s_end ?_
  refine q_seq ?_
  refine c_ret rfl ?_
  exact q_ret (vs := [.func (.func 76) #[] #[.pointer (some ⟨b3_, 0, none⟩), .pointer (some ⟨b4_, 0, none⟩)]]) rfl (.tmp rfl .nil) [1, 0] rfl (by decide) (hX b3_ b4_)
set_option maxRecDepth 100000 in
set_option maxHeartbeats 4000000 in
theorem bits1I_con (a : Int) (b1 b2 : Nat) (w0 : World) (Hs : List Nat) : Con Try.prog 76 #[.int .u64 a, .pointer (some ⟨b1, 0, none⟩), .pointer (some ⟨b2, 0, none⟩)] w0 Hs [.b b1 (.cells #[.int .i64 0] 3 (0, 0)), .b b2 (.cells #[.int .i64 32] 3 (0, 0))] (fun X => X (.int .i64 (a % 4294967296)) []) := by
  refine con_enter (c := bodyOf Try.f76) Try.func76 rfl (m := 13) rfl rfl rfl ?_
  intro X hX _
  refine c_seq rfl ?_
  refine r_ord (l := [0]) rfl (by kernel_rfl) (by kernel_rfl) ?_
  refine s_v rfl rfl rfl rfl (v_assign rfl rfl) ?_
  refine s_end ?_
  refine q_seq ?_
  refine c_seq rfl ?_
  refine r_any [.b b1 (.cells #[.int .i64 0] 3 (0, 0)), .b b2 (.cells #[.int .i64 32] 3 (0, 0))] (by kernel_rfl) rfl (by kernel_rfl) (mem_pick (idx := [0, 1]) rfl) ?_
  refine a_v 0 rfl (by kernel_rfl) (by kernel_rfl) (by kernel_rfl) rfl rfl rfl (v_move rfl rfl) ?_
  refine a_v 1 rfl (by kernel_rfl) (by kernel_rfl) (by kernel_rfl) rfl rfl rfl (v_ld 0 rfl Try.underlying3 rfl rfl rfl rfl) ?_
  refine a_v 2 rfl (by kernel_rfl) (by kernel_rfl) (by kernel_rfl) rfl rfl rfl (Eq.mp (congrArg (fun z => OpV _ _ _ _ _ _ _ (.int .u64 z)) (show Int.fdiv a (2 ^ (min (Int.toNat 0) (IntKind.bits .u64))) = a from Int.fdiv_one _)) (v_shr rfl rfl rfl (show (0 : Int) ≤ 0 by decide))) ?_
  refine a_v 3 rfl (by kernel_rfl) (by kernel_rfl) (by kernel_rfl) rfl rfl rfl (v_ld 1 rfl Try.underlying3 rfl rfl rfl rfl) ?_
  refine a_v 4 rfl (by kernel_rfl) (by kernel_rfl) (by kernel_rfl) rfl rfl rfl (Eq.mp (congrArg (fun z => OpV _ _ _ _ _ _ _ (.int .u64 z)) (show IntKind.wrap .u64 (1 * 2 ^ (min (Int.toNat 32) (IntKind.bits .u64))) = 4294967296 by decide)) (v_shl rfl rfl rfl (show (0 : Int) ≤ 32 by decide))) ?_
  refine a_v 5 rfl (by kernel_rfl) (by kernel_rfl) (by kernel_rfl) rfl rfl rfl (Eq.mp (congrArg (fun z => OpV _ _ _ _ _ _ _ (.int .u64 z)) (show IntKind.wrap .u64 (4294967296 - 1) = 4294967295 by decide)) (v_arith rfl rfl rfl rfl)) ?_
  refine a_v 6 rfl (by kernel_rfl) (by kernel_rfl) (by kernel_rfl) rfl rfl rfl (v_bits rfl rfl rfl rfl) ?_
  refine a_v 7 rfl (by kernel_rfl) (by kernel_rfl) (by kernel_rfl) rfl rfl rfl (v_conv rfl Try.underlying25 Try.underlying3 rfl) ?_
  refine a_v 8 rfl (by kernel_rfl) (by kernel_rfl) (by kernel_rfl) rfl rfl rfl (v_assign rfl rfl) ?_
  refine a_end (by kernel_rfl) ?_
  refine q_seq ?_
  refine c_ret rfl ?_
  refine q_ret (vs := [.int .i64 (IntKind.wrap .i64 (IntKind.wrap .u64 (BitVec.ofInt (IntKind.bits .u64) a &&& BitVec.ofInt (IntKind.bits .u64) 4294967295).toNat))]) rfl (.tmp rfl .nil) [] rfl (by decide) ?_
  have h_ := hX
  rw [← bitsI a] at h_
  exact h_
set_option maxRecDepth 100000 in
set_option maxHeartbeats 4000000 in
theorem bits1G_con (a : Int) (b1 b2 : Nat) (w0 : World) (Hs : List Nat) : Con Try.prog 76 #[.int .u64 a, .pointer (some ⟨b1, 0, none⟩), .pointer (some ⟨b2, 0, none⟩)] w0 Hs [.b b1 (.cells #[.int .i64 32] 3 (0, 0)), .b b2 (.cells #[.int .i64 30] 3 (0, 0))] (fun X => X (.int .i64 (a / 4294967296 % 1073741824)) []) := by
  refine con_enter (c := bodyOf Try.f76) Try.func76 rfl (m := 13) rfl rfl rfl ?_
  intro X hX _
  refine c_seq rfl ?_
  refine r_ord (l := [0]) rfl (by kernel_rfl) (by kernel_rfl) ?_
  refine s_v rfl rfl rfl rfl (v_assign rfl rfl) ?_
  refine s_end ?_
  refine q_seq ?_
  refine c_seq rfl ?_
  refine r_any [.b b1 (.cells #[.int .i64 32] 3 (0, 0)), .b b2 (.cells #[.int .i64 30] 3 (0, 0))] (by kernel_rfl) rfl (by kernel_rfl) (mem_pick (idx := [0, 1]) rfl) ?_
  refine a_v 0 rfl (by kernel_rfl) (by kernel_rfl) (by kernel_rfl) rfl rfl rfl (v_move rfl rfl) ?_
  refine a_v 1 rfl (by kernel_rfl) (by kernel_rfl) (by kernel_rfl) rfl rfl rfl (v_ld 0 rfl Try.underlying3 rfl rfl rfl rfl) ?_
  refine a_v 2 rfl (by kernel_rfl) (by kernel_rfl) (by kernel_rfl) rfl rfl rfl (Eq.mp (congrArg (fun z => OpV _ _ _ _ _ _ _ (.int .u64 z)) (show Int.fdiv a (2 ^ (min (Int.toNat 32) (IntKind.bits .u64))) = a / 4294967296 from Int.fdiv_eq_ediv_of_nonneg _ (by decide))) (v_shr rfl rfl rfl (show (0 : Int) ≤ 32 by decide))) ?_
  refine a_v 3 rfl (by kernel_rfl) (by kernel_rfl) (by kernel_rfl) rfl rfl rfl (v_ld 1 rfl Try.underlying3 rfl rfl rfl rfl) ?_
  refine a_v 4 rfl (by kernel_rfl) (by kernel_rfl) (by kernel_rfl) rfl rfl rfl (Eq.mp (congrArg (fun z => OpV _ _ _ _ _ _ _ (.int .u64 z)) (show IntKind.wrap .u64 (1 * 2 ^ (min (Int.toNat 30) (IntKind.bits .u64))) = 1073741824 by decide)) (v_shl rfl rfl rfl (show (0 : Int) ≤ 30 by decide))) ?_
  refine a_v 5 rfl (by kernel_rfl) (by kernel_rfl) (by kernel_rfl) rfl rfl rfl (Eq.mp (congrArg (fun z => OpV _ _ _ _ _ _ _ (.int .u64 z)) (show IntKind.wrap .u64 (1073741824 - 1) = 1073741823 by decide)) (v_arith rfl rfl rfl rfl)) ?_
  refine a_v 6 rfl (by kernel_rfl) (by kernel_rfl) (by kernel_rfl) rfl rfl rfl (v_bits rfl rfl rfl rfl) ?_
  refine a_v 7 rfl (by kernel_rfl) (by kernel_rfl) (by kernel_rfl) rfl rfl rfl (v_conv rfl Try.underlying25 Try.underlying3 rfl) ?_
  refine a_v 8 rfl (by kernel_rfl) (by kernel_rfl) (by kernel_rfl) rfl rfl rfl (v_assign rfl rfl) ?_
  refine a_end (by kernel_rfl) ?_
  refine q_seq ?_
  refine c_ret rfl ?_
  refine q_ret (vs := [.int .i64 (IntKind.wrap .i64 (IntKind.wrap .u64 (BitVec.ofInt (IntKind.bits .u64) (a / 4294967296) &&& BitVec.ofInt (IntKind.bits .u64) 1073741823).toNat))]) rfl (.tmp rfl .nil) [] rfl (by decide) ?_
  have h_ := hX
  rw [← bitsG a] at h_
  exact h_
set_option maxRecDepth 100000 in
set_option maxHeartbeats 4000000 in
theorem handle_Index_con (a0 : Int) (w0 : World) (Hs : List Nat) : Con Try.prog 27 #[.int .u64 a0] w0 Hs [] (fun X => X (.int .i64 (a0 % 4294967296)) []) := by
  refine con_enter (c := bodyOf Try.f27) Try.func27 rfl (m := 6) rfl rfl rfl ?_
  intro X hX _
  refine c_seq rfl ?_
  refine r_ord (l := [0]) rfl (by kernel_rfl) (by kernel_rfl) ?_
  refine s_v rfl rfl rfl rfl (v_assign rfl rfl) ?_
  refine s_end ?_
  refine q_seq ?_
  refine c_seq rfl ?_
  refine r_ord (l := [0, 1, 2, 3]) rfl (by kernel_rfl) (by kernel_rfl) ?_
  refine s_e rfl rfl (e_callF [] #[.int .i64 0, .int .i64 32] rfl rfl rfl rfl rfl Try.func59 rfl (by decide) rfl rfl rfl rfl (fun w ht => bits_con 0 32 w _)) ?_
  intro b3_ b4_
  refine s_v rfl rfl rfl rfl (v_move rfl rfl) ?_
  refine s_e rfl rfl (e_call [0, 1] [] #[.int .u64 a0, .pointer (some ⟨b3_, 0, none⟩), .pointer (some ⟨b4_, 0, none⟩)] rfl rfl rfl rfl rfl Try.func76 rfl (by decide) rfl rfl rfl rfl (by decide) (fun w ht => bits1I_con a0 b3_ b4_ w _)) ?_
  refine s_v rfl rfl rfl rfl (v_assign rfl rfl) ?_
  refine s_end ?_
  refine q_seq ?_
  refine c_ret rfl ?_
  exact q_ret (vs := [.int .i64 (a0 % 4294967296)]) rfl (.tmp rfl .nil) [] rfl (by decide) hX
set_option maxRecDepth 100000 in
set_option maxHeartbeats 4000000 in
theorem handle_Gen_con (a0 : Int) (w0 : World) (Hs : List Nat) : Con Try.prog 65 #[.int .u64 a0] w0 Hs [] (fun X => X (.int .i64 (a0 / 4294967296 % 1073741824)) []) := by
  refine con_enter (c := bodyOf Try.f65) Try.func65 rfl (m := 6) rfl rfl rfl ?_
  intro X hX _
  refine c_seq rfl ?_
  refine r_ord (l := [0]) rfl (by kernel_rfl) (by kernel_rfl) ?_
  refine s_v rfl rfl rfl rfl (v_assign rfl rfl) ?_
  refine s_end ?_
  refine q_seq ?_
  refine c_seq rfl ?_
  refine r_ord (l := [0, 1, 2, 3]) rfl (by kernel_rfl) (by kernel_rfl) ?_
  refine s_e rfl rfl (e_callF [] #[.int .i64 32, .int .i64 30] rfl rfl rfl rfl rfl Try.func59 rfl (by decide) rfl rfl rfl rfl (fun w ht => bits_con 32 30 w _)) ?_
  intro b3_ b4_
  refine s_v rfl rfl rfl rfl (v_move rfl rfl) ?_
  refine s_e rfl rfl (e_call [0, 1] [] #[.int .u64 a0, .pointer (some ⟨b3_, 0, none⟩), .pointer (some ⟨b4_, 0, none⟩)] rfl rfl rfl rfl rfl Try.func76 rfl (by decide) rfl rfl rfl rfl (by decide) (fun w ht => bits1G_con a0 b3_ b4_ w _)) ?_
  refine s_v rfl rfl rfl rfl (v_assign rfl rfl) ?_
  refine s_end ?_
  refine q_seq ?_
  refine c_ret rfl ?_
  exact q_ret (vs := [.int .i64 (a0 / 4294967296 % 1073741824)]) rfl (.tmp rfl .nil) [] rfl (by decide) hX
def handle_within.f (a0 : Int) (a1 : Int) : Option Int := some (if (0 : Int) < (if (a1 : Int) < a0 then a1 else a0) then (if (a1 : Int) < a0 then a1 else a0) else 0)
set_option maxRecDepth 100000 in
set_option maxHeartbeats 4000000 in
theorem handle_within_con (a0 : Int) (a1 : Int) (r0 : Int) (h : handle_within.f a0 a1 = some r0) (w0 : World) (Hs : List Nat) : Con Try.prog 81 #[.int .i64 a0, .int .i64 a1] w0 Hs [] (fun X => X (.int .i64 r0) []) := by
  refine con_enter (c := bodyOf Try.f81) Try.func81 rfl (m := 9) rfl rfl rfl ?_
  intro X hX _
  have H := h
  unfold handle_within.f at H
  clear h
  refine c_seq rfl ?_
  refine r_ord (l := [0]) rfl (by kernel_rfl) (by kernel_rfl) ?_
  refine s_v rfl rfl rfl rfl (v_assign rfl rfl) ?_
  refine s_end ?_
  refine q_seq ?_
  refine c_seq rfl ?_
  refine r_ord (l := [0, 1, 2, 3, 4]) rfl (by kernel_rfl) (by kernel_rfl) ?_
  refine s_v rfl rfl rfl rfl (v_move rfl rfl) ?_
  refine s_v rfl rfl rfl rfl (v_move rfl rfl) ?_
  refine s_v rfl rfl rfl rfl (v_min (x := .tmp 0) (y := .tmp 0) rfl rfl rfl) ?_
  refine s_v rfl rfl rfl rfl (v_max (x := .tmp 0) (y := .tmp 0) rfl rfl rfl) ?_
  refine s_v rfl rfl rfl rfl (v_assign rfl rfl) ?_
  refine s_end ?_
  refine q_seq ?_
  refine c_ret rfl ?_
  have e_ := Option.some.inj H
  subst e_
  exact q_ret (vs := [.int .i64 (if (0 : Int) < (if (a1 : Int) < a0 then a1 else a0) then (if (a1 : Int) < a0 then a1 else a0) else 0)]) rfl (.tmp rfl .nil) [] rfl (by decide) (hX)
set_option maxRecDepth 100000 in
set_option maxHeartbeats 4000000 in
theorem handle_Pack0_con (w0 : World) (Hs : List Nat) : Con Try.prog 66 #[.int .i64 0, .int .i64 0, .bool false] w0 Hs [] (fun X => X (.tuple #[.int .u64 9223372036854775808, .bool true]) []) := by
 refine con_enter (c := bodyOf Try.f66) Try.func66 rfl (m := 39) rfl rfl rfl ?_
 intro X hX _
 refine c_seq rfl ?_
 refine r_ord (l := [0, 1]) rfl (by kernel_rfl) (by kernel_rfl) ?_
 refine s_v rfl rfl rfl rfl (v_assign rfl rfl) ?_
 refine s_v rfl rfl rfl rfl (v_assign rfl rfl) ?_
 refine s_end ?_
 refine q_seq ?_
 refine c_seq rfl ?_
 refine r_ord (l := [0, 1, 2, 3, 4, 5, 6]) rfl (by kernel_rfl) (by kernel_rfl) ?_
 refine s_v rfl rfl rfl rfl (v_move rfl rfl) ?_
 refine s_e rfl rfl (e_callF [] #[.int .i64 0, .int .i64 4294967295] rfl rfl rfl rfl rfl Try.func81 rfl (by decide) rfl rfl rfl rfl (fun w ht => handle_within_con 0 4294967295 0 (show handle_within.f 0 4294967295 = some 0 from rfl) w _)) ?_
 refine s_v rfl rfl rfl rfl (v_move rfl rfl) ?_
 refine s_e rfl rfl (e_callF [] #[.int .i64 0, .int .i64 1073741823] rfl rfl rfl rfl rfl Try.func81 rfl (by decide) rfl rfl rfl rfl (fun w ht => handle_within_con 0 1073741823 0 (show handle_within.f 0 1073741823 = some 0 from rfl) w _)) ?_
 refine s_v rfl rfl rfl rfl (v_buildR (v := .agg #[.int .i64 0, .int .i64 0]) rfl rfl (fun w => by kernel_rfl)) ?_
 refine s_e rfl rfl (e_alloc rfl rfl rfl ZR106) ?_
 intro b2_
 refine s_e rfl rfl (e_stA 0 rfl rfl SZ106 rfl rfl rfl rfl rfl rfl) ?_
 refine s_end ?_
 refine q_seq ?_
 refine c_seq rfl ?_
 refine c_seq rfl ?_
 refine r_ord (l := [0, 1, 2, 3, 4]) rfl (by kernel_rfl) (by kernel_rfl) ?_
 refine s_v rfl rfl rfl rfl (v_ldA [.int .i64 0, .int .i64 0] 0 rfl Try.underlying106 rfl SZ106 rfl rfl rfl rfl) ?_
 refine s_v rfl rfl rfl rfl (v_move rfl rfl) ?_
 refine s_v rfl rfl rfl rfl (v_move rfl rfl) ?_
 refine s_v rfl rfl rfl rfl (v_buildR (v := .agg #[.int .i64 0, .int .i64 0]) rfl rfl (fun w => by kernel_rfl)) ?_
 refine s_v rfl rfl rfl rfl (v_neA (r := true) rfl rfl rfl (by kernel_rfl) (fun d w => by kernel_rfl)) ?_
 refine s_end ?_
 refine q_seq ?_
 refine c_cond0 rfl rfl ?_
 refine c_skip rfl ?_
 refine q_seq ?_
 refine c_seq rfl ?_
 refine r_ord (l := [0]) rfl (by kernel_rfl) (by kernel_rfl) ?_
 refine s_v rfl rfl rfl rfl (v_assign rfl rfl) ?_
 refine s_end ?_
 refine q_seq ?_
 refine c_seq rfl ?_
 refine c_seq rfl ?_
 refine r_ord (l := [0, 1, 2, 3, 4, 5, 6]) rfl (by kernel_rfl) (by kernel_rfl) ?_
 refine s_v rfl rfl rfl rfl (v_move rfl rfl) ?_
 refine s_v rfl rfl rfl rfl (Eq.mp (congrArg (fun z => OpV _ _ _ _ _ _ _ (.int .u64 z)) (show IntKind.wrap .u64 0 = 0 by decide)) (v_conv rfl Try.underlying3 Try.underlying25 rfl)) ?_
 refine s_v rfl rfl rfl rfl (Eq.mp (congrArg (fun z => OpV _ _ _ _ _ _ _ (.int .u64 z)) (show IntKind.wrap .u64 (0 * 2 ^ (min (Int.toNat 32) (IntKind.bits .u64))) = 0 by decide)) (v_shl rfl rfl rfl (show (0 : Int) ≤ 32 by decide))) ?_
 refine s_v rfl rfl rfl rfl (v_move rfl rfl) ?_
 refine s_v rfl rfl rfl rfl (Eq.mp (congrArg (fun z => OpV _ _ _ _ _ _ _ (.int .u64 z)) (show IntKind.wrap .u64 0 = 0 by decide)) (v_conv rfl Try.underlying3 Try.underlying25 rfl)) ?_
 refine s_v rfl rfl rfl rfl (v_buildR (v := .agg #[.int .u64 9223372036854775808, .int .u64 0, .int .u64 0]) rfl rfl (fun w => by kernel_rfl)) ?_
 refine s_v rfl rfl rfl rfl (v_move rfl rfl) ?_
 refine s_end ?_
 refine q_seq ?_
 refine c_block rfl ?_
 refine c_loop (σ := Nat) (fun j => j ≤ 3) (fun j => 3 - j) (fun j => [(2, .bool false), (6, .int .u64 0), (7, .bool false), (9, .int .u64 (h9 j)), (27, .agg #[.int .u64 9223372036854775808, .int .u64 0, .int .u64 0]), (28, .int .i64 (j : Int))]) (fun _ => []) 0 [] rfl (by decide) (subF_spec ⟨rfl, rfl, rfl, rfl, rfl, rfl, trivial⟩) rfl (by decide) ?_
 intro j hj
 have hj4 : j = 0 ∨ j = 1 ∨ j = 2 ∨ j = 3 := by omega
 rcases hj4 with rfl | rfl | rfl | rfl
 refine c_seq rfl ?_
 refine r_ord (l := [0]) rfl (by kernel_rfl) (by kernel_rfl) ?_
 refine s_v rfl rfl rfl rfl (v_arith rfl rfl rfl rfl) ?_
 refine s_end ?_
 refine q_seq ?_
 refine c_seq rfl ?_
 refine c_cond1 rfl rfl ?_
 refine c_skip rfl ?_
 refine q_seq ?_
 refine c_seq rfl ?_
 refine c_block rfl ?_
 refine c_seq rfl ?_
 refine r_ord (l := [0, 1]) rfl (by kernel_rfl) (by kernel_rfl) ?_
 refine s_v rfl rfl rfl rfl (v_indexR (v := .int .u64 9223372036854775808) rfl rfl rfl (fun w => by kernel_rfl)) ?_
 refine s_v rfl rfl rfl rfl (v_assign rfl rfl) ?_
 refine s_end ?_
 refine q_seq ?_
 refine r_ord (l := [0, 1, 2, 3]) rfl (by kernel_rfl) (by kernel_rfl) ?_
 refine s_v rfl rfl rfl rfl (v_move rfl rfl) ?_
 refine s_v rfl rfl rfl rfl (v_move rfl rfl) ?_
 refine s_v rfl rfl rfl rfl (v_bits rfl rfl rfl rfl) ?_
 refine s_v rfl rfl rfl rfl (v_assign rfl rfl) ?_
 refine s_end ?_
 refine q_block ?_
 refine q_seq ?_
 refine r_ord (l := [0, 1]) rfl (by kernel_rfl) (by kernel_rfl) ?_
 refine s_v rfl rfl rfl rfl (v_arith rfl rfl rfl rfl) ?_
 refine s_v rfl rfl rfl rfl (v_move rfl rfl) ?_
 refine s_end ?_
 exact q_again 1 [] (by decide) (by decide) (subF_spec ⟨rfl, rfl, rfl, (by kernel_rfl), rfl, (by kernel_rfl), trivial⟩) rfl (by decide)
 refine c_seq rfl ?_
 refine r_ord (l := [0]) rfl (by kernel_rfl) (by kernel_rfl) ?_
 refine s_v rfl rfl rfl rfl (v_arith rfl rfl rfl rfl) ?_
 refine s_end ?_
 refine q_seq ?_
 refine c_seq rfl ?_
 refine c_cond1 rfl rfl ?_
 refine c_skip rfl ?_
 refine q_seq ?_
 refine c_seq rfl ?_
 refine c_block rfl ?_
 refine c_seq rfl ?_
 refine r_ord (l := [0, 1]) rfl (by kernel_rfl) (by kernel_rfl) ?_
 refine s_v rfl rfl rfl rfl (v_indexR (v := .int .u64 0) rfl rfl rfl (fun w => by kernel_rfl)) ?_
 refine s_v rfl rfl rfl rfl (v_assign rfl rfl) ?_
 refine s_end ?_
 refine q_seq ?_
 refine r_ord (l := [0, 1, 2, 3]) rfl (by kernel_rfl) (by kernel_rfl) ?_
 refine s_v rfl rfl rfl rfl (v_move rfl rfl) ?_
 refine s_v rfl rfl rfl rfl (v_move rfl rfl) ?_
 refine s_v rfl rfl rfl rfl (v_bits rfl rfl rfl rfl) ?_
 refine s_v rfl rfl rfl rfl (v_assign rfl rfl) ?_
 refine s_end ?_
 refine q_block ?_
 refine q_seq ?_
 refine r_ord (l := [0, 1]) rfl (by kernel_rfl) (by kernel_rfl) ?_
 refine s_v rfl rfl rfl rfl (v_arith rfl rfl rfl rfl) ?_
 refine s_v rfl rfl rfl rfl (v_move rfl rfl) ?_
 refine s_end ?_
 exact q_again 2 [] (by decide) (by decide) (subF_spec ⟨rfl, rfl, rfl, (by kernel_rfl), rfl, (by kernel_rfl), trivial⟩) rfl (by decide)
 refine c_seq rfl ?_
 refine r_ord (l := [0]) rfl (by kernel_rfl) (by kernel_rfl) ?_
 refine s_v rfl rfl rfl rfl (v_arith rfl rfl rfl rfl) ?_
 refine s_end ?_
 refine q_seq ?_
 refine c_seq rfl ?_
 refine c_cond1 rfl rfl ?_
 refine c_skip rfl ?_
 refine q_seq ?_
 refine c_seq rfl ?_
 refine c_block rfl ?_
 refine c_seq rfl ?_
 refine r_ord (l := [0, 1]) rfl (by kernel_rfl) (by kernel_rfl) ?_
 refine s_v rfl rfl rfl rfl (v_indexR (v := .int .u64 0) rfl rfl rfl (fun w => by kernel_rfl)) ?_
 refine s_v rfl rfl rfl rfl (v_assign rfl rfl) ?_
 refine s_end ?_
 refine q_seq ?_
 refine r_ord (l := [0, 1, 2, 3]) rfl (by kernel_rfl) (by kernel_rfl) ?_
 refine s_v rfl rfl rfl rfl (v_move rfl rfl) ?_
 refine s_v rfl rfl rfl rfl (v_move rfl rfl) ?_
 refine s_v rfl rfl rfl rfl (v_bits rfl rfl rfl rfl) ?_
 refine s_v rfl rfl rfl rfl (v_assign rfl rfl) ?_
 refine s_end ?_
 refine q_block ?_
 refine q_seq ?_
 refine r_ord (l := [0, 1]) rfl (by kernel_rfl) (by kernel_rfl) ?_
 refine s_v rfl rfl rfl rfl (v_arith rfl rfl rfl rfl) ?_
 refine s_v rfl rfl rfl rfl (v_move rfl rfl) ?_
 refine s_end ?_
 exact q_again 3 [] (by decide) (by decide) (subF_spec ⟨rfl, rfl, rfl, (by kernel_rfl), rfl, (by kernel_rfl), trivial⟩) rfl (by decide)
 refine c_seq rfl ?_
 refine r_ord (l := [0]) rfl (by kernel_rfl) (by kernel_rfl) ?_
 refine s_v rfl rfl rfl rfl (v_arith rfl rfl rfl rfl) ?_
 refine s_end ?_
 refine q_seq ?_
 refine c_seq rfl ?_
 refine c_cond0 rfl rfl ?_
 refine c_exit (i := 0) rfl rfl ?_
 refine q_then_exit ?_
 refine q_then_exit ?_
 refine q_block_here rfl ?_
 refine q_seq ?_
 refine c_seq rfl ?_
 refine c_seq rfl ?_
 refine r_ord (l := [0]) rfl (by kernel_rfl) (by kernel_rfl) ?_
 refine s_v rfl rfl rfl rfl (v_move rfl rfl) ?_
 refine s_end ?_
 refine q_seq ?_
 refine c_cond0 rfl rfl ?_
 refine c_skip rfl ?_
 refine q_seq ?_
 refine c_seq rfl ?_
 refine r_ord (l := [0, 1, 2]) rfl (by kernel_rfl) (by kernel_rfl) ?_
 refine s_v rfl rfl rfl rfl (v_move rfl rfl) ?_
 refine s_v rfl rfl rfl rfl (v_assign rfl rfl) ?_
 refine s_v rfl rfl rfl rfl (v_assign rfl rfl) ?_
 refine s_end ?_
 refine q_seq ?_
 refine c_ret rfl ?_
 exact q_ret (vs := [.int .u64 9223372036854775808, .bool true]) rfl (.tmp rfl (.tmp rfl .nil)) [] rfl (by decide) hX
set_option maxRecDepth 100000 in
set_option maxHeartbeats 4000000 in
theorem plan_Head_con (w0 : World) (Hs : List Nat) : Con Try.prog 42 #[] w0 Hs [] (fun X => X (.int .u64 9223372036854775808) []) := by
  refine con_enter (c := bodyOf Try.f42) Try.func42 rfl (m := 8) rfl rfl rfl ?_
  intro X hX _
  refine c_seq rfl ?_
  refine r_ord (l := [0]) rfl (by kernel_rfl) (by kernel_rfl) ?_
  refine s_v rfl rfl rfl rfl (v_assign rfl rfl) ?_
  refine s_end ?_
  refine q_seq ?_
  refine c_seq rfl ?_
  refine r_ord (l := [0, 1, 2, 3, 4, 5]) rfl (by kernel_rfl) (by kernel_rfl) ?_
  refine s_e rfl rfl (e_callF [] #[.int .i64 0, .int .i64 0, .bool false] rfl rfl rfl rfl rfl Try.func66 rfl (by decide) rfl rfl rfl rfl (fun w ht => handle_Pack0_con w _)) ?_
  refine s_v rfl rfl rfl rfl (v_move rfl rfl) ?_
  refine s_v rfl rfl rfl rfl (v_ext rfl rfl rfl) ?_
  refine s_v rfl rfl rfl rfl (v_ext rfl rfl rfl) ?_
  refine s_v rfl rfl rfl rfl (v_assign rfl rfl) ?_
  refine s_v rfl rfl rfl rfl (v_assign rfl rfl) ?_
  refine s_end ?_
  refine q_seq ?_
  refine c_seq rfl ?_
  refine r_ord (l := [0, 1]) rfl (by kernel_rfl) (by kernel_rfl) ?_
  refine s_v rfl rfl rfl rfl (v_move rfl rfl) ?_
  refine s_v rfl rfl rfl rfl (v_assign rfl rfl) ?_
  refine s_end ?_
  refine q_seq ?_
  refine c_ret rfl ?_
  exact q_ret (vs := [.int .u64 9223372036854775808]) rfl (.tmp rfl .nil) [] rfl (by decide) hX
theorem seq_Of.con (k : Nat) (A0 : Option Addr) (c0 : Nat) (l0 : List (S61)) (r : List (S61)) (h : seq_Of.f k l0 = some r) (w : World) (hf_l0 : KC k61 A0 c0 l0 w) : Calls Try.prog 31 #[.slice A0 l0.length c0] w fun e w' => ∃ z : (Option Addr × Nat), e = .returned (.agg #[.slice z.1 r.length z.2]) ∧ (∀ φ ∈ ([KC k61 z.1 z.2 r] : List (World → Prop)), FreshF w.heap.size w' φ) ∧ Below w.heap.size w w' := by
  refine (seq_Of.calls k A0 c0 l0 r w hf_l0.1 hf_l0.2 h).mono ?_
  rintro e w' ⟨v0_, rfl, hr0, hb⟩
  obtain ⟨A0_, c0_, rfl, hf0_⟩ := R_fresh hr0
  refine ⟨(A0_, c0_), rfl, fun φ hφ => ?_, hb⟩
  simp only [List.mem_cons, List.not_mem_nil, or_false] at hφ
  rcases hφ with rfl
  · exact hf0_
theorem seq_Map_Pairs.con (A0_0 : Option Addr) (c0_0 : Nat) (l0_0 : List (S61)) (r : List (S61)) (h : seq_Map_Pairs.f l0_0 = some r) (w : World) (hf_l0_0 : KC k61 A0_0 c0_0 l0_0 w) : Calls Try.prog 13 #[.agg #[.slice A0_0 l0_0.length c0_0]] w fun e w' => ∃ z : (Option Addr × Nat), e = .returned (.slice z.1 r.length z.2) ∧ (∀ φ ∈ ([KC k61 z.1 z.2 r] : List (World → Prop)), FreshF w.heap.size w' φ) ∧ Below w.heap.size w w' := by
  refine (seq_Map_Pairs.calls A0_0 c0_0 l0_0 r w hf_l0_0.1 hf_l0_0.2 h).mono ?_
  rintro e w' ⟨v0_, rfl, hr0, hb⟩
  obtain ⟨A0_, c0_, rfl, hf0_⟩ := R_fresh hr0
  refine ⟨(A0_, c0_), rfl, fun φ hφ => ?_, hb⟩
  simp only [List.mem_cons, List.not_mem_nil, or_false] at hφ
  rcases hφ with rfl
  · exact hf0_
end Go.Eng
namespace Go.Eng
open Go.Proofs Go.RowKit Go.Proofs.YtbonlagecjealaaW.PrintWords Go.Proofs.Ytbonlagecjealaa.GSeq
set_option linter.unusedVariables false
set_option linter.unusedSimpArgs false
def handle_Plain.f (a0 : Int) : Option Int := some (IntKind.wrap .u64 (BitVec.ofInt (IntKind.bits .u64) a0 &&& ~~~ BitVec.ofInt (IntKind.bits .u64) 4611686018427387904).toNat)
set_option maxRecDepth 100000 in
set_option maxHeartbeats 4000000 in
theorem handle_Plain_con (a0 : Int) (r0 : Int) (h : handle_Plain.f a0 = some r0) (w0 : World) (Hs : List Nat) : Con Try.prog 58 #[.int .u64 a0] w0 Hs [] (fun X => X (.int .u64 r0) []) := by
  refine con_enter (c := bodyOf Try.f58) Try.func58 rfl (m := 5) rfl rfl rfl ?_
  intro X hX _
  have H := h
  unfold handle_Plain.f at H
  clear h
  refine c_seq rfl ?_
  refine r_ord (l := [0]) rfl (by kernel_rfl) (by kernel_rfl) ?_
  refine s_v rfl rfl rfl rfl (v_assign rfl rfl) ?_
  refine s_end ?_
  refine q_seq ?_
  refine c_seq rfl ?_
  refine r_ord (l := [0, 1, 2]) rfl (by kernel_rfl) (by kernel_rfl) ?_
  refine s_v rfl rfl rfl rfl (v_move rfl rfl) ?_
  refine s_v rfl rfl rfl rfl (v_bits rfl rfl rfl rfl) ?_
  refine s_v rfl rfl rfl rfl (v_assign rfl rfl) ?_
  refine s_end ?_
  refine q_seq ?_
  refine c_ret rfl ?_
  have e_ := Option.some.inj H
  subst e_
  exact q_ret (vs := [.int .u64 (IntKind.wrap .u64 (BitVec.ofInt (IntKind.bits .u64) a0 &&& ~~~ BitVec.ofInt (IntKind.bits .u64) 4611686018427387904).toNat)]) rfl (.tmp rfl .nil) [] rfl (by decide) (hX)
def handle_Valid.f (a0 : Int) : Option Bool := some ((IntKind.wrap .u64 (BitVec.ofInt (IntKind.bits .u64) a0 &&& BitVec.ofInt (IntKind.bits .u64) 9223372036854775808).toNat : Int) != 0)
set_option maxRecDepth 100000 in
set_option maxHeartbeats 4000000 in
theorem handle_Valid_con (a0 : Int) (r0 : Bool) (h : handle_Valid.f a0 = some r0) (w0 : World) (Hs : List Nat) : Con Try.prog 68 #[.int .u64 a0] w0 Hs [] (fun X => X (.bool r0) []) := by
  refine con_enter (c := bodyOf Try.f68) Try.func68 rfl (m := 6) rfl rfl rfl ?_
  intro X hX _
  have H := h
  unfold handle_Valid.f at H
  clear h
  refine c_seq rfl ?_
  refine r_ord (l := [0]) rfl (by kernel_rfl) (by kernel_rfl) ?_
  refine s_v rfl rfl rfl rfl (v_assign rfl rfl) ?_
  refine s_end ?_
  refine q_seq ?_
  refine c_seq rfl ?_
  refine r_ord (l := [0, 1, 2, 3]) rfl (by kernel_rfl) (by kernel_rfl) ?_
  refine s_v rfl rfl rfl rfl (v_move rfl rfl) ?_
  refine s_v rfl rfl rfl rfl (v_bits rfl rfl rfl rfl) ?_
  refine s_v rfl rfl rfl rfl (v_arith rfl rfl rfl rfl) ?_
  refine s_v rfl rfl rfl rfl (v_assign rfl rfl) ?_
  refine s_end ?_
  refine q_seq ?_
  refine c_ret rfl ?_
  have e_ := Option.some.inj H
  subst e_
  exact q_ret (vs := [.bool ((IntKind.wrap .u64 (BitVec.ofInt (IntKind.bits .u64) a0 &&& BitVec.ofInt (IntKind.bits .u64) 9223372036854775808).toNat : Int) != 0)]) rfl (.tmp rfl .nil) [] rfl (by decide) (hX)
def shape_words_names.f (a0_0 : Int) (a0_1 : Int) (a0_2 : Int) (a0_3 : Int) (a0_4 : Int) (a0_5 : Int) (a0_6 : Int) (l0_7 : List Int) (a1 : Int) : Option Bool := ((handle_Valid.f a1).bind fun t9_ => (if t9_ = true then (if ((a1 % 4294967296) : Int) ≥ 1 then some (decide (((a1 % 4294967296) : Int) ≤ a0_2)) else some false) else some false) : Option Bool).bind fun j7_ => some j7_
set_option maxRecDepth 100000 in
set_option maxHeartbeats 4000000 in
theorem shape_words_names_con (a0_0 : Int) (a0_1 : Int) (a0_2 : Int) (a0_3 : Int) (a0_4 : Int) (a0_5 : Int) (a0_6 : Int) (A0_7 : Option Addr) (c0_7 : Nat) (l0_7 : List Int) (a1 : Int) (r0 : Bool) (h : shape_words_names.f a0_0 a0_1 a0_2 a0_3 a0_4 a0_5 a0_6 l0_7 a1 = some r0) (w0 : World) (Hs : List Nat) : Con Try.prog 49 #[.agg #[.int .i64 a0_0, .int .i64 a0_1, .int .i64 a0_2, .int .i64 a0_3, .int .i64 a0_4, .int .i64 a0_5, .int .i64 a0_6, .slice A0_7 l0_7.length c0_7], .int .u64 a1] w0 Hs [.f (KC (Kd.int .u64) A0_7 c0_7 l0_7)] (fun X => X (.bool r0) []) := by
 refine con_enter (c := bodyOf Try.f49) Try.func49 rfl (m := 20) rfl rfl rfl ?_
 intro X hX _
 have H := h
 unfold shape_words_names.f at H
 clear h
 refine c_seq rfl ?_
 refine r_ord (l := [0, 1]) rfl (by kernel_rfl) (by kernel_rfl) ?_
 refine s_e rfl rfl (e_box rfl rfl rfl rfl) ?_
 intro b2_
 refine s_v rfl rfl rfl rfl (v_assign rfl rfl) ?_
 refine s_end ?_
 refine q_seq ?_
 obtain ⟨j7_, e8_, H⟩ := bind_s H
 refine c_join (β := Unit) (fun _ => True) (fun _ => [(4, .bool j7_)]) (fun _ => [.b b2_ (.cells #[.int .i64 a0_0, .int .i64 a0_1, .int .i64 a0_2, .int .i64 a0_3, .int .i64 a0_4, .int .i64 a0_5, .int .i64 a0_6, .slice A0_7 l0_7.length c0_7] 63 (0, 0)), .f (KC (Kd.int .u64) A0_7 c0_7 l0_7)]) rfl (fun _ _ => ?_) (fun J_ => ?_)
 refine c_ret rfl ?_
 have e_ := Option.some.inj H
 subst e_
 exact q_ret (vs := [.bool j7_]) rfl (.tmp rfl .nil) [] rfl (by decide) (hX)
 clear H
 have H := e8_
 clear e8_
 obtain ⟨t9_, e10_, H⟩ := bind_s H
 rcases Bool.eq_false_or_eq_true t9_ with h11_ | h11_
 subst h11_
 replace H := ite_y rfl H
 rcases Bool.eq_false_or_eq_true (decide (((a1 % 4294967296) : Int) ≥ 1)) with h12_ | h12_
 replace H := ite_y (dec_t h12_) H
 refine r_any [.b b2_ (.cells #[.int .i64 a0_0, .int .i64 a0_1, .int .i64 a0_2, .int .i64 a0_3, .int .i64 a0_4, .int .i64 a0_5, .int .i64 a0_6, .slice A0_7 l0_7.length c0_7] 63 (0, 0)), .f (KC (Kd.int .u64) A0_7 c0_7 l0_7)] (by kernel_rfl) rfl (by kernel_rfl) (mem_pick (idx := [0, 1]) rfl) ?_
 refine a_v 0 rfl (by kernel_rfl) (by kernel_rfl) (by kernel_rfl) rfl rfl rfl (v_move rfl rfl) ?_
 refine a_1 (i := 1) (by kernel_rfl) ?_
 refine i_e rfl rfl (e_callF [] #[.int .u64 a1] rfl rfl rfl rfl rfl Try.func68 rfl (by decide) rfl rfl rfl rfl (fun w ht => handle_Valid_con a1 true e10_ w _)) ?_
 refine ⟨(mem_pick (idx := [0, 1]) rfl), ?_⟩
 refine a_v 2 rfl (by kernel_rfl) (by kernel_rfl) (by kernel_rfl) rfl rfl rfl (v_move rfl rfl) ?_
 refine a_v 3 rfl (by kernel_rfl) (by kernel_rfl) (by kernel_rfl) rfl rfl rfl (v_move rfl rfl) ?_
 refine a_1 (i := 4) (by kernel_rfl) ?_
 refine i_e rfl rfl (e_callF [] #[.int .u64 a1] rfl rfl rfl rfl rfl Try.func27 rfl (by decide) rfl rfl rfl rfl (fun w ht => handle_Index_con a1 w _)) ?_
 refine ⟨(mem_pick (idx := [0, 1]) rfl), ?_⟩
 refine a_v 5 rfl (by kernel_rfl) (by kernel_rfl) (by kernel_rfl) rfl rfl rfl (OpV.cast (v := .bool true) (v_arith rfl rfl rfl rfl) (congrArg Value.bool h12_)) ?_
 refine a_v 6 rfl (by kernel_rfl) (by kernel_rfl) (by kernel_rfl) rfl rfl rfl (v_pick rfl rfl rfl rfl) ?_
 refine a_v 7 rfl (by kernel_rfl) (by kernel_rfl) (by kernel_rfl) rfl rfl rfl (v_move rfl rfl) ?_
 refine a_v 8 rfl (by kernel_rfl) (by kernel_rfl) (by kernel_rfl) rfl rfl rfl (v_move rfl rfl) ?_
 refine a_v 10 rfl (by kernel_rfl) (by kernel_rfl) (by kernel_rfl) rfl rfl rfl (v_fa rfl Try.underlying63 rfl SZ23 rfl) ?_
 refine a_v 11 rfl (by kernel_rfl) (by kernel_rfl) (by kernel_rfl) rfl rfl rfl (v_fa rfl Try.underlying23 rfl SZ3 rfl) ?_
 refine a_v 12 rfl (by kernel_rfl) (by kernel_rfl) (by kernel_rfl) rfl rfl rfl (v_ld 0 rfl Try.underlying3 rfl rfl rfl rfl) ?_
 refine a_1 (i := 9) (by kernel_rfl) ?_
 refine i_e rfl rfl (e_callF [] #[.int .u64 a1] rfl rfl rfl rfl rfl Try.func27 rfl (by decide) rfl rfl rfl rfl (fun w ht => handle_Index_con a1 w _)) ?_
 refine ⟨(mem_pick (idx := [0, 1]) rfl), ?_⟩
 refine a_v 13 rfl (by kernel_rfl) (by kernel_rfl) (by kernel_rfl) rfl rfl rfl (v_arith rfl rfl rfl rfl) ?_
 refine a_v 14 rfl (by kernel_rfl) (by kernel_rfl) (by kernel_rfl) rfl rfl rfl (v_pick rfl rfl rfl rfl) ?_
 refine a_v 15 rfl (by kernel_rfl) (by kernel_rfl) (by kernel_rfl) rfl rfl rfl (v_assign rfl rfl) ?_
 refine a_end (by kernel_rfl) ?_
 have hq_0 := Option.some.inj H
 subst hq_0
 exact q_seq (c_frame (subF_spec (by exact ⟨rfl, trivial⟩)) (c_take [0, 1] rfl (by decide) (J_ () trivial)))
 replace H := ite_n (dec_f h12_) H
 refine r_any [.b b2_ (.cells #[.int .i64 a0_0, .int .i64 a0_1, .int .i64 a0_2, .int .i64 a0_3, .int .i64 a0_4, .int .i64 a0_5, .int .i64 a0_6, .slice A0_7 l0_7.length c0_7] 63 (0, 0)), .f (KC (Kd.int .u64) A0_7 c0_7 l0_7)] (by kernel_rfl) rfl (by kernel_rfl) (mem_pick (idx := [0, 1]) rfl) ?_
 refine a_v 0 rfl (by kernel_rfl) (by kernel_rfl) (by kernel_rfl) rfl rfl rfl (v_move rfl rfl) ?_
 refine a_1 (i := 1) (by kernel_rfl) ?_
 refine i_e rfl rfl (e_callF [] #[.int .u64 a1] rfl rfl rfl rfl rfl Try.func68 rfl (by decide) rfl rfl rfl rfl (fun w ht => handle_Valid_con a1 true e10_ w _)) ?_
 refine ⟨(mem_pick (idx := [0, 1]) rfl), ?_⟩
 refine a_v 2 rfl (by kernel_rfl) (by kernel_rfl) (by kernel_rfl) rfl rfl rfl (v_move rfl rfl) ?_
 refine a_v 3 rfl (by kernel_rfl) (by kernel_rfl) (by kernel_rfl) rfl rfl rfl (v_move rfl rfl) ?_
 refine a_1 (i := 4) (by kernel_rfl) ?_
 refine i_e rfl rfl (e_callF [] #[.int .u64 a1] rfl rfl rfl rfl rfl Try.func27 rfl (by decide) rfl rfl rfl rfl (fun w ht => handle_Index_con a1 w _)) ?_
 refine ⟨(mem_pick (idx := [0, 1]) rfl), ?_⟩
 refine a_v 5 rfl (by kernel_rfl) (by kernel_rfl) (by kernel_rfl) rfl rfl rfl (OpV.cast (v := .bool false) (v_arith rfl rfl rfl rfl) (congrArg Value.bool h12_)) ?_
 refine a_v 6 rfl (by kernel_rfl) (by kernel_rfl) (by kernel_rfl) rfl rfl rfl (v_pick rfl rfl rfl rfl) ?_
 refine a_v 7 rfl (by kernel_rfl) (by kernel_rfl) (by kernel_rfl) rfl rfl rfl (v_move rfl rfl) ?_
 refine a_no 8 rfl (by kernel_rfl) (by kernel_rfl) (by kernel_rfl) rfl rfl rfl ?_
 refine a_no 9 rfl (by kernel_rfl) (by kernel_rfl) (by kernel_rfl) rfl rfl rfl ?_
 refine a_no 10 rfl (by kernel_rfl) (by kernel_rfl) (by kernel_rfl) rfl rfl rfl ?_
 refine a_no 11 rfl (by kernel_rfl) (by kernel_rfl) (by kernel_rfl) rfl rfl rfl ?_
 refine a_no 12 rfl (by kernel_rfl) (by kernel_rfl) (by kernel_rfl) rfl rfl rfl ?_
 refine a_no 13 rfl (by kernel_rfl) (by kernel_rfl) (by kernel_rfl) rfl rfl rfl ?_
 refine a_v 14 rfl (by kernel_rfl) (by kernel_rfl) (by kernel_rfl) rfl rfl rfl (v_pick rfl rfl rfl rfl) ?_
 refine a_v 15 rfl (by kernel_rfl) (by kernel_rfl) (by kernel_rfl) rfl rfl rfl (v_assign rfl rfl) ?_
 refine a_end (by kernel_rfl) ?_
 have hq_0 := Option.some.inj H
 subst hq_0
 exact q_seq (c_frame (subF_spec (by exact ⟨rfl, trivial⟩)) (c_take [0, 1] rfl (by decide) (J_ () trivial)))
 subst h11_
 replace H := ite_n (by decide) H
 refine r_any [.b b2_ (.cells #[.int .i64 a0_0, .int .i64 a0_1, .int .i64 a0_2, .int .i64 a0_3, .int .i64 a0_4, .int .i64 a0_5, .int .i64 a0_6, .slice A0_7 l0_7.length c0_7] 63 (0, 0)), .f (KC (Kd.int .u64) A0_7 c0_7 l0_7)] (by kernel_rfl) rfl (by kernel_rfl) (mem_pick (idx := [0, 1]) rfl) ?_
 refine a_v 0 rfl (by kernel_rfl) (by kernel_rfl) (by kernel_rfl) rfl rfl rfl (v_move rfl rfl) ?_
 refine a_1 (i := 1) (by kernel_rfl) ?_
 refine i_e rfl rfl (e_callF [] #[.int .u64 a1] rfl rfl rfl rfl rfl Try.func68 rfl (by decide) rfl rfl rfl rfl (fun w ht => handle_Valid_con a1 false e10_ w _)) ?_
 refine ⟨(mem_pick (idx := [0, 1]) rfl), ?_⟩
 refine a_v 2 rfl (by kernel_rfl) (by kernel_rfl) (by kernel_rfl) rfl rfl rfl (v_move rfl rfl) ?_
 refine a_no 3 rfl (by kernel_rfl) (by kernel_rfl) (by kernel_rfl) rfl rfl rfl ?_
 refine a_no 4 rfl (by kernel_rfl) (by kernel_rfl) (by kernel_rfl) rfl rfl rfl ?_
 refine a_no 5 rfl (by kernel_rfl) (by kernel_rfl) (by kernel_rfl) rfl rfl rfl ?_
 refine a_v 6 rfl (by kernel_rfl) (by kernel_rfl) (by kernel_rfl) rfl rfl rfl (v_pick rfl rfl rfl rfl) ?_
 refine a_v 7 rfl (by kernel_rfl) (by kernel_rfl) (by kernel_rfl) rfl rfl rfl (v_move rfl rfl) ?_
 refine a_no 8 rfl (by kernel_rfl) (by kernel_rfl) (by kernel_rfl) rfl rfl rfl ?_
 refine a_no 9 rfl (by kernel_rfl) (by kernel_rfl) (by kernel_rfl) rfl rfl rfl ?_
 refine a_no 10 rfl (by kernel_rfl) (by kernel_rfl) (by kernel_rfl) rfl rfl rfl ?_
 refine a_no 11 rfl (by kernel_rfl) (by kernel_rfl) (by kernel_rfl) rfl rfl rfl ?_
 refine a_no 12 rfl (by kernel_rfl) (by kernel_rfl) (by kernel_rfl) rfl rfl rfl ?_
 refine a_no 13 rfl (by kernel_rfl) (by kernel_rfl) (by kernel_rfl) rfl rfl rfl ?_
 refine a_v 14 rfl (by kernel_rfl) (by kernel_rfl) (by kernel_rfl) rfl rfl rfl (v_pick rfl rfl rfl rfl) ?_
 refine a_v 15 rfl (by kernel_rfl) (by kernel_rfl) (by kernel_rfl) rfl rfl rfl (v_assign rfl rfl) ?_
 refine a_end (by kernel_rfl) ?_
 have hq_0 := Option.some.inj H
 subst hq_0
 exact q_seq (c_frame (subF_spec (by exact ⟨rfl, trivial⟩)) (c_take [0, 1] rfl (by decide) (J_ () trivial)))
def plan_to.f (a0 : Int) (a1 : Int) (a2 : Int) : Option Int := some (if (a1 : Int) < (if (a2 : Int) < a0 then a2 else a0) then (if (a2 : Int) < a0 then a2 else a0) else a1)
set_option maxRecDepth 100000 in
set_option maxHeartbeats 4000000 in
theorem plan_to_con (a0 : Int) (a1 : Int) (a2 : Int) (r0 : Int) (h : plan_to.f a0 a1 a2 = some r0) (w0 : World) (Hs : List Nat) : Con Try.prog 75 #[.int .i64 a0, .int .i64 a1, .int .i64 a2] w0 Hs [] (fun X => X (.int .i64 r0) []) := by
  refine con_enter (c := bodyOf Try.f75) Try.func75 rfl (m := 12) rfl rfl rfl ?_
  intro X hX _
  have H := h
  unfold plan_to.f at H
  clear h
  refine c_seq rfl ?_
  refine r_ord (l := [0]) rfl (by kernel_rfl) (by kernel_rfl) ?_
  refine s_v rfl rfl rfl rfl (v_assign rfl rfl) ?_
  refine s_end ?_
  refine q_seq ?_
  refine c_seq rfl ?_
  refine r_ord (l := [0, 1, 2, 3, 4, 5]) rfl (by kernel_rfl) (by kernel_rfl) ?_
  refine s_v rfl rfl rfl rfl (v_move rfl rfl) ?_
  refine s_v rfl rfl rfl rfl (v_move rfl rfl) ?_
  refine s_v rfl rfl rfl rfl (v_move rfl rfl) ?_
  refine s_v rfl rfl rfl rfl (v_min (x := .tmp 0) (y := .tmp 0) rfl rfl rfl) ?_
  refine s_v rfl rfl rfl rfl (v_max (x := .tmp 0) (y := .tmp 0) rfl rfl rfl) ?_
  refine s_v rfl rfl rfl rfl (v_assign rfl rfl) ?_
  refine s_end ?_
  refine q_seq ?_
  refine c_ret rfl ?_
  have e_ := Option.some.inj H
  subst e_
  exact q_ret (vs := [.int .i64 (if (a1 : Int) < (if (a2 : Int) < a0 then a2 else a0) then (if (a2 : Int) < a0 then a2 else a0) else a1)]) rfl (.tmp rfl .nil) [] rfl (by decide) (hX)
def plan_Right.f (a0_0 : Int) (a0_1 : Int) (a0_2 : Int) (a0_3 : Int) (a0_4 : Int) (a0_5 : Int) (a0_6 : Int) : Option Bool := (plan_to.f a0_0 1 8).bind fun t18_ => (plan_to.f a0_1 1 8).bind fun t20_ => (plan_to.f a0_2 1 64).bind fun t22_ => (plan_to.f a0_3 1 6).bind fun t24_ => (plan_to.f a0_4 1 64).bind fun t26_ => (plan_to.f a0_5 1 64).bind fun t28_ => (plan_to.f a0_6 0 1073741823).bind fun t30_ => some (((a0_0 : Int) == t18_) && (((a0_1 : Int) == t20_) && (((a0_2 : Int) == t22_) && (((a0_3 : Int) == t24_) && (((a0_4 : Int) == t26_) && (((a0_5 : Int) == t28_) && (((a0_6 : Int) == t30_))))))))
set_option maxRecDepth 100000 in
set_option maxHeartbeats 4000000 in
theorem plan_Right_con (a0_0 : Int) (a0_1 : Int) (a0_2 : Int) (a0_3 : Int) (a0_4 : Int) (a0_5 : Int) (a0_6 : Int) (r0 : Bool) (h : plan_Right.f a0_0 a0_1 a0_2 a0_3 a0_4 a0_5 a0_6 = some r0) (w0 : World) (Hs : List Nat) : Con Try.prog 55 #[.agg #[.int .i64 a0_0, .int .i64 a0_1, .int .i64 a0_2, .int .i64 a0_3, .int .i64 a0_4, .int .i64 a0_5, .int .i64 a0_6]] w0 Hs [] (fun X => X (.bool r0) []) := by
 refine con_enter (c := bodyOf Try.f55) Try.func55 rfl (m := 29) rfl rfl rfl ?_
 intro X hX _
 have H := h
 unfold plan_Right.f at H
 clear h
 refine c_seq rfl ?_
 refine r_ord (l := [0, 1]) rfl (by kernel_rfl) (by kernel_rfl) ?_
 refine s_e rfl rfl (e_box rfl rfl rfl rfl) ?_
 intro b2_
 refine s_v rfl rfl rfl rfl (v_assign rfl rfl) ?_
 refine s_end ?_
 refine q_seq ?_
 refine c_seq rfl ?_
 obtain ⟨t18_, e19_, H⟩ := bind_s H
 obtain ⟨t20_, e21_, H⟩ := bind_s H
 obtain ⟨t22_, e23_, H⟩ := bind_s H
 obtain ⟨t24_, e25_, H⟩ := bind_s H
 obtain ⟨t26_, e27_, H⟩ := bind_s H
 obtain ⟨t28_, e29_, H⟩ := bind_s H
 obtain ⟨t30_, e31_, H⟩ := bind_s H
 refine r_any [.b b2_ (.cells #[.int .i64 a0_0, .int .i64 a0_1, .int .i64 a0_2, .int .i64 a0_3, .int .i64 a0_4, .int .i64 a0_5, .int .i64 a0_6] 23 (0, 0))] (by kernel_rfl) rfl (by kernel_rfl) (mem_pick (idx := [0]) rfl) ?_
 refine a_join (β := Nat) 0 #[true, true, true, true, true, true, true, true, true, true, true, true, true, true, true, true, true, true, true, true, true, true, true, true] (fun bo22_1_ => [(0, .agg #[.int .i64 a0_0, .int .i64 a0_1, .int .i64 a0_2, .int .i64 a0_3, .int .i64 a0_4, .int .i64 a0_5, .int .i64 a0_6]), (1, .pointer (some ⟨b2_, 0, none⟩)), (2, .bool false), (3, .pointer (some ⟨bo22_1_, 0, none⟩)), (4, .pointer (some ⟨b2_, 0, none⟩)), (5, .int .i64 a0_0), (6, .int .i64 t18_), (7, .pointer (some ⟨b2_, 1, none⟩)), (8, .int .i64 a0_1), (9, .int .i64 t20_), (10, .pointer (some ⟨b2_, 2, none⟩)), (11, .int .i64 a0_2), (12, .int .i64 t22_), (13, .pointer (some ⟨b2_, 3, none⟩)), (14, .int .i64 a0_3), (15, .int .i64 t24_), (16, .pointer (some ⟨b2_, 4, none⟩)), (17, .int .i64 a0_4), (18, .int .i64 t26_), (19, .pointer (some ⟨b2_, 5, none⟩)), (20, .int .i64 a0_5), (21, .int .i64 t28_), (22, .pointer (some ⟨b2_, 6, none⟩)), (23, .int .i64 a0_6), (24, .int .i64 t30_), (25, .agg #[.int .i64 t18_, .int .i64 t20_, .int .i64 t22_, .int .i64 t24_, .int .i64 t26_, .int .i64 t28_, .int .i64 t30_])]) (fun bo22_1_ => [.b b2_ (.cells #[.int .i64 a0_0, .int .i64 a0_1, .int .i64 a0_2, .int .i64 a0_3, .int .i64 a0_4, .int .i64 a0_5, .int .i64 a0_6] 23 (0, 0)), .b bo22_1_ (.cells #[.int .i64 t18_, .int .i64 t20_, .int .i64 t22_, .int .i64 t24_, .int .i64 t26_, .int .i64 t28_, .int .i64 t30_] 23 (0, 0))]) ?_ ?_
 rintro bo22_1_
 refine a_w (F := [(0, .agg #[.int .i64 a0_0, .int .i64 a0_1, .int .i64 a0_2, .int .i64 a0_3, .int .i64 a0_4, .int .i64 a0_5, .int .i64 a0_6]), (1, .pointer (some ⟨b2_, 0, none⟩)), (2, .bool false), (3, .pointer (some ⟨bo22_1_, 0, none⟩)), (4, .pointer (some ⟨b2_, 0, none⟩)), (5, .int .i64 a0_0), (6, .int .i64 t18_), (7, .pointer (some ⟨b2_, 1, none⟩)), (8, .int .i64 a0_1), (9, .int .i64 t20_), (10, .pointer (some ⟨b2_, 2, none⟩)), (11, .int .i64 a0_2), (12, .int .i64 t22_), (13, .pointer (some ⟨b2_, 3, none⟩)), (14, .int .i64 a0_3), (15, .int .i64 t24_), (16, .pointer (some ⟨b2_, 4, none⟩)), (17, .int .i64 a0_4), (18, .int .i64 t26_), (19, .pointer (some ⟨b2_, 5, none⟩)), (20, .int .i64 a0_5), (21, .int .i64 t28_), (22, .pointer (some ⟨b2_, 6, none⟩)), (23, .int .i64 a0_6), (24, .int .i64 t30_), (25, .agg #[.int .i64 t18_, .int .i64 t20_, .int .i64 t22_, .int .i64 t24_, .int .i64 t26_, .int .i64 t28_, .int .i64 t30_])]) (L := [.b b2_ (.cells #[.int .i64 a0_0, .int .i64 a0_1, .int .i64 a0_2, .int .i64 a0_3, .int .i64 a0_4, .int .i64 a0_5, .int .i64 a0_6] 23 (0, 0)), .b bo22_1_ (.cells #[.int .i64 t18_, .int .i64 t20_, .int .i64 t22_, .int .i64 t24_, .int .i64 t26_, .int .i64 t28_, .int .i64 t30_] 23 (0, 0))]) ?_
 refine a_end (by kernel_rfl) ?_
 refine q_seq ?_
 refine c_seq rfl ?_
 refine r_ord (l := [0, 1, 2, 3]) rfl (by kernel_rfl) (by kernel_rfl) ?_
 refine s_v rfl rfl rfl rfl (v_ldA [.int .i64 a0_0, .int .i64 a0_1, .int .i64 a0_2, .int .i64 a0_3, .int .i64 a0_4, .int .i64 a0_5, .int .i64 a0_6] 0 rfl Try.underlying23 rfl SZ23 rfl rfl rfl rfl) ?_
 refine s_v rfl rfl rfl rfl (v_ldA [.int .i64 t18_, .int .i64 t20_, .int .i64 t22_, .int .i64 t24_, .int .i64 t26_, .int .i64 t28_, .int .i64 t30_] 1 rfl Try.underlying23 rfl SZ23 rfl rfl rfl rfl) ?_
 refine s_v rfl rfl rfl rfl (v_eqA rfl rfl rfl (by kernel_rfl) (eqS23 a0_0 a0_1 a0_2 a0_3 a0_4 a0_5 a0_6 t18_ t20_ t22_ t24_ t26_ t28_ t30_)) ?_
 refine s_v rfl rfl rfl rfl (v_assign rfl rfl) ?_
 refine s_end ?_
 refine q_seq ?_
 refine c_ret rfl ?_
 have e_ := Option.some.inj H
 subst e_
 exact q_ret (vs := [.bool (((a0_0 : Int) == t18_) && (((a0_1 : Int) == t20_) && (((a0_2 : Int) == t22_) && (((a0_3 : Int) == t24_) && (((a0_4 : Int) == t26_) && (((a0_5 : Int) == t28_) && (((a0_6 : Int) == t30_))))))))]) rfl (.tmp rfl .nil) [] rfl (by decide) (hX)
 intro J2_5_8_11_14_17_20_22_23
 refine a_join (β := Nat) 1 #[true, true, true, true, true, true, true, true, true, true, true, true, true, true, true, true, true, true, true, true, true, true, true, false] (fun bo22_1_ => [(0, .agg #[.int .i64 a0_0, .int .i64 a0_1, .int .i64 a0_2, .int .i64 a0_3, .int .i64 a0_4, .int .i64 a0_5, .int .i64 a0_6]), (1, .pointer (some ⟨b2_, 0, none⟩)), (2, .bool false), (3, .pointer (some ⟨bo22_1_, 0, none⟩)), (4, .pointer (some ⟨b2_, 0, none⟩)), (5, .int .i64 a0_0), (6, .int .i64 t18_), (7, .pointer (some ⟨b2_, 1, none⟩)), (8, .int .i64 a0_1), (9, .int .i64 t20_), (10, .pointer (some ⟨b2_, 2, none⟩)), (11, .int .i64 a0_2), (12, .int .i64 t22_), (13, .pointer (some ⟨b2_, 3, none⟩)), (14, .int .i64 a0_3), (15, .int .i64 t24_), (16, .pointer (some ⟨b2_, 4, none⟩)), (17, .int .i64 a0_4), (18, .int .i64 t26_), (19, .pointer (some ⟨b2_, 5, none⟩)), (20, .int .i64 a0_5), (21, .int .i64 t28_), (22, .pointer (some ⟨b2_, 6, none⟩)), (23, .int .i64 a0_6), (24, .int .i64 t30_), (25, .agg #[.int .i64 t18_, .int .i64 t20_, .int .i64 t22_, .int .i64 t24_, .int .i64 t26_, .int .i64 t28_, .int .i64 t30_])]) (fun bo22_1_ => [.b b2_ (.cells #[.int .i64 a0_0, .int .i64 a0_1, .int .i64 a0_2, .int .i64 a0_3, .int .i64 a0_4, .int .i64 a0_5, .int .i64 a0_6] 23 (0, 0)), .b bo22_1_ (.cells #[.int .i64 0, .int .i64 0, .int .i64 0, .int .i64 0, .int .i64 0, .int .i64 0, .int .i64 0] 23 (0, 0))]) ?_ ?_
 rintro bo22_1_
 refine a_w (F := [(0, .agg #[.int .i64 a0_0, .int .i64 a0_1, .int .i64 a0_2, .int .i64 a0_3, .int .i64 a0_4, .int .i64 a0_5, .int .i64 a0_6]), (1, .pointer (some ⟨b2_, 0, none⟩)), (2, .bool false), (3, .pointer (some ⟨bo22_1_, 0, none⟩)), (4, .pointer (some ⟨b2_, 0, none⟩)), (5, .int .i64 a0_0), (6, .int .i64 t18_), (7, .pointer (some ⟨b2_, 1, none⟩)), (8, .int .i64 a0_1), (9, .int .i64 t20_), (10, .pointer (some ⟨b2_, 2, none⟩)), (11, .int .i64 a0_2), (12, .int .i64 t22_), (13, .pointer (some ⟨b2_, 3, none⟩)), (14, .int .i64 a0_3), (15, .int .i64 t24_), (16, .pointer (some ⟨b2_, 4, none⟩)), (17, .int .i64 a0_4), (18, .int .i64 t26_), (19, .pointer (some ⟨b2_, 5, none⟩)), (20, .int .i64 a0_5), (21, .int .i64 t28_), (22, .pointer (some ⟨b2_, 6, none⟩)), (23, .int .i64 a0_6), (24, .int .i64 t30_), (25, .agg #[.int .i64 t18_, .int .i64 t20_, .int .i64 t22_, .int .i64 t24_, .int .i64 t26_, .int .i64 t28_, .int .i64 t30_])]) (L := [.b b2_ (.cells #[.int .i64 a0_0, .int .i64 a0_1, .int .i64 a0_2, .int .i64 a0_3, .int .i64 a0_4, .int .i64 a0_5, .int .i64 a0_6] 23 (0, 0)), .b bo22_1_ (.cells #[.int .i64 0, .int .i64 0, .int .i64 0, .int .i64 0, .int .i64 0, .int .i64 0, .int .i64 0] 23 (0, 0))]) ?_
 refine a_1 (i := 23) (by kernel_rfl) ?_
 refine i_e rfl rfl (e_stA 1 rfl rfl SZ23 rfl rfl rfl rfl rfl rfl) ?_
 refine ⟨(mem_pick (idx := [0]) rfl), ?_⟩
 exact a_take (J2_5_8_11_14_17_20_22_23 bo22_1_) [0, 1] (by kernel_rfl) rfl (subF_spec ⟨rfl, rfl, rfl, rfl, rfl, rfl, rfl, rfl, rfl, rfl, rfl, rfl, rfl, rfl, rfl, rfl, rfl, rfl, rfl, rfl, rfl, rfl, rfl, rfl, rfl, rfl, trivial⟩) rfl (by decide)
 intro J2_5_8_11_14_17_20_22
 refine a_join (β := Unit) 2 #[true, true, true, true, true, true, true, true, true, true, true, true, true, true, true, true, true, true, true, true, true, true, false, false] (fun _ => [(0, .agg #[.int .i64 a0_0, .int .i64 a0_1, .int .i64 a0_2, .int .i64 a0_3, .int .i64 a0_4, .int .i64 a0_5, .int .i64 a0_6]), (1, .pointer (some ⟨b2_, 0, none⟩)), (2, .bool false), (4, .pointer (some ⟨b2_, 0, none⟩)), (5, .int .i64 a0_0), (6, .int .i64 t18_), (7, .pointer (some ⟨b2_, 1, none⟩)), (8, .int .i64 a0_1), (9, .int .i64 t20_), (10, .pointer (some ⟨b2_, 2, none⟩)), (11, .int .i64 a0_2), (12, .int .i64 t22_), (13, .pointer (some ⟨b2_, 3, none⟩)), (14, .int .i64 a0_3), (15, .int .i64 t24_), (16, .pointer (some ⟨b2_, 4, none⟩)), (17, .int .i64 a0_4), (18, .int .i64 t26_), (19, .pointer (some ⟨b2_, 5, none⟩)), (20, .int .i64 a0_5), (21, .int .i64 t28_), (22, .pointer (some ⟨b2_, 6, none⟩)), (23, .int .i64 a0_6), (24, .int .i64 t30_), (25, .agg #[.int .i64 t18_, .int .i64 t20_, .int .i64 t22_, .int .i64 t24_, .int .i64 t26_, .int .i64 t28_, .int .i64 t30_])]) (fun _ => [.b b2_ (.cells #[.int .i64 a0_0, .int .i64 a0_1, .int .i64 a0_2, .int .i64 a0_3, .int .i64 a0_4, .int .i64 a0_5, .int .i64 a0_6] 23 (0, 0))]) ?_ ?_
 rintro _
 refine a_w (F := [(0, .agg #[.int .i64 a0_0, .int .i64 a0_1, .int .i64 a0_2, .int .i64 a0_3, .int .i64 a0_4, .int .i64 a0_5, .int .i64 a0_6]), (1, .pointer (some ⟨b2_, 0, none⟩)), (2, .bool false), (4, .pointer (some ⟨b2_, 0, none⟩)), (5, .int .i64 a0_0), (6, .int .i64 t18_), (7, .pointer (some ⟨b2_, 1, none⟩)), (8, .int .i64 a0_1), (9, .int .i64 t20_), (10, .pointer (some ⟨b2_, 2, none⟩)), (11, .int .i64 a0_2), (12, .int .i64 t22_), (13, .pointer (some ⟨b2_, 3, none⟩)), (14, .int .i64 a0_3), (15, .int .i64 t24_), (16, .pointer (some ⟨b2_, 4, none⟩)), (17, .int .i64 a0_4), (18, .int .i64 t26_), (19, .pointer (some ⟨b2_, 5, none⟩)), (20, .int .i64 a0_5), (21, .int .i64 t28_), (22, .pointer (some ⟨b2_, 6, none⟩)), (23, .int .i64 a0_6), (24, .int .i64 t30_), (25, .agg #[.int .i64 t18_, .int .i64 t20_, .int .i64 t22_, .int .i64 t24_, .int .i64 t26_, .int .i64 t28_, .int .i64 t30_])]) (L := [.b b2_ (.cells #[.int .i64 a0_0, .int .i64 a0_1, .int .i64 a0_2, .int .i64 a0_3, .int .i64 a0_4, .int .i64 a0_5, .int .i64 a0_6] 23 (0, 0))]) ?_
 refine a_1 (i := 22) (by kernel_rfl) ?_
 refine i_e rfl rfl (e_alloc rfl rfl rfl ZR23) ?_
 intro bo22_1_
 refine ⟨(mem_pick (idx := [1]) rfl), ?_⟩
 exact a_take (J2_5_8_11_14_17_20_22 bo22_1_) [1, 0] (by kernel_rfl) rfl (subF_spec ⟨rfl, rfl, rfl, rfl, rfl, rfl, rfl, rfl, rfl, rfl, rfl, rfl, rfl, rfl, rfl, rfl, rfl, rfl, rfl, rfl, rfl, rfl, rfl, rfl, rfl, rfl, trivial⟩) rfl (by decide)
 intro J2_5_8_11_14_17_20
 refine a_join (β := Nat) 3 #[true, true, true, true, true, true, true, true, true, true, true, true, true, true, true, true, true, true, true, true, false, false, true, false] (fun bo22_1_ => [(0, .agg #[.int .i64 a0_0, .int .i64 a0_1, .int .i64 a0_2, .int .i64 a0_3, .int .i64 a0_4, .int .i64 a0_5, .int .i64 a0_6]), (1, .pointer (some ⟨b2_, 0, none⟩)), (2, .bool false), (3, .pointer (some ⟨bo22_1_, 0, none⟩)), (4, .pointer (some ⟨b2_, 0, none⟩)), (5, .int .i64 a0_0), (6, .int .i64 t18_), (7, .pointer (some ⟨b2_, 1, none⟩)), (8, .int .i64 a0_1), (9, .int .i64 t20_), (10, .pointer (some ⟨b2_, 2, none⟩)), (11, .int .i64 a0_2), (12, .int .i64 t22_), (13, .pointer (some ⟨b2_, 3, none⟩)), (14, .int .i64 a0_3), (15, .int .i64 t24_), (16, .pointer (some ⟨b2_, 4, none⟩)), (17, .int .i64 a0_4), (18, .int .i64 t26_), (19, .pointer (some ⟨b2_, 5, none⟩)), (20, .int .i64 a0_5), (21, .int .i64 t28_), (22, .pointer (some ⟨b2_, 6, none⟩)), (23, .int .i64 a0_6)]) (fun bo22_1_ => [.b b2_ (.cells #[.int .i64 a0_0, .int .i64 a0_1, .int .i64 a0_2, .int .i64 a0_3, .int .i64 a0_4, .int .i64 a0_5, .int .i64 a0_6] 23 (0, 0)), .b bo22_1_ (.cells #[.int .i64 0, .int .i64 0, .int .i64 0, .int .i64 0, .int .i64 0, .int .i64 0, .int .i64 0] 23 (0, 0))]) ?_ ?_
 rintro bo22_1_
 refine a_w (F := [(0, .agg #[.int .i64 a0_0, .int .i64 a0_1, .int .i64 a0_2, .int .i64 a0_3, .int .i64 a0_4, .int .i64 a0_5, .int .i64 a0_6]), (1, .pointer (some ⟨b2_, 0, none⟩)), (2, .bool false), (3, .pointer (some ⟨bo22_1_, 0, none⟩)), (4, .pointer (some ⟨b2_, 0, none⟩)), (5, .int .i64 a0_0), (6, .int .i64 t18_), (7, .pointer (some ⟨b2_, 1, none⟩)), (8, .int .i64 a0_1), (9, .int .i64 t20_), (10, .pointer (some ⟨b2_, 2, none⟩)), (11, .int .i64 a0_2), (12, .int .i64 t22_), (13, .pointer (some ⟨b2_, 3, none⟩)), (14, .int .i64 a0_3), (15, .int .i64 t24_), (16, .pointer (some ⟨b2_, 4, none⟩)), (17, .int .i64 a0_4), (18, .int .i64 t26_), (19, .pointer (some ⟨b2_, 5, none⟩)), (20, .int .i64 a0_5), (21, .int .i64 t28_), (22, .pointer (some ⟨b2_, 6, none⟩)), (23, .int .i64 a0_6)]) (L := [.b b2_ (.cells #[.int .i64 a0_0, .int .i64 a0_1, .int .i64 a0_2, .int .i64 a0_3, .int .i64 a0_4, .int .i64 a0_5, .int .i64 a0_6] 23 (0, 0)), .b bo22_1_ (.cells #[.int .i64 0, .int .i64 0, .int .i64 0, .int .i64 0, .int .i64 0, .int .i64 0, .int .i64 0] 23 (0, 0))]) ?_
 refine a_1 (i := 20) (by kernel_rfl) ?_
 refine i_e rfl rfl (e_callF [] #[.int .i64 a0_6, .int .i64 0, .int .i64 1073741823] rfl rfl rfl rfl rfl Try.func75 rfl (by decide) rfl rfl rfl rfl (fun w ht => plan_to_con a0_6 0 1073741823 t30_ e31_ w _)) ?_
 refine ⟨(mem_pick (idx := [0]) rfl), ?_⟩
 refine a_v 21 rfl (by kernel_rfl) (by kernel_rfl) (by kernel_rfl) rfl rfl rfl (v_build (places := #[(0, 1), (1, 1), (2, 1), (3, 1), (4, 1), (5, 1), (6, 1)]) #[.int .i64 t18_, .int .i64 t20_, .int .i64 t22_, .int .i64 t24_, .int .i64 t26_, .int .i64 t28_, .int .i64 t30_] rfl ZR23 Try.underlying23 (by kernel_rfl) rfl (by kernel_rfl)) ?_
 exact a_take (J2_5_8_11_14_17_20_22 bo22_1_) [0, 1] (by kernel_rfl) rfl (subF_spec ⟨rfl, rfl, rfl, rfl, rfl, rfl, rfl, rfl, rfl, rfl, rfl, rfl, rfl, rfl, rfl, rfl, rfl, rfl, rfl, rfl, rfl, rfl, rfl, rfl, rfl, rfl, trivial⟩) rfl (by decide)
 intro J2_5_8_11_14_17_22
 refine a_join (β := Unit) 4 #[true, true, true, true, true, true, true, true, true, true, true, true, true, true, true, true, true, true, true, true, false, false, false, false] (fun _ => [(0, .agg #[.int .i64 a0_0, .int .i64 a0_1, .int .i64 a0_2, .int .i64 a0_3, .int .i64 a0_4, .int .i64 a0_5, .int .i64 a0_6]), (1, .pointer (some ⟨b2_, 0, none⟩)), (2, .bool false), (4, .pointer (some ⟨b2_, 0, none⟩)), (5, .int .i64 a0_0), (6, .int .i64 t18_), (7, .pointer (some ⟨b2_, 1, none⟩)), (8, .int .i64 a0_1), (9, .int .i64 t20_), (10, .pointer (some ⟨b2_, 2, none⟩)), (11, .int .i64 a0_2), (12, .int .i64 t22_), (13, .pointer (some ⟨b2_, 3, none⟩)), (14, .int .i64 a0_3), (15, .int .i64 t24_), (16, .pointer (some ⟨b2_, 4, none⟩)), (17, .int .i64 a0_4), (18, .int .i64 t26_), (19, .pointer (some ⟨b2_, 5, none⟩)), (20, .int .i64 a0_5), (21, .int .i64 t28_), (22, .pointer (some ⟨b2_, 6, none⟩)), (23, .int .i64 a0_6)]) (fun _ => [.b b2_ (.cells #[.int .i64 a0_0, .int .i64 a0_1, .int .i64 a0_2, .int .i64 a0_3, .int .i64 a0_4, .int .i64 a0_5, .int .i64 a0_6] 23 (0, 0))]) ?_ ?_
 rintro _
 refine a_w (F := [(0, .agg #[.int .i64 a0_0, .int .i64 a0_1, .int .i64 a0_2, .int .i64 a0_3, .int .i64 a0_4, .int .i64 a0_5, .int .i64 a0_6]), (1, .pointer (some ⟨b2_, 0, none⟩)), (2, .bool false), (4, .pointer (some ⟨b2_, 0, none⟩)), (5, .int .i64 a0_0), (6, .int .i64 t18_), (7, .pointer (some ⟨b2_, 1, none⟩)), (8, .int .i64 a0_1), (9, .int .i64 t20_), (10, .pointer (some ⟨b2_, 2, none⟩)), (11, .int .i64 a0_2), (12, .int .i64 t22_), (13, .pointer (some ⟨b2_, 3, none⟩)), (14, .int .i64 a0_3), (15, .int .i64 t24_), (16, .pointer (some ⟨b2_, 4, none⟩)), (17, .int .i64 a0_4), (18, .int .i64 t26_), (19, .pointer (some ⟨b2_, 5, none⟩)), (20, .int .i64 a0_5), (21, .int .i64 t28_), (22, .pointer (some ⟨b2_, 6, none⟩)), (23, .int .i64 a0_6)]) (L := [.b b2_ (.cells #[.int .i64 a0_0, .int .i64 a0_1, .int .i64 a0_2, .int .i64 a0_3, .int .i64 a0_4, .int .i64 a0_5, .int .i64 a0_6] 23 (0, 0))]) ?_
 refine a_2 (i := 20) (j := 22) (by kernel_rfl) ?_ ?_
 refine i_e rfl rfl (e_callF [] #[.int .i64 a0_6, .int .i64 0, .int .i64 1073741823] rfl rfl rfl rfl rfl Try.func75 rfl (by decide) rfl rfl rfl rfl (fun w ht => plan_to_con a0_6 0 1073741823 t30_ e31_ w _)) ?_
 refine ⟨(mem_pick (idx := [0]) rfl), ?_⟩
 refine a_v 21 rfl (by kernel_rfl) (by kernel_rfl) (by kernel_rfl) rfl rfl rfl (v_build (places := #[(0, 1), (1, 1), (2, 1), (3, 1), (4, 1), (5, 1), (6, 1)]) #[.int .i64 t18_, .int .i64 t20_, .int .i64 t22_, .int .i64 t24_, .int .i64 t26_, .int .i64 t28_, .int .i64 t30_] rfl ZR23 Try.underlying23 (by kernel_rfl) rfl (by kernel_rfl)) ?_
 exact a_take (J2_5_8_11_14_17_20 ()) [0] (by kernel_rfl) rfl (subF_spec ⟨rfl, rfl, rfl, rfl, rfl, rfl, rfl, rfl, rfl, rfl, rfl, rfl, rfl, rfl, rfl, rfl, rfl, rfl, rfl, rfl, rfl, rfl, rfl, rfl, rfl, trivial⟩) rfl (by decide)
 refine i_e rfl rfl (e_alloc rfl rfl rfl ZR23) ?_
 intro bo22_1_
 refine ⟨(mem_pick (idx := [1]) rfl), ?_⟩
 exact a_take (J2_5_8_11_14_17_22 bo22_1_) [1, 0] (by kernel_rfl) rfl (subF_spec ⟨rfl, rfl, rfl, rfl, rfl, rfl, rfl, rfl, rfl, rfl, rfl, rfl, rfl, rfl, rfl, rfl, rfl, rfl, rfl, rfl, rfl, rfl, rfl, rfl, trivial⟩) rfl (by decide)
 intro J2_5_8_11_14_17
 refine a_join (β := Nat) 4 #[true, true, true, true, true, true, true, true, true, true, true, true, true, true, true, true, true, false, true, true, false, false, true, false] (fun bo22_1_ => [(0, .agg #[.int .i64 a0_0, .int .i64 a0_1, .int .i64 a0_2, .int .i64 a0_3, .int .i64 a0_4, .int .i64 a0_5, .int .i64 a0_6]), (1, .pointer (some ⟨b2_, 0, none⟩)), (2, .bool false), (3, .pointer (some ⟨bo22_1_, 0, none⟩)), (4, .pointer (some ⟨b2_, 0, none⟩)), (5, .int .i64 a0_0), (6, .int .i64 t18_), (7, .pointer (some ⟨b2_, 1, none⟩)), (8, .int .i64 a0_1), (9, .int .i64 t20_), (10, .pointer (some ⟨b2_, 2, none⟩)), (11, .int .i64 a0_2), (12, .int .i64 t22_), (13, .pointer (some ⟨b2_, 3, none⟩)), (14, .int .i64 a0_3), (15, .int .i64 t24_), (16, .pointer (some ⟨b2_, 4, none⟩)), (17, .int .i64 a0_4), (18, .int .i64 t26_), (19, .pointer (some ⟨b2_, 5, none⟩)), (20, .int .i64 a0_5), (22, .pointer (some ⟨b2_, 6, none⟩)), (23, .int .i64 a0_6)]) (fun bo22_1_ => [.b b2_ (.cells #[.int .i64 a0_0, .int .i64 a0_1, .int .i64 a0_2, .int .i64 a0_3, .int .i64 a0_4, .int .i64 a0_5, .int .i64 a0_6] 23 (0, 0)), .b bo22_1_ (.cells #[.int .i64 0, .int .i64 0, .int .i64 0, .int .i64 0, .int .i64 0, .int .i64 0, .int .i64 0] 23 (0, 0))]) ?_ ?_
 rintro bo22_1_
 refine a_w (F := [(0, .agg #[.int .i64 a0_0, .int .i64 a0_1, .int .i64 a0_2, .int .i64 a0_3, .int .i64 a0_4, .int .i64 a0_5, .int .i64 a0_6]), (1, .pointer (some ⟨b2_, 0, none⟩)), (2, .bool false), (3, .pointer (some ⟨bo22_1_, 0, none⟩)), (4, .pointer (some ⟨b2_, 0, none⟩)), (5, .int .i64 a0_0), (6, .int .i64 t18_), (7, .pointer (some ⟨b2_, 1, none⟩)), (8, .int .i64 a0_1), (9, .int .i64 t20_), (10, .pointer (some ⟨b2_, 2, none⟩)), (11, .int .i64 a0_2), (12, .int .i64 t22_), (13, .pointer (some ⟨b2_, 3, none⟩)), (14, .int .i64 a0_3), (15, .int .i64 t24_), (16, .pointer (some ⟨b2_, 4, none⟩)), (17, .int .i64 a0_4), (18, .int .i64 t26_), (19, .pointer (some ⟨b2_, 5, none⟩)), (20, .int .i64 a0_5), (22, .pointer (some ⟨b2_, 6, none⟩)), (23, .int .i64 a0_6)]) (L := [.b b2_ (.cells #[.int .i64 a0_0, .int .i64 a0_1, .int .i64 a0_2, .int .i64 a0_3, .int .i64 a0_4, .int .i64 a0_5, .int .i64 a0_6] 23 (0, 0)), .b bo22_1_ (.cells #[.int .i64 0, .int .i64 0, .int .i64 0, .int .i64 0, .int .i64 0, .int .i64 0, .int .i64 0] 23 (0, 0))]) ?_
 refine a_1 (i := 17) (by kernel_rfl) ?_
 refine i_e rfl rfl (e_callF [] #[.int .i64 a0_5, .int .i64 1, .int .i64 64] rfl rfl rfl rfl rfl Try.func75 rfl (by decide) rfl rfl rfl rfl (fun w ht => plan_to_con a0_5 1 64 t28_ e29_ w _)) ?_
 refine ⟨(mem_pick (idx := [0]) rfl), ?_⟩
 exact a_take (J2_5_8_11_14_17_22 bo22_1_) [0, 1] (by kernel_rfl) rfl (subF_spec ⟨rfl, rfl, rfl, rfl, rfl, rfl, rfl, rfl, rfl, rfl, rfl, rfl, rfl, rfl, rfl, rfl, rfl, rfl, rfl, rfl, rfl, rfl, rfl, rfl, trivial⟩) rfl (by decide)
 intro J2_5_8_11_14_22
 refine a_join (β := Unit) 5 #[true, true, true, true, true, true, true, true, true, true, true, true, true, true, true, true, true, false, true, true, false, false, false, false] (fun _ => [(0, .agg #[.int .i64 a0_0, .int .i64 a0_1, .int .i64 a0_2, .int .i64 a0_3, .int .i64 a0_4, .int .i64 a0_5, .int .i64 a0_6]), (1, .pointer (some ⟨b2_, 0, none⟩)), (2, .bool false), (4, .pointer (some ⟨b2_, 0, none⟩)), (5, .int .i64 a0_0), (6, .int .i64 t18_), (7, .pointer (some ⟨b2_, 1, none⟩)), (8, .int .i64 a0_1), (9, .int .i64 t20_), (10, .pointer (some ⟨b2_, 2, none⟩)), (11, .int .i64 a0_2), (12, .int .i64 t22_), (13, .pointer (some ⟨b2_, 3, none⟩)), (14, .int .i64 a0_3), (15, .int .i64 t24_), (16, .pointer (some ⟨b2_, 4, none⟩)), (17, .int .i64 a0_4), (18, .int .i64 t26_), (19, .pointer (some ⟨b2_, 5, none⟩)), (20, .int .i64 a0_5), (22, .pointer (some ⟨b2_, 6, none⟩)), (23, .int .i64 a0_6)]) (fun _ => [.b b2_ (.cells #[.int .i64 a0_0, .int .i64 a0_1, .int .i64 a0_2, .int .i64 a0_3, .int .i64 a0_4, .int .i64 a0_5, .int .i64 a0_6] 23 (0, 0))]) ?_ ?_
 rintro _
 refine a_w (F := [(0, .agg #[.int .i64 a0_0, .int .i64 a0_1, .int .i64 a0_2, .int .i64 a0_3, .int .i64 a0_4, .int .i64 a0_5, .int .i64 a0_6]), (1, .pointer (some ⟨b2_, 0, none⟩)), (2, .bool false), (4, .pointer (some ⟨b2_, 0, none⟩)), (5, .int .i64 a0_0), (6, .int .i64 t18_), (7, .pointer (some ⟨b2_, 1, none⟩)), (8, .int .i64 a0_1), (9, .int .i64 t20_), (10, .pointer (some ⟨b2_, 2, none⟩)), (11, .int .i64 a0_2), (12, .int .i64 t22_), (13, .pointer (some ⟨b2_, 3, none⟩)), (14, .int .i64 a0_3), (15, .int .i64 t24_), (16, .pointer (some ⟨b2_, 4, none⟩)), (17, .int .i64 a0_4), (18, .int .i64 t26_), (19, .pointer (some ⟨b2_, 5, none⟩)), (20, .int .i64 a0_5), (22, .pointer (some ⟨b2_, 6, none⟩)), (23, .int .i64 a0_6)]) (L := [.b b2_ (.cells #[.int .i64 a0_0, .int .i64 a0_1, .int .i64 a0_2, .int .i64 a0_3, .int .i64 a0_4, .int .i64 a0_5, .int .i64 a0_6] 23 (0, 0))]) ?_
 refine a_2 (i := 17) (j := 22) (by kernel_rfl) ?_ ?_
 refine i_e rfl rfl (e_callF [] #[.int .i64 a0_5, .int .i64 1, .int .i64 64] rfl rfl rfl rfl rfl Try.func75 rfl (by decide) rfl rfl rfl rfl (fun w ht => plan_to_con a0_5 1 64 t28_ e29_ w _)) ?_
 refine ⟨(mem_pick (idx := [0]) rfl), ?_⟩
 exact a_take (J2_5_8_11_14_17 ()) [0] (by kernel_rfl) rfl (subF_spec ⟨rfl, rfl, rfl, rfl, rfl, rfl, rfl, rfl, rfl, rfl, rfl, rfl, rfl, rfl, rfl, rfl, rfl, rfl, rfl, rfl, rfl, rfl, rfl, trivial⟩) rfl (by decide)
 refine i_e rfl rfl (e_alloc rfl rfl rfl ZR23) ?_
 intro bo22_1_
 refine ⟨(mem_pick (idx := [1]) rfl), ?_⟩
 exact a_take (J2_5_8_11_14_22 bo22_1_) [1, 0] (by kernel_rfl) rfl (subF_spec ⟨rfl, rfl, rfl, rfl, rfl, rfl, rfl, rfl, rfl, rfl, rfl, rfl, rfl, rfl, rfl, rfl, rfl, rfl, rfl, rfl, rfl, rfl, rfl, trivial⟩) rfl (by decide)
 intro J2_5_8_11_14
 refine a_join (β := Nat) 5 #[true, true, true, true, true, true, true, true, true, true, true, true, true, true, false, true, true, false, true, true, false, false, true, false] (fun bo22_1_ => [(0, .agg #[.int .i64 a0_0, .int .i64 a0_1, .int .i64 a0_2, .int .i64 a0_3, .int .i64 a0_4, .int .i64 a0_5, .int .i64 a0_6]), (1, .pointer (some ⟨b2_, 0, none⟩)), (2, .bool false), (3, .pointer (some ⟨bo22_1_, 0, none⟩)), (4, .pointer (some ⟨b2_, 0, none⟩)), (5, .int .i64 a0_0), (6, .int .i64 t18_), (7, .pointer (some ⟨b2_, 1, none⟩)), (8, .int .i64 a0_1), (9, .int .i64 t20_), (10, .pointer (some ⟨b2_, 2, none⟩)), (11, .int .i64 a0_2), (12, .int .i64 t22_), (13, .pointer (some ⟨b2_, 3, none⟩)), (14, .int .i64 a0_3), (15, .int .i64 t24_), (16, .pointer (some ⟨b2_, 4, none⟩)), (17, .int .i64 a0_4), (19, .pointer (some ⟨b2_, 5, none⟩)), (20, .int .i64 a0_5), (22, .pointer (some ⟨b2_, 6, none⟩)), (23, .int .i64 a0_6)]) (fun bo22_1_ => [.b b2_ (.cells #[.int .i64 a0_0, .int .i64 a0_1, .int .i64 a0_2, .int .i64 a0_3, .int .i64 a0_4, .int .i64 a0_5, .int .i64 a0_6] 23 (0, 0)), .b bo22_1_ (.cells #[.int .i64 0, .int .i64 0, .int .i64 0, .int .i64 0, .int .i64 0, .int .i64 0, .int .i64 0] 23 (0, 0))]) ?_ ?_
 rintro bo22_1_
 refine a_w (F := [(0, .agg #[.int .i64 a0_0, .int .i64 a0_1, .int .i64 a0_2, .int .i64 a0_3, .int .i64 a0_4, .int .i64 a0_5, .int .i64 a0_6]), (1, .pointer (some ⟨b2_, 0, none⟩)), (2, .bool false), (3, .pointer (some ⟨bo22_1_, 0, none⟩)), (4, .pointer (some ⟨b2_, 0, none⟩)), (5, .int .i64 a0_0), (6, .int .i64 t18_), (7, .pointer (some ⟨b2_, 1, none⟩)), (8, .int .i64 a0_1), (9, .int .i64 t20_), (10, .pointer (some ⟨b2_, 2, none⟩)), (11, .int .i64 a0_2), (12, .int .i64 t22_), (13, .pointer (some ⟨b2_, 3, none⟩)), (14, .int .i64 a0_3), (15, .int .i64 t24_), (16, .pointer (some ⟨b2_, 4, none⟩)), (17, .int .i64 a0_4), (19, .pointer (some ⟨b2_, 5, none⟩)), (20, .int .i64 a0_5), (22, .pointer (some ⟨b2_, 6, none⟩)), (23, .int .i64 a0_6)]) (L := [.b b2_ (.cells #[.int .i64 a0_0, .int .i64 a0_1, .int .i64 a0_2, .int .i64 a0_3, .int .i64 a0_4, .int .i64 a0_5, .int .i64 a0_6] 23 (0, 0)), .b bo22_1_ (.cells #[.int .i64 0, .int .i64 0, .int .i64 0, .int .i64 0, .int .i64 0, .int .i64 0, .int .i64 0] 23 (0, 0))]) ?_
 refine a_1 (i := 14) (by kernel_rfl) ?_
 refine i_e rfl rfl (e_callF [] #[.int .i64 a0_4, .int .i64 1, .int .i64 64] rfl rfl rfl rfl rfl Try.func75 rfl (by decide) rfl rfl rfl rfl (fun w ht => plan_to_con a0_4 1 64 t26_ e27_ w _)) ?_
 refine ⟨(mem_pick (idx := [0]) rfl), ?_⟩
 exact a_take (J2_5_8_11_14_22 bo22_1_) [0, 1] (by kernel_rfl) rfl (subF_spec ⟨rfl, rfl, rfl, rfl, rfl, rfl, rfl, rfl, rfl, rfl, rfl, rfl, rfl, rfl, rfl, rfl, rfl, rfl, rfl, rfl, rfl, rfl, rfl, trivial⟩) rfl (by decide)
 intro J2_5_8_11_22
 refine a_join (β := Unit) 6 #[true, true, true, true, true, true, true, true, true, true, true, true, true, true, false, true, true, false, true, true, false, false, false, false] (fun _ => [(0, .agg #[.int .i64 a0_0, .int .i64 a0_1, .int .i64 a0_2, .int .i64 a0_3, .int .i64 a0_4, .int .i64 a0_5, .int .i64 a0_6]), (1, .pointer (some ⟨b2_, 0, none⟩)), (2, .bool false), (4, .pointer (some ⟨b2_, 0, none⟩)), (5, .int .i64 a0_0), (6, .int .i64 t18_), (7, .pointer (some ⟨b2_, 1, none⟩)), (8, .int .i64 a0_1), (9, .int .i64 t20_), (10, .pointer (some ⟨b2_, 2, none⟩)), (11, .int .i64 a0_2), (12, .int .i64 t22_), (13, .pointer (some ⟨b2_, 3, none⟩)), (14, .int .i64 a0_3), (15, .int .i64 t24_), (16, .pointer (some ⟨b2_, 4, none⟩)), (17, .int .i64 a0_4), (19, .pointer (some ⟨b2_, 5, none⟩)), (20, .int .i64 a0_5), (22, .pointer (some ⟨b2_, 6, none⟩)), (23, .int .i64 a0_6)]) (fun _ => [.b b2_ (.cells #[.int .i64 a0_0, .int .i64 a0_1, .int .i64 a0_2, .int .i64 a0_3, .int .i64 a0_4, .int .i64 a0_5, .int .i64 a0_6] 23 (0, 0))]) ?_ ?_
 rintro _
 refine a_w (F := [(0, .agg #[.int .i64 a0_0, .int .i64 a0_1, .int .i64 a0_2, .int .i64 a0_3, .int .i64 a0_4, .int .i64 a0_5, .int .i64 a0_6]), (1, .pointer (some ⟨b2_, 0, none⟩)), (2, .bool false), (4, .pointer (some ⟨b2_, 0, none⟩)), (5, .int .i64 a0_0), (6, .int .i64 t18_), (7, .pointer (some ⟨b2_, 1, none⟩)), (8, .int .i64 a0_1), (9, .int .i64 t20_), (10, .pointer (some ⟨b2_, 2, none⟩)), (11, .int .i64 a0_2), (12, .int .i64 t22_), (13, .pointer (some ⟨b2_, 3, none⟩)), (14, .int .i64 a0_3), (15, .int .i64 t24_), (16, .pointer (some ⟨b2_, 4, none⟩)), (17, .int .i64 a0_4), (19, .pointer (some ⟨b2_, 5, none⟩)), (20, .int .i64 a0_5), (22, .pointer (some ⟨b2_, 6, none⟩)), (23, .int .i64 a0_6)]) (L := [.b b2_ (.cells #[.int .i64 a0_0, .int .i64 a0_1, .int .i64 a0_2, .int .i64 a0_3, .int .i64 a0_4, .int .i64 a0_5, .int .i64 a0_6] 23 (0, 0))]) ?_
 refine a_2 (i := 14) (j := 22) (by kernel_rfl) ?_ ?_
 refine i_e rfl rfl (e_callF [] #[.int .i64 a0_4, .int .i64 1, .int .i64 64] rfl rfl rfl rfl rfl Try.func75 rfl (by decide) rfl rfl rfl rfl (fun w ht => plan_to_con a0_4 1 64 t26_ e27_ w _)) ?_
 refine ⟨(mem_pick (idx := [0]) rfl), ?_⟩
 exact a_take (J2_5_8_11_14 ()) [0] (by kernel_rfl) rfl (subF_spec ⟨rfl, rfl, rfl, rfl, rfl, rfl, rfl, rfl, rfl, rfl, rfl, rfl, rfl, rfl, rfl, rfl, rfl, rfl, rfl, rfl, rfl, rfl, trivial⟩) rfl (by decide)
 refine i_e rfl rfl (e_alloc rfl rfl rfl ZR23) ?_
 intro bo22_1_
 refine ⟨(mem_pick (idx := [1]) rfl), ?_⟩
 exact a_take (J2_5_8_11_22 bo22_1_) [1, 0] (by kernel_rfl) rfl (subF_spec ⟨rfl, rfl, rfl, rfl, rfl, rfl, rfl, rfl, rfl, rfl, rfl, rfl, rfl, rfl, rfl, rfl, rfl, rfl, rfl, rfl, rfl, rfl, trivial⟩) rfl (by decide)
 intro J2_5_8_11
 refine a_join (β := Nat) 6 #[true, true, true, true, true, true, true, true, true, true, true, false, true, true, false, true, true, false, true, true, false, false, true, false] (fun bo22_1_ => [(0, .agg #[.int .i64 a0_0, .int .i64 a0_1, .int .i64 a0_2, .int .i64 a0_3, .int .i64 a0_4, .int .i64 a0_5, .int .i64 a0_6]), (1, .pointer (some ⟨b2_, 0, none⟩)), (2, .bool false), (3, .pointer (some ⟨bo22_1_, 0, none⟩)), (4, .pointer (some ⟨b2_, 0, none⟩)), (5, .int .i64 a0_0), (6, .int .i64 t18_), (7, .pointer (some ⟨b2_, 1, none⟩)), (8, .int .i64 a0_1), (9, .int .i64 t20_), (10, .pointer (some ⟨b2_, 2, none⟩)), (11, .int .i64 a0_2), (12, .int .i64 t22_), (13, .pointer (some ⟨b2_, 3, none⟩)), (14, .int .i64 a0_3), (16, .pointer (some ⟨b2_, 4, none⟩)), (17, .int .i64 a0_4), (19, .pointer (some ⟨b2_, 5, none⟩)), (20, .int .i64 a0_5), (22, .pointer (some ⟨b2_, 6, none⟩)), (23, .int .i64 a0_6)]) (fun bo22_1_ => [.b b2_ (.cells #[.int .i64 a0_0, .int .i64 a0_1, .int .i64 a0_2, .int .i64 a0_3, .int .i64 a0_4, .int .i64 a0_5, .int .i64 a0_6] 23 (0, 0)), .b bo22_1_ (.cells #[.int .i64 0, .int .i64 0, .int .i64 0, .int .i64 0, .int .i64 0, .int .i64 0, .int .i64 0] 23 (0, 0))]) ?_ ?_
 rintro bo22_1_
 refine a_w (F := [(0, .agg #[.int .i64 a0_0, .int .i64 a0_1, .int .i64 a0_2, .int .i64 a0_3, .int .i64 a0_4, .int .i64 a0_5, .int .i64 a0_6]), (1, .pointer (some ⟨b2_, 0, none⟩)), (2, .bool false), (3, .pointer (some ⟨bo22_1_, 0, none⟩)), (4, .pointer (some ⟨b2_, 0, none⟩)), (5, .int .i64 a0_0), (6, .int .i64 t18_), (7, .pointer (some ⟨b2_, 1, none⟩)), (8, .int .i64 a0_1), (9, .int .i64 t20_), (10, .pointer (some ⟨b2_, 2, none⟩)), (11, .int .i64 a0_2), (12, .int .i64 t22_), (13, .pointer (some ⟨b2_, 3, none⟩)), (14, .int .i64 a0_3), (16, .pointer (some ⟨b2_, 4, none⟩)), (17, .int .i64 a0_4), (19, .pointer (some ⟨b2_, 5, none⟩)), (20, .int .i64 a0_5), (22, .pointer (some ⟨b2_, 6, none⟩)), (23, .int .i64 a0_6)]) (L := [.b b2_ (.cells #[.int .i64 a0_0, .int .i64 a0_1, .int .i64 a0_2, .int .i64 a0_3, .int .i64 a0_4, .int .i64 a0_5, .int .i64 a0_6] 23 (0, 0)), .b bo22_1_ (.cells #[.int .i64 0, .int .i64 0, .int .i64 0, .int .i64 0, .int .i64 0, .int .i64 0, .int .i64 0] 23 (0, 0))]) ?_
 refine a_1 (i := 11) (by kernel_rfl) ?_
 refine i_e rfl rfl (e_callF [] #[.int .i64 a0_3, .int .i64 1, .int .i64 6] rfl rfl rfl rfl rfl Try.func75 rfl (by decide) rfl rfl rfl rfl (fun w ht => plan_to_con a0_3 1 6 t24_ e25_ w _)) ?_
 refine ⟨(mem_pick (idx := [0]) rfl), ?_⟩
 exact a_take (J2_5_8_11_22 bo22_1_) [0, 1] (by kernel_rfl) rfl (subF_spec ⟨rfl, rfl, rfl, rfl, rfl, rfl, rfl, rfl, rfl, rfl, rfl, rfl, rfl, rfl, rfl, rfl, rfl, rfl, rfl, rfl, rfl, rfl, trivial⟩) rfl (by decide)
 intro J2_5_8_22
 refine a_join (β := Unit) 7 #[true, true, true, true, true, true, true, true, true, true, true, false, true, true, false, true, true, false, true, true, false, false, false, false] (fun _ => [(0, .agg #[.int .i64 a0_0, .int .i64 a0_1, .int .i64 a0_2, .int .i64 a0_3, .int .i64 a0_4, .int .i64 a0_5, .int .i64 a0_6]), (1, .pointer (some ⟨b2_, 0, none⟩)), (2, .bool false), (4, .pointer (some ⟨b2_, 0, none⟩)), (5, .int .i64 a0_0), (6, .int .i64 t18_), (7, .pointer (some ⟨b2_, 1, none⟩)), (8, .int .i64 a0_1), (9, .int .i64 t20_), (10, .pointer (some ⟨b2_, 2, none⟩)), (11, .int .i64 a0_2), (12, .int .i64 t22_), (13, .pointer (some ⟨b2_, 3, none⟩)), (14, .int .i64 a0_3), (16, .pointer (some ⟨b2_, 4, none⟩)), (17, .int .i64 a0_4), (19, .pointer (some ⟨b2_, 5, none⟩)), (20, .int .i64 a0_5), (22, .pointer (some ⟨b2_, 6, none⟩)), (23, .int .i64 a0_6)]) (fun _ => [.b b2_ (.cells #[.int .i64 a0_0, .int .i64 a0_1, .int .i64 a0_2, .int .i64 a0_3, .int .i64 a0_4, .int .i64 a0_5, .int .i64 a0_6] 23 (0, 0))]) ?_ ?_
 rintro _
 refine a_w (F := [(0, .agg #[.int .i64 a0_0, .int .i64 a0_1, .int .i64 a0_2, .int .i64 a0_3, .int .i64 a0_4, .int .i64 a0_5, .int .i64 a0_6]), (1, .pointer (some ⟨b2_, 0, none⟩)), (2, .bool false), (4, .pointer (some ⟨b2_, 0, none⟩)), (5, .int .i64 a0_0), (6, .int .i64 t18_), (7, .pointer (some ⟨b2_, 1, none⟩)), (8, .int .i64 a0_1), (9, .int .i64 t20_), (10, .pointer (some ⟨b2_, 2, none⟩)), (11, .int .i64 a0_2), (12, .int .i64 t22_), (13, .pointer (some ⟨b2_, 3, none⟩)), (14, .int .i64 a0_3), (16, .pointer (some ⟨b2_, 4, none⟩)), (17, .int .i64 a0_4), (19, .pointer (some ⟨b2_, 5, none⟩)), (20, .int .i64 a0_5), (22, .pointer (some ⟨b2_, 6, none⟩)), (23, .int .i64 a0_6)]) (L := [.b b2_ (.cells #[.int .i64 a0_0, .int .i64 a0_1, .int .i64 a0_2, .int .i64 a0_3, .int .i64 a0_4, .int .i64 a0_5, .int .i64 a0_6] 23 (0, 0))]) ?_
 refine a_2 (i := 11) (j := 22) (by kernel_rfl) ?_ ?_
 refine i_e rfl rfl (e_callF [] #[.int .i64 a0_3, .int .i64 1, .int .i64 6] rfl rfl rfl rfl rfl Try.func75 rfl (by decide) rfl rfl rfl rfl (fun w ht => plan_to_con a0_3 1 6 t24_ e25_ w _)) ?_
 refine ⟨(mem_pick (idx := [0]) rfl), ?_⟩
 exact a_take (J2_5_8_11 ()) [0] (by kernel_rfl) rfl (subF_spec ⟨rfl, rfl, rfl, rfl, rfl, rfl, rfl, rfl, rfl, rfl, rfl, rfl, rfl, rfl, rfl, rfl, rfl, rfl, rfl, rfl, rfl, trivial⟩) rfl (by decide)
 refine i_e rfl rfl (e_alloc rfl rfl rfl ZR23) ?_
 intro bo22_1_
 refine ⟨(mem_pick (idx := [1]) rfl), ?_⟩
 exact a_take (J2_5_8_22 bo22_1_) [1, 0] (by kernel_rfl) rfl (subF_spec ⟨rfl, rfl, rfl, rfl, rfl, rfl, rfl, rfl, rfl, rfl, rfl, rfl, rfl, rfl, rfl, rfl, rfl, rfl, rfl, rfl, rfl, trivial⟩) rfl (by decide)
 intro J2_5_8
 refine a_join (β := Nat) 7 #[true, true, true, true, true, true, true, true, false, true, true, false, true, true, false, true, true, false, true, true, false, false, true, false] (fun bo22_1_ => [(0, .agg #[.int .i64 a0_0, .int .i64 a0_1, .int .i64 a0_2, .int .i64 a0_3, .int .i64 a0_4, .int .i64 a0_5, .int .i64 a0_6]), (1, .pointer (some ⟨b2_, 0, none⟩)), (2, .bool false), (3, .pointer (some ⟨bo22_1_, 0, none⟩)), (4, .pointer (some ⟨b2_, 0, none⟩)), (5, .int .i64 a0_0), (6, .int .i64 t18_), (7, .pointer (some ⟨b2_, 1, none⟩)), (8, .int .i64 a0_1), (9, .int .i64 t20_), (10, .pointer (some ⟨b2_, 2, none⟩)), (11, .int .i64 a0_2), (13, .pointer (some ⟨b2_, 3, none⟩)), (14, .int .i64 a0_3), (16, .pointer (some ⟨b2_, 4, none⟩)), (17, .int .i64 a0_4), (19, .pointer (some ⟨b2_, 5, none⟩)), (20, .int .i64 a0_5), (22, .pointer (some ⟨b2_, 6, none⟩)), (23, .int .i64 a0_6)]) (fun bo22_1_ => [.b b2_ (.cells #[.int .i64 a0_0, .int .i64 a0_1, .int .i64 a0_2, .int .i64 a0_3, .int .i64 a0_4, .int .i64 a0_5, .int .i64 a0_6] 23 (0, 0)), .b bo22_1_ (.cells #[.int .i64 0, .int .i64 0, .int .i64 0, .int .i64 0, .int .i64 0, .int .i64 0, .int .i64 0] 23 (0, 0))]) ?_ ?_
 rintro bo22_1_
 refine a_w (F := [(0, .agg #[.int .i64 a0_0, .int .i64 a0_1, .int .i64 a0_2, .int .i64 a0_3, .int .i64 a0_4, .int .i64 a0_5, .int .i64 a0_6]), (1, .pointer (some ⟨b2_, 0, none⟩)), (2, .bool false), (3, .pointer (some ⟨bo22_1_, 0, none⟩)), (4, .pointer (some ⟨b2_, 0, none⟩)), (5, .int .i64 a0_0), (6, .int .i64 t18_), (7, .pointer (some ⟨b2_, 1, none⟩)), (8, .int .i64 a0_1), (9, .int .i64 t20_), (10, .pointer (some ⟨b2_, 2, none⟩)), (11, .int .i64 a0_2), (13, .pointer (some ⟨b2_, 3, none⟩)), (14, .int .i64 a0_3), (16, .pointer (some ⟨b2_, 4, none⟩)), (17, .int .i64 a0_4), (19, .pointer (some ⟨b2_, 5, none⟩)), (20, .int .i64 a0_5), (22, .pointer (some ⟨b2_, 6, none⟩)), (23, .int .i64 a0_6)]) (L := [.b b2_ (.cells #[.int .i64 a0_0, .int .i64 a0_1, .int .i64 a0_2, .int .i64 a0_3, .int .i64 a0_4, .int .i64 a0_5, .int .i64 a0_6] 23 (0, 0)), .b bo22_1_ (.cells #[.int .i64 0, .int .i64 0, .int .i64 0, .int .i64 0, .int .i64 0, .int .i64 0, .int .i64 0] 23 (0, 0))]) ?_
 refine a_1 (i := 8) (by kernel_rfl) ?_
 refine i_e rfl rfl (e_callF [] #[.int .i64 a0_2, .int .i64 1, .int .i64 64] rfl rfl rfl rfl rfl Try.func75 rfl (by decide) rfl rfl rfl rfl (fun w ht => plan_to_con a0_2 1 64 t22_ e23_ w _)) ?_
 refine ⟨(mem_pick (idx := [0]) rfl), ?_⟩
 exact a_take (J2_5_8_22 bo22_1_) [0, 1] (by kernel_rfl) rfl (subF_spec ⟨rfl, rfl, rfl, rfl, rfl, rfl, rfl, rfl, rfl, rfl, rfl, rfl, rfl, rfl, rfl, rfl, rfl, rfl, rfl, rfl, rfl, trivial⟩) rfl (by decide)
 intro J2_5_22
 refine a_join (β := Unit) 8 #[true, true, true, true, true, true, true, true, false, true, true, false, true, true, false, true, true, false, true, true, false, false, false, false] (fun _ => [(0, .agg #[.int .i64 a0_0, .int .i64 a0_1, .int .i64 a0_2, .int .i64 a0_3, .int .i64 a0_4, .int .i64 a0_5, .int .i64 a0_6]), (1, .pointer (some ⟨b2_, 0, none⟩)), (2, .bool false), (4, .pointer (some ⟨b2_, 0, none⟩)), (5, .int .i64 a0_0), (6, .int .i64 t18_), (7, .pointer (some ⟨b2_, 1, none⟩)), (8, .int .i64 a0_1), (9, .int .i64 t20_), (10, .pointer (some ⟨b2_, 2, none⟩)), (11, .int .i64 a0_2), (13, .pointer (some ⟨b2_, 3, none⟩)), (14, .int .i64 a0_3), (16, .pointer (some ⟨b2_, 4, none⟩)), (17, .int .i64 a0_4), (19, .pointer (some ⟨b2_, 5, none⟩)), (20, .int .i64 a0_5), (22, .pointer (some ⟨b2_, 6, none⟩)), (23, .int .i64 a0_6)]) (fun _ => [.b b2_ (.cells #[.int .i64 a0_0, .int .i64 a0_1, .int .i64 a0_2, .int .i64 a0_3, .int .i64 a0_4, .int .i64 a0_5, .int .i64 a0_6] 23 (0, 0))]) ?_ ?_
 rintro _
 refine a_w (F := [(0, .agg #[.int .i64 a0_0, .int .i64 a0_1, .int .i64 a0_2, .int .i64 a0_3, .int .i64 a0_4, .int .i64 a0_5, .int .i64 a0_6]), (1, .pointer (some ⟨b2_, 0, none⟩)), (2, .bool false), (4, .pointer (some ⟨b2_, 0, none⟩)), (5, .int .i64 a0_0), (6, .int .i64 t18_), (7, .pointer (some ⟨b2_, 1, none⟩)), (8, .int .i64 a0_1), (9, .int .i64 t20_), (10, .pointer (some ⟨b2_, 2, none⟩)), (11, .int .i64 a0_2), (13, .pointer (some ⟨b2_, 3, none⟩)), (14, .int .i64 a0_3), (16, .pointer (some ⟨b2_, 4, none⟩)), (17, .int .i64 a0_4), (19, .pointer (some ⟨b2_, 5, none⟩)), (20, .int .i64 a0_5), (22, .pointer (some ⟨b2_, 6, none⟩)), (23, .int .i64 a0_6)]) (L := [.b b2_ (.cells #[.int .i64 a0_0, .int .i64 a0_1, .int .i64 a0_2, .int .i64 a0_3, .int .i64 a0_4, .int .i64 a0_5, .int .i64 a0_6] 23 (0, 0))]) ?_
 refine a_2 (i := 8) (j := 22) (by kernel_rfl) ?_ ?_
 refine i_e rfl rfl (e_callF [] #[.int .i64 a0_2, .int .i64 1, .int .i64 64] rfl rfl rfl rfl rfl Try.func75 rfl (by decide) rfl rfl rfl rfl (fun w ht => plan_to_con a0_2 1 64 t22_ e23_ w _)) ?_
 refine ⟨(mem_pick (idx := [0]) rfl), ?_⟩
 exact a_take (J2_5_8 ()) [0] (by kernel_rfl) rfl (subF_spec ⟨rfl, rfl, rfl, rfl, rfl, rfl, rfl, rfl, rfl, rfl, rfl, rfl, rfl, rfl, rfl, rfl, rfl, rfl, rfl, rfl, trivial⟩) rfl (by decide)
 refine i_e rfl rfl (e_alloc rfl rfl rfl ZR23) ?_
 intro bo22_1_
 refine ⟨(mem_pick (idx := [1]) rfl), ?_⟩
 exact a_take (J2_5_22 bo22_1_) [1, 0] (by kernel_rfl) rfl (subF_spec ⟨rfl, rfl, rfl, rfl, rfl, rfl, rfl, rfl, rfl, rfl, rfl, rfl, rfl, rfl, rfl, rfl, rfl, rfl, rfl, rfl, trivial⟩) rfl (by decide)
 intro J2_5
 refine a_join (β := Nat) 8 #[true, true, true, true, true, false, true, true, false, true, true, false, true, true, false, true, true, false, true, true, false, false, true, false] (fun bo22_1_ => [(0, .agg #[.int .i64 a0_0, .int .i64 a0_1, .int .i64 a0_2, .int .i64 a0_3, .int .i64 a0_4, .int .i64 a0_5, .int .i64 a0_6]), (1, .pointer (some ⟨b2_, 0, none⟩)), (2, .bool false), (3, .pointer (some ⟨bo22_1_, 0, none⟩)), (4, .pointer (some ⟨b2_, 0, none⟩)), (5, .int .i64 a0_0), (6, .int .i64 t18_), (7, .pointer (some ⟨b2_, 1, none⟩)), (8, .int .i64 a0_1), (10, .pointer (some ⟨b2_, 2, none⟩)), (11, .int .i64 a0_2), (13, .pointer (some ⟨b2_, 3, none⟩)), (14, .int .i64 a0_3), (16, .pointer (some ⟨b2_, 4, none⟩)), (17, .int .i64 a0_4), (19, .pointer (some ⟨b2_, 5, none⟩)), (20, .int .i64 a0_5), (22, .pointer (some ⟨b2_, 6, none⟩)), (23, .int .i64 a0_6)]) (fun bo22_1_ => [.b b2_ (.cells #[.int .i64 a0_0, .int .i64 a0_1, .int .i64 a0_2, .int .i64 a0_3, .int .i64 a0_4, .int .i64 a0_5, .int .i64 a0_6] 23 (0, 0)), .b bo22_1_ (.cells #[.int .i64 0, .int .i64 0, .int .i64 0, .int .i64 0, .int .i64 0, .int .i64 0, .int .i64 0] 23 (0, 0))]) ?_ ?_
 rintro bo22_1_
 refine a_w (F := [(0, .agg #[.int .i64 a0_0, .int .i64 a0_1, .int .i64 a0_2, .int .i64 a0_3, .int .i64 a0_4, .int .i64 a0_5, .int .i64 a0_6]), (1, .pointer (some ⟨b2_, 0, none⟩)), (2, .bool false), (3, .pointer (some ⟨bo22_1_, 0, none⟩)), (4, .pointer (some ⟨b2_, 0, none⟩)), (5, .int .i64 a0_0), (6, .int .i64 t18_), (7, .pointer (some ⟨b2_, 1, none⟩)), (8, .int .i64 a0_1), (10, .pointer (some ⟨b2_, 2, none⟩)), (11, .int .i64 a0_2), (13, .pointer (some ⟨b2_, 3, none⟩)), (14, .int .i64 a0_3), (16, .pointer (some ⟨b2_, 4, none⟩)), (17, .int .i64 a0_4), (19, .pointer (some ⟨b2_, 5, none⟩)), (20, .int .i64 a0_5), (22, .pointer (some ⟨b2_, 6, none⟩)), (23, .int .i64 a0_6)]) (L := [.b b2_ (.cells #[.int .i64 a0_0, .int .i64 a0_1, .int .i64 a0_2, .int .i64 a0_3, .int .i64 a0_4, .int .i64 a0_5, .int .i64 a0_6] 23 (0, 0)), .b bo22_1_ (.cells #[.int .i64 0, .int .i64 0, .int .i64 0, .int .i64 0, .int .i64 0, .int .i64 0, .int .i64 0] 23 (0, 0))]) ?_
 refine a_1 (i := 5) (by kernel_rfl) ?_
 refine i_e rfl rfl (e_callF [] #[.int .i64 a0_1, .int .i64 1, .int .i64 8] rfl rfl rfl rfl rfl Try.func75 rfl (by decide) rfl rfl rfl rfl (fun w ht => plan_to_con a0_1 1 8 t20_ e21_ w _)) ?_
 refine ⟨(mem_pick (idx := [0]) rfl), ?_⟩
 exact a_take (J2_5_22 bo22_1_) [0, 1] (by kernel_rfl) rfl (subF_spec ⟨rfl, rfl, rfl, rfl, rfl, rfl, rfl, rfl, rfl, rfl, rfl, rfl, rfl, rfl, rfl, rfl, rfl, rfl, rfl, rfl, trivial⟩) rfl (by decide)
 intro J2_22
 refine a_join (β := Unit) 9 #[true, true, true, true, true, false, true, true, false, true, true, false, true, true, false, true, true, false, true, true, false, false, false, false] (fun _ => [(0, .agg #[.int .i64 a0_0, .int .i64 a0_1, .int .i64 a0_2, .int .i64 a0_3, .int .i64 a0_4, .int .i64 a0_5, .int .i64 a0_6]), (1, .pointer (some ⟨b2_, 0, none⟩)), (2, .bool false), (4, .pointer (some ⟨b2_, 0, none⟩)), (5, .int .i64 a0_0), (6, .int .i64 t18_), (7, .pointer (some ⟨b2_, 1, none⟩)), (8, .int .i64 a0_1), (10, .pointer (some ⟨b2_, 2, none⟩)), (11, .int .i64 a0_2), (13, .pointer (some ⟨b2_, 3, none⟩)), (14, .int .i64 a0_3), (16, .pointer (some ⟨b2_, 4, none⟩)), (17, .int .i64 a0_4), (19, .pointer (some ⟨b2_, 5, none⟩)), (20, .int .i64 a0_5), (22, .pointer (some ⟨b2_, 6, none⟩)), (23, .int .i64 a0_6)]) (fun _ => [.b b2_ (.cells #[.int .i64 a0_0, .int .i64 a0_1, .int .i64 a0_2, .int .i64 a0_3, .int .i64 a0_4, .int .i64 a0_5, .int .i64 a0_6] 23 (0, 0))]) ?_ ?_
 rintro _
 refine a_w (F := [(0, .agg #[.int .i64 a0_0, .int .i64 a0_1, .int .i64 a0_2, .int .i64 a0_3, .int .i64 a0_4, .int .i64 a0_5, .int .i64 a0_6]), (1, .pointer (some ⟨b2_, 0, none⟩)), (2, .bool false), (4, .pointer (some ⟨b2_, 0, none⟩)), (5, .int .i64 a0_0), (6, .int .i64 t18_), (7, .pointer (some ⟨b2_, 1, none⟩)), (8, .int .i64 a0_1), (10, .pointer (some ⟨b2_, 2, none⟩)), (11, .int .i64 a0_2), (13, .pointer (some ⟨b2_, 3, none⟩)), (14, .int .i64 a0_3), (16, .pointer (some ⟨b2_, 4, none⟩)), (17, .int .i64 a0_4), (19, .pointer (some ⟨b2_, 5, none⟩)), (20, .int .i64 a0_5), (22, .pointer (some ⟨b2_, 6, none⟩)), (23, .int .i64 a0_6)]) (L := [.b b2_ (.cells #[.int .i64 a0_0, .int .i64 a0_1, .int .i64 a0_2, .int .i64 a0_3, .int .i64 a0_4, .int .i64 a0_5, .int .i64 a0_6] 23 (0, 0))]) ?_
 refine a_2 (i := 5) (j := 22) (by kernel_rfl) ?_ ?_
 refine i_e rfl rfl (e_callF [] #[.int .i64 a0_1, .int .i64 1, .int .i64 8] rfl rfl rfl rfl rfl Try.func75 rfl (by decide) rfl rfl rfl rfl (fun w ht => plan_to_con a0_1 1 8 t20_ e21_ w _)) ?_
 refine ⟨(mem_pick (idx := [0]) rfl), ?_⟩
 exact a_take (J2_5 ()) [0] (by kernel_rfl) rfl (subF_spec ⟨rfl, rfl, rfl, rfl, rfl, rfl, rfl, rfl, rfl, rfl, rfl, rfl, rfl, rfl, rfl, rfl, rfl, rfl, rfl, trivial⟩) rfl (by decide)
 refine i_e rfl rfl (e_alloc rfl rfl rfl ZR23) ?_
 intro bo22_1_
 refine ⟨(mem_pick (idx := [1]) rfl), ?_⟩
 exact a_take (J2_22 bo22_1_) [1, 0] (by kernel_rfl) rfl (subF_spec ⟨rfl, rfl, rfl, rfl, rfl, rfl, rfl, rfl, rfl, rfl, rfl, rfl, rfl, rfl, rfl, rfl, rfl, rfl, rfl, trivial⟩) rfl (by decide)
 intro J2
 refine a_join (β := Nat) 9 #[true, true, false, true, true, false, true, true, false, true, true, false, true, true, false, true, true, false, true, true, false, false, true, false] (fun bo22_1_ => [(0, .agg #[.int .i64 a0_0, .int .i64 a0_1, .int .i64 a0_2, .int .i64 a0_3, .int .i64 a0_4, .int .i64 a0_5, .int .i64 a0_6]), (1, .pointer (some ⟨b2_, 0, none⟩)), (2, .bool false), (3, .pointer (some ⟨bo22_1_, 0, none⟩)), (4, .pointer (some ⟨b2_, 0, none⟩)), (5, .int .i64 a0_0), (7, .pointer (some ⟨b2_, 1, none⟩)), (8, .int .i64 a0_1), (10, .pointer (some ⟨b2_, 2, none⟩)), (11, .int .i64 a0_2), (13, .pointer (some ⟨b2_, 3, none⟩)), (14, .int .i64 a0_3), (16, .pointer (some ⟨b2_, 4, none⟩)), (17, .int .i64 a0_4), (19, .pointer (some ⟨b2_, 5, none⟩)), (20, .int .i64 a0_5), (22, .pointer (some ⟨b2_, 6, none⟩)), (23, .int .i64 a0_6)]) (fun bo22_1_ => [.b b2_ (.cells #[.int .i64 a0_0, .int .i64 a0_1, .int .i64 a0_2, .int .i64 a0_3, .int .i64 a0_4, .int .i64 a0_5, .int .i64 a0_6] 23 (0, 0)), .b bo22_1_ (.cells #[.int .i64 0, .int .i64 0, .int .i64 0, .int .i64 0, .int .i64 0, .int .i64 0, .int .i64 0] 23 (0, 0))]) ?_ ?_
 rintro bo22_1_
 refine a_w (F := [(0, .agg #[.int .i64 a0_0, .int .i64 a0_1, .int .i64 a0_2, .int .i64 a0_3, .int .i64 a0_4, .int .i64 a0_5, .int .i64 a0_6]), (1, .pointer (some ⟨b2_, 0, none⟩)), (2, .bool false), (3, .pointer (some ⟨bo22_1_, 0, none⟩)), (4, .pointer (some ⟨b2_, 0, none⟩)), (5, .int .i64 a0_0), (7, .pointer (some ⟨b2_, 1, none⟩)), (8, .int .i64 a0_1), (10, .pointer (some ⟨b2_, 2, none⟩)), (11, .int .i64 a0_2), (13, .pointer (some ⟨b2_, 3, none⟩)), (14, .int .i64 a0_3), (16, .pointer (some ⟨b2_, 4, none⟩)), (17, .int .i64 a0_4), (19, .pointer (some ⟨b2_, 5, none⟩)), (20, .int .i64 a0_5), (22, .pointer (some ⟨b2_, 6, none⟩)), (23, .int .i64 a0_6)]) (L := [.b b2_ (.cells #[.int .i64 a0_0, .int .i64 a0_1, .int .i64 a0_2, .int .i64 a0_3, .int .i64 a0_4, .int .i64 a0_5, .int .i64 a0_6] 23 (0, 0)), .b bo22_1_ (.cells #[.int .i64 0, .int .i64 0, .int .i64 0, .int .i64 0, .int .i64 0, .int .i64 0, .int .i64 0] 23 (0, 0))]) ?_
 refine a_1 (i := 2) (by kernel_rfl) ?_
 refine i_e rfl rfl (e_callF [] #[.int .i64 a0_0, .int .i64 1, .int .i64 8] rfl rfl rfl rfl rfl Try.func75 rfl (by decide) rfl rfl rfl rfl (fun w ht => plan_to_con a0_0 1 8 t18_ e19_ w _)) ?_
 refine ⟨(mem_pick (idx := [0]) rfl), ?_⟩
 exact a_take (J2_22 bo22_1_) [0, 1] (by kernel_rfl) rfl (subF_spec ⟨rfl, rfl, rfl, rfl, rfl, rfl, rfl, rfl, rfl, rfl, rfl, rfl, rfl, rfl, rfl, rfl, rfl, rfl, rfl, trivial⟩) rfl (by decide)
 intro J22
 refine a_v 0 rfl (by kernel_rfl) (by kernel_rfl) (by kernel_rfl) rfl rfl rfl (v_fa rfl Try.underlying23 rfl SZ3 rfl) ?_
 refine a_v 1 rfl (by kernel_rfl) (by kernel_rfl) (by kernel_rfl) rfl rfl rfl (v_ld 0 rfl Try.underlying3 rfl rfl rfl rfl) ?_
 refine a_v 3 rfl (by kernel_rfl) (by kernel_rfl) (by kernel_rfl) rfl rfl rfl (v_fa rfl Try.underlying23 rfl SZ3 rfl) ?_
 refine a_v 4 rfl (by kernel_rfl) (by kernel_rfl) (by kernel_rfl) rfl rfl rfl (v_ld 0 rfl Try.underlying3 rfl rfl rfl rfl) ?_
 refine a_v 6 rfl (by kernel_rfl) (by kernel_rfl) (by kernel_rfl) rfl rfl rfl (v_fa rfl Try.underlying23 rfl SZ3 rfl) ?_
 refine a_v 7 rfl (by kernel_rfl) (by kernel_rfl) (by kernel_rfl) rfl rfl rfl (v_ld 0 rfl Try.underlying3 rfl rfl rfl rfl) ?_
 refine a_v 9 rfl (by kernel_rfl) (by kernel_rfl) (by kernel_rfl) rfl rfl rfl (v_fa rfl Try.underlying23 rfl SZ3 rfl) ?_
 refine a_v 10 rfl (by kernel_rfl) (by kernel_rfl) (by kernel_rfl) rfl rfl rfl (v_ld 0 rfl Try.underlying3 rfl rfl rfl rfl) ?_
 refine a_v 12 rfl (by kernel_rfl) (by kernel_rfl) (by kernel_rfl) rfl rfl rfl (v_fa rfl Try.underlying23 rfl SZ3 rfl) ?_
 refine a_v 13 rfl (by kernel_rfl) (by kernel_rfl) (by kernel_rfl) rfl rfl rfl (v_ld 0 rfl Try.underlying3 rfl rfl rfl rfl) ?_
 refine a_v 15 rfl (by kernel_rfl) (by kernel_rfl) (by kernel_rfl) rfl rfl rfl (v_fa rfl Try.underlying23 rfl SZ3 rfl) ?_
 refine a_v 16 rfl (by kernel_rfl) (by kernel_rfl) (by kernel_rfl) rfl rfl rfl (v_ld 0 rfl Try.underlying3 rfl rfl rfl rfl) ?_
 refine a_v 18 rfl (by kernel_rfl) (by kernel_rfl) (by kernel_rfl) rfl rfl rfl (v_fa rfl Try.underlying23 rfl SZ3 rfl) ?_
 refine a_v 19 rfl (by kernel_rfl) (by kernel_rfl) (by kernel_rfl) rfl rfl rfl (v_ld 0 rfl Try.underlying3 rfl rfl rfl rfl) ?_
 refine a_2 (i := 2) (j := 22) (by kernel_rfl) ?_ ?_
 refine i_e rfl rfl (e_callF [] #[.int .i64 a0_0, .int .i64 1, .int .i64 8] rfl rfl rfl rfl rfl Try.func75 rfl (by decide) rfl rfl rfl rfl (fun w ht => plan_to_con a0_0 1 8 t18_ e19_ w _)) ?_
 refine ⟨(mem_pick (idx := [0]) rfl), ?_⟩
 exact a_take (J2 ()) [0] (by kernel_rfl) rfl (subF_spec ⟨rfl, rfl, rfl, rfl, rfl, rfl, rfl, rfl, rfl, rfl, rfl, rfl, rfl, rfl, rfl, rfl, rfl, rfl, trivial⟩) rfl (by decide)
 refine i_e rfl rfl (e_alloc rfl rfl rfl ZR23) ?_
 intro bo22_1_
 refine ⟨(mem_pick (idx := [1]) rfl), ?_⟩
 exact a_take (J22 bo22_1_) [1, 0] (by kernel_rfl) rfl (subF_spec ⟨rfl, rfl, rfl, rfl, rfl, rfl, rfl, rfl, rfl, rfl, rfl, rfl, rfl, rfl, rfl, rfl, rfl, rfl, trivial⟩) rfl (by decide)
end Go.Eng
namespace Go.Eng
open Go.Proofs Go.RowKit Go.Proofs.YtbonlagecjealaaW.PrintWords Go.Proofs.Ytbonlagecjealaa.GSeq
set_option linter.unusedVariables false
set_option linter.unusedSimpArgs false
def plan_within.f (a0 : Int) (a1 : Int) (a2 : Int) : Option Bool := ((if (a0 : Int) ≥ a1 then some (decide ((a0 : Int) ≤ a2)) else some false) : Option Bool).bind fun j4_ => some j4_
set_option maxRecDepth 100000 in
set_option maxHeartbeats 4000000 in
theorem plan_within_con (a0 : Int) (a1 : Int) (a2 : Int) (r0 : Bool) (h : plan_within.f a0 a1 a2 = some r0) (w0 : World) (Hs : List Nat) : Con Try.prog 70 #[.int .i64 a0, .int .i64 a1, .int .i64 a2] w0 Hs [] (fun X => X (.bool r0) []) := by
 refine con_enter (c := bodyOf Try.f70) Try.func70 rfl (m := 15) rfl rfl rfl ?_
 intro X hX _
 have H := h
 unfold plan_within.f at H
 clear h
 refine c_seq rfl ?_
 refine r_ord (l := [0]) rfl (by kernel_rfl) (by kernel_rfl) ?_
 refine s_v rfl rfl rfl rfl (v_assign rfl rfl) ?_
 refine s_end ?_
 refine q_seq ?_
 obtain ⟨j4_, e5_, H⟩ := bind_s H
 refine c_join (β := Unit) (fun _ => True) (fun _ => [(6, .bool j4_)]) (fun _ => []) rfl (fun _ _ => ?_) (fun J_ => ?_)
 refine c_ret rfl ?_
 have e_ := Option.some.inj H
 subst e_
 exact q_ret (vs := [.bool j4_]) rfl (.tmp rfl .nil) [] rfl (by decide) (hX)
 clear H
 have H := e5_
 clear e5_
 refine r_ord (l := [0, 1, 2, 3, 4, 5, 6, 7, 8]) rfl (by kernel_rfl) (by kernel_rfl) ?_
 refine s_v rfl rfl rfl rfl (v_move rfl rfl) ?_
 refine s_v rfl rfl rfl rfl (v_move rfl rfl) ?_
 refine s_v rfl rfl rfl rfl (v_arith rfl rfl rfl rfl) ?_
 refine s_v rfl rfl rfl rfl (v_move rfl rfl) ?_
 rcases Bool.eq_false_or_eq_true (decide ((a0 : Int) ≥ a1)) with h6_ | h6_
 replace H := ite_y (dec_t h6_) H
 refine s_splitv (d := 10) (t := decide ((a0 : Int) ≥ a1)) rfl (fun _ => ?_) (fun h7_ => absurd (h7_.symm.trans h6_) (by decide))
 refine s_vg rfl rfl rfl rfl (v_move rfl rfl) ?_
 refine s_vg rfl rfl rfl rfl (v_move rfl rfl) ?_
 refine s_vg rfl rfl rfl rfl (v_arith rfl rfl rfl rfl) ?_
 refine s_v rfl rfl rfl rfl (v_pick rfl rfl rfl rfl) ?_
 refine s_v rfl rfl rfl rfl (v_assign rfl rfl) ?_
 refine s_end ?_
 have hq_0 := Option.some.inj H
 subst hq_0
 exact q_seq (c_frame (subF_spec (by exact ⟨rfl, trivial⟩)) (c_take [] rfl (by decide) (J_ () trivial)))
 replace H := ite_n (dec_f h6_) H
 refine s_splitv (d := 10) (t := decide ((a0 : Int) ≥ a1)) rfl (fun h8_ => absurd (h8_.symm.trans h6_) (by decide)) (fun _ => ?_)
 refine s_no rfl rfl rfl rfl ?_
 refine s_no rfl rfl rfl rfl ?_
 refine s_no rfl rfl rfl rfl ?_
 refine s_v rfl rfl rfl rfl (v_pick rfl rfl rfl rfl) ?_
 refine s_v rfl rfl rfl rfl (v_assign rfl rfl) ?_
 refine s_end ?_
 have hq_0 := Option.some.inj H
 subst hq_0
 exact q_seq (c_frame (subF_spec (by exact ⟨rfl, trivial⟩)) (c_take [] rfl (by decide) (J_ () trivial)))
def plan_fields.f (a0_0 : Int) (a0_1 : Int) (a0_2 : Int) (a0_3 : Int) (a0_4 : Int) (a0_5 : Int) (a0_6 : Int) : Option Int := some (IntKind.wrap .i64 (6 + a0_3))
set_option maxRecDepth 100000 in
set_option maxHeartbeats 4000000 in
theorem plan_fields_con (a0_0 : Int) (a0_1 : Int) (a0_2 : Int) (a0_3 : Int) (a0_4 : Int) (a0_5 : Int) (a0_6 : Int) (r0 : Int) (h : plan_fields.f a0_0 a0_1 a0_2 a0_3 a0_4 a0_5 a0_6 = some r0) (w0 : World) (Hs : List Nat) : Con Try.prog 72 #[.agg #[.int .i64 a0_0, .int .i64 a0_1, .int .i64 a0_2, .int .i64 a0_3, .int .i64 a0_4, .int .i64 a0_5, .int .i64 a0_6]] w0 Hs [] (fun X => X (.int .i64 r0) []) := by
  refine con_enter (c := bodyOf Try.f72) Try.func72 rfl (m := 6) rfl rfl rfl ?_
  intro X hX _
  have H := h
  unfold plan_fields.f at H
  clear h
  refine c_seq rfl ?_
  refine r_ord (l := [0, 1]) rfl (by kernel_rfl) (by kernel_rfl) ?_
  refine s_e rfl rfl (e_box rfl rfl rfl rfl) ?_
  intro b2_
  refine s_v rfl rfl rfl rfl (v_assign rfl rfl) ?_
  refine s_end ?_
  refine q_seq ?_
  refine c_seq rfl ?_
  refine r_ord (l := [0, 1, 2, 3]) rfl (by kernel_rfl) (by kernel_rfl) ?_
  refine s_v rfl rfl rfl rfl (v_fa rfl Try.underlying23 rfl SZ3 rfl) ?_
  refine s_v rfl rfl rfl rfl (v_ld 0 rfl Try.underlying3 rfl rfl rfl rfl) ?_
  refine s_v rfl rfl rfl rfl (v_arith rfl rfl rfl rfl) ?_
  refine s_v rfl rfl rfl rfl (v_assign rfl rfl) ?_
  refine s_end ?_
  refine q_seq ?_
  refine c_ret rfl ?_
  have e_ := Option.some.inj H
  subst e_
  exact q_ret (vs := [.int .i64 (IntKind.wrap .i64 (6 + a0_3))]) rfl (.tmp rfl .nil) [] rfl (by decide) (hX)
def plan_first.f (a0_0 : Int) (a0_1 : Int) (a0_2 : Int) (a0_3 : Int) (a0_4 : Int) (a0_5 : Int) (a0_6 : Int) : Option Int := some (IntKind.wrap .i64 (1 + (IntKind.wrap .i64 (a0_0 * a0_1))))
set_option maxRecDepth 100000 in
set_option maxHeartbeats 4000000 in
theorem plan_first_con (a0_0 : Int) (a0_1 : Int) (a0_2 : Int) (a0_3 : Int) (a0_4 : Int) (a0_5 : Int) (a0_6 : Int) (r0 : Int) (h : plan_first.f a0_0 a0_1 a0_2 a0_3 a0_4 a0_5 a0_6 = some r0) (w0 : World) (Hs : List Nat) : Con Try.prog 71 #[.agg #[.int .i64 a0_0, .int .i64 a0_1, .int .i64 a0_2, .int .i64 a0_3, .int .i64 a0_4, .int .i64 a0_5, .int .i64 a0_6]] w0 Hs [] (fun X => X (.int .i64 r0) []) := by
  refine con_enter (c := bodyOf Try.f71) Try.func71 rfl (m := 9) rfl rfl rfl ?_
  intro X hX _
  have H := h
  unfold plan_first.f at H
  clear h
  refine c_seq rfl ?_
  refine r_ord (l := [0, 1]) rfl (by kernel_rfl) (by kernel_rfl) ?_
  refine s_e rfl rfl (e_box rfl rfl rfl rfl) ?_
  intro b2_
  refine s_v rfl rfl rfl rfl (v_assign rfl rfl) ?_
  refine s_end ?_
  refine q_seq ?_
  refine c_seq rfl ?_
  refine r_ord (l := [0, 1, 2, 3, 4, 5, 6]) rfl (by kernel_rfl) (by kernel_rfl) ?_
  refine s_v rfl rfl rfl rfl (v_fa rfl Try.underlying23 rfl SZ3 rfl) ?_
  refine s_v rfl rfl rfl rfl (v_ld 0 rfl Try.underlying3 rfl rfl rfl rfl) ?_
  refine s_v rfl rfl rfl rfl (v_fa rfl Try.underlying23 rfl SZ3 rfl) ?_
  refine s_v rfl rfl rfl rfl (v_ld 0 rfl Try.underlying3 rfl rfl rfl rfl) ?_
  refine s_v rfl rfl rfl rfl (v_arith rfl rfl rfl rfl) ?_
  refine s_v rfl rfl rfl rfl (v_arith rfl rfl rfl rfl) ?_
  refine s_v rfl rfl rfl rfl (v_assign rfl rfl) ?_
  refine s_end ?_
  refine q_seq ?_
  refine c_ret rfl ?_
  have e_ := Option.some.inj H
  subst e_
  exact q_ret (vs := [.int .i64 (IntKind.wrap .i64 (1 + (IntKind.wrap .i64 (a0_0 * a0_1))))]) rfl (.tmp rfl .nil) [] rfl (by decide) (hX)
def plan_Cell.f (a0_0 : Int) (a0_1 : Int) (a0_2 : Int) (a0_3 : Int) (a0_4 : Int) (a0_5 : Int) (a0_6 : Int) (a1 : Int) (a2 : Int) : Option Int := ((plan_Right.f a0_0 a0_1 a0_2 a0_3 a0_4 a0_5 a0_6).bind fun t45_ => (if t45_ = true then (plan_within.f a1 0 a0_2).bind fun t50_ => (if t50_ = true then (plan_fields.f a0_0 a0_1 a0_2 a0_3 a0_4 a0_5 a0_6).bind fun t55_ => (plan_within.f a2 0 (IntKind.wrap .i64 (t55_ - 1))).bind fun t57_ => some (!t57_) else some true) else some true) : Option Bool).bind fun j34_ => (if j34_ = true then some (-1) else (plan_first.f a0_0 a0_1 a0_2 a0_3 a0_4 a0_5 a0_6).bind fun t41_ => (plan_fields.f a0_0 a0_1 a0_2 a0_3 a0_4 a0_5 a0_6).bind fun t43_ => some (IntKind.wrap .i64 ((IntKind.wrap .i64 (t41_ + (IntKind.wrap .i64 (a1 * t43_)))) + a2)))
set_option maxRecDepth 100000 in
set_option maxHeartbeats 4000000 in
theorem plan_Cell_con (a0_0 : Int) (a0_1 : Int) (a0_2 : Int) (a0_3 : Int) (a0_4 : Int) (a0_5 : Int) (a0_6 : Int) (a1 : Int) (a2 : Int) (r0 : Int) (h : plan_Cell.f a0_0 a0_1 a0_2 a0_3 a0_4 a0_5 a0_6 a1 a2 = some r0) (w0 : World) (Hs : List Nat) : Con Try.prog 60 #[.agg #[.int .i64 a0_0, .int .i64 a0_1, .int .i64 a0_2, .int .i64 a0_3, .int .i64 a0_4, .int .i64 a0_5, .int .i64 a0_6], .int .i64 a1, .int .i64 a2] w0 Hs [] (fun X => X (.int .i64 r0) []) := by
 refine con_enter (c := bodyOf Try.f60) Try.func60 rfl (m := 34) rfl rfl rfl ?_
 intro X hX _
 have H := h
 unfold plan_Cell.f at H
 clear h
 refine c_seq rfl ?_
 refine r_ord (l := [0, 1]) rfl (by kernel_rfl) (by kernel_rfl) ?_
 refine s_e rfl rfl (e_box rfl rfl rfl rfl) ?_
 intro b2_
 refine s_v rfl rfl rfl rfl (v_assign rfl rfl) ?_
 refine s_end ?_
 refine q_seq ?_
 refine c_seq rfl ?_
 obtain ⟨j34_, e35_, H⟩ := bind_s H
 refine c_join (β := Unit) (fun _ => True) (fun _ => [(1, .int .i64 a1), (2, .int .i64 a2), (3, .pointer (some ⟨b2_, 0, none⟩)), (6, .int .i64 0), (24, .bool j34_)]) (fun _ => [.b b2_ (.cells #[.int .i64 a0_0, .int .i64 a0_1, .int .i64 a0_2, .int .i64 a0_3, .int .i64 a0_4, .int .i64 a0_5, .int .i64 a0_6] 23 (0, 0))]) rfl (fun _ _ => ?_) (fun J_ => ?_)
 rcases Bool.eq_false_or_eq_true j34_ with h36_ | h36_
 subst h36_
 replace H := ite_y rfl H
 refine c_cond1 rfl rfl ?_
 refine c_seq rfl ?_
 refine r_ord (l := [0]) rfl (by kernel_rfl) (by kernel_rfl) ?_
 refine s_v rfl rfl rfl rfl (v_assign rfl rfl) ?_
 refine s_end ?_
 refine q_seq ?_
 refine c_ret rfl ?_
 refine q_then_ret ?_
 have e_ := Option.some.inj H
 subst e_
 exact q_ret (vs := [.int .i64 (-1)]) rfl (.tmp rfl .nil) [] rfl (by decide) (hX)
 subst h36_
 replace H := ite_n (by decide) H
 refine c_cond0 rfl rfl ?_
 refine c_skip rfl ?_
 refine q_seq ?_
 refine c_seq rfl ?_
 obtain ⟨t41_, e42_, H⟩ := bind_s H
 obtain ⟨t43_, e44_, H⟩ := bind_s H
 refine r_any [.b b2_ (.cells #[.int .i64 a0_0, .int .i64 a0_1, .int .i64 a0_2, .int .i64 a0_3, .int .i64 a0_4, .int .i64 a0_5, .int .i64 a0_6] 23 (0, 0))] (by kernel_rfl) rfl (by kernel_rfl) (mem_pick (idx := [0]) rfl) ?_
 refine a_v 0 rfl (by kernel_rfl) (by kernel_rfl) (by kernel_rfl) rfl rfl rfl (v_ldA [.int .i64 a0_0, .int .i64 a0_1, .int .i64 a0_2, .int .i64 a0_3, .int .i64 a0_4, .int .i64 a0_5, .int .i64 a0_6] 0 rfl Try.underlying23 rfl SZ23 rfl rfl rfl rfl) ?_
 refine a_v 2 rfl (by kernel_rfl) (by kernel_rfl) (by kernel_rfl) rfl rfl rfl (v_move rfl rfl) ?_
 refine a_v 3 rfl (by kernel_rfl) (by kernel_rfl) (by kernel_rfl) rfl rfl rfl (v_ldA [.int .i64 a0_0, .int .i64 a0_1, .int .i64 a0_2, .int .i64 a0_3, .int .i64 a0_4, .int .i64 a0_5, .int .i64 a0_6] 0 rfl Try.underlying23 rfl SZ23 rfl rfl rfl rfl) ?_
 refine a_v 7 rfl (by kernel_rfl) (by kernel_rfl) (by kernel_rfl) rfl rfl rfl (v_move rfl rfl) ?_
 refine a_1 (i := 1) (by kernel_rfl) ?_
 refine i_e rfl rfl (e_callF [] #[.agg #[.int .i64 a0_0, .int .i64 a0_1, .int .i64 a0_2, .int .i64 a0_3, .int .i64 a0_4, .int .i64 a0_5, .int .i64 a0_6]] rfl rfl rfl rfl rfl Try.func71 rfl (by decide) rfl rfl rfl rfl (fun w ht => plan_first_con a0_0 a0_1 a0_2 a0_3 a0_4 a0_5 a0_6 t41_ e42_ w _)) ?_
 refine ⟨(mem_pick (idx := [0]) rfl), ?_⟩
 refine a_1 (i := 4) (by kernel_rfl) ?_
 refine i_e rfl rfl (e_callF [] #[.agg #[.int .i64 a0_0, .int .i64 a0_1, .int .i64 a0_2, .int .i64 a0_3, .int .i64 a0_4, .int .i64 a0_5, .int .i64 a0_6]] rfl rfl rfl rfl rfl Try.func72 rfl (by decide) rfl rfl rfl rfl (fun w ht => plan_fields_con a0_0 a0_1 a0_2 a0_3 a0_4 a0_5 a0_6 t43_ e44_ w _)) ?_
 refine ⟨(mem_pick (idx := [0]) rfl), ?_⟩
 refine a_v 5 rfl (by kernel_rfl) (by kernel_rfl) (by kernel_rfl) rfl rfl rfl (v_arith rfl rfl rfl rfl) ?_
 refine a_v 6 rfl (by kernel_rfl) (by kernel_rfl) (by kernel_rfl) rfl rfl rfl (v_arith rfl rfl rfl rfl) ?_
 refine a_v 8 rfl (by kernel_rfl) (by kernel_rfl) (by kernel_rfl) rfl rfl rfl (v_arith rfl rfl rfl rfl) ?_
 refine a_v 9 rfl (by kernel_rfl) (by kernel_rfl) (by kernel_rfl) rfl rfl rfl (v_assign rfl rfl) ?_
 refine a_end (by kernel_rfl) ?_
 refine q_seq ?_
 refine c_ret rfl ?_
 have e_ := Option.some.inj H
 subst e_
 exact q_ret (vs := [.int .i64 (IntKind.wrap .i64 ((IntKind.wrap .i64 (t41_ + (IntKind.wrap .i64 (a1 * t43_)))) + a2))]) rfl (.tmp rfl .nil) [] rfl (by decide) (hX)
 clear H
 have H := e35_
 clear e35_
 refine r_ord (l := [0, 1, 2, 3, 4, 5, 6, 7, 8, 9, 10, 11, 12, 13, 14, 15, 16, 17]) rfl (by kernel_rfl) (by kernel_rfl) ?_
 refine s_v rfl rfl rfl rfl (v_ldA [.int .i64 a0_0, .int .i64 a0_1, .int .i64 a0_2, .int .i64 a0_3, .int .i64 a0_4, .int .i64 a0_5, .int .i64 a0_6] 0 rfl Try.underlying23 rfl SZ23 rfl rfl rfl rfl) ?_
 obtain ⟨t45_, e46_, H⟩ := bind_s H
 refine s_e rfl rfl (e_callF [] #[.agg #[.int .i64 a0_0, .int .i64 a0_1, .int .i64 a0_2, .int .i64 a0_3, .int .i64 a0_4, .int .i64 a0_5, .int .i64 a0_6]] rfl rfl rfl rfl rfl Try.func55 rfl (by decide) rfl rfl rfl rfl (fun w ht => plan_Right_con a0_0 a0_1 a0_2 a0_3 a0_4 a0_5 a0_6 t45_ e46_ w _)) ?_
 refine s_v rfl rfl rfl rfl (v_not rfl rfl) ?_
 refine s_v rfl rfl rfl rfl (v_move rfl rfl) ?_
 rcases Bool.eq_false_or_eq_true (!t45_) with h47_ | h47_
 replace H := ite_n (not_t (bnot_t h47_)) H
 refine s_splitv (d := 10) (t := !t45_) rfl (fun _ => ?_) (fun h48_ => absurd (h48_.symm.trans h47_) (by decide))
 refine s_no rfl rfl rfl rfl ?_
 refine s_no rfl rfl rfl rfl ?_
 refine s_no rfl rfl rfl rfl ?_
 refine s_no rfl rfl rfl rfl ?_
 refine s_no rfl rfl rfl rfl ?_
 refine s_v rfl rfl rfl rfl (v_pick rfl rfl rfl rfl) ?_
 refine s_v rfl rfl rfl rfl (v_move rfl rfl) ?_
 refine s_no rfl rfl rfl rfl ?_
 refine s_no rfl rfl rfl rfl ?_
 refine s_no rfl rfl rfl rfl ?_
 refine s_no rfl rfl rfl rfl ?_
 refine s_no rfl rfl rfl rfl ?_
 refine s_no rfl rfl rfl rfl ?_
 refine s_v rfl rfl rfl rfl (v_pick rfl rfl rfl rfl) ?_
 refine s_end ?_
 have hq_0 := Option.some.inj H
 subst hq_0
 exact q_seq (c_frame (subF_spec (by exact ⟨rfl, rfl, rfl, rfl, rfl, trivial⟩)) (c_take [0] rfl (by decide) (J_ () trivial)))
 replace H := ite_y (bnot_f h47_) H
 refine s_splitv (d := 10) (t := !t45_) rfl (fun h49_ => absurd (h49_.symm.trans h47_) (by decide)) (fun _ => ?_)
 refine s_vg rfl rfl rfl rfl (v_move rfl rfl) ?_
 refine s_vg rfl rfl rfl rfl (v_fa rfl Try.underlying23 rfl SZ3 rfl) ?_
 refine s_vg rfl rfl rfl rfl (v_ld 0 rfl Try.underlying3 rfl rfl rfl rfl) ?_
 obtain ⟨t50_, e51_, H⟩ := bind_s H
 refine s_eg rfl rfl (e_callF [] #[.int .i64 a1, .int .i64 0, .int .i64 a0_2] rfl rfl rfl rfl rfl Try.func70 rfl (by decide) rfl rfl rfl rfl (fun w ht => plan_within_con a1 0 a0_2 t50_ e51_ w _)) ?_
 refine s_vg rfl rfl rfl rfl (v_not rfl rfl) ?_
 refine s_v rfl rfl rfl rfl (v_pick rfl rfl rfl rfl) ?_
 refine s_v rfl rfl rfl rfl (v_move rfl rfl) ?_
 rcases Bool.eq_false_or_eq_true (!t50_) with h52_ | h52_
 replace H := ite_n (not_t (bnot_t h52_)) H
 refine s_splitv (d := 17) (t := !t50_) rfl (fun _ => ?_) (fun h53_ => absurd (h53_.symm.trans h52_) (by decide))
 refine s_no rfl rfl rfl rfl ?_
 refine s_no rfl rfl rfl rfl ?_
 refine s_no rfl rfl rfl rfl ?_
 refine s_no rfl rfl rfl rfl ?_
 refine s_no rfl rfl rfl rfl ?_
 refine s_no rfl rfl rfl rfl ?_
 refine s_v rfl rfl rfl rfl (v_pick rfl rfl rfl rfl) ?_
 refine s_end ?_
 have hq_0 := Option.some.inj H
 subst hq_0
 exact q_seq (c_frame (subF_spec (by exact ⟨rfl, rfl, rfl, rfl, rfl, trivial⟩)) (c_take [0] rfl (by decide) (J_ () trivial)))
 replace H := ite_y (bnot_f h52_) H
 refine s_splitv (d := 17) (t := !t50_) rfl (fun h54_ => absurd (h54_.symm.trans h52_) (by decide)) (fun _ => ?_)
 refine s_vg rfl rfl rfl rfl (v_move rfl rfl) ?_
 refine s_vg rfl rfl rfl rfl (v_ldA [.int .i64 a0_0, .int .i64 a0_1, .int .i64 a0_2, .int .i64 a0_3, .int .i64 a0_4, .int .i64 a0_5, .int .i64 a0_6] 0 rfl Try.underlying23 rfl SZ23 rfl rfl rfl rfl) ?_
 obtain ⟨t55_, e56_, H⟩ := bind_s H
 refine s_eg rfl rfl (e_callF [] #[.agg #[.int .i64 a0_0, .int .i64 a0_1, .int .i64 a0_2, .int .i64 a0_3, .int .i64 a0_4, .int .i64 a0_5, .int .i64 a0_6]] rfl rfl rfl rfl rfl Try.func72 rfl (by decide) rfl rfl rfl rfl (fun w ht => plan_fields_con a0_0 a0_1 a0_2 a0_3 a0_4 a0_5 a0_6 t55_ e56_ w _)) ?_
 refine s_vg rfl rfl rfl rfl (v_arith rfl rfl rfl rfl) ?_
 obtain ⟨t57_, e58_, H⟩ := bind_s H
 refine s_eg rfl rfl (e_callF [] #[.int .i64 a2, .int .i64 0, .int .i64 (IntKind.wrap .i64 (t55_ - 1))] rfl rfl rfl rfl rfl Try.func70 rfl (by decide) rfl rfl rfl rfl (fun w ht => plan_within_con a2 0 (IntKind.wrap .i64 (t55_ - 1)) t57_ e58_ w _)) ?_
 refine s_vg rfl rfl rfl rfl (v_not rfl rfl) ?_
 refine s_v rfl rfl rfl rfl (v_pick rfl rfl rfl rfl) ?_
 refine s_end ?_
 have hq_0 := Option.some.inj H
 subst hq_0
 exact q_seq (c_frame (subF_spec (by exact ⟨rfl, rfl, rfl, rfl, rfl, trivial⟩)) (c_take [0] rfl (by decide) (J_ () trivial)))
def shape_words_at.f (a0_0 : Int) (a0_1 : Int) (a0_2 : Int) (a0_3 : Int) (a0_4 : Int) (a0_5 : Int) (a0_6 : Int) (l0_7 : List Int) (a1 : Int) (a2 : Int) : Option Int := (plan_Cell.f a0_0 a0_1 a0_2 a0_3 a0_4 a0_5 a0_6 a1 a2).bind fun t7_ => (if 0 ≤ (t7_ : Int) then (if (t7_ : Int) < (l0_7.length : Int) then some (rd l0_7 t7_) else none) else none)
set_option maxRecDepth 100000 in
set_option maxHeartbeats 4000000 in
theorem shape_words_at_con (a0_0 : Int) (a0_1 : Int) (a0_2 : Int) (a0_3 : Int) (a0_4 : Int) (a0_5 : Int) (a0_6 : Int) (A0_7 : Option Addr) (c0_7 : Nat) (l0_7 : List Int) (a1 : Int) (a2 : Int) (r0 : Int) (h : shape_words_at.f a0_0 a0_1 a0_2 a0_3 a0_4 a0_5 a0_6 l0_7 a1 a2 = some r0) (w0 : World) (Hs : List Nat) : Con Try.prog 28 #[.agg #[.int .i64 a0_0, .int .i64 a0_1, .int .i64 a0_2, .int .i64 a0_3, .int .i64 a0_4, .int .i64 a0_5, .int .i64 a0_6, .slice A0_7 l0_7.length c0_7], .int .i64 a1, .int .i64 a2] w0 Hs [.f (KC (Kd.int .u64) A0_7 c0_7 l0_7)] (fun X => X (.int .u64 r0) []) := by
  refine con_enter (c := bodyOf Try.f28) Try.func28 rfl (m := 16) rfl rfl rfl ?_
  intro X hX _
  have H := h
  unfold shape_words_at.f at H
  clear h
  refine c_seq rfl ?_
  refine r_ord (l := [0, 1]) rfl (by kernel_rfl) (by kernel_rfl) ?_
  refine s_e rfl rfl (e_box rfl rfl rfl rfl) ?_
  intro b2_
  refine s_v rfl rfl rfl rfl (v_assign rfl rfl) ?_
  refine s_end ?_
  refine q_seq ?_
  refine c_seq rfl ?_
  obtain ⟨t7_, e8_, H⟩ := bind_s H
  obtain ⟨n9_, H⟩ := ite_no H
  obtain ⟨n10_, H⟩ := ite_no H
  refine r_any [.b b2_ (.cells #[.int .i64 a0_0, .int .i64 a0_1, .int .i64 a0_2, .int .i64 a0_3, .int .i64 a0_4, .int .i64 a0_5, .int .i64 a0_6, .slice A0_7 l0_7.length c0_7] 63 (0, 0)), .f (KC (Kd.int .u64) A0_7 c0_7 l0_7)] (by kernel_rfl) rfl (by kernel_rfl) (mem_pick (idx := [0, 1]) rfl) ?_
  refine a_v 0 rfl (by kernel_rfl) (by kernel_rfl) (by kernel_rfl) rfl rfl rfl (v_fa rfl Try.underlying63 rfl SZ24 rfl) ?_
  refine a_v 1 rfl (by kernel_rfl) (by kernel_rfl) (by kernel_rfl) rfl rfl rfl (v_ld 0 rfl Try.underlying24 rfl rfl rfl rfl) ?_
  refine a_v 2 rfl (by kernel_rfl) (by kernel_rfl) (by kernel_rfl) rfl rfl rfl (v_fa rfl Try.underlying63 rfl SZ23 rfl) ?_
  refine a_v 3 rfl (by kernel_rfl) (by kernel_rfl) (by kernel_rfl) rfl rfl rfl (v_ldA [.int .i64 a0_0, .int .i64 a0_1, .int .i64 a0_2, .int .i64 a0_3, .int .i64 a0_4, .int .i64 a0_5, .int .i64 a0_6] 0 rfl Try.underlying23 rfl SZ23 rfl rfl rfl rfl) ?_
  refine a_v 4 rfl (by kernel_rfl) (by kernel_rfl) (by kernel_rfl) rfl rfl rfl (v_move rfl rfl) ?_
  refine a_v 5 rfl (by kernel_rfl) (by kernel_rfl) (by kernel_rfl) rfl rfl rfl (v_move rfl rfl) ?_
  refine a_1 (i := 6) (by kernel_rfl) ?_
  refine i_e rfl rfl (e_callF [] #[.agg #[.int .i64 a0_0, .int .i64 a0_1, .int .i64 a0_2, .int .i64 a0_3, .int .i64 a0_4, .int .i64 a0_5, .int .i64 a0_6], .int .i64 a1, .int .i64 a2] rfl rfl rfl rfl rfl Try.func60 rfl (by decide) rfl rfl rfl rfl (fun w ht => plan_Cell_con a0_0 a0_1 a0_2 a0_3 a0_4 a0_5 a0_6 a1 a2 t7_ e8_ w _)) ?_
  refine ⟨(mem_pick (idx := [0, 1]) rfl), ?_⟩
  refine a_v 7 rfl (by kernel_rfl) (by kernel_rfl) (by kernel_rfl) rfl rfl rfl (v_iaK (i := 1) rfl Try.underlying24 SZ25 rfl rfl rfl rfl n9_ n10_) ?_
  refine a_v 8 rfl (by kernel_rfl) (by kernel_rfl) (by kernel_rfl) rfl rfl rfl (v_ldK (v := .int .u64 (rd l0_7 t7_)) 0 1 rfl Try.underlying25 rfl rfl rfl rfl n9_ n10_ (fun w K h => h)) ?_
  refine a_v 9 rfl (by kernel_rfl) (by kernel_rfl) (by kernel_rfl) rfl rfl rfl (v_assign rfl rfl) ?_
  refine a_end (by kernel_rfl) ?_
  refine q_seq ?_
  refine c_ret rfl ?_
  have e_ := Option.some.inj H
  subst e_
  exact q_ret (vs := [.int .u64 (rd l0_7 t7_)]) rfl (.tmp rfl .nil) [] rfl (by decide) (hX)
def plan_Len.f (a0_0 : Int) (a0_1 : Int) (a0_2 : Int) (a0_3 : Int) (a0_4 : Int) (a0_5 : Int) (a0_6 : Int) : Option Int := (plan_Right.f a0_0 a0_1 a0_2 a0_3 a0_4 a0_5 a0_6).bind fun t10_ => (if t10_ = true then (plan_first.f a0_0 a0_1 a0_2 a0_3 a0_4 a0_5 a0_6).bind fun t19_ => (plan_fields.f a0_0 a0_1 a0_2 a0_3 a0_4 a0_5 a0_6).bind fun t21_ => some (IntKind.wrap .i64 (t19_ + (IntKind.wrap .i64 ((IntKind.wrap .i64 (a0_2 + 1)) * t21_)))) else some 0)
set_option maxRecDepth 100000 in
set_option maxHeartbeats 4000000 in
theorem plan_Len_con (a0_0 : Int) (a0_1 : Int) (a0_2 : Int) (a0_3 : Int) (a0_4 : Int) (a0_5 : Int) (a0_6 : Int) (r0 : Int) (h : plan_Len.f a0_0 a0_1 a0_2 a0_3 a0_4 a0_5 a0_6 = some r0) (w0 : World) (Hs : List Nat) : Con Try.prog 56 #[.agg #[.int .i64 a0_0, .int .i64 a0_1, .int .i64 a0_2, .int .i64 a0_3, .int .i64 a0_4, .int .i64 a0_5, .int .i64 a0_6]] w0 Hs [] (fun X => X (.int .i64 r0) []) := by
 refine con_enter (c := bodyOf Try.f56) Try.func56 rfl (m := 15) rfl rfl rfl ?_
 intro X hX _
 have H := h
 unfold plan_Len.f at H
 clear h
 refine c_seq rfl ?_
 refine r_ord (l := [0, 1]) rfl (by kernel_rfl) (by kernel_rfl) ?_
 refine s_e rfl rfl (e_box rfl rfl rfl rfl) ?_
 intro b2_
 refine s_v rfl rfl rfl rfl (v_assign rfl rfl) ?_
 refine s_end ?_
 refine q_seq ?_
 refine c_seq rfl ?_
 refine c_seq rfl ?_
 refine r_ord (l := [0, 1, 2]) rfl (by kernel_rfl) (by kernel_rfl) ?_
 refine s_v rfl rfl rfl rfl (v_ldA [.int .i64 a0_0, .int .i64 a0_1, .int .i64 a0_2, .int .i64 a0_3, .int .i64 a0_4, .int .i64 a0_5, .int .i64 a0_6] 0 rfl Try.underlying23 rfl SZ23 rfl rfl rfl rfl) ?_
 obtain ⟨t10_, e11_, H⟩ := bind_s H
 refine s_e rfl rfl (e_callF [] #[.agg #[.int .i64 a0_0, .int .i64 a0_1, .int .i64 a0_2, .int .i64 a0_3, .int .i64 a0_4, .int .i64 a0_5, .int .i64 a0_6]] rfl rfl rfl rfl rfl Try.func55 rfl (by decide) rfl rfl rfl rfl (fun w ht => plan_Right_con a0_0 a0_1 a0_2 a0_3 a0_4 a0_5 a0_6 t10_ e11_ w _)) ?_
 refine s_v rfl rfl rfl rfl (v_not rfl rfl) ?_
 refine s_end ?_
 refine q_seq ?_
 rcases Bool.eq_false_or_eq_true (!t10_) with h12_ | h12_
 replace H := ite_n (not_t (bnot_t h12_)) H
 refine c_cond rfl rfl (fun _ => ?_) (fun h13_ => absurd (h13_.symm.trans h12_) (by decide))
 refine c_seq rfl ?_
 refine r_ord (l := [0]) rfl (by kernel_rfl) (by kernel_rfl) ?_
 refine s_v rfl rfl rfl rfl (v_assign rfl rfl) ?_
 refine s_end ?_
 refine q_seq ?_
 refine c_ret rfl ?_
 refine q_then_ret ?_
 have e_ := Option.some.inj H
 subst e_
 exact q_ret (vs := [.int .i64 0]) rfl (.tmp rfl .nil) [] rfl (by decide) (hX)
 replace H := ite_y (bnot_f h12_) H
 refine c_cond rfl rfl (fun h14_ => absurd (h14_.symm.trans h12_) (by decide)) (fun _ => ?_)
 refine c_skip rfl ?_
 refine q_seq ?_
 refine c_seq rfl ?_
 obtain ⟨t19_, e20_, H⟩ := bind_s H
 obtain ⟨t21_, e22_, H⟩ := bind_s H
 refine r_any [.b b2_ (.cells #[.int .i64 a0_0, .int .i64 a0_1, .int .i64 a0_2, .int .i64 a0_3, .int .i64 a0_4, .int .i64 a0_5, .int .i64 a0_6] 23 (0, 0))] (by kernel_rfl) rfl (by kernel_rfl) (mem_pick (idx := [0]) rfl) ?_
 refine a_v 0 rfl (by kernel_rfl) (by kernel_rfl) (by kernel_rfl) rfl rfl rfl (v_ldA [.int .i64 a0_0, .int .i64 a0_1, .int .i64 a0_2, .int .i64 a0_3, .int .i64 a0_4, .int .i64 a0_5, .int .i64 a0_6] 0 rfl Try.underlying23 rfl SZ23 rfl rfl rfl rfl) ?_
 refine a_v 2 rfl (by kernel_rfl) (by kernel_rfl) (by kernel_rfl) rfl rfl rfl (v_fa rfl Try.underlying23 rfl SZ3 rfl) ?_
 refine a_v 3 rfl (by kernel_rfl) (by kernel_rfl) (by kernel_rfl) rfl rfl rfl (v_ld 0 rfl Try.underlying3 rfl rfl rfl rfl) ?_
 refine a_v 4 rfl (by kernel_rfl) (by kernel_rfl) (by kernel_rfl) rfl rfl rfl (v_arith rfl rfl rfl rfl) ?_
 refine a_v 5 rfl (by kernel_rfl) (by kernel_rfl) (by kernel_rfl) rfl rfl rfl (v_ldA [.int .i64 a0_0, .int .i64 a0_1, .int .i64 a0_2, .int .i64 a0_3, .int .i64 a0_4, .int .i64 a0_5, .int .i64 a0_6] 0 rfl Try.underlying23 rfl SZ23 rfl rfl rfl rfl) ?_
 refine a_1 (i := 1) (by kernel_rfl) ?_
 refine i_e rfl rfl (e_callF [] #[.agg #[.int .i64 a0_0, .int .i64 a0_1, .int .i64 a0_2, .int .i64 a0_3, .int .i64 a0_4, .int .i64 a0_5, .int .i64 a0_6]] rfl rfl rfl rfl rfl Try.func71 rfl (by decide) rfl rfl rfl rfl (fun w ht => plan_first_con a0_0 a0_1 a0_2 a0_3 a0_4 a0_5 a0_6 t19_ e20_ w _)) ?_
 refine ⟨(mem_pick (idx := [0]) rfl), ?_⟩
 refine a_1 (i := 6) (by kernel_rfl) ?_
 refine i_e rfl rfl (e_callF [] #[.agg #[.int .i64 a0_0, .int .i64 a0_1, .int .i64 a0_2, .int .i64 a0_3, .int .i64 a0_4, .int .i64 a0_5, .int .i64 a0_6]] rfl rfl rfl rfl rfl Try.func72 rfl (by decide) rfl rfl rfl rfl (fun w ht => plan_fields_con a0_0 a0_1 a0_2 a0_3 a0_4 a0_5 a0_6 t21_ e22_ w _)) ?_
 refine ⟨(mem_pick (idx := [0]) rfl), ?_⟩
 refine a_v 7 rfl (by kernel_rfl) (by kernel_rfl) (by kernel_rfl) rfl rfl rfl (v_arith rfl rfl rfl rfl) ?_
 refine a_v 8 rfl (by kernel_rfl) (by kernel_rfl) (by kernel_rfl) rfl rfl rfl (v_arith rfl rfl rfl rfl) ?_
 refine a_v 9 rfl (by kernel_rfl) (by kernel_rfl) (by kernel_rfl) rfl rfl rfl (v_assign rfl rfl) ?_
 refine a_end (by kernel_rfl) ?_
 refine q_seq ?_
 refine c_ret rfl ?_
 have e_ := Option.some.inj H
 subst e_
 exact q_ret (vs := [.int .i64 (IntKind.wrap .i64 (t19_ + (IntKind.wrap .i64 ((IntKind.wrap .i64 (a0_2 + 1)) * t21_))))]) rfl (.tmp rfl .nil) [] rfl (by decide) (hX)
def shape_words_whole.f (a0_0 : Int) (a0_1 : Int) (a0_2 : Int) (a0_3 : Int) (a0_4 : Int) (a0_5 : Int) (a0_6 : Int) (l0_7 : List Int) : Option Bool := ((plan_Right.f a0_0 a0_1 a0_2 a0_3 a0_4 a0_5 a0_6).bind fun t10_ => (if t10_ = true then (plan_Len.f a0_0 a0_1 a0_2 a0_3 a0_4 a0_5 a0_6).bind fun t13_ => some (((l0_7.length : Int) : Int) == t13_) else some false) : Option Bool).bind fun j8_ => some j8_
set_option maxRecDepth 100000 in
set_option maxHeartbeats 4000000 in
theorem shape_words_whole_con (a0_0 : Int) (a0_1 : Int) (a0_2 : Int) (a0_3 : Int) (a0_4 : Int) (a0_5 : Int) (a0_6 : Int) (A0_7 : Option Addr) (c0_7 : Nat) (l0_7 : List Int) (r0 : Bool) (h : shape_words_whole.f a0_0 a0_1 a0_2 a0_3 a0_4 a0_5 a0_6 l0_7 = some r0) (w0 : World) (Hs : List Nat) : Con Try.prog 25 #[.agg #[.int .i64 a0_0, .int .i64 a0_1, .int .i64 a0_2, .int .i64 a0_3, .int .i64 a0_4, .int .i64 a0_5, .int .i64 a0_6, .slice A0_7 l0_7.length c0_7]] w0 Hs [.f (KC (Kd.int .u64) A0_7 c0_7 l0_7)] (fun X => X (.bool r0) []) := by
 refine con_enter (c := bodyOf Try.f25) Try.func25 rfl (m := 15) rfl rfl rfl ?_
 intro X hX _
 have H := h
 unfold shape_words_whole.f at H
 clear h
 refine c_seq rfl ?_
 refine r_ord (l := [0, 1]) rfl (by kernel_rfl) (by kernel_rfl) ?_
 refine s_e rfl rfl (e_box rfl rfl rfl rfl) ?_
 intro b2_
 refine s_v rfl rfl rfl rfl (v_assign rfl rfl) ?_
 refine s_end ?_
 refine q_seq ?_
 obtain ⟨j8_, e9_, H⟩ := bind_s H
 refine c_join (β := Unit) (fun _ => True) (fun _ => [(2, .bool j8_)]) (fun _ => [.b b2_ (.cells #[.int .i64 a0_0, .int .i64 a0_1, .int .i64 a0_2, .int .i64 a0_3, .int .i64 a0_4, .int .i64 a0_5, .int .i64 a0_6, .slice A0_7 l0_7.length c0_7] 63 (0, 0)), .f (KC (Kd.int .u64) A0_7 c0_7 l0_7)]) rfl (fun _ _ => ?_) (fun J_ => ?_)
 refine c_ret rfl ?_
 have e_ := Option.some.inj H
 subst e_
 exact q_ret (vs := [.bool j8_]) rfl (.tmp rfl .nil) [] rfl (by decide) (hX)
 clear H
 have H := e9_
 clear e9_
 obtain ⟨t10_, e11_, H⟩ := bind_s H
 rcases Bool.eq_false_or_eq_true t10_ with h12_ | h12_
 subst h12_
 replace H := ite_y rfl H
 obtain ⟨t13_, e14_, H⟩ := bind_s H
 refine r_any [.b b2_ (.cells #[.int .i64 a0_0, .int .i64 a0_1, .int .i64 a0_2, .int .i64 a0_3, .int .i64 a0_4, .int .i64 a0_5, .int .i64 a0_6, .slice A0_7 l0_7.length c0_7] 63 (0, 0)), .f (KC (Kd.int .u64) A0_7 c0_7 l0_7)] (by kernel_rfl) rfl (by kernel_rfl) (mem_pick (idx := [0, 1]) rfl) ?_
 refine a_v 0 rfl (by kernel_rfl) (by kernel_rfl) (by kernel_rfl) rfl rfl rfl (v_fa rfl Try.underlying63 rfl SZ23 rfl) ?_
 refine a_v 1 rfl (by kernel_rfl) (by kernel_rfl) (by kernel_rfl) rfl rfl rfl (v_ldA [.int .i64 a0_0, .int .i64 a0_1, .int .i64 a0_2, .int .i64 a0_3, .int .i64 a0_4, .int .i64 a0_5, .int .i64 a0_6] 0 rfl Try.underlying23 rfl SZ23 rfl rfl rfl rfl) ?_
 refine a_1 (i := 2) (by kernel_rfl) ?_
 refine i_e rfl rfl (e_callF [] #[.agg #[.int .i64 a0_0, .int .i64 a0_1, .int .i64 a0_2, .int .i64 a0_3, .int .i64 a0_4, .int .i64 a0_5, .int .i64 a0_6]] rfl rfl rfl rfl rfl Try.func55 rfl (by decide) rfl rfl rfl rfl (fun w ht => plan_Right_con a0_0 a0_1 a0_2 a0_3 a0_4 a0_5 a0_6 true e11_ w _)) ?_
 refine ⟨(mem_pick (idx := [0, 1]) rfl), ?_⟩
 refine a_v 3 rfl (by kernel_rfl) (by kernel_rfl) (by kernel_rfl) rfl rfl rfl (v_move rfl rfl) ?_
 refine a_v 4 rfl (by kernel_rfl) (by kernel_rfl) (by kernel_rfl) rfl rfl rfl (v_fa rfl Try.underlying63 rfl SZ24 rfl) ?_
 refine a_v 5 rfl (by kernel_rfl) (by kernel_rfl) (by kernel_rfl) rfl rfl rfl (v_ld 0 rfl Try.underlying24 rfl rfl rfl rfl) ?_
 refine a_v 6 rfl (by kernel_rfl) (by kernel_rfl) (by kernel_rfl) rfl rfl rfl (v_len rfl rfl rfl Try.underlying24 rfl rfl) ?_
 refine a_v 7 rfl (by kernel_rfl) (by kernel_rfl) (by kernel_rfl) rfl rfl rfl (v_fa rfl Try.underlying63 rfl SZ23 rfl) ?_
 refine a_v 8 rfl (by kernel_rfl) (by kernel_rfl) (by kernel_rfl) rfl rfl rfl (v_ldA [.int .i64 a0_0, .int .i64 a0_1, .int .i64 a0_2, .int .i64 a0_3, .int .i64 a0_4, .int .i64 a0_5, .int .i64 a0_6] 0 rfl Try.underlying23 rfl SZ23 rfl rfl rfl rfl) ?_
 refine a_1 (i := 9) (by kernel_rfl) ?_
 refine i_e rfl rfl (e_callF [] #[.agg #[.int .i64 a0_0, .int .i64 a0_1, .int .i64 a0_2, .int .i64 a0_3, .int .i64 a0_4, .int .i64 a0_5, .int .i64 a0_6]] rfl rfl rfl rfl rfl Try.func56 rfl (by decide) rfl rfl rfl rfl (fun w ht => plan_Len_con a0_0 a0_1 a0_2 a0_3 a0_4 a0_5 a0_6 t13_ e14_ w _)) ?_
 refine ⟨(mem_pick (idx := [0, 1]) rfl), ?_⟩
 refine a_v 10 rfl (by kernel_rfl) (by kernel_rfl) (by kernel_rfl) rfl rfl rfl (v_arith rfl rfl rfl rfl) ?_
 refine a_v 11 rfl (by kernel_rfl) (by kernel_rfl) (by kernel_rfl) rfl rfl rfl (v_pick rfl rfl rfl rfl) ?_
 refine a_v 12 rfl (by kernel_rfl) (by kernel_rfl) (by kernel_rfl) rfl rfl rfl (v_assign rfl rfl) ?_
 refine a_end (by kernel_rfl) ?_
 have hq_0 := Option.some.inj H
 subst hq_0
 exact q_seq (c_frame (subF_spec (by exact ⟨rfl, trivial⟩)) (c_take [0, 1] rfl (by decide) (J_ () trivial)))
 subst h12_
 replace H := ite_n (by decide) H
 refine r_any [.b b2_ (.cells #[.int .i64 a0_0, .int .i64 a0_1, .int .i64 a0_2, .int .i64 a0_3, .int .i64 a0_4, .int .i64 a0_5, .int .i64 a0_6, .slice A0_7 l0_7.length c0_7] 63 (0, 0)), .f (KC (Kd.int .u64) A0_7 c0_7 l0_7)] (by kernel_rfl) rfl (by kernel_rfl) (mem_pick (idx := [0, 1]) rfl) ?_
 refine a_v 0 rfl (by kernel_rfl) (by kernel_rfl) (by kernel_rfl) rfl rfl rfl (v_fa rfl Try.underlying63 rfl SZ23 rfl) ?_
 refine a_v 1 rfl (by kernel_rfl) (by kernel_rfl) (by kernel_rfl) rfl rfl rfl (v_ldA [.int .i64 a0_0, .int .i64 a0_1, .int .i64 a0_2, .int .i64 a0_3, .int .i64 a0_4, .int .i64 a0_5, .int .i64 a0_6] 0 rfl Try.underlying23 rfl SZ23 rfl rfl rfl rfl) ?_
 refine a_1 (i := 2) (by kernel_rfl) ?_
 refine i_e rfl rfl (e_callF [] #[.agg #[.int .i64 a0_0, .int .i64 a0_1, .int .i64 a0_2, .int .i64 a0_3, .int .i64 a0_4, .int .i64 a0_5, .int .i64 a0_6]] rfl rfl rfl rfl rfl Try.func55 rfl (by decide) rfl rfl rfl rfl (fun w ht => plan_Right_con a0_0 a0_1 a0_2 a0_3 a0_4 a0_5 a0_6 false e11_ w _)) ?_
 refine ⟨(mem_pick (idx := [0, 1]) rfl), ?_⟩
 refine a_v 3 rfl (by kernel_rfl) (by kernel_rfl) (by kernel_rfl) rfl rfl rfl (v_move rfl rfl) ?_
 refine a_no 4 rfl (by kernel_rfl) (by kernel_rfl) (by kernel_rfl) rfl rfl rfl ?_
 refine a_no 5 rfl (by kernel_rfl) (by kernel_rfl) (by kernel_rfl) rfl rfl rfl ?_
 refine a_no 6 rfl (by kernel_rfl) (by kernel_rfl) (by kernel_rfl) rfl rfl rfl ?_
 refine a_no 7 rfl (by kernel_rfl) (by kernel_rfl) (by kernel_rfl) rfl rfl rfl ?_
 refine a_no 8 rfl (by kernel_rfl) (by kernel_rfl) (by kernel_rfl) rfl rfl rfl ?_
 refine a_no 9 rfl (by kernel_rfl) (by kernel_rfl) (by kernel_rfl) rfl rfl rfl ?_
 refine a_no 10 rfl (by kernel_rfl) (by kernel_rfl) (by kernel_rfl) rfl rfl rfl ?_
 refine a_v 11 rfl (by kernel_rfl) (by kernel_rfl) (by kernel_rfl) rfl rfl rfl (v_pick rfl rfl rfl rfl) ?_
 refine a_v 12 rfl (by kernel_rfl) (by kernel_rfl) (by kernel_rfl) rfl rfl rfl (v_assign rfl rfl) ?_
 refine a_end (by kernel_rfl) ?_
 have hq_0 := Option.some.inj H
 subst hq_0
 exact q_seq (c_frame (subF_spec (by exact ⟨rfl, trivial⟩)) (c_take [0, 1] rfl (by decide) (J_ () trivial)))
def slot_word_right.f (a0_0 : Int) (a0_1 : Int) : Option Bool := some (((a0_0 : Int) == (if (0 : Int) < (if (2 : Int) < a0_0 then 2 else a0_0) then (if (2 : Int) < a0_0 then 2 else a0_0) else 0)) && (((a0_1 : Int) == (if (0 : Int) < (if (1073741823 : Int) < a0_1 then 1073741823 else a0_1) then (if (1073741823 : Int) < a0_1 then 1073741823 else a0_1) else 0))))
set_option maxRecDepth 100000 in
set_option maxHeartbeats 4000000 in
theorem slot_word_right_con (a0_0 : Int) (a0_1 : Int) (r0 : Bool) (h : slot_word_right.f a0_0 a0_1 = some r0) (w0 : World) (Hs : List Nat) : Con Try.prog 79 #[.agg #[.int .i64 a0_0, .int .i64 a0_1]] w0 Hs [] (fun X => X (.bool r0) []) := by
  refine con_enter (c := bodyOf Try.f79) Try.func79 rfl (m := 16) rfl rfl rfl ?_
  intro X hX _
  have H := h
  unfold slot_word_right.f at H
  clear h
  refine c_seq rfl ?_
  refine r_ord (l := [0, 1]) rfl (by kernel_rfl) (by kernel_rfl) ?_
  refine s_e rfl rfl (e_box rfl rfl rfl rfl) ?_
  intro b2_
  refine s_v rfl rfl rfl rfl (v_assign rfl rfl) ?_
  refine s_end ?_
  refine q_seq ?_
  refine c_seq rfl ?_
  refine r_ord (l := [0, 1, 2, 3, 4, 5, 6, 7, 8, 9, 10]) rfl (by kernel_rfl) (by kernel_rfl) ?_
  refine s_v rfl rfl rfl rfl (v_fa rfl Try.underlying104 rfl SZ3 rfl) ?_
  refine s_v rfl rfl rfl rfl (v_ld 0 rfl Try.underlying3 rfl rfl rfl rfl) ?_
  refine s_v rfl rfl rfl rfl (v_min (x := .tmp 0) (y := .tmp 0) rfl rfl rfl) ?_
  refine s_v rfl rfl rfl rfl (v_max (x := .tmp 0) (y := .tmp 0) rfl rfl rfl) ?_
  refine s_v rfl rfl rfl rfl (v_fa rfl Try.underlying104 rfl SZ3 rfl) ?_
  refine s_v rfl rfl rfl rfl (v_ld 0 rfl Try.underlying3 rfl rfl rfl rfl) ?_
  refine s_v rfl rfl rfl rfl (v_min (x := .tmp 0) (y := .tmp 0) rfl rfl rfl) ?_
  refine s_v rfl rfl rfl rfl (v_max (x := .tmp 0) (y := .tmp 0) rfl rfl rfl) ?_
  refine s_v rfl rfl rfl rfl (v_build (places := #[(0, 1), (1, 1)]) #[.int .i64 (if (0 : Int) < (if (2 : Int) < a0_0 then 2 else a0_0) then (if (2 : Int) < a0_0 then 2 else a0_0) else 0), .int .i64 (if (0 : Int) < (if (1073741823 : Int) < a0_1 then 1073741823 else a0_1) then (if (1073741823 : Int) < a0_1 then 1073741823 else a0_1) else 0)] rfl ZR104 Try.underlying104 (by kernel_rfl) rfl (by kernel_rfl)) ?_
  refine s_e rfl rfl (e_alloc rfl rfl rfl ZR104) ?_
  intro b4_
  refine s_e rfl rfl (e_stA 0 rfl rfl SZ104 rfl rfl rfl rfl rfl rfl) ?_
  refine s_end ?_
  refine q_seq ?_
  refine c_seq rfl ?_
  refine r_ord (l := [0, 1, 2, 3]) rfl (by kernel_rfl) (by kernel_rfl) ?_
  refine s_v rfl rfl rfl rfl (v_ldA [.int .i64 a0_0, .int .i64 a0_1] 1 rfl Try.underlying104 rfl SZ104 rfl rfl rfl rfl) ?_
  refine s_v rfl rfl rfl rfl (v_ldA [.int .i64 (if (0 : Int) < (if (2 : Int) < a0_0 then 2 else a0_0) then (if (2 : Int) < a0_0 then 2 else a0_0) else 0), .int .i64 (if (0 : Int) < (if (1073741823 : Int) < a0_1 then 1073741823 else a0_1) then (if (1073741823 : Int) < a0_1 then 1073741823 else a0_1) else 0)] 0 rfl Try.underlying104 rfl SZ104 rfl rfl rfl rfl) ?_
  refine s_v rfl rfl rfl rfl (v_eqA rfl rfl rfl (by kernel_rfl) (eqS104 a0_0 a0_1 (if (0 : Int) < (if (2 : Int) < a0_0 then 2 else a0_0) then (if (2 : Int) < a0_0 then 2 else a0_0) else 0) (if (0 : Int) < (if (1073741823 : Int) < a0_1 then 1073741823 else a0_1) then (if (1073741823 : Int) < a0_1 then 1073741823 else a0_1) else 0))) ?_
  refine s_v rfl rfl rfl rfl (v_assign rfl rfl) ?_
  refine s_end ?_
  refine q_seq ?_
  refine c_ret rfl ?_
  have e_ := Option.some.inj H
  subst e_
  exact q_ret (vs := [.bool (((a0_0 : Int) == (if (0 : Int) < (if (2 : Int) < a0_0 then 2 else a0_0) then (if (2 : Int) < a0_0 then 2 else a0_0) else 0)) && (((a0_1 : Int) == (if (0 : Int) < (if (1073741823 : Int) < a0_1 then 1073741823 else a0_1) then (if (1073741823 : Int) < a0_1 then 1073741823 else a0_1) else 0))))]) rfl (.tmp rfl .nil) [] rfl (by decide) (hX)
def slot_word_packed.f (a0_0 : Int) (a0_1 : Int) : Option Int := some (IntKind.wrap .u64 (BitVec.ofInt (IntKind.bits .u64) (IntKind.wrap .u64 ((IntKind.wrap .u64 a0_1) * 2 ^ (min (Int.toNat 2) (IntKind.bits .u64)))) ||| BitVec.ofInt (IntKind.bits .u64) (IntKind.wrap .u64 a0_0)).toNat)
set_option maxRecDepth 100000 in
set_option maxHeartbeats 4000000 in
theorem slot_word_packed_con (a0_0 : Int) (a0_1 : Int) (r0 : Int) (h : slot_word_packed.f a0_0 a0_1 = some r0) (w0 : World) (Hs : List Nat) : Con Try.prog 80 #[.agg #[.int .i64 a0_0, .int .i64 a0_1]] w0 Hs [] (fun X => X (.int .u64 r0) []) := by
  refine con_enter (c := bodyOf Try.f80) Try.func80 rfl (m := 11) rfl rfl rfl ?_
  intro X hX _
  have H := h
  unfold slot_word_packed.f at H
  clear h
  refine c_seq rfl ?_
  refine r_ord (l := [0, 1]) rfl (by kernel_rfl) (by kernel_rfl) ?_
  refine s_e rfl rfl (e_box rfl rfl rfl rfl) ?_
  intro b2_
  refine s_v rfl rfl rfl rfl (v_assign rfl rfl) ?_
  refine s_end ?_
  refine q_seq ?_
  refine c_seq rfl ?_
  refine r_ord (l := [0, 1, 2, 3, 4, 5, 6, 7, 8]) rfl (by kernel_rfl) (by kernel_rfl) ?_
  refine s_v rfl rfl rfl rfl (v_fa rfl Try.underlying104 rfl SZ3 rfl) ?_
  refine s_v rfl rfl rfl rfl (v_ld 0 rfl Try.underlying3 rfl rfl rfl rfl) ?_
  refine s_v rfl rfl rfl rfl (v_conv rfl Try.underlying3 Try.underlying25 rfl) ?_
  refine s_v rfl rfl rfl rfl (v_shl rfl rfl rfl (by omega)) ?_
  refine s_v rfl rfl rfl rfl (v_fa rfl Try.underlying104 rfl SZ3 rfl) ?_
  refine s_v rfl rfl rfl rfl (v_ld 0 rfl Try.underlying3 rfl rfl rfl rfl) ?_
  refine s_v rfl rfl rfl rfl (v_conv rfl Try.underlying3 Try.underlying25 rfl) ?_
  refine s_v rfl rfl rfl rfl (v_bits rfl rfl rfl rfl) ?_
  refine s_v rfl rfl rfl rfl (v_assign rfl rfl) ?_
  refine s_end ?_
  refine q_seq ?_
  refine c_ret rfl ?_
  have e_ := Option.some.inj H
  subst e_
  exact q_ret (vs := [.int .u64 (IntKind.wrap .u64 (BitVec.ofInt (IntKind.bits .u64) (IntKind.wrap .u64 ((IntKind.wrap .u64 a0_1) * 2 ^ (min (Int.toNat 2) (IntKind.bits .u64)))) ||| BitVec.ofInt (IntKind.bits .u64) (IntKind.wrap .u64 a0_0)).toNat)]) rfl (.tmp rfl .nil) [] rfl (by decide) (hX)
def slot_Meta.f (a0 : Int) (a1 : Int) : Option (Int × Bool) := (slot_word_right.f a0 a1).bind fun t10_ => (if t10_ = true then (slot_word_packed.f a0 a1).bind fun t17_ => some (t17_, true) else some (0, false))
set_option maxRecDepth 100000 in
set_option maxHeartbeats 4000000 in
theorem slot_Meta_con (a0 : Int) (a1 : Int) (r0 : Int) (r1 : Bool) (h : slot_Meta.f a0 a1 = some (r0, r1)) (w0 : World) (Hs : List Nat) : Con Try.prog 64 #[.int .i64 a0, .int .i64 a1] w0 Hs [] (fun X => X (.tuple #[.int .u64 r0, .bool r1]) []) := by
 refine con_enter (c := bodyOf Try.f64) Try.func64 rfl (m := 15) rfl rfl rfl ?_
 intro X hX _
 have H := h
 unfold slot_Meta.f at H
 clear h
 refine c_seq rfl ?_
 refine r_ord (l := [0, 1]) rfl (by kernel_rfl) (by kernel_rfl) ?_
 refine s_v rfl rfl rfl rfl (v_assign rfl rfl) ?_
 refine s_v rfl rfl rfl rfl (v_assign rfl rfl) ?_
 refine s_end ?_
 refine q_seq ?_
 refine c_seq rfl ?_
 refine r_ord (l := [0, 1, 2, 3, 4]) rfl (by kernel_rfl) (by kernel_rfl) ?_
 refine s_v rfl rfl rfl rfl (v_move rfl rfl) ?_
 refine s_v rfl rfl rfl rfl (v_move rfl rfl) ?_
 refine s_v rfl rfl rfl rfl (v_build (places := #[(0, 1), (1, 1)]) #[.int .i64 a0, .int .i64 a1] rfl ZR104 Try.underlying104 (by kernel_rfl) rfl (by kernel_rfl)) ?_
 refine s_e rfl rfl (e_alloc rfl rfl rfl ZR104) ?_
 intro b2_
 refine s_e rfl rfl (e_stA 0 rfl rfl SZ104 rfl rfl rfl rfl rfl rfl) ?_
 refine s_end ?_
 refine q_seq ?_
 refine c_seq rfl ?_
 refine c_seq rfl ?_
 refine r_ord (l := [0, 1, 2]) rfl (by kernel_rfl) (by kernel_rfl) ?_
 refine s_v rfl rfl rfl rfl (v_ldA [.int .i64 a0, .int .i64 a1] 0 rfl Try.underlying104 rfl SZ104 rfl rfl rfl rfl) ?_
 obtain ⟨t10_, e11_, H⟩ := bind_s H
 refine s_e rfl rfl (e_callF [] #[.agg #[.int .i64 a0, .int .i64 a1]] rfl rfl rfl rfl rfl Try.func79 rfl (by decide) rfl rfl rfl rfl (fun w ht => slot_word_right_con a0 a1 t10_ e11_ w _)) ?_
 refine s_v rfl rfl rfl rfl (v_not rfl rfl) ?_
 refine s_end ?_
 refine q_seq ?_
 rcases Bool.eq_false_or_eq_true (!t10_) with h12_ | h12_
 replace H := ite_n (not_t (bnot_t h12_)) H
 refine c_cond rfl rfl (fun _ => ?_) (fun h13_ => absurd (h13_.symm.trans h12_) (by decide))
 refine c_seq rfl ?_
 refine r_ord (l := [0, 1]) rfl (by kernel_rfl) (by kernel_rfl) ?_
 refine s_v rfl rfl rfl rfl (v_assign rfl rfl) ?_
 refine s_v rfl rfl rfl rfl (v_assign rfl rfl) ?_
 refine s_end ?_
 refine q_seq ?_
 refine c_ret rfl ?_
 refine q_then_ret ?_
 have hq_0 := Option.some.inj H
 obtain ⟨ee_0, hq_1⟩ := Prod.mk.inj hq_0
 subst ee_0
 subst hq_1
 exact q_ret (vs := [.int .u64 0, .bool false]) rfl (.tmp rfl (.tmp rfl .nil)) [] rfl (by decide) (hX)
 replace H := ite_y (bnot_f h12_) H
 refine c_cond rfl rfl (fun h14_ => absurd (h14_.symm.trans h12_) (by decide)) (fun _ => ?_)
 refine c_skip rfl ?_
 refine q_seq ?_
 refine c_seq rfl ?_
 refine r_ord (l := [0, 1, 2, 3]) rfl (by kernel_rfl) (by kernel_rfl) ?_
 refine s_v rfl rfl rfl rfl (v_ldA [.int .i64 a0, .int .i64 a1] 0 rfl Try.underlying104 rfl SZ104 rfl rfl rfl rfl) ?_
 obtain ⟨t17_, e18_, H⟩ := bind_s H
 refine s_e rfl rfl (e_callF [] #[.agg #[.int .i64 a0, .int .i64 a1]] rfl rfl rfl rfl rfl Try.func80 rfl (by decide) rfl rfl rfl rfl (fun w ht => slot_word_packed_con a0 a1 t17_ e18_ w _)) ?_
 refine s_v rfl rfl rfl rfl (v_assign rfl rfl) ?_
 refine s_v rfl rfl rfl rfl (v_assign rfl rfl) ?_
 refine s_end ?_
 refine q_seq ?_
 refine c_ret rfl ?_
 have hq_0 := Option.some.inj H
 obtain ⟨ee_0, hq_1⟩ := Prod.mk.inj hq_0
 subst ee_0
 subst hq_1
 exact q_ret (vs := [.int .u64 t17_, .bool true]) rfl (.tmp rfl (.tmp rfl .nil)) [] rfl (by decide) (hX)
def shape_words_taken.f (a0_0 : Int) (a0_1 : Int) (a0_2 : Int) (a0_3 : Int) (a0_4 : Int) (a0_5 : Int) (a0_6 : Int) (l0_7 : List Int) (a1 : Int) : Option Bool := (slot_Meta.f 1 (a1 / 4294967296 % 1073741824)).bind fun (t6_, t7_) => (shape_words_at.f a0_0 a0_1 a0_2 a0_3 a0_4 a0_5 a0_6 l0_7 (a1 % 4294967296) 0).bind fun t11_ => some ((t11_ : Int) == t6_)
set_option maxRecDepth 100000 in
set_option maxHeartbeats 4000000 in
theorem shape_words_taken_con (a0_0 : Int) (a0_1 : Int) (a0_2 : Int) (a0_3 : Int) (a0_4 : Int) (a0_5 : Int) (a0_6 : Int) (A0_7 : Option Addr) (c0_7 : Nat) (l0_7 : List Int) (a1 : Int) (r0 : Bool) (h : shape_words_taken.f a0_0 a0_1 a0_2 a0_3 a0_4 a0_5 a0_6 l0_7 a1 = some r0) (w0 : World) (Hs : List Nat) : Con Try.prog 41 #[.agg #[.int .i64 a0_0, .int .i64 a0_1, .int .i64 a0_2, .int .i64 a0_3, .int .i64 a0_4, .int .i64 a0_5, .int .i64 a0_6, .slice A0_7 l0_7.length c0_7], .int .u64 a1] w0 Hs [.f (KC (Kd.int .u64) A0_7 c0_7 l0_7)] (fun X => X (.bool r0) []) := by
  refine con_enter (c := bodyOf Try.f41) Try.func41 rfl (m := 19) rfl rfl rfl ?_
  intro X hX _
  have H := h
  unfold shape_words_taken.f at H
  clear h
  refine c_seq rfl ?_
  refine r_ord (l := [0, 1]) rfl (by kernel_rfl) (by kernel_rfl) ?_
  refine s_e rfl rfl (e_box rfl rfl rfl rfl) ?_
  intro b2_
  refine s_v rfl rfl rfl rfl (v_assign rfl rfl) ?_
  refine s_end ?_
  refine q_seq ?_
  refine c_seq rfl ?_
  refine r_ord (l := [0, 1, 2, 3, 4, 5, 6, 7]) rfl (by kernel_rfl) (by kernel_rfl) ?_
  refine s_v rfl rfl rfl rfl (v_move rfl rfl) ?_
  refine s_e rfl rfl (e_callF [] #[.int .u64 a1] rfl rfl rfl rfl rfl Try.func65 rfl (by decide) rfl rfl rfl rfl (fun w ht => handle_Gen_con a1 w _)) ?_
  obtain ⟨⟨t6_, t7_⟩, e8_, H⟩ := bind_s H
  refine s_e rfl rfl (e_callF [] #[.int .i64 1, .int .i64 (a1 / 4294967296 % 1073741824)] rfl rfl rfl rfl rfl Try.func64 rfl (by decide) rfl rfl rfl rfl (fun w ht => slot_Meta_con 1 (a1 / 4294967296 % 1073741824) t6_ t7_ e8_ w _)) ?_
  refine s_v rfl rfl rfl rfl (v_move rfl rfl) ?_
  refine s_v rfl rfl rfl rfl (v_ext rfl rfl rfl) ?_
  refine s_v rfl rfl rfl rfl (v_ext rfl rfl rfl) ?_
  refine s_v rfl rfl rfl rfl (v_assign rfl rfl) ?_
  refine s_v rfl rfl rfl rfl (v_assign rfl rfl) ?_
  refine s_end ?_
  refine q_seq ?_
  refine c_seq rfl ?_
  obtain ⟨t11_, e12_, H⟩ := bind_s H
  refine r_any [.b b2_ (.cells #[.int .i64 a0_0, .int .i64 a0_1, .int .i64 a0_2, .int .i64 a0_3, .int .i64 a0_4, .int .i64 a0_5, .int .i64 a0_6, .slice A0_7 l0_7.length c0_7] 63 (0, 0)), .f (KC (Kd.int .u64) A0_7 c0_7 l0_7)] (by kernel_rfl) rfl (by kernel_rfl) (mem_pick (idx := [0, 1]) rfl) ?_
  refine a_v 0 rfl (by kernel_rfl) (by kernel_rfl) (by kernel_rfl) rfl rfl rfl (v_ldA [.int .i64 a0_0, .int .i64 a0_1, .int .i64 a0_2, .int .i64 a0_3, .int .i64 a0_4, .int .i64 a0_5, .int .i64 a0_6, .slice A0_7 l0_7.length c0_7] 0 rfl Try.underlying63 rfl SZ63 rfl rfl rfl rfl) ?_
  refine a_v 1 rfl (by kernel_rfl) (by kernel_rfl) (by kernel_rfl) rfl rfl rfl (v_move rfl rfl) ?_
  refine a_v 4 rfl (by kernel_rfl) (by kernel_rfl) (by kernel_rfl) rfl rfl rfl (v_move rfl rfl) ?_
  refine a_1 (i := 2) (by kernel_rfl) ?_
  refine i_e rfl rfl (e_callF [] #[.int .u64 a1] rfl rfl rfl rfl rfl Try.func27 rfl (by decide) rfl rfl rfl rfl (fun w ht => handle_Index_con a1 w _)) ?_
  refine ⟨(mem_pick (idx := [0, 1]) rfl), ?_⟩
  refine a_1 (i := 3) (by kernel_rfl) ?_
  refine i_e rfl rfl (e_callF [1] #[.agg #[.int .i64 a0_0, .int .i64 a0_1, .int .i64 a0_2, .int .i64 a0_3, .int .i64 a0_4, .int .i64 a0_5, .int .i64 a0_6, .slice A0_7 l0_7.length c0_7], .int .i64 (a1 % 4294967296), .int .i64 0] rfl rfl rfl rfl rfl Try.func28 rfl (by decide) rfl rfl rfl rfl (fun w ht => shape_words_at_con a0_0 a0_1 a0_2 a0_3 a0_4 a0_5 a0_6 A0_7 c0_7 l0_7 (a1 % 4294967296) 0 t11_ e12_ w _)) ?_
  refine ⟨(mem_pick (idx := [0, 1]) rfl), ?_⟩
  refine a_v 5 rfl (by kernel_rfl) (by kernel_rfl) (by kernel_rfl) rfl rfl rfl (v_arith rfl rfl rfl rfl) ?_
  refine a_v 6 rfl (by kernel_rfl) (by kernel_rfl) (by kernel_rfl) rfl rfl rfl (v_assign rfl rfl) ?_
  refine a_end (by kernel_rfl) ?_
  refine q_seq ?_
  refine c_ret rfl ?_
  have e_ := Option.some.inj H
  subst e_
  exact q_ret (vs := [.bool ((t11_ : Int) == t6_)]) rfl (.tmp rfl .nil) [] rfl (by decide) (hX)
def handle_Marked.f (a0 : Int) : Option Bool := some ((IntKind.wrap .u64 (BitVec.ofInt (IntKind.bits .u64) a0 &&& BitVec.ofInt (IntKind.bits .u64) 4611686018427387904).toNat : Int) != 0)
set_option maxRecDepth 100000 in
set_option maxHeartbeats 4000000 in
theorem handle_Marked_con (a0 : Int) (r0 : Bool) (h : handle_Marked.f a0 = some r0) (w0 : World) (Hs : List Nat) : Con Try.prog 50 #[.int .u64 a0] w0 Hs [] (fun X => X (.bool r0) []) := by
  refine con_enter (c := bodyOf Try.f50) Try.func50 rfl (m := 6) rfl rfl rfl ?_
  intro X hX _
  have H := h
  unfold handle_Marked.f at H
  clear h
  refine c_seq rfl ?_
  refine r_ord (l := [0]) rfl (by kernel_rfl) (by kernel_rfl) ?_
  refine s_v rfl rfl rfl rfl (v_assign rfl rfl) ?_
  refine s_end ?_
  refine q_seq ?_
  refine c_seq rfl ?_
  refine r_ord (l := [0, 1, 2, 3]) rfl (by kernel_rfl) (by kernel_rfl) ?_
  refine s_v rfl rfl rfl rfl (v_move rfl rfl) ?_
  refine s_v rfl rfl rfl rfl (v_bits rfl rfl rfl rfl) ?_
  refine s_v rfl rfl rfl rfl (v_arith rfl rfl rfl rfl) ?_
  refine s_v rfl rfl rfl rfl (v_assign rfl rfl) ?_
  refine s_end ?_
  refine q_seq ?_
  refine c_ret rfl ?_
  have e_ := Option.some.inj H
  subst e_
  exact q_ret (vs := [.bool ((IntKind.wrap .u64 (BitVec.ofInt (IntKind.bits .u64) a0 &&& BitVec.ofInt (IntKind.bits .u64) 4611686018427387904).toNat : Int) != 0)]) rfl (.tmp rfl .nil) [] rfl (by decide) (hX)
def shape_words_marked.f (a0_0 : Int) (a0_1 : Int) (a0_2 : Int) (a0_3 : Int) (a0_4 : Int) (a0_5 : Int) (a0_6 : Int) (l0_7 : List Int) (a1 : Int) (a2 : Int) : Option Bool := (shape_words_at.f a0_0 a0_1 a0_2 a0_3 a0_4 a0_5 a0_6 l0_7 (a1 % 4294967296) (IntKind.wrap .i64 (6 + a2))).bind fun t7_ => (handle_Marked.f t7_).bind fun t9_ => some t9_
set_option maxRecDepth 100000 in
set_option maxHeartbeats 4000000 in
theorem shape_words_marked_con (a0_0 : Int) (a0_1 : Int) (a0_2 : Int) (a0_3 : Int) (a0_4 : Int) (a0_5 : Int) (a0_6 : Int) (A0_7 : Option Addr) (c0_7 : Nat) (l0_7 : List Int) (a1 : Int) (a2 : Int) (r0 : Bool) (h : shape_words_marked.f a0_0 a0_1 a0_2 a0_3 a0_4 a0_5 a0_6 l0_7 a1 a2 = some r0) (w0 : World) (Hs : List Nat) : Con Try.prog 74 #[.agg #[.int .i64 a0_0, .int .i64 a0_1, .int .i64 a0_2, .int .i64 a0_3, .int .i64 a0_4, .int .i64 a0_5, .int .i64 a0_6, .slice A0_7 l0_7.length c0_7], .int .u64 a1, .int .i64 a2] w0 Hs [.f (KC (Kd.int .u64) A0_7 c0_7 l0_7)] (fun X => X (.bool r0) []) := by
  refine con_enter (c := bodyOf Try.f74) Try.func74 rfl (m := 14) rfl rfl rfl ?_
  intro X hX _
  have H := h
  unfold shape_words_marked.f at H
  clear h
  refine c_seq rfl ?_
  refine r_ord (l := [0, 1]) rfl (by kernel_rfl) (by kernel_rfl) ?_
  refine s_e rfl rfl (e_box rfl rfl rfl rfl) ?_
  intro b2_
  refine s_v rfl rfl rfl rfl (v_assign rfl rfl) ?_
  refine s_end ?_
  refine q_seq ?_
  refine c_seq rfl ?_
  obtain ⟨t7_, e8_, H⟩ := bind_s H
  obtain ⟨t9_, e10_, H⟩ := bind_s H
  refine r_any [.b b2_ (.cells #[.int .i64 a0_0, .int .i64 a0_1, .int .i64 a0_2, .int .i64 a0_3, .int .i64 a0_4, .int .i64 a0_5, .int .i64 a0_6, .slice A0_7 l0_7.length c0_7] 63 (0, 0)), .f (KC (Kd.int .u64) A0_7 c0_7 l0_7)] (by kernel_rfl) rfl (by kernel_rfl) (mem_pick (idx := [0, 1]) rfl) ?_
  refine a_v 0 rfl (by kernel_rfl) (by kernel_rfl) (by kernel_rfl) rfl rfl rfl (v_ldA [.int .i64 a0_0, .int .i64 a0_1, .int .i64 a0_2, .int .i64 a0_3, .int .i64 a0_4, .int .i64 a0_5, .int .i64 a0_6, .slice A0_7 l0_7.length c0_7] 0 rfl Try.underlying63 rfl SZ63 rfl rfl rfl rfl) ?_
  refine a_v 1 rfl (by kernel_rfl) (by kernel_rfl) (by kernel_rfl) rfl rfl rfl (v_move rfl rfl) ?_
  refine a_v 3 rfl (by kernel_rfl) (by kernel_rfl) (by kernel_rfl) rfl rfl rfl (v_move rfl rfl) ?_
  refine a_v 4 rfl (by kernel_rfl) (by kernel_rfl) (by kernel_rfl) rfl rfl rfl (v_arith rfl rfl rfl rfl) ?_
  refine a_1 (i := 2) (by kernel_rfl) ?_
  refine i_e rfl rfl (e_callF [] #[.int .u64 a1] rfl rfl rfl rfl rfl Try.func27 rfl (by decide) rfl rfl rfl rfl (fun w ht => handle_Index_con a1 w _)) ?_
  refine ⟨(mem_pick (idx := [0, 1]) rfl), ?_⟩
  refine a_1 (i := 5) (by kernel_rfl) ?_
  refine i_e rfl rfl (e_callF [1] #[.agg #[.int .i64 a0_0, .int .i64 a0_1, .int .i64 a0_2, .int .i64 a0_3, .int .i64 a0_4, .int .i64 a0_5, .int .i64 a0_6, .slice A0_7 l0_7.length c0_7], .int .i64 (a1 % 4294967296), .int .i64 (IntKind.wrap .i64 (6 + a2))] rfl rfl rfl rfl rfl Try.func28 rfl (by decide) rfl rfl rfl rfl (fun w ht => shape_words_at_con a0_0 a0_1 a0_2 a0_3 a0_4 a0_5 a0_6 A0_7 c0_7 l0_7 (a1 % 4294967296) (IntKind.wrap .i64 (6 + a2)) t7_ e8_ w _)) ?_
  refine ⟨(mem_pick (idx := [0, 1]) rfl), ?_⟩
  refine a_1 (i := 6) (by kernel_rfl) ?_
  refine i_e rfl rfl (e_callF [] #[.int .u64 t7_] rfl rfl rfl rfl rfl Try.func50 rfl (by decide) rfl rfl rfl rfl (fun w ht => handle_Marked_con t7_ t9_ e10_ w _)) ?_
  refine ⟨(mem_pick (idx := [0, 1]) rfl), ?_⟩
  refine a_v 7 rfl (by kernel_rfl) (by kernel_rfl) (by kernel_rfl) rfl rfl rfl (v_assign rfl rfl) ?_
  refine a_end (by kernel_rfl) ?_
  refine q_seq ?_
  refine c_ret rfl ?_
  have e_ := Option.some.inj H
  subst e_
  exact q_ret (vs := [.bool t9_]) rfl (.tmp rfl .nil) [] rfl (by decide) (hX)
def stepstoneref04_Right.f (a0_0 : Int) (a0_1 : Int) (a0_2 : Int) (a0_3 : Int) (a0_4 : Int) (a0_5 : Int) (a0_6 : Int) : Option Bool := ((if (a0_0 : Int) < 1 then some true else (if (a0_0 : Int) > 8 then some true else (if (a0_1 : Int) < 1 then some true else (if (a0_1 : Int) > 8 then some true else (if (a0_2 : Int) < 1 then some true else (if (a0_2 : Int) > 64 then some true else (if (a0_3 : Int) < 1 then some true else some (decide ((a0_3 : Int) > 6))))))))) : Option Bool).bind fun j48_ => (if j48_ = true then some false else ((if (a0_4 : Int) ≥ 1 then (if (a0_4 : Int) ≤ 64 then (if (a0_5 : Int) ≥ 1 then (if (a0_5 : Int) ≤ 64 then (if (a0_6 : Int) ≥ 0 then some (decide ((a0_6 : Int) ≤ 1073741823)) else some false) else some false) else some false) else some false) else some false) : Option Bool).bind fun j66_ => some j66_)
set_option maxRecDepth 100000 in
set_option maxHeartbeats 4000000 in
theorem stepstoneref04_Right_con (a0_0 : Int) (a0_1 : Int) (a0_2 : Int) (a0_3 : Int) (a0_4 : Int) (a0_5 : Int) (a0_6 : Int) (r0 : Bool) (h : stepstoneref04_Right.f a0_0 a0_1 a0_2 a0_3 a0_4 a0_5 a0_6 = some r0) (w0 : World) (Hs : List Nat) : Con Try.prog 36 #[.agg #[.int .i64 a0_0, .int .i64 a0_1, .int .i64 a0_2, .int .i64 a0_3, .int .i64 a0_4, .int .i64 a0_5, .int .i64 a0_6]] w0 Hs [] (fun X => X (.bool r0) []) := by
 refine con_enter (c := bodyOf Try.f36) Try.func36 rfl (m := 69) rfl rfl rfl ?_
 intro X hX _
 have H := h
 unfold stepstoneref04_Right.f at H
 clear h
 refine c_seq rfl ?_
 refine r_ord (l := [0, 1]) rfl (by kernel_rfl) (by kernel_rfl) ?_
 refine s_e rfl rfl (e_box rfl rfl rfl rfl) ?_
 intro b2_
 refine s_v rfl rfl rfl rfl (v_assign rfl rfl) ?_
 refine s_end ?_
 refine q_seq ?_
 refine c_seq rfl ?_
 obtain ⟨j48_, e49_, H⟩ := bind_s H
 refine c_join (β := Unit) (fun _ => True) (fun _ => [(1, .pointer (some ⟨b2_, 0, none⟩)), (2, .bool false), (40, .bool j48_)]) (fun _ => [.b b2_ (.cells #[.int .i64 a0_0, .int .i64 a0_1, .int .i64 a0_2, .int .i64 a0_3, .int .i64 a0_4, .int .i64 a0_5, .int .i64 a0_6] 23 (0, 0))]) rfl (fun _ _ => ?_) (fun J_ => ?_)
 rcases Bool.eq_false_or_eq_true j48_ with h50_ | h50_
 subst h50_
 replace H := ite_y rfl H
 refine c_cond1 rfl rfl ?_
 refine c_seq rfl ?_
 refine r_ord (l := [0]) rfl (by kernel_rfl) (by kernel_rfl) ?_
 refine s_v rfl rfl rfl rfl (v_assign rfl rfl) ?_
 refine s_end ?_
 refine q_seq ?_
 refine c_ret rfl ?_
 refine q_then_ret ?_
 have e_ := Option.some.inj H
 subst e_
 exact q_ret (vs := [.bool false]) rfl (.tmp rfl .nil) [] rfl (by decide) (hX)
 subst h50_
 replace H := ite_n (by decide) H
 refine c_cond0 rfl rfl ?_
 refine c_skip rfl ?_
 refine q_seq ?_
 obtain ⟨j66_, e67_, H⟩ := bind_s H
 refine c_join (β := Unit) (fun _ => True) (fun _ => [(2, .bool j66_)]) (fun _ => [.b b2_ (.cells #[.int .i64 a0_0, .int .i64 a0_1, .int .i64 a0_2, .int .i64 a0_3, .int .i64 a0_4, .int .i64 a0_5, .int .i64 a0_6] 23 (0, 0))]) rfl (fun _ _ => ?_) (fun J_ => ?_)
 refine c_ret rfl ?_
 have e_ := Option.some.inj H
 subst e_
 exact q_ret (vs := [.bool j66_]) rfl (.tmp rfl .nil) [] rfl (by decide) (hX)
 clear H
 have H := e67_
 clear e67_
 refine r_ord (l := [0, 1, 2, 3, 4, 5, 6, 7, 8, 9, 10, 11, 12, 13, 14, 15, 16, 17, 18, 19, 20, 21, 22, 23, 24, 25, 26, 27, 28]) rfl (by kernel_rfl) (by kernel_rfl) ?_
 refine s_v rfl rfl rfl rfl (v_fa rfl Try.underlying23 rfl SZ3 rfl) ?_
 refine s_v rfl rfl rfl rfl (v_ld 0 rfl Try.underlying3 rfl rfl rfl rfl) ?_
 refine s_v rfl rfl rfl rfl (v_arith rfl rfl rfl rfl) ?_
 refine s_v rfl rfl rfl rfl (v_move rfl rfl) ?_
 rcases Bool.eq_false_or_eq_true (decide ((a0_4 : Int) ≥ 1)) with h68_ | h68_
 replace H := ite_y (dec_t h68_) H
 refine s_splitv (d := 44) (t := decide ((a0_4 : Int) ≥ 1)) rfl (fun _ => ?_) (fun h69_ => absurd (h69_.symm.trans h68_) (by decide))
 refine s_vg rfl rfl rfl rfl (v_fa rfl Try.underlying23 rfl SZ3 rfl) ?_
 refine s_vg rfl rfl rfl rfl (v_ld 0 rfl Try.underlying3 rfl rfl rfl rfl) ?_
 refine s_vg rfl rfl rfl rfl (v_arith rfl rfl rfl rfl) ?_
 refine s_v rfl rfl rfl rfl (v_pick rfl rfl rfl rfl) ?_
 refine s_v rfl rfl rfl rfl (v_move rfl rfl) ?_
 rcases Bool.eq_false_or_eq_true (decide ((a0_4 : Int) ≤ 64)) with h70_ | h70_
 replace H := ite_y (dec_t h70_) H
 refine s_splitv (d := 49) (t := decide ((a0_4 : Int) ≤ 64)) rfl (fun _ => ?_) (fun h71_ => absurd (h71_.symm.trans h70_) (by decide))
 refine s_vg rfl rfl rfl rfl (v_fa rfl Try.underlying23 rfl SZ3 rfl) ?_
 refine s_vg rfl rfl rfl rfl (v_ld 0 rfl Try.underlying3 rfl rfl rfl rfl) ?_
 refine s_vg rfl rfl rfl rfl (v_arith rfl rfl rfl rfl) ?_
 refine s_v rfl rfl rfl rfl (v_pick rfl rfl rfl rfl) ?_
 refine s_v rfl rfl rfl rfl (v_move rfl rfl) ?_
 rcases Bool.eq_false_or_eq_true (decide ((a0_5 : Int) ≥ 1)) with h72_ | h72_
 replace H := ite_y (dec_t h72_) H
 refine s_splitv (d := 54) (t := decide ((a0_5 : Int) ≥ 1)) rfl (fun _ => ?_) (fun h73_ => absurd (h73_.symm.trans h72_) (by decide))
 refine s_vg rfl rfl rfl rfl (v_fa rfl Try.underlying23 rfl SZ3 rfl) ?_
 refine s_vg rfl rfl rfl rfl (v_ld 0 rfl Try.underlying3 rfl rfl rfl rfl) ?_
 refine s_vg rfl rfl rfl rfl (v_arith rfl rfl rfl rfl) ?_
 refine s_v rfl rfl rfl rfl (v_pick rfl rfl rfl rfl) ?_
 refine s_v rfl rfl rfl rfl (v_move rfl rfl) ?_
 rcases Bool.eq_false_or_eq_true (decide ((a0_5 : Int) ≤ 64)) with h74_ | h74_
 replace H := ite_y (dec_t h74_) H
 refine s_splitv (d := 59) (t := decide ((a0_5 : Int) ≤ 64)) rfl (fun _ => ?_) (fun h75_ => absurd (h75_.symm.trans h74_) (by decide))
 refine s_vg rfl rfl rfl rfl (v_fa rfl Try.underlying23 rfl SZ3 rfl) ?_
 refine s_vg rfl rfl rfl rfl (v_ld 0 rfl Try.underlying3 rfl rfl rfl rfl) ?_
 refine s_vg rfl rfl rfl rfl (v_arith rfl rfl rfl rfl) ?_
 refine s_v rfl rfl rfl rfl (v_pick rfl rfl rfl rfl) ?_
 refine s_v rfl rfl rfl rfl (v_move rfl rfl) ?_
 rcases Bool.eq_false_or_eq_true (decide ((a0_6 : Int) ≥ 0)) with h76_ | h76_
 replace H := ite_y (dec_t h76_) H
 refine s_splitv (d := 64) (t := decide ((a0_6 : Int) ≥ 0)) rfl (fun _ => ?_) (fun h77_ => absurd (h77_.symm.trans h76_) (by decide))
 refine s_vg rfl rfl rfl rfl (v_fa rfl Try.underlying23 rfl SZ3 rfl) ?_
 refine s_vg rfl rfl rfl rfl (v_ld 0 rfl Try.underlying3 rfl rfl rfl rfl) ?_
 refine s_vg rfl rfl rfl rfl (v_arith rfl rfl rfl rfl) ?_
 refine s_v rfl rfl rfl rfl (v_pick rfl rfl rfl rfl) ?_
 refine s_v rfl rfl rfl rfl (v_assign rfl rfl) ?_
 refine s_end ?_
 have hq_0 := Option.some.inj H
 subst hq_0
 exact q_seq (c_frame (subF_spec (by exact ⟨rfl, trivial⟩)) (c_take [0] rfl (by decide) (J_ () trivial)))
 replace H := ite_n (dec_f h76_) H
 refine s_splitv (d := 64) (t := decide ((a0_6 : Int) ≥ 0)) rfl (fun h78_ => absurd (h78_.symm.trans h76_) (by decide)) (fun _ => ?_)
 refine s_no rfl rfl rfl rfl ?_
 refine s_no rfl rfl rfl rfl ?_
 refine s_no rfl rfl rfl rfl ?_
 refine s_v rfl rfl rfl rfl (v_pick rfl rfl rfl rfl) ?_
 refine s_v rfl rfl rfl rfl (v_assign rfl rfl) ?_
 refine s_end ?_
 have hq_0 := Option.some.inj H
 subst hq_0
 exact q_seq (c_frame (subF_spec (by exact ⟨rfl, trivial⟩)) (c_take [0] rfl (by decide) (J_ () trivial)))
 replace H := ite_n (dec_f h74_) H
 refine s_splitv (d := 59) (t := decide ((a0_5 : Int) ≤ 64)) rfl (fun h79_ => absurd (h79_.symm.trans h74_) (by decide)) (fun _ => ?_)
 refine s_no rfl rfl rfl rfl ?_
 refine s_no rfl rfl rfl rfl ?_
 refine s_no rfl rfl rfl rfl ?_
 refine s_v rfl rfl rfl rfl (v_pick rfl rfl rfl rfl) ?_
 refine s_v rfl rfl rfl rfl (v_move rfl rfl) ?_
 refine s_no rfl rfl rfl rfl ?_
 refine s_no rfl rfl rfl rfl ?_
 refine s_no rfl rfl rfl rfl ?_
 refine s_v rfl rfl rfl rfl (v_pick rfl rfl rfl rfl) ?_
 refine s_v rfl rfl rfl rfl (v_assign rfl rfl) ?_
 refine s_end ?_
 have hq_0 := Option.some.inj H
 subst hq_0
 exact q_seq (c_frame (subF_spec (by exact ⟨rfl, trivial⟩)) (c_take [0] rfl (by decide) (J_ () trivial)))
 replace H := ite_n (dec_f h72_) H
 refine s_splitv (d := 54) (t := decide ((a0_5 : Int) ≥ 1)) rfl (fun h80_ => absurd (h80_.symm.trans h72_) (by decide)) (fun _ => ?_)
 refine s_no rfl rfl rfl rfl ?_
 refine s_no rfl rfl rfl rfl ?_
 refine s_no rfl rfl rfl rfl ?_
 refine s_v rfl rfl rfl rfl (v_pick rfl rfl rfl rfl) ?_
 refine s_v rfl rfl rfl rfl (v_move rfl rfl) ?_
 refine s_no rfl rfl rfl rfl ?_
 refine s_no rfl rfl rfl rfl ?_
 refine s_no rfl rfl rfl rfl ?_
 refine s_v rfl rfl rfl rfl (v_pick rfl rfl rfl rfl) ?_
 refine s_v rfl rfl rfl rfl (v_move rfl rfl) ?_
 refine s_no rfl rfl rfl rfl ?_
 refine s_no rfl rfl rfl rfl ?_
 refine s_no rfl rfl rfl rfl ?_
 refine s_v rfl rfl rfl rfl (v_pick rfl rfl rfl rfl) ?_
 refine s_v rfl rfl rfl rfl (v_assign rfl rfl) ?_
 refine s_end ?_
 have hq_0 := Option.some.inj H
 subst hq_0
 exact q_seq (c_frame (subF_spec (by exact ⟨rfl, trivial⟩)) (c_take [0] rfl (by decide) (J_ () trivial)))
 replace H := ite_n (dec_f h70_) H
 refine s_splitv (d := 49) (t := decide ((a0_4 : Int) ≤ 64)) rfl (fun h81_ => absurd (h81_.symm.trans h70_) (by decide)) (fun _ => ?_)
 refine s_no rfl rfl rfl rfl ?_
 refine s_no rfl rfl rfl rfl ?_
 refine s_no rfl rfl rfl rfl ?_
 refine s_v rfl rfl rfl rfl (v_pick rfl rfl rfl rfl) ?_
 refine s_v rfl rfl rfl rfl (v_move rfl rfl) ?_
 refine s_no rfl rfl rfl rfl ?_
 refine s_no rfl rfl rfl rfl ?_
 refine s_no rfl rfl rfl rfl ?_
 refine s_v rfl rfl rfl rfl (v_pick rfl rfl rfl rfl) ?_
 refine s_v rfl rfl rfl rfl (v_move rfl rfl) ?_
 refine s_no rfl rfl rfl rfl ?_
 refine s_no rfl rfl rfl rfl ?_
 refine s_no rfl rfl rfl rfl ?_
 refine s_v rfl rfl rfl rfl (v_pick rfl rfl rfl rfl) ?_
 refine s_v rfl rfl rfl rfl (v_move rfl rfl) ?_
 refine s_no rfl rfl rfl rfl ?_
 refine s_no rfl rfl rfl rfl ?_
 refine s_no rfl rfl rfl rfl ?_
 refine s_v rfl rfl rfl rfl (v_pick rfl rfl rfl rfl) ?_
 refine s_v rfl rfl rfl rfl (v_assign rfl rfl) ?_
 refine s_end ?_
 have hq_0 := Option.some.inj H
 subst hq_0
 exact q_seq (c_frame (subF_spec (by exact ⟨rfl, trivial⟩)) (c_take [0] rfl (by decide) (J_ () trivial)))
 replace H := ite_n (dec_f h68_) H
 refine s_splitv (d := 44) (t := decide ((a0_4 : Int) ≥ 1)) rfl (fun h82_ => absurd (h82_.symm.trans h68_) (by decide)) (fun _ => ?_)
 refine s_no rfl rfl rfl rfl ?_
 refine s_no rfl rfl rfl rfl ?_
 refine s_no rfl rfl rfl rfl ?_
 refine s_v rfl rfl rfl rfl (v_pick rfl rfl rfl rfl) ?_
 refine s_v rfl rfl rfl rfl (v_move rfl rfl) ?_
 refine s_no rfl rfl rfl rfl ?_
 refine s_no rfl rfl rfl rfl ?_
 refine s_no rfl rfl rfl rfl ?_
 refine s_v rfl rfl rfl rfl (v_pick rfl rfl rfl rfl) ?_
 refine s_v rfl rfl rfl rfl (v_move rfl rfl) ?_
 refine s_no rfl rfl rfl rfl ?_
 refine s_no rfl rfl rfl rfl ?_
 refine s_no rfl rfl rfl rfl ?_
 refine s_v rfl rfl rfl rfl (v_pick rfl rfl rfl rfl) ?_
 refine s_v rfl rfl rfl rfl (v_move rfl rfl) ?_
 refine s_no rfl rfl rfl rfl ?_
 refine s_no rfl rfl rfl rfl ?_
 refine s_no rfl rfl rfl rfl ?_
 refine s_v rfl rfl rfl rfl (v_pick rfl rfl rfl rfl) ?_
 refine s_v rfl rfl rfl rfl (v_move rfl rfl) ?_
 refine s_no rfl rfl rfl rfl ?_
 refine s_no rfl rfl rfl rfl ?_
 refine s_no rfl rfl rfl rfl ?_
 refine s_v rfl rfl rfl rfl (v_pick rfl rfl rfl rfl) ?_
 refine s_v rfl rfl rfl rfl (v_assign rfl rfl) ?_
 refine s_end ?_
 have hq_0 := Option.some.inj H
 subst hq_0
 exact q_seq (c_frame (subF_spec (by exact ⟨rfl, trivial⟩)) (c_take [0] rfl (by decide) (J_ () trivial)))
 clear H
 have H := e49_
 clear e49_
 refine r_ord (l := [0, 1, 2, 3, 4, 5, 6, 7, 8, 9, 10, 11, 12, 13, 14, 15, 16, 17, 18, 19, 20, 21, 22, 23, 24, 25, 26, 27, 28, 29, 30, 31, 32, 33, 34, 35, 36, 37]) rfl (by kernel_rfl) (by kernel_rfl) ?_
 refine s_v rfl rfl rfl rfl (v_fa rfl Try.underlying23 rfl SZ3 rfl) ?_
 refine s_v rfl rfl rfl rfl (v_ld 0 rfl Try.underlying3 rfl rfl rfl rfl) ?_
 refine s_v rfl rfl rfl rfl (v_arith rfl rfl rfl rfl) ?_
 refine s_v rfl rfl rfl rfl (v_move rfl rfl) ?_
 rcases Bool.eq_false_or_eq_true (decide ((a0_0 : Int) < 1)) with h83_ | h83_
 replace H := ite_y (dec_t h83_) H
 refine s_splitv (d := 6) (t := decide ((a0_0 : Int) < 1)) rfl (fun _ => ?_) (fun h84_ => absurd (h84_.symm.trans h83_) (by decide))
 refine s_no rfl rfl rfl rfl ?_
 refine s_no rfl rfl rfl rfl ?_
 refine s_no rfl rfl rfl rfl ?_
 refine s_v rfl rfl rfl rfl (v_pick rfl rfl rfl rfl) ?_
 refine s_v rfl rfl rfl rfl (v_move rfl rfl) ?_
 refine s_no rfl rfl rfl rfl ?_
 refine s_no rfl rfl rfl rfl ?_
 refine s_no rfl rfl rfl rfl ?_
 refine s_v rfl rfl rfl rfl (v_pick rfl rfl rfl rfl) ?_
 refine s_v rfl rfl rfl rfl (v_move rfl rfl) ?_
 refine s_no rfl rfl rfl rfl ?_
 refine s_no rfl rfl rfl rfl ?_
 refine s_no rfl rfl rfl rfl ?_
 refine s_v rfl rfl rfl rfl (v_pick rfl rfl rfl rfl) ?_
 refine s_v rfl rfl rfl rfl (v_move rfl rfl) ?_
 refine s_no rfl rfl rfl rfl ?_
 refine s_no rfl rfl rfl rfl ?_
 refine s_no rfl rfl rfl rfl ?_
 refine s_v rfl rfl rfl rfl (v_pick rfl rfl rfl rfl) ?_
 refine s_v rfl rfl rfl rfl (v_move rfl rfl) ?_
 refine s_no rfl rfl rfl rfl ?_
 refine s_no rfl rfl rfl rfl ?_
 refine s_no rfl rfl rfl rfl ?_
 refine s_v rfl rfl rfl rfl (v_pick rfl rfl rfl rfl) ?_
 refine s_v rfl rfl rfl rfl (v_move rfl rfl) ?_
 refine s_no rfl rfl rfl rfl ?_
 refine s_no rfl rfl rfl rfl ?_
 refine s_no rfl rfl rfl rfl ?_
 refine s_v rfl rfl rfl rfl (v_pick rfl rfl rfl rfl) ?_
 refine s_v rfl rfl rfl rfl (v_move rfl rfl) ?_
 refine s_no rfl rfl rfl rfl ?_
 refine s_no rfl rfl rfl rfl ?_
 refine s_no rfl rfl rfl rfl ?_
 refine s_v rfl rfl rfl rfl (v_pick rfl rfl rfl rfl) ?_
 refine s_end ?_
 have hq_0 := Option.some.inj H
 subst hq_0
 exact q_seq (c_frame (subF_spec (by exact ⟨rfl, rfl, rfl, trivial⟩)) (c_take [0] rfl (by decide) (J_ () trivial)))
 replace H := ite_n (dec_f h83_) H
 refine s_splitv (d := 6) (t := decide ((a0_0 : Int) < 1)) rfl (fun h85_ => absurd (h85_.symm.trans h83_) (by decide)) (fun _ => ?_)
 refine s_vg rfl rfl rfl rfl (v_fa rfl Try.underlying23 rfl SZ3 rfl) ?_
 refine s_vg rfl rfl rfl rfl (v_ld 0 rfl Try.underlying3 rfl rfl rfl rfl) ?_
 refine s_vg rfl rfl rfl rfl (v_arith rfl rfl rfl rfl) ?_
 refine s_v rfl rfl rfl rfl (v_pick rfl rfl rfl rfl) ?_
 refine s_v rfl rfl rfl rfl (v_move rfl rfl) ?_
 rcases Bool.eq_false_or_eq_true (decide ((a0_0 : Int) > 8)) with h86_ | h86_
 replace H := ite_y (dec_t h86_) H
 refine s_splitv (d := 11) (t := decide ((a0_0 : Int) > 8)) rfl (fun _ => ?_) (fun h87_ => absurd (h87_.symm.trans h86_) (by decide))
 refine s_no rfl rfl rfl rfl ?_
 refine s_no rfl rfl rfl rfl ?_
 refine s_no rfl rfl rfl rfl ?_
 refine s_v rfl rfl rfl rfl (v_pick rfl rfl rfl rfl) ?_
 refine s_v rfl rfl rfl rfl (v_move rfl rfl) ?_
 refine s_no rfl rfl rfl rfl ?_
 refine s_no rfl rfl rfl rfl ?_
 refine s_no rfl rfl rfl rfl ?_
 refine s_v rfl rfl rfl rfl (v_pick rfl rfl rfl rfl) ?_
 refine s_v rfl rfl rfl rfl (v_move rfl rfl) ?_
 refine s_no rfl rfl rfl rfl ?_
 refine s_no rfl rfl rfl rfl ?_
 refine s_no rfl rfl rfl rfl ?_
 refine s_v rfl rfl rfl rfl (v_pick rfl rfl rfl rfl) ?_
 refine s_v rfl rfl rfl rfl (v_move rfl rfl) ?_
 refine s_no rfl rfl rfl rfl ?_
 refine s_no rfl rfl rfl rfl ?_
 refine s_no rfl rfl rfl rfl ?_
 refine s_v rfl rfl rfl rfl (v_pick rfl rfl rfl rfl) ?_
 refine s_v rfl rfl rfl rfl (v_move rfl rfl) ?_
 refine s_no rfl rfl rfl rfl ?_
 refine s_no rfl rfl rfl rfl ?_
 refine s_no rfl rfl rfl rfl ?_
 refine s_v rfl rfl rfl rfl (v_pick rfl rfl rfl rfl) ?_
 refine s_v rfl rfl rfl rfl (v_move rfl rfl) ?_
 refine s_no rfl rfl rfl rfl ?_
 refine s_no rfl rfl rfl rfl ?_
 refine s_no rfl rfl rfl rfl ?_
 refine s_v rfl rfl rfl rfl (v_pick rfl rfl rfl rfl) ?_
 refine s_end ?_
 have hq_0 := Option.some.inj H
 subst hq_0
 exact q_seq (c_frame (subF_spec (by exact ⟨rfl, rfl, rfl, trivial⟩)) (c_take [0] rfl (by decide) (J_ () trivial)))
 replace H := ite_n (dec_f h86_) H
 refine s_splitv (d := 11) (t := decide ((a0_0 : Int) > 8)) rfl (fun h88_ => absurd (h88_.symm.trans h86_) (by decide)) (fun _ => ?_)
 refine s_vg rfl rfl rfl rfl (v_fa rfl Try.underlying23 rfl SZ3 rfl) ?_
 refine s_vg rfl rfl rfl rfl (v_ld 0 rfl Try.underlying3 rfl rfl rfl rfl) ?_
 refine s_vg rfl rfl rfl rfl (v_arith rfl rfl rfl rfl) ?_
 refine s_v rfl rfl rfl rfl (v_pick rfl rfl rfl rfl) ?_
 refine s_v rfl rfl rfl rfl (v_move rfl rfl) ?_
 rcases Bool.eq_false_or_eq_true (decide ((a0_1 : Int) < 1)) with h89_ | h89_
 replace H := ite_y (dec_t h89_) H
 refine s_splitv (d := 16) (t := decide ((a0_1 : Int) < 1)) rfl (fun _ => ?_) (fun h90_ => absurd (h90_.symm.trans h89_) (by decide))
 refine s_no rfl rfl rfl rfl ?_
 refine s_no rfl rfl rfl rfl ?_
 refine s_no rfl rfl rfl rfl ?_
 refine s_v rfl rfl rfl rfl (v_pick rfl rfl rfl rfl) ?_
 refine s_v rfl rfl rfl rfl (v_move rfl rfl) ?_
 refine s_no rfl rfl rfl rfl ?_
 refine s_no rfl rfl rfl rfl ?_
 refine s_no rfl rfl rfl rfl ?_
 refine s_v rfl rfl rfl rfl (v_pick rfl rfl rfl rfl) ?_
 refine s_v rfl rfl rfl rfl (v_move rfl rfl) ?_
 refine s_no rfl rfl rfl rfl ?_
 refine s_no rfl rfl rfl rfl ?_
 refine s_no rfl rfl rfl rfl ?_
 refine s_v rfl rfl rfl rfl (v_pick rfl rfl rfl rfl) ?_
 refine s_v rfl rfl rfl rfl (v_move rfl rfl) ?_
 refine s_no rfl rfl rfl rfl ?_
 refine s_no rfl rfl rfl rfl ?_
 refine s_no rfl rfl rfl rfl ?_
 refine s_v rfl rfl rfl rfl (v_pick rfl rfl rfl rfl) ?_
 refine s_v rfl rfl rfl rfl (v_move rfl rfl) ?_
 refine s_no rfl rfl rfl rfl ?_
 refine s_no rfl rfl rfl rfl ?_
 refine s_no rfl rfl rfl rfl ?_
 refine s_v rfl rfl rfl rfl (v_pick rfl rfl rfl rfl) ?_
 refine s_end ?_
 have hq_0 := Option.some.inj H
 subst hq_0
 exact q_seq (c_frame (subF_spec (by exact ⟨rfl, rfl, rfl, trivial⟩)) (c_take [0] rfl (by decide) (J_ () trivial)))
 replace H := ite_n (dec_f h89_) H
 refine s_splitv (d := 16) (t := decide ((a0_1 : Int) < 1)) rfl (fun h91_ => absurd (h91_.symm.trans h89_) (by decide)) (fun _ => ?_)
 refine s_vg rfl rfl rfl rfl (v_fa rfl Try.underlying23 rfl SZ3 rfl) ?_
 refine s_vg rfl rfl rfl rfl (v_ld 0 rfl Try.underlying3 rfl rfl rfl rfl) ?_
 refine s_vg rfl rfl rfl rfl (v_arith rfl rfl rfl rfl) ?_
 refine s_v rfl rfl rfl rfl (v_pick rfl rfl rfl rfl) ?_
 refine s_v rfl rfl rfl rfl (v_move rfl rfl) ?_
 rcases Bool.eq_false_or_eq_true (decide ((a0_1 : Int) > 8)) with h92_ | h92_
 replace H := ite_y (dec_t h92_) H
 refine s_splitv (d := 21) (t := decide ((a0_1 : Int) > 8)) rfl (fun _ => ?_) (fun h93_ => absurd (h93_.symm.trans h92_) (by decide))
 refine s_no rfl rfl rfl rfl ?_
 refine s_no rfl rfl rfl rfl ?_
 refine s_no rfl rfl rfl rfl ?_
 refine s_v rfl rfl rfl rfl (v_pick rfl rfl rfl rfl) ?_
 refine s_v rfl rfl rfl rfl (v_move rfl rfl) ?_
 refine s_no rfl rfl rfl rfl ?_
 refine s_no rfl rfl rfl rfl ?_
 refine s_no rfl rfl rfl rfl ?_
 refine s_v rfl rfl rfl rfl (v_pick rfl rfl rfl rfl) ?_
 refine s_v rfl rfl rfl rfl (v_move rfl rfl) ?_
 refine s_no rfl rfl rfl rfl ?_
 refine s_no rfl rfl rfl rfl ?_
 refine s_no rfl rfl rfl rfl ?_
 refine s_v rfl rfl rfl rfl (v_pick rfl rfl rfl rfl) ?_
 refine s_v rfl rfl rfl rfl (v_move rfl rfl) ?_
 refine s_no rfl rfl rfl rfl ?_
 refine s_no rfl rfl rfl rfl ?_
 refine s_no rfl rfl rfl rfl ?_
 refine s_v rfl rfl rfl rfl (v_pick rfl rfl rfl rfl) ?_
 refine s_end ?_
 have hq_0 := Option.some.inj H
 subst hq_0
 exact q_seq (c_frame (subF_spec (by exact ⟨rfl, rfl, rfl, trivial⟩)) (c_take [0] rfl (by decide) (J_ () trivial)))
 replace H := ite_n (dec_f h92_) H
 refine s_splitv (d := 21) (t := decide ((a0_1 : Int) > 8)) rfl (fun h94_ => absurd (h94_.symm.trans h92_) (by decide)) (fun _ => ?_)
 refine s_vg rfl rfl rfl rfl (v_fa rfl Try.underlying23 rfl SZ3 rfl) ?_
 refine s_vg rfl rfl rfl rfl (v_ld 0 rfl Try.underlying3 rfl rfl rfl rfl) ?_
 refine s_vg rfl rfl rfl rfl (v_arith rfl rfl rfl rfl) ?_
 refine s_v rfl rfl rfl rfl (v_pick rfl rfl rfl rfl) ?_
 refine s_v rfl rfl rfl rfl (v_move rfl rfl) ?_
 rcases Bool.eq_false_or_eq_true (decide ((a0_2 : Int) < 1)) with h95_ | h95_
 replace H := ite_y (dec_t h95_) H
 refine s_splitv (d := 26) (t := decide ((a0_2 : Int) < 1)) rfl (fun _ => ?_) (fun h96_ => absurd (h96_.symm.trans h95_) (by decide))
 refine s_no rfl rfl rfl rfl ?_
 refine s_no rfl rfl rfl rfl ?_
 refine s_no rfl rfl rfl rfl ?_
 refine s_v rfl rfl rfl rfl (v_pick rfl rfl rfl rfl) ?_
 refine s_v rfl rfl rfl rfl (v_move rfl rfl) ?_
 refine s_no rfl rfl rfl rfl ?_
 refine s_no rfl rfl rfl rfl ?_
 refine s_no rfl rfl rfl rfl ?_
 refine s_v rfl rfl rfl rfl (v_pick rfl rfl rfl rfl) ?_
 refine s_v rfl rfl rfl rfl (v_move rfl rfl) ?_
 refine s_no rfl rfl rfl rfl ?_
 refine s_no rfl rfl rfl rfl ?_
 refine s_no rfl rfl rfl rfl ?_
 refine s_v rfl rfl rfl rfl (v_pick rfl rfl rfl rfl) ?_
 refine s_end ?_
 have hq_0 := Option.some.inj H
 subst hq_0
 exact q_seq (c_frame (subF_spec (by exact ⟨rfl, rfl, rfl, trivial⟩)) (c_take [0] rfl (by decide) (J_ () trivial)))
 replace H := ite_n (dec_f h95_) H
 refine s_splitv (d := 26) (t := decide ((a0_2 : Int) < 1)) rfl (fun h97_ => absurd (h97_.symm.trans h95_) (by decide)) (fun _ => ?_)
 refine s_vg rfl rfl rfl rfl (v_fa rfl Try.underlying23 rfl SZ3 rfl) ?_
 refine s_vg rfl rfl rfl rfl (v_ld 0 rfl Try.underlying3 rfl rfl rfl rfl) ?_
 refine s_vg rfl rfl rfl rfl (v_arith rfl rfl rfl rfl) ?_
 refine s_v rfl rfl rfl rfl (v_pick rfl rfl rfl rfl) ?_
 refine s_v rfl rfl rfl rfl (v_move rfl rfl) ?_
 rcases Bool.eq_false_or_eq_true (decide ((a0_2 : Int) > 64)) with h98_ | h98_
 replace H := ite_y (dec_t h98_) H
 refine s_splitv (d := 31) (t := decide ((a0_2 : Int) > 64)) rfl (fun _ => ?_) (fun h99_ => absurd (h99_.symm.trans h98_) (by decide))
 refine s_no rfl rfl rfl rfl ?_
 refine s_no rfl rfl rfl rfl ?_
 refine s_no rfl rfl rfl rfl ?_
 refine s_v rfl rfl rfl rfl (v_pick rfl rfl rfl rfl) ?_
 refine s_v rfl rfl rfl rfl (v_move rfl rfl) ?_
 refine s_no rfl rfl rfl rfl ?_
 refine s_no rfl rfl rfl rfl ?_
 refine s_no rfl rfl rfl rfl ?_
 refine s_v rfl rfl rfl rfl (v_pick rfl rfl rfl rfl) ?_
 refine s_end ?_
 have hq_0 := Option.some.inj H
 subst hq_0
 exact q_seq (c_frame (subF_spec (by exact ⟨rfl, rfl, rfl, trivial⟩)) (c_take [0] rfl (by decide) (J_ () trivial)))
 replace H := ite_n (dec_f h98_) H
 refine s_splitv (d := 31) (t := decide ((a0_2 : Int) > 64)) rfl (fun h100_ => absurd (h100_.symm.trans h98_) (by decide)) (fun _ => ?_)
 refine s_vg rfl rfl rfl rfl (v_fa rfl Try.underlying23 rfl SZ3 rfl) ?_
 refine s_vg rfl rfl rfl rfl (v_ld 0 rfl Try.underlying3 rfl rfl rfl rfl) ?_
 refine s_vg rfl rfl rfl rfl (v_arith rfl rfl rfl rfl) ?_
 refine s_v rfl rfl rfl rfl (v_pick rfl rfl rfl rfl) ?_
 refine s_v rfl rfl rfl rfl (v_move rfl rfl) ?_
 rcases Bool.eq_false_or_eq_true (decide ((a0_3 : Int) < 1)) with h101_ | h101_
 replace H := ite_y (dec_t h101_) H
 refine s_splitv (d := 36) (t := decide ((a0_3 : Int) < 1)) rfl (fun _ => ?_) (fun h102_ => absurd (h102_.symm.trans h101_) (by decide))
 refine s_no rfl rfl rfl rfl ?_
 refine s_no rfl rfl rfl rfl ?_
 refine s_no rfl rfl rfl rfl ?_
 refine s_v rfl rfl rfl rfl (v_pick rfl rfl rfl rfl) ?_
 refine s_end ?_
 have hq_0 := Option.some.inj H
 subst hq_0
 exact q_seq (c_frame (subF_spec (by exact ⟨rfl, rfl, rfl, trivial⟩)) (c_take [0] rfl (by decide) (J_ () trivial)))
 replace H := ite_n (dec_f h101_) H
 refine s_splitv (d := 36) (t := decide ((a0_3 : Int) < 1)) rfl (fun h103_ => absurd (h103_.symm.trans h101_) (by decide)) (fun _ => ?_)
 refine s_vg rfl rfl rfl rfl (v_fa rfl Try.underlying23 rfl SZ3 rfl) ?_
 refine s_vg rfl rfl rfl rfl (v_ld 0 rfl Try.underlying3 rfl rfl rfl rfl) ?_
 refine s_vg rfl rfl rfl rfl (v_arith rfl rfl rfl rfl) ?_
 refine s_v rfl rfl rfl rfl (v_pick rfl rfl rfl rfl) ?_
 refine s_end ?_
 have hq_0 := Option.some.inj H
 subst hq_0
 exact q_seq (c_frame (subF_spec (by exact ⟨rfl, rfl, rfl, trivial⟩)) (c_take [0] rfl (by decide) (J_ () trivial)))
end Go.Eng
namespace Go.Eng
open Go.Proofs Go.RowKit Go.Proofs.YtbonlagecjealaaW.PrintWords Go.Proofs.Ytbonlagecjealaa.GSeq
set_option linter.unusedVariables false
set_option linter.unusedSimpArgs false
def stepstoneref04_Len.f (a0_0 : Int) (a0_1 : Int) (a0_2 : Int) (a0_3 : Int) (a0_4 : Int) (a0_5 : Int) (a0_6 : Int) : Option Int := (stepstoneref04_Right.f a0_0 a0_1 a0_2 a0_3 a0_4 a0_5 a0_6).bind fun t10_ => (if t10_ = true then some (IntKind.wrap .i64 ((IntKind.wrap .i64 (1 + (IntKind.wrap .i64 (a0_0 * a0_1)))) + (IntKind.wrap .i64 ((IntKind.wrap .i64 (a0_2 + 1)) * (IntKind.wrap .i64 (6 + a0_3)))))) else some 0)
set_option maxRecDepth 100000 in
set_option maxHeartbeats 4000000 in
theorem stepstoneref04_Len_con (a0_0 : Int) (a0_1 : Int) (a0_2 : Int) (a0_3 : Int) (a0_4 : Int) (a0_5 : Int) (a0_6 : Int) (r0 : Int) (h : stepstoneref04_Len.f a0_0 a0_1 a0_2 a0_3 a0_4 a0_5 a0_6 = some r0) (w0 : World) (Hs : List Nat) : Con Try.prog 52 #[.agg #[.int .i64 a0_0, .int .i64 a0_1, .int .i64 a0_2, .int .i64 a0_3, .int .i64 a0_4, .int .i64 a0_5, .int .i64 a0_6]] w0 Hs [] (fun X => X (.int .i64 r0) []) := by
 refine con_enter (c := bodyOf Try.f52) Try.func52 rfl (m := 20) rfl rfl rfl ?_
 intro X hX _
 have H := h
 unfold stepstoneref04_Len.f at H
 clear h
 refine c_seq rfl ?_
 refine r_ord (l := [0, 1]) rfl (by kernel_rfl) (by kernel_rfl) ?_
 refine s_e rfl rfl (e_box rfl rfl rfl rfl) ?_
 intro b2_
 refine s_v rfl rfl rfl rfl (v_assign rfl rfl) ?_
 refine s_end ?_
 refine q_seq ?_
 refine c_seq rfl ?_
 refine c_seq rfl ?_
 refine r_ord (l := [0, 1, 2]) rfl (by kernel_rfl) (by kernel_rfl) ?_
 refine s_v rfl rfl rfl rfl (v_ldA [.int .i64 a0_0, .int .i64 a0_1, .int .i64 a0_2, .int .i64 a0_3, .int .i64 a0_4, .int .i64 a0_5, .int .i64 a0_6] 0 rfl Try.underlying23 rfl SZ23 rfl rfl rfl rfl) ?_
 obtain ⟨t10_, e11_, H⟩ := bind_s H
 refine s_e rfl rfl (e_callF [] #[.agg #[.int .i64 a0_0, .int .i64 a0_1, .int .i64 a0_2, .int .i64 a0_3, .int .i64 a0_4, .int .i64 a0_5, .int .i64 a0_6]] rfl rfl rfl rfl rfl Try.func36 rfl (by decide) rfl rfl rfl rfl (fun w ht => stepstoneref04_Right_con a0_0 a0_1 a0_2 a0_3 a0_4 a0_5 a0_6 t10_ e11_ w _)) ?_
 refine s_v rfl rfl rfl rfl (v_not rfl rfl) ?_
 refine s_end ?_
 refine q_seq ?_
 rcases Bool.eq_false_or_eq_true (!t10_) with h12_ | h12_
 replace H := ite_n (not_t (bnot_t h12_)) H
 refine c_cond rfl rfl (fun _ => ?_) (fun h13_ => absurd (h13_.symm.trans h12_) (by decide))
 refine c_seq rfl ?_
 refine r_ord (l := [0]) rfl (by kernel_rfl) (by kernel_rfl) ?_
 refine s_v rfl rfl rfl rfl (v_assign rfl rfl) ?_
 refine s_end ?_
 refine q_seq ?_
 refine c_ret rfl ?_
 refine q_then_ret ?_
 have e_ := Option.some.inj H
 subst e_
 exact q_ret (vs := [.int .i64 0]) rfl (.tmp rfl .nil) [] rfl (by decide) (hX)
 replace H := ite_y (bnot_f h12_) H
 refine c_cond rfl rfl (fun h14_ => absurd (h14_.symm.trans h12_) (by decide)) (fun _ => ?_)
 refine c_skip rfl ?_
 refine q_seq ?_
 refine c_seq rfl ?_
 refine r_ord (l := [0, 1, 2, 3, 4, 5, 6, 7, 8, 9, 10, 11, 12, 13, 14]) rfl (by kernel_rfl) (by kernel_rfl) ?_
 refine s_v rfl rfl rfl rfl (v_fa rfl Try.underlying23 rfl SZ3 rfl) ?_
 refine s_v rfl rfl rfl rfl (v_ld 0 rfl Try.underlying3 rfl rfl rfl rfl) ?_
 refine s_v rfl rfl rfl rfl (v_fa rfl Try.underlying23 rfl SZ3 rfl) ?_
 refine s_v rfl rfl rfl rfl (v_ld 0 rfl Try.underlying3 rfl rfl rfl rfl) ?_
 refine s_v rfl rfl rfl rfl (v_arith rfl rfl rfl rfl) ?_
 refine s_v rfl rfl rfl rfl (v_arith rfl rfl rfl rfl) ?_
 refine s_v rfl rfl rfl rfl (v_fa rfl Try.underlying23 rfl SZ3 rfl) ?_
 refine s_v rfl rfl rfl rfl (v_ld 0 rfl Try.underlying3 rfl rfl rfl rfl) ?_
 refine s_v rfl rfl rfl rfl (v_arith rfl rfl rfl rfl) ?_
 refine s_v rfl rfl rfl rfl (v_fa rfl Try.underlying23 rfl SZ3 rfl) ?_
 refine s_v rfl rfl rfl rfl (v_ld 0 rfl Try.underlying3 rfl rfl rfl rfl) ?_
 refine s_v rfl rfl rfl rfl (v_arith rfl rfl rfl rfl) ?_
 refine s_v rfl rfl rfl rfl (v_arith rfl rfl rfl rfl) ?_
 refine s_v rfl rfl rfl rfl (v_arith rfl rfl rfl rfl) ?_
 refine s_v rfl rfl rfl rfl (v_assign rfl rfl) ?_
 refine s_end ?_
 refine q_seq ?_
 refine c_ret rfl ?_
 have e_ := Option.some.inj H
 subst e_
 exact q_ret (vs := [.int .i64 (IntKind.wrap .i64 ((IntKind.wrap .i64 (1 + (IntKind.wrap .i64 (a0_0 * a0_1)))) + (IntKind.wrap .i64 ((IntKind.wrap .i64 (a0_2 + 1)) * (IntKind.wrap .i64 (6 + a0_3))))))]) rfl (.tmp rfl .nil) [] rfl (by decide) (hX)
def stepstoneref21_whole.f (a0_0 : Int) (a0_1 : Int) (a0_2 : Int) (a0_3 : Int) (a0_4 : Int) (a0_5 : Int) (a0_6 : Int) (l1 : List Int) : Option Bool := ((stepstoneref04_Right.f a0_0 a0_1 a0_2 a0_3 a0_4 a0_5 a0_6).bind fun t10_ => (if t10_ = true then (stepstoneref04_Len.f a0_0 a0_1 a0_2 a0_3 a0_4 a0_5 a0_6).bind fun t13_ => some (((l1.length : Int) : Int) == t13_) else some false) : Option Bool).bind fun j8_ => some j8_
def stepstoneref04_Cell.f (a0_0 : Int) (a0_1 : Int) (a0_2 : Int) (a0_3 : Int) (a0_4 : Int) (a0_5 : Int) (a0_6 : Int) (a1 : Int) (a2 : Int) : Option Int := ((stepstoneref04_Right.f a0_0 a0_1 a0_2 a0_3 a0_4 a0_5 a0_6).bind fun t37_ => (if t37_ = true then (if (a1 : Int) < 0 then some true else (if (a1 : Int) > a0_2 then some true else (if (a2 : Int) < 0 then some true else some (decide ((a2 : Int) ≥ (IntKind.wrap .i64 (6 + a0_3))))))) else some true) : Option Bool).bind fun j34_ => (if j34_ = true then some (-1) else some (IntKind.wrap .i64 ((IntKind.wrap .i64 ((IntKind.wrap .i64 (1 + (IntKind.wrap .i64 (a0_0 * a0_1)))) + (IntKind.wrap .i64 (a1 * (IntKind.wrap .i64 (6 + a0_3)))))) + a2)))
set_option maxRecDepth 100000 in
set_option maxHeartbeats 4000000 in
theorem stepstoneref04_Cell_con (a0_0 : Int) (a0_1 : Int) (a0_2 : Int) (a0_3 : Int) (a0_4 : Int) (a0_5 : Int) (a0_6 : Int) (a1 : Int) (a2 : Int) (r0 : Int) (h : stepstoneref04_Cell.f a0_0 a0_1 a0_2 a0_3 a0_4 a0_5 a0_6 a1 a2 = some r0) (w0 : World) (Hs : List Nat) : Con Try.prog 38 #[.agg #[.int .i64 a0_0, .int .i64 a0_1, .int .i64 a0_2, .int .i64 a0_3, .int .i64 a0_4, .int .i64 a0_5, .int .i64 a0_6], .int .i64 a1, .int .i64 a2] w0 Hs [] (fun X => X (.int .i64 r0) []) := by
 refine con_enter (c := bodyOf Try.f38) Try.func38 rfl (m := 45) rfl rfl rfl ?_
 intro X hX _
 have H := h
 unfold stepstoneref04_Cell.f at H
 clear h
 refine c_seq rfl ?_
 refine r_ord (l := [0, 1]) rfl (by kernel_rfl) (by kernel_rfl) ?_
 refine s_e rfl rfl (e_box rfl rfl rfl rfl) ?_
 intro b2_
 refine s_v rfl rfl rfl rfl (v_assign rfl rfl) ?_
 refine s_end ?_
 refine q_seq ?_
 refine c_seq rfl ?_
 obtain ⟨j34_, e35_, H⟩ := bind_s H
 refine c_join (β := Unit) (fun _ => True) (fun _ => [(1, .int .i64 a1), (2, .int .i64 a2), (3, .pointer (some ⟨b2_, 0, none⟩)), (6, .int .i64 0), (30, .bool j34_)]) (fun _ => [.b b2_ (.cells #[.int .i64 a0_0, .int .i64 a0_1, .int .i64 a0_2, .int .i64 a0_3, .int .i64 a0_4, .int .i64 a0_5, .int .i64 a0_6] 23 (0, 0))]) rfl (fun _ _ => ?_) (fun J_ => ?_)
 rcases Bool.eq_false_or_eq_true j34_ with h36_ | h36_
 subst h36_
 replace H := ite_y rfl H
 refine c_cond1 rfl rfl ?_
 refine c_seq rfl ?_
 refine r_ord (l := [0]) rfl (by kernel_rfl) (by kernel_rfl) ?_
 refine s_v rfl rfl rfl rfl (v_assign rfl rfl) ?_
 refine s_end ?_
 refine q_seq ?_
 refine c_ret rfl ?_
 refine q_then_ret ?_
 have e_ := Option.some.inj H
 subst e_
 exact q_ret (vs := [.int .i64 (-1)]) rfl (.tmp rfl .nil) [] rfl (by decide) (hX)
 subst h36_
 replace H := ite_n (by decide) H
 refine c_cond0 rfl rfl ?_
 refine c_skip rfl ?_
 refine q_seq ?_
 refine c_seq rfl ?_
 refine r_ord (l := [0, 1, 2, 3, 4, 5, 6, 7, 8, 9, 10, 11, 12, 13, 14]) rfl (by kernel_rfl) (by kernel_rfl) ?_
 refine s_v rfl rfl rfl rfl (v_fa rfl Try.underlying23 rfl SZ3 rfl) ?_
 refine s_v rfl rfl rfl rfl (v_ld 0 rfl Try.underlying3 rfl rfl rfl rfl) ?_
 refine s_v rfl rfl rfl rfl (v_fa rfl Try.underlying23 rfl SZ3 rfl) ?_
 refine s_v rfl rfl rfl rfl (v_ld 0 rfl Try.underlying3 rfl rfl rfl rfl) ?_
 refine s_v rfl rfl rfl rfl (v_arith rfl rfl rfl rfl) ?_
 refine s_v rfl rfl rfl rfl (v_arith rfl rfl rfl rfl) ?_
 refine s_v rfl rfl rfl rfl (v_move rfl rfl) ?_
 refine s_v rfl rfl rfl rfl (v_fa rfl Try.underlying23 rfl SZ3 rfl) ?_
 refine s_v rfl rfl rfl rfl (v_ld 0 rfl Try.underlying3 rfl rfl rfl rfl) ?_
 refine s_v rfl rfl rfl rfl (v_arith rfl rfl rfl rfl) ?_
 refine s_v rfl rfl rfl rfl (v_arith rfl rfl rfl rfl) ?_
 refine s_v rfl rfl rfl rfl (v_arith rfl rfl rfl rfl) ?_
 refine s_v rfl rfl rfl rfl (v_move rfl rfl) ?_
 refine s_v rfl rfl rfl rfl (v_arith rfl rfl rfl rfl) ?_
 refine s_v rfl rfl rfl rfl (v_assign rfl rfl) ?_
 refine s_end ?_
 refine q_seq ?_
 refine c_ret rfl ?_
 have e_ := Option.some.inj H
 subst e_
 exact q_ret (vs := [.int .i64 (IntKind.wrap .i64 ((IntKind.wrap .i64 ((IntKind.wrap .i64 (1 + (IntKind.wrap .i64 (a0_0 * a0_1)))) + (IntKind.wrap .i64 (a1 * (IntKind.wrap .i64 (6 + a0_3)))))) + a2))]) rfl (.tmp rfl .nil) [] rfl (by decide) (hX)
 clear H
 have H := e35_
 clear e35_
 refine r_ord (l := [0, 1, 2, 3, 4, 5, 6, 7, 8, 9, 10, 11, 12, 13, 14, 15, 16, 17, 18, 19, 20, 21, 22, 23]) rfl (by kernel_rfl) (by kernel_rfl) ?_
 refine s_v rfl rfl rfl rfl (v_ldA [.int .i64 a0_0, .int .i64 a0_1, .int .i64 a0_2, .int .i64 a0_3, .int .i64 a0_4, .int .i64 a0_5, .int .i64 a0_6] 0 rfl Try.underlying23 rfl SZ23 rfl rfl rfl rfl) ?_
 obtain ⟨t37_, e38_, H⟩ := bind_s H
 refine s_e rfl rfl (e_callF [] #[.agg #[.int .i64 a0_0, .int .i64 a0_1, .int .i64 a0_2, .int .i64 a0_3, .int .i64 a0_4, .int .i64 a0_5, .int .i64 a0_6]] rfl rfl rfl rfl rfl Try.func36 rfl (by decide) rfl rfl rfl rfl (fun w ht => stepstoneref04_Right_con a0_0 a0_1 a0_2 a0_3 a0_4 a0_5 a0_6 t37_ e38_ w _)) ?_
 refine s_v rfl rfl rfl rfl (v_not rfl rfl) ?_
 refine s_v rfl rfl rfl rfl (v_move rfl rfl) ?_
 rcases Bool.eq_false_or_eq_true (!t37_) with h39_ | h39_
 replace H := ite_n (not_t (bnot_t h39_)) H
 refine s_splitv (d := 10) (t := !t37_) rfl (fun _ => ?_) (fun h40_ => absurd (h40_.symm.trans h39_) (by decide))
 refine s_no rfl rfl rfl rfl ?_
 refine s_no rfl rfl rfl rfl ?_
 refine s_v rfl rfl rfl rfl (v_pick rfl rfl rfl rfl) ?_
 refine s_v rfl rfl rfl rfl (v_move rfl rfl) ?_
 refine s_no rfl rfl rfl rfl ?_
 refine s_no rfl rfl rfl rfl ?_
 refine s_no rfl rfl rfl rfl ?_
 refine s_no rfl rfl rfl rfl ?_
 refine s_v rfl rfl rfl rfl (v_pick rfl rfl rfl rfl) ?_
 refine s_v rfl rfl rfl rfl (v_move rfl rfl) ?_
 refine s_no rfl rfl rfl rfl ?_
 refine s_no rfl rfl rfl rfl ?_
 refine s_v rfl rfl rfl rfl (v_pick rfl rfl rfl rfl) ?_
 refine s_v rfl rfl rfl rfl (v_move rfl rfl) ?_
 refine s_no rfl rfl rfl rfl ?_
 refine s_no rfl rfl rfl rfl ?_
 refine s_no rfl rfl rfl rfl ?_
 refine s_no rfl rfl rfl rfl ?_
 refine s_no rfl rfl rfl rfl ?_
 refine s_v rfl rfl rfl rfl (v_pick rfl rfl rfl rfl) ?_
 refine s_end ?_
 have hq_0 := Option.some.inj H
 subst hq_0
 exact q_seq (c_frame (subF_spec (by exact ⟨rfl, rfl, rfl, rfl, rfl, trivial⟩)) (c_take [0] rfl (by decide) (J_ () trivial)))
 replace H := ite_y (bnot_f h39_) H
 refine s_splitv (d := 10) (t := !t37_) rfl (fun h41_ => absurd (h41_.symm.trans h39_) (by decide)) (fun _ => ?_)
 refine s_vg rfl rfl rfl rfl (v_move rfl rfl) ?_
 refine s_vg rfl rfl rfl rfl (v_arith rfl rfl rfl rfl) ?_
 refine s_v rfl rfl rfl rfl (v_pick rfl rfl rfl rfl) ?_
 refine s_v rfl rfl rfl rfl (v_move rfl rfl) ?_
 rcases Bool.eq_false_or_eq_true (decide ((a1 : Int) < 0)) with h42_ | h42_
 replace H := ite_y (dec_t h42_) H
 refine s_splitv (d := 14) (t := decide ((a1 : Int) < 0)) rfl (fun _ => ?_) (fun h43_ => absurd (h43_.symm.trans h42_) (by decide))
 refine s_no rfl rfl rfl rfl ?_
 refine s_no rfl rfl rfl rfl ?_
 refine s_no rfl rfl rfl rfl ?_
 refine s_no rfl rfl rfl rfl ?_
 refine s_v rfl rfl rfl rfl (v_pick rfl rfl rfl rfl) ?_
 refine s_v rfl rfl rfl rfl (v_move rfl rfl) ?_
 refine s_no rfl rfl rfl rfl ?_
 refine s_no rfl rfl rfl rfl ?_
 refine s_v rfl rfl rfl rfl (v_pick rfl rfl rfl rfl) ?_
 refine s_v rfl rfl rfl rfl (v_move rfl rfl) ?_
 refine s_no rfl rfl rfl rfl ?_
 refine s_no rfl rfl rfl rfl ?_
 refine s_no rfl rfl rfl rfl ?_
 refine s_no rfl rfl rfl rfl ?_
 refine s_no rfl rfl rfl rfl ?_
 refine s_v rfl rfl rfl rfl (v_pick rfl rfl rfl rfl) ?_
 refine s_end ?_
 have hq_0 := Option.some.inj H
 subst hq_0
 exact q_seq (c_frame (subF_spec (by exact ⟨rfl, rfl, rfl, rfl, rfl, trivial⟩)) (c_take [0] rfl (by decide) (J_ () trivial)))
 replace H := ite_n (dec_f h42_) H
 refine s_splitv (d := 14) (t := decide ((a1 : Int) < 0)) rfl (fun h44_ => absurd (h44_.symm.trans h42_) (by decide)) (fun _ => ?_)
 refine s_vg rfl rfl rfl rfl (v_move rfl rfl) ?_
 refine s_vg rfl rfl rfl rfl (v_fa rfl Try.underlying23 rfl SZ3 rfl) ?_
 refine s_vg rfl rfl rfl rfl (v_ld 0 rfl Try.underlying3 rfl rfl rfl rfl) ?_
 refine s_vg rfl rfl rfl rfl (v_arith rfl rfl rfl rfl) ?_
 refine s_v rfl rfl rfl rfl (v_pick rfl rfl rfl rfl) ?_
 refine s_v rfl rfl rfl rfl (v_move rfl rfl) ?_
 rcases Bool.eq_false_or_eq_true (decide ((a1 : Int) > a0_2)) with h45_ | h45_
 replace H := ite_y (dec_t h45_) H
 refine s_splitv (d := 20) (t := decide ((a1 : Int) > a0_2)) rfl (fun _ => ?_) (fun h46_ => absurd (h46_.symm.trans h45_) (by decide))
 refine s_no rfl rfl rfl rfl ?_
 refine s_no rfl rfl rfl rfl ?_
 refine s_v rfl rfl rfl rfl (v_pick rfl rfl rfl rfl) ?_
 refine s_v rfl rfl rfl rfl (v_move rfl rfl) ?_
 refine s_no rfl rfl rfl rfl ?_
 refine s_no rfl rfl rfl rfl ?_
 refine s_no rfl rfl rfl rfl ?_
 refine s_no rfl rfl rfl rfl ?_
 refine s_no rfl rfl rfl rfl ?_
 refine s_v rfl rfl rfl rfl (v_pick rfl rfl rfl rfl) ?_
 refine s_end ?_
 have hq_0 := Option.some.inj H
 subst hq_0
 exact q_seq (c_frame (subF_spec (by exact ⟨rfl, rfl, rfl, rfl, rfl, trivial⟩)) (c_take [0] rfl (by decide) (J_ () trivial)))
 replace H := ite_n (dec_f h45_) H
 refine s_splitv (d := 20) (t := decide ((a1 : Int) > a0_2)) rfl (fun h47_ => absurd (h47_.symm.trans h45_) (by decide)) (fun _ => ?_)
 refine s_vg rfl rfl rfl rfl (v_move rfl rfl) ?_
 refine s_vg rfl rfl rfl rfl (v_arith rfl rfl rfl rfl) ?_
 refine s_v rfl rfl rfl rfl (v_pick rfl rfl rfl rfl) ?_
 refine s_v rfl rfl rfl rfl (v_move rfl rfl) ?_
 rcases Bool.eq_false_or_eq_true (decide ((a2 : Int) < 0)) with h48_ | h48_
 replace H := ite_y (dec_t h48_) H
 refine s_splitv (d := 24) (t := decide ((a2 : Int) < 0)) rfl (fun _ => ?_) (fun h49_ => absurd (h49_.symm.trans h48_) (by decide))
 refine s_no rfl rfl rfl rfl ?_
 refine s_no rfl rfl rfl rfl ?_
 refine s_no rfl rfl rfl rfl ?_
 refine s_no rfl rfl rfl rfl ?_
 refine s_no rfl rfl rfl rfl ?_
 refine s_v rfl rfl rfl rfl (v_pick rfl rfl rfl rfl) ?_
 refine s_end ?_
 have hq_0 := Option.some.inj H
 subst hq_0
 exact q_seq (c_frame (subF_spec (by exact ⟨rfl, rfl, rfl, rfl, rfl, trivial⟩)) (c_take [0] rfl (by decide) (J_ () trivial)))
 replace H := ite_n (dec_f h48_) H
 refine s_splitv (d := 24) (t := decide ((a2 : Int) < 0)) rfl (fun h50_ => absurd (h50_.symm.trans h48_) (by decide)) (fun _ => ?_)
 refine s_vg rfl rfl rfl rfl (v_move rfl rfl) ?_
 refine s_vg rfl rfl rfl rfl (v_fa rfl Try.underlying23 rfl SZ3 rfl) ?_
 refine s_vg rfl rfl rfl rfl (v_ld 0 rfl Try.underlying3 rfl rfl rfl rfl) ?_
 refine s_vg rfl rfl rfl rfl (v_arith rfl rfl rfl rfl) ?_
 refine s_vg rfl rfl rfl rfl (v_arith rfl rfl rfl rfl) ?_
 refine s_v rfl rfl rfl rfl (v_pick rfl rfl rfl rfl) ?_
 refine s_end ?_
 have hq_0 := Option.some.inj H
 subst hq_0
 exact q_seq (c_frame (subF_spec (by exact ⟨rfl, rfl, rfl, rfl, rfl, trivial⟩)) (c_take [0] rfl (by decide) (J_ () trivial)))
def stepstoneref21_at.f (a0_0 : Int) (a0_1 : Int) (a0_2 : Int) (a0_3 : Int) (a0_4 : Int) (a0_5 : Int) (a0_6 : Int) (l1 : List Int) (a2 : Int) (a3 : Int) : Option Int := (stepstoneref04_Cell.f a0_0 a0_1 a0_2 a0_3 a0_4 a0_5 a0_6 a2 a3).bind fun t7_ => (if 0 ≤ (t7_ : Int) then (if (t7_ : Int) < (l1.length : Int) then some (rd l1 t7_) else none) else none)
def stepstoneref01_Index.f (a0 : Int) : Option Int := some (IntKind.wrap .i64 (Int.tmod a0 4294967296))
def stepstoneref01_Valid.f (a0 : Int) : Option Bool := some (decide ((a0 : Int) ≥ 9223372036854775808))
def stepstoneref01_Marked.f (a0 : Int) : Option Bool := some ((Int.tmod (IntKind.wrap .u64 (Int.tdiv a0 4611686018427387904)) 2 : Int) == 1)
set_option maxRecDepth 100000 in
set_option maxHeartbeats 4000000 in
theorem stepstoneref01_Marked_con (a0 : Int) (r0 : Bool) (h : stepstoneref01_Marked.f a0 = some r0) (w0 : World) (Hs : List Nat) : Con Try.prog 53 #[.int .u64 a0] w0 Hs [] (fun X => X (.bool r0) []) := by
  refine con_enter (c := bodyOf Try.f53) Try.func53 rfl (m := 7) rfl rfl rfl ?_
  intro X hX _
  have H := h
  unfold stepstoneref01_Marked.f at H
  clear h
  refine c_seq rfl ?_
  refine r_ord (l := [0]) rfl (by kernel_rfl) (by kernel_rfl) ?_
  refine s_v rfl rfl rfl rfl (v_assign rfl rfl) ?_
  refine s_end ?_
  refine q_seq ?_
  refine c_seq rfl ?_
  refine r_ord (l := [0, 1, 2, 3, 4]) rfl (by kernel_rfl) (by kernel_rfl) ?_
  refine s_v rfl rfl rfl rfl (v_move rfl rfl) ?_
  refine s_v rfl rfl rfl rfl (v_div rfl rfl rfl (by decide)) ?_
  refine s_v rfl rfl rfl rfl (v_rem rfl rfl rfl (by decide)) ?_
  refine s_v rfl rfl rfl rfl (v_arith rfl rfl rfl rfl) ?_
  refine s_v rfl rfl rfl rfl (v_assign rfl rfl) ?_
  refine s_end ?_
  refine q_seq ?_
  refine c_ret rfl ?_
  have e_ := Option.some.inj H
  subst e_
  exact q_ret (vs := [.bool ((Int.tmod (IntKind.wrap .u64 (Int.tdiv a0 4611686018427387904)) 2 : Int) == 1)]) rfl (.tmp rfl .nil) [] rfl (by decide) (hX)
def stepstoneref01_Plain.f (a0 : Int) : Option Int := (stepstoneref01_Marked.f a0).bind fun t6_ => (if t6_ = true then some (IntKind.wrap .u64 (a0 - 4611686018427387904)) else some a0)
def stepstoneref21_Level.l0 : Nat → Int → Int → Int → Int → Int → Int → Int → List Int → Int → Int → List Int → Option ((List Int) × Int)
  | 0, _, _, _, _, _, _, _, _, _, _, _ => none
  | k + 1, a0_0, a0_1, a0_2, a0_3, a0_4, a0_5, a0_6, l1, a2, x57_, xs55_ => (if ((xs55_.length : Int) : Int) ≤ a0_2 then (stepstoneref01_Index.f x57_).bind fun t91_ => ((stepstoneref01_Valid.f x57_).bind fun t136_ => (if t136_ = true then (if (t91_ : Int) < 1 then some (t136_, !t136_, false, decide ((t91_ : Int) < 1), true, true) else some (t136_, !t136_, false, decide ((t91_ : Int) < 1), false, decide ((t91_ : Int) > a0_2))) else some (t136_, !t136_, true, true, true, true)) : Option (Bool × Bool × Bool × Bool × Bool × Bool)).bind fun (j112_, j113_, j114_, j115_, j116_, j117_) => (if j117_ = true then some (xs55_, x57_) else (stepstoneref01_Plain.f x57_).bind fun t127_ => (if xs55_.length < 17592186044416 then (stepstoneref21_at.f a0_0 a0_1 a0_2 a0_3 a0_4 a0_5 a0_6 l1 t91_ (IntKind.wrap .i64 (6 + a2))).bind fun t134_ => stepstoneref21_Level.l0 k a0_0 a0_1 a0_2 a0_3 a0_4 a0_5 a0_6 l1 a2 t134_ (xs55_ ++ [t127_]) else none)) else some (xs55_, x57_))
def stepstoneref21_Level.f (k : Nat) (a0_0 : Int) (a0_1 : Int) (a0_2 : Int) (a0_3 : Int) (a0_4 : Int) (a0_5 : Int) (a0_6 : Int) (l1 : List Int) (a2 : Int) : Option ((List Int) × Int) := ((stepstoneref21_whole.f a0_0 a0_1 a0_2 a0_3 a0_4 a0_5 a0_6 l1).bind fun t145_ => (if t145_ = true then (if (a2 : Int) < 0 then some true else some (decide ((a2 : Int) ≥ a0_3))) else some true) : Option Bool).bind fun j22_ => (if j22_ = true then some (([] : List Int), 0) else (stepstoneref21_at.f a0_0 a0_1 a0_2 a0_3 a0_4 a0_5 a0_6 l1 0 (IntKind.wrap .i64 (6 + a2))).bind fun t27_ => stepstoneref21_Level.l0 k a0_0 a0_1 a0_2 a0_3 a0_4 a0_5 a0_6 l1 a2 t27_ ([] : List Int))
def stepstoneref03_New.f (a0 : Int) : Option ((List Int) × Int × Int × Int × Int × Int × Int × Bool) := ((if (a0 : Int) < 0 then some 0 else some a0) : Option Int).bind fun j6_ => ((if (j6_ : Int) > 100000 then some 100000 else some j6_) : Option Int).bind fun j11_ => (if 0 ≤ (j11_ : Int) then (if (j11_ : Int) < 17592186044416 then some ((List.replicate (Int.toNat j11_) (0 : Int)), 0, 0, 0, 0, 0, 0, false) else none) else none)
set_option maxRecDepth 100000 in
set_option maxHeartbeats 4000000 in
theorem stepstoneref03_New_con (a0 : Int) (r0 : List Int) (r1 : Int) (r2 : Int) (r3 : Int) (r4 : Int) (r5 : Int) (r6 : Int) (r7 : Bool) (h : stepstoneref03_New.f a0 = some (r0, r1, r2, r3, r4, r5, r6, r7)) (w0 : World) (Hs : List Nat) : Con Try.prog 54 #[.int .i64 a0] w0 Hs [] (fun X => ∀ g_r0 rest_r0, r0.length ≤ maxLen → X (.agg #[.slice (some ⟨g_r0, 0, none⟩) r0.length r0.length, .int .i64 r1, .int .i64 r2, .int .i64 r3, .int .u64 r4, .int .u64 r5, .int .u64 r6, .bool r7]) [.b g_r0 (.cells (RowI .u64 r0 rest_r0) 25 (0, 0))]) := by
 refine con_enter (c := bodyOf Try.f54) Try.func54 rfl (m := 10) rfl rfl rfl ?_
 intro X hX _
 have H := h
 unfold stepstoneref03_New.f at H
 clear h
 refine c_seq rfl ?_
 refine r_ord (l := [0]) rfl (by kernel_rfl) (by kernel_rfl) ?_
 refine s_e rfl rfl (e_alloc rfl rfl rfl ZR57) ?_
 intro b2_
 refine s_end ?_
 refine q_seq ?_
 obtain ⟨j6_, e7_, H⟩ := bind_s H
 refine c_join (β := Unit) (fun _ => True) (fun _ => [(0, .int .i64 j6_), (2, .pointer (some ⟨b2_, 0, none⟩))]) (fun _ => [.b b2_ (.cells #[.slice none 0 0, .int .i64 0, .int .i64 0, .int .i64 0, .int .u64 0, .int .u64 0, .int .u64 0, .bool false] 57 (0, 0))]) rfl (fun _ _ => ?_) (fun J_ => ?_)
 obtain ⟨j11_, e12_, H⟩ := bind_s H
 refine c_join (β := Unit) (fun _ => True) (fun _ => [(0, .int .i64 j11_), (2, .pointer (some ⟨b2_, 0, none⟩))]) (fun _ => [.b b2_ (.cells #[.slice none 0 0, .int .i64 0, .int .i64 0, .int .i64 0, .int .u64 0, .int .u64 0, .int .u64 0, .bool false] 57 (0, 0))]) rfl (fun _ _ => ?_) (fun J_ => ?_)
 refine c_seq rfl ?_
 refine r_ord (l := [0, 1, 2, 3]) rfl (by kernel_rfl) (by kernel_rfl) ?_
 refine s_v rfl rfl rfl rfl (v_move rfl rfl) ?_
 obtain ⟨n17_, H⟩ := ite_no H
 obtain ⟨n18_, H⟩ := ite_no H
 refine s_e rfl rfl (e_makeI (kk := .u64) (bytes := 8) rfl rfl rfl Try.underlying24 (by kernel_rfl) rfl rfl n17_ (by omega) (by simp only [maxLen]; omega)) ?_
 intro b19_
 have mh20_ : (Int.toNat j11_) ≤ maxLen := by simp only [maxLen]; omega
 refine s_v rfl rfl rfl rfl (v_build (places := #[(0, 1), (1, 1), (2, 6)]) #[.slice (some ⟨b19_, 0, none⟩) (Int.toNat j11_) (Int.toNat j11_), .int .i64 0, .int .i64 0, .int .i64 0, .int .u64 0, .int .u64 0, .int .u64 0, .bool false] rfl ZR57 Try.underlying57 (by kernel_rfl) rfl (by kernel_rfl)) ?_
 refine s_e rfl rfl (e_stA 1 rfl rfl SZ57 rfl rfl rfl rfl rfl rfl) ?_
 refine s_end ?_
 refine q_seq ?_
 refine c_ret rfl ?_
 have hq_0 := Option.some.inj H
 obtain ⟨ee_0, hq_1⟩ := Prod.mk.inj hq_0
 obtain ⟨ee_1, hq_2⟩ := Prod.mk.inj hq_1
 obtain ⟨ee_2, hq_3⟩ := Prod.mk.inj hq_2
 obtain ⟨ee_3, hq_4⟩ := Prod.mk.inj hq_3
 obtain ⟨ee_4, hq_5⟩ := Prod.mk.inj hq_4
 obtain ⟨ee_5, hq_6⟩ := Prod.mk.inj hq_5
 obtain ⟨ee_6, hq_7⟩ := Prod.mk.inj hq_6
 subst ee_0
 subst ee_1
 subst ee_2
 subst ee_3
 subst ee_4
 subst ee_5
 subst ee_6
 subst hq_7
 have hX1 := hX b19_ ([]) (by rw [List.length_replicate]; exact mh20_)
 rw [show (List.replicate (Int.toNat j11_) (0 : Int)).length = (Int.toNat j11_) from List.length_replicate] at hX1
 exact q_ret (vs := [.agg #[.slice (some ⟨b19_, 0, none⟩) (Int.toNat j11_) (Int.toNat j11_), .int .i64 0, .int .i64 0, .int .i64 0, .int .u64 0, .int .u64 0, .int .u64 0, .bool false]]) rfl (.agg [.slice (some ⟨b19_, 0, none⟩) (Int.toNat j11_) (Int.toNat j11_), .int .i64 0, .int .i64 0, .int .i64 0, .int .u64 0, .int .u64 0, .int .u64 0, .bool false] 1 rfl Try.underlying57 rfl SZ57 rfl rfl rfl .nil) [0] rfl (by decide) (hX1)
 clear H
 have H := e12_
 clear e12_
 refine c_seq rfl ?_
 refine r_ord (l := [0, 1]) rfl (by kernel_rfl) (by kernel_rfl) ?_
 refine s_v rfl rfl rfl rfl (v_move rfl rfl) ?_
 refine s_v rfl rfl rfl rfl (v_arith rfl rfl rfl rfl) ?_
 refine s_end ?_
 refine q_seq ?_
 rcases Bool.eq_false_or_eq_true (decide ((j6_ : Int) > 100000)) with h21_ | h21_
 replace H := ite_y (dec_t h21_) H
 refine c_cond rfl rfl (fun _ => ?_) (fun h22_ => absurd (h22_.symm.trans h21_) (by decide))
 refine r_ord (l := [0]) rfl (by kernel_rfl) (by kernel_rfl) ?_
 refine s_v rfl rfl rfl rfl (v_assign rfl rfl) ?_
 refine s_end ?_
 have hq_0 := Option.some.inj H
 subst hq_0
 exact q_seq (c_frame (subF_spec (by exact ⟨rfl, rfl, trivial⟩)) (c_take [0] rfl (by decide) (J_ () trivial)))
 replace H := ite_n (dec_f h21_) H
 refine c_cond rfl rfl (fun h23_ => absurd (h23_.symm.trans h21_) (by decide)) (fun _ => ?_)
 refine c_skip rfl ?_
 have hq_0 := Option.some.inj H
 subst hq_0
 exact q_seq (c_frame (subF_spec (by exact ⟨rfl, rfl, trivial⟩)) (c_take [0] rfl (by decide) (J_ () trivial)))
 clear H
 have H := e7_
 clear e7_
 refine c_seq rfl ?_
 refine r_ord (l := [0, 1]) rfl (by kernel_rfl) (by kernel_rfl) ?_
 refine s_v rfl rfl rfl rfl (v_move rfl rfl) ?_
 refine s_v rfl rfl rfl rfl (v_arith rfl rfl rfl rfl) ?_
 refine s_end ?_
 refine q_seq ?_
 rcases Bool.eq_false_or_eq_true (decide ((a0 : Int) < 0)) with h24_ | h24_
 replace H := ite_y (dec_t h24_) H
 refine c_cond rfl rfl (fun _ => ?_) (fun h25_ => absurd (h25_.symm.trans h24_) (by decide))
 refine r_ord (l := [0]) rfl (by kernel_rfl) (by kernel_rfl) ?_
 refine s_v rfl rfl rfl rfl (v_assign rfl rfl) ?_
 refine s_end ?_
 have hq_0 := Option.some.inj H
 subst hq_0
 exact q_seq (c_frame (subF_spec (by exact ⟨rfl, rfl, trivial⟩)) (c_take [0] rfl (by decide) (J_ () trivial)))
 replace H := ite_n (dec_f h24_) H
 refine c_cond rfl rfl (fun h26_ => absurd (h26_.symm.trans h24_) (by decide)) (fun _ => ?_)
 refine c_skip rfl ?_
 have hq_0 := Option.some.inj H
 subst hq_0
 exact q_seq (c_frame (subF_spec (by exact ⟨rfl, rfl, trivial⟩)) (c_take [0] rfl (by decide) (J_ () trivial)))
def stepstoneref02_Meta.f (a0 : Int) (a1 : Int) : Option (Int × Bool) := ((if (a0 : Int) < 0 then some true else (if (a0 : Int) > 2 then some true else (if (a1 : Int) < 0 then some true else some (decide ((a1 : Int) > 1073741823))))) : Option Bool).bind fun j22_ => (if j22_ = true then some (0, false) else some (IntKind.wrap .u64 (IntKind.wrap .i64 ((IntKind.wrap .i64 (4 * a1)) + a0)), true))
set_option maxRecDepth 100000 in
set_option maxHeartbeats 4000000 in
theorem stepstoneref02_Meta_con (a0 : Int) (a1 : Int) (r0 : Int) (r1 : Bool) (h : stepstoneref02_Meta.f a0 a1 = some (r0, r1)) (w0 : World) (Hs : List Nat) : Con Try.prog 63 #[.int .i64 a0, .int .i64 a1] w0 Hs [] (fun X => X (.tuple #[.int .u64 r0, .bool r1]) []) := by
 refine con_enter (c := bodyOf Try.f63) Try.func63 rfl (m := 25) rfl rfl rfl ?_
 intro X hX _
 have H := h
 unfold stepstoneref02_Meta.f at H
 clear h
 refine c_seq rfl ?_
 refine r_ord (l := [0, 1]) rfl (by kernel_rfl) (by kernel_rfl) ?_
 refine s_v rfl rfl rfl rfl (v_assign rfl rfl) ?_
 refine s_v rfl rfl rfl rfl (v_assign rfl rfl) ?_
 refine s_end ?_
 refine q_seq ?_
 refine c_seq rfl ?_
 obtain ⟨j22_, e23_, H⟩ := bind_s H
 refine c_join (β := Unit) (fun _ => True) (fun _ => [(0, .int .i64 a0), (1, .int .i64 a1), (4, .int .u64 0), (5, .bool false), (19, .bool j22_)]) (fun _ => []) rfl (fun _ _ => ?_) (fun J_ => ?_)
 rcases Bool.eq_false_or_eq_true j22_ with h24_ | h24_
 subst h24_
 replace H := ite_y rfl H
 refine c_cond1 rfl rfl ?_
 refine c_seq rfl ?_
 refine r_ord (l := [0, 1]) rfl (by kernel_rfl) (by kernel_rfl) ?_
 refine s_v rfl rfl rfl rfl (v_assign rfl rfl) ?_
 refine s_v rfl rfl rfl rfl (v_assign rfl rfl) ?_
 refine s_end ?_
 refine q_seq ?_
 refine c_ret rfl ?_
 refine q_then_ret ?_
 have hq_0 := Option.some.inj H
 obtain ⟨ee_0, hq_1⟩ := Prod.mk.inj hq_0
 subst ee_0
 subst hq_1
 exact q_ret (vs := [.int .u64 0, .bool false]) rfl (.tmp rfl (.tmp rfl .nil)) [] rfl (by decide) (hX)
 subst h24_
 replace H := ite_n (by decide) H
 refine c_cond0 rfl rfl ?_
 refine c_skip rfl ?_
 refine q_seq ?_
 refine c_seq rfl ?_
 refine r_ord (l := [0, 1, 2, 3, 4, 5, 6]) rfl (by kernel_rfl) (by kernel_rfl) ?_
 refine s_v rfl rfl rfl rfl (v_move rfl rfl) ?_
 refine s_v rfl rfl rfl rfl (v_arith rfl rfl rfl rfl) ?_
 refine s_v rfl rfl rfl rfl (v_move rfl rfl) ?_
 refine s_v rfl rfl rfl rfl (v_arith rfl rfl rfl rfl) ?_
 refine s_v rfl rfl rfl rfl (v_conv rfl Try.underlying3 Try.underlying25 rfl) ?_
 refine s_v rfl rfl rfl rfl (v_assign rfl rfl) ?_
 refine s_v rfl rfl rfl rfl (v_assign rfl rfl) ?_
 refine s_end ?_
 refine q_seq ?_
 refine c_ret rfl ?_
 have hq_0 := Option.some.inj H
 obtain ⟨ee_0, hq_1⟩ := Prod.mk.inj hq_0
 subst ee_0
 subst hq_1
 exact q_ret (vs := [.int .u64 (IntKind.wrap .u64 (IntKind.wrap .i64 ((IntKind.wrap .i64 (4 * a1)) + a0))), .bool true]) rfl (.tmp rfl (.tmp rfl .nil)) [] rfl (by decide) (hX)
 clear H
 have H := e23_
 clear e23_
 refine r_ord (l := [0, 1, 2, 3, 4, 5, 6, 7, 8, 9, 10, 11, 12, 13]) rfl (by kernel_rfl) (by kernel_rfl) ?_
 refine s_v rfl rfl rfl rfl (v_move rfl rfl) ?_
 refine s_v rfl rfl rfl rfl (v_arith rfl rfl rfl rfl) ?_
 refine s_v rfl rfl rfl rfl (v_move rfl rfl) ?_
 rcases Bool.eq_false_or_eq_true (decide ((a0 : Int) < 0)) with h25_ | h25_
 replace H := ite_y (dec_t h25_) H
 refine s_splitv (d := 8) (t := decide ((a0 : Int) < 0)) rfl (fun _ => ?_) (fun h26_ => absurd (h26_.symm.trans h25_) (by decide))
 refine s_no rfl rfl rfl rfl ?_
 refine s_no rfl rfl rfl rfl ?_
 refine s_v rfl rfl rfl rfl (v_pick rfl rfl rfl rfl) ?_
 refine s_v rfl rfl rfl rfl (v_move rfl rfl) ?_
 refine s_no rfl rfl rfl rfl ?_
 refine s_no rfl rfl rfl rfl ?_
 refine s_v rfl rfl rfl rfl (v_pick rfl rfl rfl rfl) ?_
 refine s_v rfl rfl rfl rfl (v_move rfl rfl) ?_
 refine s_no rfl rfl rfl rfl ?_
 refine s_no rfl rfl rfl rfl ?_
 refine s_v rfl rfl rfl rfl (v_pick rfl rfl rfl rfl) ?_
 refine s_end ?_
 have hq_0 := Option.some.inj H
 subst hq_0
 exact q_seq (c_frame (subF_spec (by exact ⟨rfl, rfl, rfl, rfl, rfl, trivial⟩)) (c_take [] rfl (by decide) (J_ () trivial)))
 replace H := ite_n (dec_f h25_) H
 refine s_splitv (d := 8) (t := decide ((a0 : Int) < 0)) rfl (fun h27_ => absurd (h27_.symm.trans h25_) (by decide)) (fun _ => ?_)
 refine s_vg rfl rfl rfl rfl (v_move rfl rfl) ?_
 refine s_vg rfl rfl rfl rfl (v_arith rfl rfl rfl rfl) ?_
 refine s_v rfl rfl rfl rfl (v_pick rfl rfl rfl rfl) ?_
 refine s_v rfl rfl rfl rfl (v_move rfl rfl) ?_
 rcases Bool.eq_false_or_eq_true (decide ((a0 : Int) > 2)) with h28_ | h28_
 replace H := ite_y (dec_t h28_) H
 refine s_splitv (d := 12) (t := decide ((a0 : Int) > 2)) rfl (fun _ => ?_) (fun h29_ => absurd (h29_.symm.trans h28_) (by decide))
 refine s_no rfl rfl rfl rfl ?_
 refine s_no rfl rfl rfl rfl ?_
 refine s_v rfl rfl rfl rfl (v_pick rfl rfl rfl rfl) ?_
 refine s_v rfl rfl rfl rfl (v_move rfl rfl) ?_
 refine s_no rfl rfl rfl rfl ?_
 refine s_no rfl rfl rfl rfl ?_
 refine s_v rfl rfl rfl rfl (v_pick rfl rfl rfl rfl) ?_
 refine s_end ?_
 have hq_0 := Option.some.inj H
 subst hq_0
 exact q_seq (c_frame (subF_spec (by exact ⟨rfl, rfl, rfl, rfl, rfl, trivial⟩)) (c_take [] rfl (by decide) (J_ () trivial)))
 replace H := ite_n (dec_f h28_) H
 refine s_splitv (d := 12) (t := decide ((a0 : Int) > 2)) rfl (fun h30_ => absurd (h30_.symm.trans h28_) (by decide)) (fun _ => ?_)
 refine s_vg rfl rfl rfl rfl (v_move rfl rfl) ?_
 refine s_vg rfl rfl rfl rfl (v_arith rfl rfl rfl rfl) ?_
 refine s_v rfl rfl rfl rfl (v_pick rfl rfl rfl rfl) ?_
 refine s_v rfl rfl rfl rfl (v_move rfl rfl) ?_
 rcases Bool.eq_false_or_eq_true (decide ((a1 : Int) < 0)) with h31_ | h31_
 replace H := ite_y (dec_t h31_) H
 refine s_splitv (d := 16) (t := decide ((a1 : Int) < 0)) rfl (fun _ => ?_) (fun h32_ => absurd (h32_.symm.trans h31_) (by decide))
 refine s_no rfl rfl rfl rfl ?_
 refine s_no rfl rfl rfl rfl ?_
 refine s_v rfl rfl rfl rfl (v_pick rfl rfl rfl rfl) ?_
 refine s_end ?_
 have hq_0 := Option.some.inj H
 subst hq_0
 exact q_seq (c_frame (subF_spec (by exact ⟨rfl, rfl, rfl, rfl, rfl, trivial⟩)) (c_take [] rfl (by decide) (J_ () trivial)))
 replace H := ite_n (dec_f h31_) H
 refine s_splitv (d := 16) (t := decide ((a1 : Int) < 0)) rfl (fun h33_ => absurd (h33_.symm.trans h31_) (by decide)) (fun _ => ?_)
 refine s_vg rfl rfl rfl rfl (v_move rfl rfl) ?_
 refine s_vg rfl rfl rfl rfl (v_arith rfl rfl rfl rfl) ?_
 refine s_v rfl rfl rfl rfl (v_pick rfl rfl rfl rfl) ?_
 refine s_end ?_
 have hq_0 := Option.some.inj H
 subst hq_0
 exact q_seq (c_frame (subF_spec (by exact ⟨rfl, rfl, rfl, rfl, rfl, trivial⟩)) (c_take [] rfl (by decide) (J_ () trivial)))
end Go.Eng
