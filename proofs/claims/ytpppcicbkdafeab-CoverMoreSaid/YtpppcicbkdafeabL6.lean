/- Own text, written by an own program: L6. -/
import Derived.Test.YtpppcicbkdafeabE7
import Derived.Test.YtpppcicbkdafeabE5
import Derived.Test.YtpppcicbkdafeabPlain06
namespace Go.Eng
open Go.Proofs Go.Proofs.Ytpppcicbkdafeab Go.RowKit Go.Proofs.YtpppcicbkdafeabW.PrintWords Go.Proofs.Ytpppcicbkdafeab.GCover
set_option linter.unusedVariables false
set_option linter.unusedSimpArgs false
theorem alive6 (w : World) : Calls Try.prog 9 #[] w fun e w' => ∃ z : Unit, e = .returned (.bool true) ∧ (∀ φ ∈ ([] : List (World → Prop)), FreshF w.heap.size w' φ) ∧ Below w.heap.size w w' := by
  refine (stepstonelaw06_alive.calls true w rfl).mono ?_
  rintro e w' ⟨rfl, hb⟩
  exact ⟨(), rfl, fun _ h => (by cases h), hb⟩
set_option maxRecDepth 100000 in
set_option maxHeartbeats 4000000 in
theorem coverMore_con (e0 e1 e2 : Int) (A1 : Option Addr) (c1 : Nat) (l1 : List Int) (A2 : Option Addr) (c2 : Nat) (l2 : List Int) (hc1 : l1.length ≤ c1) (hc2 : l2.length ≤ c2) (w0 : World) (H : List Nat) : Con Try.prog 6 #[.agg #[.int .u64 e0, .int .u64 e1, .int .u64 e2], .slice A1 l1.length c1, .slice A2 l2.length c2] w0 H [.f (KC (Kd.int .u64) A1 c1 l1), .f (KC (Kd.int .u64) A2 c2 l2)] (fun X => X (.bool true) []) := by
  refine con_enter (c := bodyOf Try.f6) Try.func6 rfl (m := 76) rfl rfl rfl ?_
  intro X hX _
  refine c_seq rfl ?_
  refine r_ord (l := [0, 1]) rfl (by kernel_rfl) (by kernel_rfl) ?_
  refine s_e rfl rfl (e_box rfl rfl rfl rfl) ?_
  intro b1_
  refine s_v rfl rfl rfl rfl (v_assign rfl rfl) ?_
  refine s_end ?_
  refine q_seq ?_
  refine c_seq rfl ?_
  refine c_seq rfl ?_
  refine r_ord (l := [0, 1, 2, 3, 4, 5, 6, 7]) rfl (by kernel_rfl) (by kernel_rfl) ?_
  refine s_v rfl rfl rfl rfl (v_move rfl rfl) ?_
  refine s_v rfl rfl rfl rfl (v_len rfl rfl rfl Try.underlying25 rfl rfl) ?_
  refine s_v rfl rfl rfl rfl (v_arith rfl rfl rfl rfl) ?_
  refine s_v rfl rfl rfl rfl (v_move rfl rfl) ?_
  refine s_splitv (d := 15) (t := decide (((l1.length : Nat) : Int) > 100)) rfl (fun h2_ => ?_) (fun h2_ => ?_)
  ·
    have h2_d := of_decide_eq_true h2_
    refine s_no rfl rfl rfl rfl ?_
    refine s_no rfl rfl rfl rfl ?_
    refine s_no rfl rfl rfl rfl ?_
    refine s_v rfl rfl rfl rfl (v_pick rfl rfl rfl rfl) ?_
    refine s_end ?_
    refine q_seq ?_
    refine c_cond1 rfl rfl ?_
    refine c_seq rfl ?_
    refine r_ord (l := [0, 1]) rfl (by kernel_rfl) (by kernel_rfl) ?_
    refine s_e rfl rfl (e_callK (fun z : Unit => .bool true) (fun z => []) #[] rfl rfl rfl rfl rfl Try.func9 rfl (by decide) rfl rfl (fun w ht => alive6 w)) ?_
    intro z3_
    refine s_v rfl rfl rfl rfl (v_assign rfl rfl) ?_
    refine s_end ?_
    refine q_seq ?_
    refine c_ret rfl ?_
    refine q_then_ret ?_
    refine q_take [] rfl (by decide) ?_
    exact q_post rfl (.cons rfl (.nil)) hX
  ·
    have h2_d := of_decide_eq_false h2_
    refine s_vg rfl rfl rfl rfl (v_move rfl rfl) ?_
    refine s_vg rfl rfl rfl rfl (v_len rfl rfl rfl Try.underlying25 rfl rfl) ?_
    refine s_vg rfl rfl rfl rfl (v_arith rfl rfl rfl rfl) ?_
    refine s_v rfl rfl rfl rfl (v_pick rfl rfl rfl rfl) ?_
    refine s_end ?_
    refine q_seq ?_
    refine c_cond (t := decide (((l2.length : Nat) : Int) > 100)) rfl rfl (fun h4_ => ?_) (fun h4_ => ?_)
    ·
      have h4_d := of_decide_eq_true h4_
      refine c_seq rfl ?_
      refine r_ord (l := [0, 1]) rfl (by kernel_rfl) (by kernel_rfl) ?_
      refine s_e rfl rfl (e_callK (fun z : Unit => .bool true) (fun z => []) #[] rfl rfl rfl rfl rfl Try.func9 rfl (by decide) rfl rfl (fun w ht => alive6 w)) ?_
      intro z5_
      refine s_v rfl rfl rfl rfl (v_assign rfl rfl) ?_
      refine s_end ?_
      refine q_seq ?_
      refine c_ret rfl ?_
      refine q_then_ret ?_
      refine q_take [] rfl (by decide) ?_
      exact q_post rfl (.cons rfl (.nil)) hX
    ·
      have h4_d := of_decide_eq_false h4_
      refine c_skip rfl ?_
      refine q_seq ?_
      refine c_seq rfl ?_
      refine r_ord (l := [0, 1, 2]) rfl (by kernel_rfl) (by kernel_rfl) ?_
      refine s_v rfl rfl rfl rfl (v_ldA [.int .u64 e0, .int .u64 e1, .int .u64 e2] 0 rfl Try.underlying24 rfl SZ24 rfl rfl rfl rfl) ?_
      refine s_e rfl rfl (e_alloc rfl rfl rfl ZR28) ?_
      intro b6_
      refine s_e rfl rfl (e_stA 0 rfl rfl SZ28 rfl rfl rfl rfl rfl rfl) ?_
      refine s_end ?_
      refine q_seq ?_
      refine c_seq rfl ?_
      refine r_any [.b b6_ (.cells #[.int .u64 e0, .int .u64 e1, .int .u64 e2] 28 (0, 0)), .b b1_ (.cells #[.int .u64 e0, .int .u64 e1, .int .u64 e2] 24 (0, 0)), .f (KC (Kd.int .u64) A1 c1 l1), .f (KC (Kd.int .u64) A2 c2 l2)] (by kernel_rfl) rfl (by kernel_rfl) (mem_pick (idx := [0, 1, 2, 3]) rfl) ?_
      refine a_v 0 rfl (by kernel_rfl) (by kernel_rfl) (by kernel_rfl) rfl rfl rfl (v_ldA [.int .u64 e0, .int .u64 e1, .int .u64 e2] 0 rfl Try.underlying28 rfl SZ28 rfl rfl rfl rfl) ?_
      refine a_v 1 rfl (by kernel_rfl) (by kernel_rfl) (by kernel_rfl) rfl rfl rfl (v_move rfl rfl) ?_
      refine a_v 3 rfl (by kernel_rfl) (by kernel_rfl) (by kernel_rfl) rfl rfl rfl (v_ldA [.int .u64 e0, .int .u64 e1, .int .u64 e2] 0 rfl Try.underlying28 rfl SZ28 rfl rfl rfl rfl) ?_
      refine a_v 4 rfl (by kernel_rfl) (by kernel_rfl) (by kernel_rfl) rfl rfl rfl (v_move rfl rfl) ?_
      refine a_1 (i := 2) (by kernel_rfl) ?_
      refine i_e rfl rfl (e_callK (fun z : Unit => .bool (l1.any (covB e1 e2))) (fun z => []) #[.agg #[.int .u64 e0, .int .u64 e1, .int .u64 e2], .slice A1 l1.length c1] rfl rfl rfl rfl rfl Try.func10 rfl (by decide) rfl rfl (fun w ht => cover_Covered.con _ _ _ _ _ _ _ (Plain06.covered l1 _ _ _ (by omega)) w (Tri.fact ht 2 rfl))) ?_
      intro z7_
      refine ⟨(mem_pick (idx := [0, 1, 2, 3]) rfl), ?_⟩
      refine a_1 (i := 5) (by kernel_rfl) ?_
      refine i_e rfl rfl (e_callK (fun z : Unit => .bool (l2.any (covB e1 e2))) (fun z => []) #[.agg #[.int .u64 e0, .int .u64 e1, .int .u64 e2], .slice A2 l2.length c2] rfl rfl rfl rfl rfl Try.func10 rfl (by decide) rfl rfl (fun w ht => cover_Covered.con _ _ _ _ _ _ _ (Plain06.covered l2 _ _ _ (by omega)) w (Tri.fact ht 3 rfl))) ?_
      intro z8_
      refine ⟨(mem_pick (idx := [0, 1, 2, 3]) rfl), ?_⟩
      refine a_v 6 rfl (by kernel_rfl) (by kernel_rfl) (by kernel_rfl) rfl rfl rfl (v_assign rfl rfl) ?_
      refine a_v 7 rfl (by kernel_rfl) (by kernel_rfl) (by kernel_rfl) rfl rfl rfl (v_assign rfl rfl) ?_
      refine a_end (by kernel_rfl) ?_
      refine q_seq ?_
      refine c_seq rfl ?_
      refine r_ord (l := [0, 1, 2, 3, 4, 5, 6, 7, 8]) rfl (by kernel_rfl) (by kernel_rfl) ?_
      refine s_v rfl rfl rfl rfl (v_move rfl rfl) ?_
      refine s_v rfl rfl rfl rfl (v_move rfl rfl) ?_
      refine s_v rfl rfl rfl rfl (v_len rfl rfl rfl Try.underlying25 rfl rfl) ?_
      refine s_v rfl rfl rfl rfl (v_move rfl rfl) ?_
      refine s_v rfl rfl rfl rfl (v_len rfl rfl rfl Try.underlying25 rfl rfl) ?_
      refine s_v rfl rfl rfl rfl (v_sl3 rfl Try.underlying25 SZ22 rfl rfl rfl (by omega) (by omega)) ?_
      refine s_v rfl rfl rfl rfl (v_move rfl rfl) ?_
      refine s_e rfl rfl (e_appK (z := (.int .u64 0)) (bytes := 8) (i := 2) (j := 3) rfl rfl rfl rfl rfl rfl Try.underlying25 (by kernel_rfl) rfl rfl rfl rfl rfl rfl rfl (by omega) (by simp only [maxLen]; omega)) ?_
      intro A9_ c10_
      refine s_v rfl rfl rfl rfl (v_assign rfl rfl) ?_
      refine s_end ?_
      refine q_seq ?_
      refine c_seq rfl ?_
      refine r_ord (l := [0, 1, 2, 3, 4, 5, 6, 7, 8]) rfl (by kernel_rfl) (by kernel_rfl) ?_
      refine s_v rfl rfl rfl rfl (v_move rfl rfl) ?_
      refine s_v rfl rfl rfl rfl (v_move rfl rfl) ?_
      refine s_v rfl rfl rfl rfl (v_len rfl rfl rfl Try.underlying25 rfl rfl) ?_
      refine s_v rfl rfl rfl rfl (v_move rfl rfl) ?_
      refine s_v rfl rfl rfl rfl (v_len rfl rfl rfl Try.underlying25 rfl rfl) ?_
      refine s_v rfl rfl rfl rfl (v_sl3 rfl Try.underlying25 SZ22 rfl rfl rfl (by omega) (by omega)) ?_
      refine s_v rfl rfl rfl rfl (v_move rfl rfl) ?_
      refine s_e rfl rfl (e_appK (z := (.int .u64 0)) (bytes := 8) (i := 4) (j := 3) rfl rfl rfl rfl rfl rfl Try.underlying25 (by kernel_rfl) rfl rfl rfl rfl rfl rfl rfl (by omega) (by simp only [maxLen]; omega)) ?_
      intro A11_ c12_
      refine s_v rfl rfl rfl rfl (v_assign rfl rfl) ?_
      refine s_end ?_
      refine q_seq ?_
      refine c_seq rfl ?_
      refine r_ord (l := [0, 1, 2, 3, 4, 5, 6, 7, 8, 9, 10, 11, 12, 13, 14, 15, 16, 17, 18, 19, 20, 21, 22, 23, 24, 25, 26, 27, 28, 29, 30, 31, 32]) rfl (by kernel_rfl) (by kernel_rfl) ?_
      refine s_e rfl rfl (e_callK (fun z : Unit => .bool true) (fun z => []) #[] rfl rfl rfl rfl rfl Try.func9 rfl (by decide) rfl rfl (fun w ht => alive6 w)) ?_
      intro z13_
      refine s_v rfl rfl rfl rfl (v_move rfl rfl) ?_
      refine s_vg rfl rfl rfl rfl (v_ldA [.int .u64 e0, .int .u64 e1, .int .u64 e2] 2 rfl Try.underlying28 rfl SZ28 rfl rfl rfl rfl) ?_
      refine s_vg rfl rfl rfl rfl (v_move rfl rfl) ?_
      refine s_eg rfl rfl (e_callK (fun z : Unit => .bool ((l1 ++ l2).any (covB e1 e2))) (fun z => []) #[.agg #[.int .u64 e0, .int .u64 e1, .int .u64 e2], .slice A9_ ((l1 ++ l2).length) c10_] rfl rfl rfl rfl rfl Try.func10 rfl (by decide) rfl rfl (fun w ht => cover_Covered.con _ _ _ _ _ _ _ (Plain06.covered (l1 ++ l2) _ _ _ (by rw [List.length_append]; omega)) w (Tri.fact ht 1 rfl))) ?_
      intro z14_
      refine s_vg rfl rfl rfl rfl (v_move rfl rfl) ?_
      refine s_vg rfl rfl rfl rfl (v_move rfl rfl) ?_
      refine s_splitv (d := 50) (t := (l1.any (covB e1 e2))) rfl (fun h15_ => ?_) (fun h15_ => ?_)
      ·
        refine s_no rfl rfl rfl rfl ?_
        refine s_vg rfl rfl rfl rfl (v_pick rfl rfl rfl rfl) ?_
        refine s_vg rfl rfl rfl rfl (OpV.cast (v := .bool true) (v_eqB rfl Try.underlying4 rfl rfl) (by simp_all [List.any_append])) ?_
        refine s_v rfl rfl rfl rfl (v_pick rfl rfl rfl rfl) ?_
        refine s_v rfl rfl rfl rfl (v_move rfl rfl) ?_
        refine s_vg rfl rfl rfl rfl (v_ldA [.int .u64 e0, .int .u64 e1, .int .u64 e2] 2 rfl Try.underlying28 rfl SZ28 rfl rfl rfl rfl) ?_
        refine s_vg rfl rfl rfl rfl (v_move rfl rfl) ?_
        refine s_eg rfl rfl (e_callK (fun z : Unit => .bool ((l2 ++ l1).any (covB e1 e2))) (fun z => []) #[.agg #[.int .u64 e0, .int .u64 e1, .int .u64 e2], .slice A11_ ((l2 ++ l1).length) c12_] rfl rfl rfl rfl rfl Try.func10 rfl (by decide) rfl rfl (fun w ht => cover_Covered.con _ _ _ _ _ _ _ (Plain06.covered (l2 ++ l1) _ _ _ (by rw [List.length_append]; omega)) w (Tri.fact ht 0 rfl))) ?_
        intro z16_
        refine s_vg rfl rfl rfl rfl (v_move rfl rfl) ?_
        refine s_vg rfl rfl rfl rfl (v_move rfl rfl) ?_
        refine s_splitv (d := 60) (t := (l1.any (covB e1 e2))) rfl (fun h17_ => ?_) (fun h17_ => ?_)
        ·
          refine s_no rfl rfl rfl rfl ?_
          refine s_vg rfl rfl rfl rfl (v_pick rfl rfl rfl rfl) ?_
          refine s_vg rfl rfl rfl rfl (OpV.cast (v := .bool true) (v_eqB rfl Try.underlying4 rfl rfl) (by simp_all [List.any_append])) ?_
          refine s_v rfl rfl rfl rfl (v_pick rfl rfl rfl rfl) ?_
          refine s_v rfl rfl rfl rfl (v_move rfl rfl) ?_
          refine s_vg rfl rfl rfl rfl (v_ldA [.int .u64 e0, .int .u64 e1, .int .u64 e2] 2 rfl Try.underlying28 rfl SZ28 rfl rfl rfl rfl) ?_
          refine s_knowT (KC_nil (Kd.int .u64)) ?_
          refine s_eg rfl rfl (e_callK (fun z : Unit => .bool (([] : List Int).any (covB e1 e2))) (fun z => []) #[.agg #[.int .u64 e0, .int .u64 e1, .int .u64 e2], .slice none 0 0] rfl rfl rfl rfl rfl Try.func10 rfl (by decide) rfl rfl (fun w ht => cover_Covered.con _ _ _ _ _ _ _ (Plain06.covered ([] : List Int) _ _ _ (by first | decide | (simp; done) | omega)) w (Tri.fact ht 0 rfl))) ?_
          intro z18_
          refine s_vg rfl rfl rfl rfl (OpV.cast (v := .bool true) (v_not rfl rfl) rfl) ?_
          refine s_v rfl rfl rfl rfl (v_pick rfl rfl rfl rfl) ?_
          refine s_v rfl rfl rfl rfl (v_move rfl rfl) ?_
          refine s_vg rfl rfl rfl rfl (v_ldA [.int .u64 e0, .int .u64 e1, .int .u64 e2] 3 rfl Try.underlying28 rfl SZ28 rfl rfl rfl rfl) ?_
          refine s_eg rfl rfl (e_bslice #[.int .u64 0, .int .u64 0] (.int .u64 0) rfl rfl rfl Try.underlying25 SZ22 ZR22 (by decide) rfl (by kernel_rfl)) ?_
          intro b19_
          refine s_give [0, 1, 2, 3, 4, 5, 6, 7] rfl (by decide) (by simp [ids, Ent.id?]) (KC_own (k := .u64) (cap := 2) (xs := [0, 0]) rfl (by decide) (by decide)) ?_
          refine s_eg rfl rfl (e_callK (fun z : Unit => .bool (([0, 0] : List Int).any (covB e1 e2))) (fun z => []) #[.agg #[.int .u64 e0, .int .u64 e1, .int .u64 e2], .slice (some ⟨b19_, 0, none⟩) 2 2] rfl rfl rfl rfl rfl Try.func10 rfl (by decide) rfl rfl (fun w ht => cover_Covered.con _ _ _ _ _ _ _ (Plain06.covered ([0, 0] : List Int) _ _ _ (by first | decide | (simp; done) | omega)) w (Tri.fact ht 0 rfl))) ?_
          intro z20_
          refine s_vg rfl rfl rfl rfl (OpV.cast (v := .bool true) (v_not rfl rfl) (by simp [covB])) ?_
          refine s_v rfl rfl rfl rfl (v_pick rfl rfl rfl rfl) ?_
          refine s_v rfl rfl rfl rfl (v_assign rfl rfl) ?_
          refine s_end ?_
          refine q_seq ?_
          refine c_ret rfl ?_
          refine q_take [] rfl (by decide) ?_
          exact q_post rfl (.cons rfl (.nil)) hX
        ·
          refine s_vg rfl rfl rfl rfl (v_move rfl rfl) ?_
          refine s_vg rfl rfl rfl rfl (v_pick rfl rfl rfl rfl) ?_
          refine s_vg rfl rfl rfl rfl (OpV.cast (v := .bool true) (v_eqB rfl Try.underlying4 rfl rfl) (by simp_all [List.any_append])) ?_
          refine s_v rfl rfl rfl rfl (v_pick rfl rfl rfl rfl) ?_
          refine s_v rfl rfl rfl rfl (v_move rfl rfl) ?_
          refine s_vg rfl rfl rfl rfl (v_ldA [.int .u64 e0, .int .u64 e1, .int .u64 e2] 2 rfl Try.underlying28 rfl SZ28 rfl rfl rfl rfl) ?_
          refine s_knowT (KC_nil (Kd.int .u64)) ?_
          refine s_eg rfl rfl (e_callK (fun z : Unit => .bool (([] : List Int).any (covB e1 e2))) (fun z => []) #[.agg #[.int .u64 e0, .int .u64 e1, .int .u64 e2], .slice none 0 0] rfl rfl rfl rfl rfl Try.func10 rfl (by decide) rfl rfl (fun w ht => cover_Covered.con _ _ _ _ _ _ _ (Plain06.covered ([] : List Int) _ _ _ (by first | decide | (simp; done) | omega)) w (Tri.fact ht 0 rfl))) ?_
          intro z21_
          refine s_vg rfl rfl rfl rfl (OpV.cast (v := .bool true) (v_not rfl rfl) rfl) ?_
          refine s_v rfl rfl rfl rfl (v_pick rfl rfl rfl rfl) ?_
          refine s_v rfl rfl rfl rfl (v_move rfl rfl) ?_
          refine s_vg rfl rfl rfl rfl (v_ldA [.int .u64 e0, .int .u64 e1, .int .u64 e2] 3 rfl Try.underlying28 rfl SZ28 rfl rfl rfl rfl) ?_
          refine s_eg rfl rfl (e_bslice #[.int .u64 0, .int .u64 0] (.int .u64 0) rfl rfl rfl Try.underlying25 SZ22 ZR22 (by decide) rfl (by kernel_rfl)) ?_
          intro b22_
          refine s_give [0, 1, 2, 3, 4, 5, 6, 7] rfl (by decide) (by simp [ids, Ent.id?]) (KC_own (k := .u64) (cap := 2) (xs := [0, 0]) rfl (by decide) (by decide)) ?_
          refine s_eg rfl rfl (e_callK (fun z : Unit => .bool (([0, 0] : List Int).any (covB e1 e2))) (fun z => []) #[.agg #[.int .u64 e0, .int .u64 e1, .int .u64 e2], .slice (some ⟨b22_, 0, none⟩) 2 2] rfl rfl rfl rfl rfl Try.func10 rfl (by decide) rfl rfl (fun w ht => cover_Covered.con _ _ _ _ _ _ _ (Plain06.covered ([0, 0] : List Int) _ _ _ (by first | decide | (simp; done) | omega)) w (Tri.fact ht 0 rfl))) ?_
          intro z23_
          refine s_vg rfl rfl rfl rfl (OpV.cast (v := .bool true) (v_not rfl rfl) (by simp [covB])) ?_
          refine s_v rfl rfl rfl rfl (v_pick rfl rfl rfl rfl) ?_
          refine s_v rfl rfl rfl rfl (v_assign rfl rfl) ?_
          refine s_end ?_
          refine q_seq ?_
          refine c_ret rfl ?_
          refine q_take [] rfl (by decide) ?_
          exact q_post rfl (.cons rfl (.nil)) hX
      ·
        refine s_vg rfl rfl rfl rfl (v_move rfl rfl) ?_
        refine s_vg rfl rfl rfl rfl (v_pick rfl rfl rfl rfl) ?_
        refine s_vg rfl rfl rfl rfl (OpV.cast (v := .bool true) (v_eqB rfl Try.underlying4 rfl rfl) (by simp_all [List.any_append])) ?_
        refine s_v rfl rfl rfl rfl (v_pick rfl rfl rfl rfl) ?_
        refine s_v rfl rfl rfl rfl (v_move rfl rfl) ?_
        refine s_vg rfl rfl rfl rfl (v_ldA [.int .u64 e0, .int .u64 e1, .int .u64 e2] 2 rfl Try.underlying28 rfl SZ28 rfl rfl rfl rfl) ?_
        refine s_vg rfl rfl rfl rfl (v_move rfl rfl) ?_
        refine s_eg rfl rfl (e_callK (fun z : Unit => .bool ((l2 ++ l1).any (covB e1 e2))) (fun z => []) #[.agg #[.int .u64 e0, .int .u64 e1, .int .u64 e2], .slice A11_ ((l2 ++ l1).length) c12_] rfl rfl rfl rfl rfl Try.func10 rfl (by decide) rfl rfl (fun w ht => cover_Covered.con _ _ _ _ _ _ _ (Plain06.covered (l2 ++ l1) _ _ _ (by rw [List.length_append]; omega)) w (Tri.fact ht 0 rfl))) ?_
        intro z24_
        refine s_vg rfl rfl rfl rfl (v_move rfl rfl) ?_
        refine s_vg rfl rfl rfl rfl (v_move rfl rfl) ?_
        refine s_splitv (d := 60) (t := (l1.any (covB e1 e2))) rfl (fun h25_ => ?_) (fun h25_ => ?_)
        ·
          refine s_no rfl rfl rfl rfl ?_
          refine s_vg rfl rfl rfl rfl (v_pick rfl rfl rfl rfl) ?_
          refine s_vg rfl rfl rfl rfl (OpV.cast (v := .bool true) (v_eqB rfl Try.underlying4 rfl rfl) (by simp_all [List.any_append])) ?_
          refine s_v rfl rfl rfl rfl (v_pick rfl rfl rfl rfl) ?_
          refine s_v rfl rfl rfl rfl (v_move rfl rfl) ?_
          refine s_vg rfl rfl rfl rfl (v_ldA [.int .u64 e0, .int .u64 e1, .int .u64 e2] 2 rfl Try.underlying28 rfl SZ28 rfl rfl rfl rfl) ?_
          refine s_knowT (KC_nil (Kd.int .u64)) ?_
          refine s_eg rfl rfl (e_callK (fun z : Unit => .bool (([] : List Int).any (covB e1 e2))) (fun z => []) #[.agg #[.int .u64 e0, .int .u64 e1, .int .u64 e2], .slice none 0 0] rfl rfl rfl rfl rfl Try.func10 rfl (by decide) rfl rfl (fun w ht => cover_Covered.con _ _ _ _ _ _ _ (Plain06.covered ([] : List Int) _ _ _ (by first | decide | (simp; done) | omega)) w (Tri.fact ht 0 rfl))) ?_
          intro z26_
          refine s_vg rfl rfl rfl rfl (OpV.cast (v := .bool true) (v_not rfl rfl) rfl) ?_
          refine s_v rfl rfl rfl rfl (v_pick rfl rfl rfl rfl) ?_
          refine s_v rfl rfl rfl rfl (v_move rfl rfl) ?_
          refine s_vg rfl rfl rfl rfl (v_ldA [.int .u64 e0, .int .u64 e1, .int .u64 e2] 3 rfl Try.underlying28 rfl SZ28 rfl rfl rfl rfl) ?_
          refine s_eg rfl rfl (e_bslice #[.int .u64 0, .int .u64 0] (.int .u64 0) rfl rfl rfl Try.underlying25 SZ22 ZR22 (by decide) rfl (by kernel_rfl)) ?_
          intro b27_
          refine s_give [0, 1, 2, 3, 4, 5, 6, 7] rfl (by decide) (by simp [ids, Ent.id?]) (KC_own (k := .u64) (cap := 2) (xs := [0, 0]) rfl (by decide) (by decide)) ?_
          refine s_eg rfl rfl (e_callK (fun z : Unit => .bool (([0, 0] : List Int).any (covB e1 e2))) (fun z => []) #[.agg #[.int .u64 e0, .int .u64 e1, .int .u64 e2], .slice (some ⟨b27_, 0, none⟩) 2 2] rfl rfl rfl rfl rfl Try.func10 rfl (by decide) rfl rfl (fun w ht => cover_Covered.con _ _ _ _ _ _ _ (Plain06.covered ([0, 0] : List Int) _ _ _ (by first | decide | (simp; done) | omega)) w (Tri.fact ht 0 rfl))) ?_
          intro z28_
          refine s_vg rfl rfl rfl rfl (OpV.cast (v := .bool true) (v_not rfl rfl) (by simp [covB])) ?_
          refine s_v rfl rfl rfl rfl (v_pick rfl rfl rfl rfl) ?_
          refine s_v rfl rfl rfl rfl (v_assign rfl rfl) ?_
          refine s_end ?_
          refine q_seq ?_
          refine c_ret rfl ?_
          refine q_take [] rfl (by decide) ?_
          exact q_post rfl (.cons rfl (.nil)) hX
        ·
          refine s_vg rfl rfl rfl rfl (v_move rfl rfl) ?_
          refine s_vg rfl rfl rfl rfl (v_pick rfl rfl rfl rfl) ?_
          refine s_vg rfl rfl rfl rfl (OpV.cast (v := .bool true) (v_eqB rfl Try.underlying4 rfl rfl) (by simp_all [List.any_append])) ?_
          refine s_v rfl rfl rfl rfl (v_pick rfl rfl rfl rfl) ?_
          refine s_v rfl rfl rfl rfl (v_move rfl rfl) ?_
          refine s_vg rfl rfl rfl rfl (v_ldA [.int .u64 e0, .int .u64 e1, .int .u64 e2] 2 rfl Try.underlying28 rfl SZ28 rfl rfl rfl rfl) ?_
          refine s_knowT (KC_nil (Kd.int .u64)) ?_
          refine s_eg rfl rfl (e_callK (fun z : Unit => .bool (([] : List Int).any (covB e1 e2))) (fun z => []) #[.agg #[.int .u64 e0, .int .u64 e1, .int .u64 e2], .slice none 0 0] rfl rfl rfl rfl rfl Try.func10 rfl (by decide) rfl rfl (fun w ht => cover_Covered.con _ _ _ _ _ _ _ (Plain06.covered ([] : List Int) _ _ _ (by first | decide | (simp; done) | omega)) w (Tri.fact ht 0 rfl))) ?_
          intro z29_
          refine s_vg rfl rfl rfl rfl (OpV.cast (v := .bool true) (v_not rfl rfl) rfl) ?_
          refine s_v rfl rfl rfl rfl (v_pick rfl rfl rfl rfl) ?_
          refine s_v rfl rfl rfl rfl (v_move rfl rfl) ?_
          refine s_vg rfl rfl rfl rfl (v_ldA [.int .u64 e0, .int .u64 e1, .int .u64 e2] 3 rfl Try.underlying28 rfl SZ28 rfl rfl rfl rfl) ?_
          refine s_eg rfl rfl (e_bslice #[.int .u64 0, .int .u64 0] (.int .u64 0) rfl rfl rfl Try.underlying25 SZ22 ZR22 (by decide) rfl (by kernel_rfl)) ?_
          intro b30_
          refine s_give [0, 1, 2, 3, 4, 5, 6, 7] rfl (by decide) (by simp [ids, Ent.id?]) (KC_own (k := .u64) (cap := 2) (xs := [0, 0]) rfl (by decide) (by decide)) ?_
          refine s_eg rfl rfl (e_callK (fun z : Unit => .bool (([0, 0] : List Int).any (covB e1 e2))) (fun z => []) #[.agg #[.int .u64 e0, .int .u64 e1, .int .u64 e2], .slice (some ⟨b30_, 0, none⟩) 2 2] rfl rfl rfl rfl rfl Try.func10 rfl (by decide) rfl rfl (fun w ht => cover_Covered.con _ _ _ _ _ _ _ (Plain06.covered ([0, 0] : List Int) _ _ _ (by first | decide | (simp; done) | omega)) w (Tri.fact ht 0 rfl))) ?_
          intro z31_
          refine s_vg rfl rfl rfl rfl (OpV.cast (v := .bool true) (v_not rfl rfl) (by simp [covB])) ?_
          refine s_v rfl rfl rfl rfl (v_pick rfl rfl rfl rfl) ?_
          refine s_v rfl rfl rfl rfl (v_assign rfl rfl) ?_
          refine s_end ?_
          refine q_seq ?_
          refine c_ret rfl ?_
          refine q_take [] rfl (by decide) ?_
          exact q_post rfl (.cons rfl (.nil)) hX
end Go.Eng
