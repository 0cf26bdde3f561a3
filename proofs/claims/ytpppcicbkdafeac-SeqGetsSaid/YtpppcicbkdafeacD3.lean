/- Own text, written by an own program: D3. -/
import Derived.Test.YtpppcicbkdafeacD2
namespace Go.Eng
open Go.Proofs Go.RowKit Go.Proofs.YtpppcicbkdafeacW.PrintWords Go.Proofs.Ytpppcicbkdafeac.GSeq
set_option linter.unusedVariables false
/-- What the loop of a Range has, between two rounds. -/
def RInv (o2 o4 : Int) (pre : List Int) : Option (Nat × Nat × Nat × Array Value) → Prop
  | none => pre = []
  | some (n, _, cap, cur) => (n = pre.length ∧ n ≤ cap ∧ cap ≤ maxLen ∧ cur.size = cap * 1 ∧ cur.toList.take (n * 1) = pre.map (Value.int .u64)) ∧ (∀ y ∈ pre, y ≤ o2) ∧ ∀ i : Nat, i < pre.length → (i : Int) < o4
theorem RInv.good {o2 o4 : Int} {pre : List Int} {s : Option (Nat × Nat × Nat × Array Value)} (h : RInv o2 o4 pre s) : (∀ y ∈ pre, y ≤ o2) ∧ ∀ i : Nat, i < pre.length → (i : Int) < o4 := by
  cases s with
  | none => cases h; exact ⟨fun _ h => (by cases h), fun _ h => absurd h (Nat.not_lt_zero _)⟩
  | some s => exact h.2
theorem RInv.first {o2 o4 x : Int} (h : x ≤ o2) (h4 : (0 : Int) < o4) {g cap : Nat} {cur : Array Value} (h1 : 1 ≤ cap) (h2 : cap ≤ maxLen) (h3 : cur.size = cap * 1) (htk : cur.toList.take (1 * 1) = [.int .u64 x]) : RInv o2 o4 ([] ++ [x]) (some (1, g, cap, cur)) := by
  refine ⟨⟨rfl, h1, h2, h3, htk⟩, fun y hy => ?_, fun i hi => ?_⟩
  · have : y = x := by simpa using hy
    omega
  · have : i < 1 := by simpa using hi
    omega
theorem RInv.next {o2 o4 x : Int} {pre : List Int} {n g0 c0 : Nat} {u0 : Array Value} (hs : RInv o2 o4 pre (some (n, g0, c0, u0))) (h : x ≤ o2) (h4 : (n : Int) < o4) {g cap : Nat} {cur : Array Value} (h1 : n + 1 ≤ cap) (h2 : cap ≤ maxLen) (h3 : cur.size = cap * 1) (htk : cur.toList.take ((n + 1) * 1) = u0.toList.take (n * 1) ++ [.int .u64 x]) : RInv o2 o4 (pre ++ [x]) (some (n + 1, g, cap, cur)) := by
  obtain ⟨⟨e1, _, _, _, e5⟩, hy, hi⟩ := hs
  refine ⟨⟨by simp [e1], h1, h2, h3, by rw [htk, e5]; simp⟩, fun y hm => ?_, fun i hlt => ?_⟩
  · rcases List.mem_append.1 hm with hm | hm
    · exact hy y hm
    · have : y = x := by simpa using hm
      omega
  · have : i < n + 1 := by simpa [e1] using hlt
    omega
set_option maxRecDepth 100000 in
set_option maxHeartbeats 4000000 in
theorem do_range (k : Nat) (A : Option Addr) (c : Nat) (l : List S52) (o1 o2 o3 o4 : Int) (at_ : Nat) (is : Bool) (hp : seq_Map_place.f k l o1 = some ((at_ : Int), is)) (hat : at_ ≤ l.length) (hlm : l.length ≤ 1000000) (r5 : List Int) (hr0 : (∀ y ∈ KeysFrom l at_, y ≤ o2) → (∀ i : Nat, i < (KeysFrom l at_).length → (i : Int) < o3) → r5 = KeysFrom l at_) (hr1 : ∀ p x, p ++ [x] <+: KeysFrom l at_ → (∀ y ∈ p, y ≤ o2) → (∀ i : Nat, i < p.length → (i : Int) < o3) → (o2 < x ∨ o3 ≤ (p.length : Int)) → r5 = p) (w0 : World) (H : List Nat) : Con Try.prog 11 #[.agg #[.slice A l.length c], .agg #[.int .i64 5, .int .u64 o1, .int .u64 o2, .int .i64 o3, .int .i64 o4]] w0 H [.f (KC k52 A c l)] (fun X => ∀ A2 c2, X (.tuple #[.agg #[.slice A l.length c], .agg #[.bool false, .bool false, .int .u64 0, .slice A2 r5.length c2]]) [.f (KC k52 A c l), .f (KC (Kd.int .u64) A2 c2 r5)]) := by
  refine con_enterM (c := bodyOf Try.f11) (k := 9) Try.func11 rfl (m := 84) rfl rfl rfl ?_
  intro X hX _
  refine c_seq rfl ?_
  refine r_ord (l := [0, 1, 2, 3]) rfl (by kernel_rfl) (by kernel_rfl) ?_
  refine s_e rfl rfl (e_box rfl rfl rfl rfl) ?_
  intro b1_
  refine s_e rfl rfl (e_box rfl rfl rfl rfl) ?_
  intro b2_
  refine s_e rfl rfl (e_alloc rfl rfl rfl ZR27) ?_
  intro b3_
  refine s_e rfl rfl (e_alloc rfl rfl rfl ZR34) ?_
  intro b4_
  refine s_end ?_
  refine q_seq ?_
  refine c_seq rfl ?_
  refine r_ord (l := [0]) rfl (by kernel_rfl) (by kernel_rfl) ?_
  refine s_e rfl rfl (e_alloc rfl rfl rfl ZR34) ?_
  intro b5_
  refine s_end ?_
  refine q_seq ?_
  refine c_seq rfl ?_
  refine c_seq rfl ?_
  refine r_ord (l := [0, 1]) rfl (by kernel_rfl) (by kernel_rfl) ?_
  refine s_v rfl rfl rfl rfl (v_fa rfl Try.underlying31 rfl SZ3 rfl) ?_
  refine s_v rfl rfl rfl rfl (v_ld 3 rfl Try.underlying3 rfl rfl rfl rfl) ?_
  refine s_end ?_
  refine q_seq ?_
  refine c_block rfl ?_
  refine c_seq rfl ?_
  refine r_ord (l := [0, 1]) rfl (by kernel_rfl) (by kernel_rfl) ?_
  refine s_v rfl rfl rfl rfl (v_arith rfl rfl rfl rfl) ?_
  refine s_v rfl rfl rfl rfl (v_assign rfl rfl) ?_
  refine s_end ?_
  refine q_seq ?_
  refine c_cond0 rfl rfl ?_
  refine c_seq rfl ?_
  refine r_ord (l := [0, 1]) rfl (by kernel_rfl) (by kernel_rfl) ?_
  refine s_v rfl rfl rfl rfl (v_arith rfl rfl rfl rfl) ?_
  refine s_v rfl rfl rfl rfl (v_assign rfl rfl) ?_
  refine s_end ?_
  refine q_seq ?_
  refine c_cond0 rfl rfl ?_
  refine c_seq rfl ?_
  refine r_ord (l := [0, 1]) rfl (by kernel_rfl) (by kernel_rfl) ?_
  refine s_v rfl rfl rfl rfl (v_arith rfl rfl rfl rfl) ?_
  refine s_v rfl rfl rfl rfl (v_assign rfl rfl) ?_
  refine s_end ?_
  refine q_seq ?_
  refine c_cond0 rfl rfl ?_
  refine c_seq rfl ?_
  refine r_ord (l := [0, 1]) rfl (by kernel_rfl) (by kernel_rfl) ?_
  refine s_v rfl rfl rfl rfl (v_arith rfl rfl rfl rfl) ?_
  refine s_v rfl rfl rfl rfl (v_assign rfl rfl) ?_
  refine s_end ?_
  refine q_seq ?_
  refine c_cond0 rfl rfl ?_
  refine c_seq rfl ?_
  refine r_ord (l := [0, 1]) rfl (by kernel_rfl) (by kernel_rfl) ?_
  refine s_v rfl rfl rfl rfl (v_arith rfl rfl rfl rfl) ?_
  refine s_v rfl rfl rfl rfl (v_assign rfl rfl) ?_
  refine s_end ?_
  refine q_seq ?_
  refine c_cond1 rfl rfl ?_
  refine c_seq rfl ?_
  refine r_ord (l := [0, 1, 2, 3]) rfl (by kernel_rfl) (by kernel_rfl) ?_
  refine s_v rfl rfl rfl rfl (v_ldA [.slice A l.length c] 4 rfl Try.underlying27 rfl SZ27 rfl rfl rfl rfl) ?_
  refine s_v rfl rfl rfl rfl (v_fa rfl Try.underlying31 rfl SZ29 rfl) ?_
  refine s_v rfl rfl rfl rfl (v_ld 3 rfl Try.underlying29 rfl rfl rfl rfl) ?_
  refine s_e rfl rfl (e_call [] [0, 1, 2, 3, 4, 5] #[.agg #[.slice A l.length c], .int .u64 o1] rfl rfl rfl rfl rfl Try.func25 rfl (by decide) rfl rfl rfl rfl (by decide) (fun w ht => from_con _ _ _ _ w _)) ?_
  intro bm6_ bk7_
  refine s_end ?_
  refine q_seq ?_
  refine c_block rfl ?_
  refine c_range (N := l.length - at_) (S := fun ys => ys = KeysFrom l at_) (Sp := fun pre => pre <+: KeysFrom l at_) (fun x : Int => #[Value.int .u64 x]) (gf := 33) (lb := [.pointer (some ⟨bm6_, 0, none⟩), .pointer (some ⟨bk7_, 0, none⟩)]) (ps := #[63]) [2] [0, 1, 3, 4, 5, 6, 7] (RInv o2 o3) (fun pre ce s => ce = .exit 3 ∧ ∃ p x, pre = p ++ [x] ∧ RInv o2 o3 p s ∧ (o2 < x ∨ o3 ≤ (p.length : Int))) (fun s : Option (Nat × Nat × Nat × Array Value) => match s with | none => [.b b5_ (.cells #[.bool false, .bool false, .int .u64 0, .slice none 0 0] 34 (0, 0))] | some (n, g, cap, cur) => [.b b5_ (.cells #[.bool false, .bool false, .int .u64 0, .slice (some ⟨g, 0, none⟩) n cap] 34 (0, 0)), .b g (.cells cur 29 (0, 0))]) (fun x => [(10, .int .u64 x), (63, .int .u64 x)]) none rfl rfl rfl (fun _ => rfl) (by decide) Try.func33 rfl (by decide) rfl rfl (by decide) ?_ rfl rfl ?_ ?_ ?_ ?_ ?_
  · rintro (_ | ⟨n, g, cap, cur⟩) e he <;> simp only [List.mem_cons, List.not_mem_nil, or_false] at he
    · subst he; exact ⟨_, _, _, rfl⟩
    · rcases he with rfl | rfl <;> exact ⟨_, _, _, rfl⟩
  · intro w ht
    refine from1_stops k _ (by decide) bm6_ bk7_ _ A c l o1 at_ is hp hat hlm w (ht.at_ _ _ (List.mem_of_getElem? (i := 1) rfl)) (ht.at_ _ _ (List.mem_of_getElem? (i := 0) rfl)) ?_ ?_ ((ht.facts _ (List.mem_of_getElem? (i := 7) rfl)).mono ?_)
    · exact tri_disj ht (i := 1) rfl (idx := [2]) rfl (by decide)
    · exact tri_disj ht (i := 0) rfl (idx := [2]) rfl (by decide)
    · exact fun x hx _ => List.mem_append_right _ (pick_ids (idx := [2]) rfl x hx)
  · intro lv x a W K hf hk
    refine assign_one (F1 := [(10, .int .u64 x), (63, .int .u64 x)] ++ _) (fr_params hf rfl) hk ?_
    refine r_ord (l := [0]) rfl (by kernel_rfl) (by kernel_rfl) ?_
    refine s_v rfl rfl rfl rfl (v_assign rfl rfl) ?_
    refine s_end ?_
    exact q_assigned (fun _ _ h => h)
  · intro lv pre x s W hs hlen
    rcases s with _ | ⟨n, g, cap, cur⟩
    ·
      have hn : ([] : List Int).length = pre.length := by cases hs; rfl
      refine c_block rfl ?_
      refine c_seq rfl ?_
      refine c_seq rfl ?_
      refine r_ord (l := [0, 1, 2, 3, 4, 5, 6, 7, 8, 9, 10, 11]) rfl (by kernel_rfl) (by kernel_rfl) ?_
      refine s_v rfl rfl rfl rfl (v_move rfl rfl) ?_
      refine s_v rfl rfl rfl rfl (v_fa rfl Try.underlying31 rfl SZ29 rfl) ?_
      refine s_v rfl rfl rfl rfl (v_ldr 5 rfl Try.underlying29 rfl rfl rfl rfl) ?_
      refine s_v rfl rfl rfl rfl (v_arith rfl rfl rfl rfl) ?_
      refine s_v rfl rfl rfl rfl (v_move rfl rfl) ?_
      refine s_splitv (d := 68) (t := decide ((x : Int) > o2)) rfl (fun h8_ => ?_) (fun h8_ => ?_)
      ·
        refine s_no rfl rfl rfl rfl ?_
        refine s_no rfl rfl rfl rfl ?_
        refine s_no rfl rfl rfl rfl ?_
        refine s_no rfl rfl rfl rfl ?_
        refine s_no rfl rfl rfl rfl ?_
        refine s_no rfl rfl rfl rfl ?_
        refine s_v rfl rfl rfl rfl (v_pick rfl rfl rfl rfl) ?_
        refine s_end ?_
        refine q_seq ?_
        refine c_cond1 rfl rfl ?_
        refine c_exit (i := 3) rfl rfl ?_
        refine q_then_exit ?_
        refine q_block_on rfl ?_
        exact q_round_exit none [0] rfl rfl (by decide) ⟨rfl, pre, x, rfl, hs, .inl (of_decide_eq_true h8_)⟩
      ·
        refine s_vg rfl rfl rfl rfl (v_fa rfl Try.underlying34 rfl SZ32 rfl) ?_
        refine s_vg rfl rfl rfl rfl (v_ld 0 rfl Try.underlying32 rfl rfl rfl rfl) ?_
        refine s_vg rfl rfl rfl rfl (v_len rfl rfl rfl Try.underlying32 rfl rfl) ?_
        refine s_vg rfl rfl rfl rfl (v_fa rfl Try.underlying31 rfl SZ3 rfl) ?_
        refine s_vg rfl rfl rfl rfl (v_ldr 5 rfl Try.underlying3 rfl rfl rfl rfl) ?_
        refine s_vg rfl rfl rfl rfl (v_arith rfl rfl rfl rfl) ?_
        refine s_v rfl rfl rfl rfl (v_pick rfl rfl rfl rfl) ?_
        refine s_end ?_
        refine q_seq ?_
        refine c_cond (t := decide (((0 : Nat) : Int) ≥ o3)) rfl rfl (fun h9_ => ?_) (fun h9_ => ?_)
        ·
          refine c_exit (i := 3) rfl rfl ?_
          refine q_then_exit ?_
          refine q_block_on rfl ?_
          exact q_round_exit none [0] rfl rfl (by decide) ⟨rfl, pre, x, rfl, hs, .inr (by rw [← hn]; exact of_decide_eq_true h9_)⟩
        ·
          refine c_skip rfl ?_
          refine q_seq ?_
          refine r_ord (l := [0, 1, 2, 3, 4, 5, 6]) rfl (by kernel_rfl) (by kernel_rfl) ?_
          refine s_v rfl rfl rfl rfl (v_fa rfl Try.underlying34 rfl SZ32 rfl) ?_
          refine s_v rfl rfl rfl rfl (v_ld 0 rfl Try.underlying32 rfl rfl rfl rfl) ?_
          refine s_v rfl rfl rfl rfl (v_move rfl rfl) ?_
          refine s_e rfl rfl (e_bslice #[.int .u64 x] (.int .u64 0) rfl rfl rfl Try.underlying32 SZ29 ZR29 (by decide) rfl (by kernel_rfl)) ?_
          intro b10_
          refine s_e rfl rfl (e_app_nil (z := (.int .u64 0)) (m := 1) (bytes := 8) (k := 1) (news := [.int .u64 x]) (i := 0) rfl rfl rfl rfl rfl rfl Try.underlying32 (by kernel_rfl) rfl (by decide) rfl rfl rfl rfl rfl (by simp [Value.oneCell']) (by decide) (by decide) (by decide)) ?_
          intro g11_ cap12_ cur13_ h14_ h15_ h16_ h17_
          refine s_v rfl rfl rfl rfl (v_fa rfl Try.underlying34 rfl SZ32 rfl) ?_
          refine s_e rfl rfl (e_st 2 rfl rfl SZ32 rfl rfl rfl rfl (blt_lt rfl)) ?_
          refine s_end ?_
          refine q_block ?_
          exact q_round (some (1, g11_, cap12_, cur13_)) [2, 0] rfl rfl (by decide) (by cases hs; exact RInv.first (Int.not_lt.1 (of_decide_eq_false h8_)) (Int.not_le.1 (of_decide_eq_false h9_)) h14_ h15_ h16_ h17_)
    ·
      obtain ⟨⟨hn, hr1_, hr2_, hr3_, hr4_⟩, _⟩ := id hs
      have hnb : n ≤ 1000000 := by omega
      refine c_block rfl ?_
      refine c_seq rfl ?_
      refine c_seq rfl ?_
      refine r_ord (l := [0, 1, 2, 3, 4, 5, 6, 7, 8, 9, 10, 11]) rfl (by kernel_rfl) (by kernel_rfl) ?_
      refine s_v rfl rfl rfl rfl (v_move rfl rfl) ?_
      refine s_v rfl rfl rfl rfl (v_fa rfl Try.underlying31 rfl SZ29 rfl) ?_
      refine s_v rfl rfl rfl rfl (v_ldr 6 rfl Try.underlying29 rfl rfl rfl rfl) ?_
      refine s_v rfl rfl rfl rfl (v_arith rfl rfl rfl rfl) ?_
      refine s_v rfl rfl rfl rfl (v_move rfl rfl) ?_
      refine s_splitv (d := 68) (t := decide ((x : Int) > o2)) rfl (fun h18_ => ?_) (fun h18_ => ?_)
      ·
        refine s_no rfl rfl rfl rfl ?_
        refine s_no rfl rfl rfl rfl ?_
        refine s_no rfl rfl rfl rfl ?_
        refine s_no rfl rfl rfl rfl ?_
        refine s_no rfl rfl rfl rfl ?_
        refine s_no rfl rfl rfl rfl ?_
        refine s_v rfl rfl rfl rfl (v_pick rfl rfl rfl rfl) ?_
        refine s_end ?_
        refine q_seq ?_
        refine c_cond1 rfl rfl ?_
        refine c_exit (i := 3) rfl rfl ?_
        refine q_then_exit ?_
        refine q_block_on rfl ?_
        exact q_round_exit (some (n, g, cap, cur)) [0, 1] rfl rfl (by decide) ⟨rfl, pre, x, rfl, hs, .inl (of_decide_eq_true h18_)⟩
      ·
        refine s_vg rfl rfl rfl rfl (v_fa rfl Try.underlying34 rfl SZ32 rfl) ?_
        refine s_vg rfl rfl rfl rfl (v_ld 0 rfl Try.underlying32 rfl rfl rfl rfl) ?_
        refine s_vg rfl rfl rfl rfl (v_len rfl rfl rfl Try.underlying32 rfl rfl) ?_
        refine s_vg rfl rfl rfl rfl (v_fa rfl Try.underlying31 rfl SZ3 rfl) ?_
        refine s_vg rfl rfl rfl rfl (v_ldr 6 rfl Try.underlying3 rfl rfl rfl rfl) ?_
        refine s_vg rfl rfl rfl rfl (v_arith rfl rfl rfl rfl) ?_
        refine s_v rfl rfl rfl rfl (v_pick rfl rfl rfl rfl) ?_
        refine s_end ?_
        refine q_seq ?_
        refine c_cond (t := decide (((n : Nat) : Int) ≥ o3)) rfl rfl (fun h19_ => ?_) (fun h19_ => ?_)
        ·
          refine c_exit (i := 3) rfl rfl ?_
          refine q_then_exit ?_
          refine q_block_on rfl ?_
          exact q_round_exit (some (n, g, cap, cur)) [0, 1] rfl rfl (by decide) ⟨rfl, pre, x, rfl, hs, .inr (by rw [← hn]; exact of_decide_eq_true h19_)⟩
        ·
          refine c_skip rfl ?_
          refine q_seq ?_
          refine r_ord (l := [0, 1, 2, 3, 4, 5, 6]) rfl (by kernel_rfl) (by kernel_rfl) ?_
          refine s_v rfl rfl rfl rfl (v_fa rfl Try.underlying34 rfl SZ32 rfl) ?_
          refine s_v rfl rfl rfl rfl (v_ld 0 rfl Try.underlying32 rfl rfl rfl rfl) ?_
          refine s_v rfl rfl rfl rfl (v_move rfl rfl) ?_
          refine s_e rfl rfl (e_bslice #[.int .u64 x] (.int .u64 0) rfl rfl rfl Try.underlying32 SZ29 ZR29 (by decide) rfl (by kernel_rfl)) ?_
          intro b20_
          refine s_e rfl rfl (e_app (z := (.int .u64 0)) (m := 1) (bytes := 8) (k := 1) (news := [.int .u64 x]) (i := 0) (j := 2) rfl rfl rfl rfl rfl rfl Try.underlying32 (by kernel_rfl) rfl (by decide) rfl rfl hr1_ hr2_ hr3_ rfl rfl rfl rfl rfl (by simp [Value.oneCell']) (by omega) (by simp only [maxLen]; omega)) ?_
          intro g21_ cap22_ cur23_ h24_ h25_ h26_ h27_
          refine s_v rfl rfl rfl rfl (v_fa rfl Try.underlying34 rfl SZ32 rfl) ?_
          refine s_e rfl rfl (e_st 1 rfl rfl SZ32 rfl rfl rfl rfl (blt_lt rfl)) ?_
          refine s_end ?_
          refine q_block ?_
          exact q_round (some (n + 1, g21_, cap22_, cur23_)) [1, 2] rfl rfl (by decide) (RInv.next hs (Int.not_lt.1 (of_decide_eq_false h18_)) (Int.not_le.1 (of_decide_eq_false h19_)) h24_ h25_ h26_ h27_)
  · rintro D xs s hS hs
    obtain rfl := hr0 (fun y hy => hs.good.1 y (hS ▸ hy)) (fun i hi => hs.good.2 i (hS ▸ hi))
    rw [show xs = KeysFrom l at_ from hS] at hs
    rcases s with _ | ⟨n, g, cap, cur⟩
    ·
      have hs : KeysFrom l at_ = [] := hs
      refine q_block ?_
      refine q_block ?_
      refine q_seq ?_
      refine c_seq rfl ?_
      refine r_any [.b D (.deferred (some [])), .b b5_ (.cells #[.bool false, .bool false, .int .u64 0, .slice none 0 0] 34 (0, 0)), .b bk7_ (.cells #[.int .u64 o1] 29 (0, 0)), .b bm6_ (.cells #[.slice A l.length c] 27 (0, 0)), .b b2_ (.cells #[.int .i64 5, .int .u64 o1, .int .u64 o2, .int .i64 o3, .int .i64 o4] 31 (0, 0)), .b b1_ (.cells #[.slice A l.length c] 27 (0, 0)), .f (KC k52 A c l)] (by kernel_rfl) rfl (by kernel_rfl) (mem_pick (idx := [0, 1, 2, 3, 6, 7, 8]) rfl) ?_
      refine a_v 0 rfl (by kernel_rfl) (by kernel_rfl) (by kernel_rfl) rfl rfl rfl (v_ldA [.slice A l.length c] 5 rfl Try.underlying27 rfl SZ27 rfl rfl rfl rfl) ?_
      refine a_v 1 rfl (by kernel_rfl) (by kernel_rfl) (by kernel_rfl) rfl rfl rfl (v_ldA [.bool false, .bool false, .int .u64 0, .slice none 0 0] 1 rfl Try.underlying34 rfl SZ34 rfl rfl rfl rfl) ?_
      refine a_1 (i := 2) (by kernel_rfl) ?_
      refine i_e rfl rfl (e_stA 5 rfl rfl SZ27 rfl rfl rfl rfl rfl rfl) ?_
      refine ⟨(mem_pick (idx := [0, 1, 2, 3, 6, 7, 8]) rfl), ?_⟩
      refine a_1 (i := 3) (by kernel_rfl) ?_
      refine i_e rfl rfl (e_stA 4 rfl rfl SZ34 rfl rfl rfl rfl rfl rfl) ?_
      refine ⟨(mem_pick (idx := [0, 1, 2, 3, 6, 7, 8]) rfl), ?_⟩
      refine a_end (by kernel_rfl) ?_
      refine q_seq ?_
      refine c_ret rfl ?_
      refine q_know (KC_nil (Kd.int .u64)) ?_
      refine q_take [1, 0, 2, 3, 4, 5, 6, 7, 8, 9] rfl (by decide) ?_
      exact q_retM1 (k := 9) (vs := [.agg #[.slice A l.length c], .agg #[.bool false, .bool false, .int .u64 0, .slice none 0 0]]) (.inl rfl) rfl (.agg [.slice A l.length c] 5 rfl Try.underlying27 rfl SZ27 rfl rfl rfl (.agg [.bool false, .bool false, .int .u64 0, .slice none 0 0] 4 rfl Try.underlying34 rfl SZ34 rfl rfl rfl .nil)) [8, 0] rfl (by decide) (by have e := hX none 0; rw [hs] at e; exact e)
    ·
      obtain ⟨⟨rfl, hr1_, hr2_, hr3_, hr4_⟩, _⟩ := hs
      refine q_block ?_
      refine q_block ?_
      refine q_seq ?_
      refine c_seq rfl ?_
      refine r_any [.b D (.deferred (some [])), .b b5_ (.cells #[.bool false, .bool false, .int .u64 0, .slice (some ⟨g, 0, none⟩) ((KeysFrom l at_).length) cap] 34 (0, 0)), .b g (.cells cur 29 (0, 0)), .b bk7_ (.cells #[.int .u64 o1] 29 (0, 0)), .b bm6_ (.cells #[.slice A l.length c] 27 (0, 0)), .b b2_ (.cells #[.int .i64 5, .int .u64 o1, .int .u64 o2, .int .i64 o3, .int .i64 o4] 31 (0, 0)), .b b1_ (.cells #[.slice A l.length c] 27 (0, 0)), .f (KC k52 A c l)] (by kernel_rfl) rfl (by kernel_rfl) (mem_pick (idx := [0, 1, 2, 3, 4, 7, 8, 9]) rfl) ?_
      refine a_v 0 rfl (by kernel_rfl) (by kernel_rfl) (by kernel_rfl) rfl rfl rfl (v_ldA [.slice A l.length c] 6 rfl Try.underlying27 rfl SZ27 rfl rfl rfl rfl) ?_
      refine a_v 1 rfl (by kernel_rfl) (by kernel_rfl) (by kernel_rfl) rfl rfl rfl (v_ldA [.bool false, .bool false, .int .u64 0, .slice (some ⟨g, 0, none⟩) ((KeysFrom l at_).length) cap] 1 rfl Try.underlying34 rfl SZ34 rfl rfl rfl rfl) ?_
      refine a_1 (i := 2) (by kernel_rfl) ?_
      refine i_e rfl rfl (e_stA 6 rfl rfl SZ27 rfl rfl rfl rfl rfl rfl) ?_
      refine ⟨(mem_pick (idx := [0, 1, 2, 3, 4, 7, 8, 9]) rfl), ?_⟩
      refine a_1 (i := 3) (by kernel_rfl) ?_
      refine i_e rfl rfl (e_stA 5 rfl rfl SZ34 rfl rfl rfl rfl rfl rfl) ?_
      refine ⟨(mem_pick (idx := [0, 1, 2, 3, 4, 7, 8, 9]) rfl), ?_⟩
      refine a_end (by kernel_rfl) ?_
      refine q_seq ?_
      refine c_ret rfl ?_
      refine q_give [2, 0, 1, 3, 4, 5, 6, 7, 8, 9] rfl (by decide) (by simp [ids, Ent.id?]) (KC_own (xs := KeysFrom l at_) hr4_ hr1_ hr2_) ?_
      refine q_take [1, 0, 2, 3, 4, 5, 6, 7, 8, 9] rfl (by decide) ?_
      exact q_retM1 (k := 9) (vs := [.agg #[.slice A l.length c], .agg #[.bool false, .bool false, .int .u64 0, .slice (some ⟨g, 0, none⟩) ((KeysFrom l at_).length) cap]]) (.inl rfl) rfl (.agg [.slice A l.length c] 5 rfl Try.underlying27 rfl SZ27 rfl rfl rfl (.agg [.bool false, .bool false, .int .u64 0, .slice (some ⟨g, 0, none⟩) ((KeysFrom l at_).length) cap] 4 rfl Try.underlying34 rfl SZ34 rfl rfl rfl .nil)) [8, 0] rfl (by decide) (hX _ _)
  · rintro D ce pre s hSp ⟨rfl, p, x, rfl, hs, hx⟩
    obtain rfl := hr1 p x hSp hs.good.1 hs.good.2 hx
    rcases s with _ | ⟨n, g, cap, cur⟩
    ·
      have hs : r5 = [] := hs
      refine c_exit (i := 3) rfl rfl ?_
      refine q_block_here rfl ?_
      refine q_block ?_
      refine q_seq ?_
      refine c_seq rfl ?_
      refine r_any [.b D (.deferred (some [])), .b b5_ (.cells #[.bool false, .bool false, .int .u64 0, .slice none 0 0] 34 (0, 0)), .b bk7_ (.cells #[.int .u64 o1] 29 (0, 0)), .b bm6_ (.cells #[.slice A l.length c] 27 (0, 0)), .b b2_ (.cells #[.int .i64 5, .int .u64 o1, .int .u64 o2, .int .i64 o3, .int .i64 o4] 31 (0, 0)), .b b1_ (.cells #[.slice A l.length c] 27 (0, 0)), .f (KC k52 A c l)] (by kernel_rfl) rfl (by kernel_rfl) (mem_pick (idx := [0, 1, 2, 3, 6, 7, 8]) rfl) ?_
      refine a_v 0 rfl (by kernel_rfl) (by kernel_rfl) (by kernel_rfl) rfl rfl rfl (v_ldA [.slice A l.length c] 5 rfl Try.underlying27 rfl SZ27 rfl rfl rfl rfl) ?_
      refine a_v 1 rfl (by kernel_rfl) (by kernel_rfl) (by kernel_rfl) rfl rfl rfl (v_ldA [.bool false, .bool false, .int .u64 0, .slice none 0 0] 1 rfl Try.underlying34 rfl SZ34 rfl rfl rfl rfl) ?_
      refine a_1 (i := 2) (by kernel_rfl) ?_
      refine i_e rfl rfl (e_stA 5 rfl rfl SZ27 rfl rfl rfl rfl rfl rfl) ?_
      refine ⟨(mem_pick (idx := [0, 1, 2, 3, 6, 7, 8]) rfl), ?_⟩
      refine a_1 (i := 3) (by kernel_rfl) ?_
      refine i_e rfl rfl (e_stA 4 rfl rfl SZ34 rfl rfl rfl rfl rfl rfl) ?_
      refine ⟨(mem_pick (idx := [0, 1, 2, 3, 6, 7, 8]) rfl), ?_⟩
      refine a_end (by kernel_rfl) ?_
      refine q_seq ?_
      refine c_ret rfl ?_
      refine q_know (KC_nil (Kd.int .u64)) ?_
      refine q_take [1, 0, 2, 3, 4, 5, 6, 7, 8, 9] rfl (by decide) ?_
      exact q_retM1 (k := 9) (vs := [.agg #[.slice A l.length c], .agg #[.bool false, .bool false, .int .u64 0, .slice none 0 0]]) (.inl rfl) rfl (.agg [.slice A l.length c] 5 rfl Try.underlying27 rfl SZ27 rfl rfl rfl (.agg [.bool false, .bool false, .int .u64 0, .slice none 0 0] 4 rfl Try.underlying34 rfl SZ34 rfl rfl rfl .nil)) [8, 0] rfl (by decide) (by have e := hX none 0; rw [hs] at e; exact e)
    ·
      obtain ⟨⟨rfl, hr1_, hr2_, hr3_, hr4_⟩, _⟩ := hs
      refine c_exit (i := 3) rfl rfl ?_
      refine q_block_here rfl ?_
      refine q_block ?_
      refine q_seq ?_
      refine c_seq rfl ?_
      refine r_any [.b D (.deferred (some [])), .b b5_ (.cells #[.bool false, .bool false, .int .u64 0, .slice (some ⟨g, 0, none⟩) r5.length cap] 34 (0, 0)), .b g (.cells cur 29 (0, 0)), .b bk7_ (.cells #[.int .u64 o1] 29 (0, 0)), .b bm6_ (.cells #[.slice A l.length c] 27 (0, 0)), .b b2_ (.cells #[.int .i64 5, .int .u64 o1, .int .u64 o2, .int .i64 o3, .int .i64 o4] 31 (0, 0)), .b b1_ (.cells #[.slice A l.length c] 27 (0, 0)), .f (KC k52 A c l)] (by kernel_rfl) rfl (by kernel_rfl) (mem_pick (idx := [0, 1, 2, 3, 4, 7, 8, 9]) rfl) ?_
      refine a_v 0 rfl (by kernel_rfl) (by kernel_rfl) (by kernel_rfl) rfl rfl rfl (v_ldA [.slice A l.length c] 6 rfl Try.underlying27 rfl SZ27 rfl rfl rfl rfl) ?_
      refine a_v 1 rfl (by kernel_rfl) (by kernel_rfl) (by kernel_rfl) rfl rfl rfl (v_ldA [.bool false, .bool false, .int .u64 0, .slice (some ⟨g, 0, none⟩) r5.length cap] 1 rfl Try.underlying34 rfl SZ34 rfl rfl rfl rfl) ?_
      refine a_1 (i := 2) (by kernel_rfl) ?_
      refine i_e rfl rfl (e_stA 6 rfl rfl SZ27 rfl rfl rfl rfl rfl rfl) ?_
      refine ⟨(mem_pick (idx := [0, 1, 2, 3, 4, 7, 8, 9]) rfl), ?_⟩
      refine a_1 (i := 3) (by kernel_rfl) ?_
      refine i_e rfl rfl (e_stA 5 rfl rfl SZ34 rfl rfl rfl rfl rfl rfl) ?_
      refine ⟨(mem_pick (idx := [0, 1, 2, 3, 4, 7, 8, 9]) rfl), ?_⟩
      refine a_end (by kernel_rfl) ?_
      refine q_seq ?_
      refine c_ret rfl ?_
      refine q_give [2, 0, 1, 3, 4, 5, 6, 7, 8, 9] rfl (by decide) (by simp [ids, Ent.id?]) (KC_own (xs := r5) hr4_ hr1_ hr2_) ?_
      refine q_take [1, 0, 2, 3, 4, 5, 6, 7, 8, 9] rfl (by decide) ?_
      exact q_retM1 (k := 9) (vs := [.agg #[.slice A l.length c], .agg #[.bool false, .bool false, .int .u64 0, .slice (some ⟨g, 0, none⟩) r5.length cap]]) (.inl rfl) rfl (.agg [.slice A l.length c] 5 rfl Try.underlying27 rfl SZ27 rfl rfl rfl (.agg [.bool false, .bool false, .int .u64 0, .slice (some ⟨g, 0, none⟩) r5.length cap] 4 rfl Try.underlying34 rfl SZ34 rfl rfl rfl .nil)) [8, 0] rfl (by decide) (hX _ _)
set_option maxRecDepth 100000 in
set_option maxHeartbeats 4000000 in
theorem do_ceiling (k : Nat) (A : Option Addr) (c : Nat) (l : List S52) (o1 o2 o3 o4 : Int) (at_ : Nat) (is : Bool) (hp : seq_Map_place.f k l o1 = some ((at_ : Int), is)) (hat : at_ ≤ l.length) (hlm : l.length ≤ 1000000) (r3 : Bool) (r4 : Int) (hr0 : KeysFrom l at_ = [] → r3 = false ∧ r4 = 0) (hr1 : ∀ x, [x] <+: KeysFrom l at_ → r3 = true ∧ r4 = x) (w0 : World) (H : List Nat) : Con Try.prog 11 #[.agg #[.slice A l.length c], .agg #[.int .i64 4, .int .u64 o1, .int .u64 o2, .int .i64 o3, .int .i64 o4]] w0 H [.f (KC k52 A c l)] (fun X => ∀ A2 c2, X (.tuple #[.agg #[.slice A l.length c], .agg #[.bool false, .bool r3, .int .u64 r4, .slice A2 ([] : List Int).length c2]]) [.f (KC k52 A c l), .f (KC (Kd.int .u64) A2 c2 ([] : List Int))]) := by
  refine con_enterM (c := bodyOf Try.f11) (k := 9) Try.func11 rfl (m := 84) rfl rfl rfl ?_
  intro X hX _
  refine c_seq rfl ?_
  refine r_ord (l := [0, 1, 2, 3]) rfl (by kernel_rfl) (by kernel_rfl) ?_
  refine s_e rfl rfl (e_box rfl rfl rfl rfl) ?_
  intro b1_
  refine s_e rfl rfl (e_box rfl rfl rfl rfl) ?_
  intro b2_
  refine s_e rfl rfl (e_alloc rfl rfl rfl ZR27) ?_
  intro b3_
  refine s_e rfl rfl (e_alloc rfl rfl rfl ZR34) ?_
  intro b4_
  refine s_end ?_
  refine q_seq ?_
  refine c_seq rfl ?_
  refine r_ord (l := [0]) rfl (by kernel_rfl) (by kernel_rfl) ?_
  refine s_e rfl rfl (e_alloc rfl rfl rfl ZR34) ?_
  intro b5_
  refine s_end ?_
  refine q_seq ?_
  refine c_seq rfl ?_
  refine c_seq rfl ?_
  refine r_ord (l := [0, 1]) rfl (by kernel_rfl) (by kernel_rfl) ?_
  refine s_v rfl rfl rfl rfl (v_fa rfl Try.underlying31 rfl SZ3 rfl) ?_
  refine s_v rfl rfl rfl rfl (v_ld 3 rfl Try.underlying3 rfl rfl rfl rfl) ?_
  refine s_end ?_
  refine q_seq ?_
  refine c_block rfl ?_
  refine c_seq rfl ?_
  refine r_ord (l := [0, 1]) rfl (by kernel_rfl) (by kernel_rfl) ?_
  refine s_v rfl rfl rfl rfl (v_arith rfl rfl rfl rfl) ?_
  refine s_v rfl rfl rfl rfl (v_assign rfl rfl) ?_
  refine s_end ?_
  refine q_seq ?_
  refine c_cond0 rfl rfl ?_
  refine c_seq rfl ?_
  refine r_ord (l := [0, 1]) rfl (by kernel_rfl) (by kernel_rfl) ?_
  refine s_v rfl rfl rfl rfl (v_arith rfl rfl rfl rfl) ?_
  refine s_v rfl rfl rfl rfl (v_assign rfl rfl) ?_
  refine s_end ?_
  refine q_seq ?_
  refine c_cond0 rfl rfl ?_
  refine c_seq rfl ?_
  refine r_ord (l := [0, 1]) rfl (by kernel_rfl) (by kernel_rfl) ?_
  refine s_v rfl rfl rfl rfl (v_arith rfl rfl rfl rfl) ?_
  refine s_v rfl rfl rfl rfl (v_assign rfl rfl) ?_
  refine s_end ?_
  refine q_seq ?_
  refine c_cond0 rfl rfl ?_
  refine c_seq rfl ?_
  refine r_ord (l := [0, 1]) rfl (by kernel_rfl) (by kernel_rfl) ?_
  refine s_v rfl rfl rfl rfl (v_arith rfl rfl rfl rfl) ?_
  refine s_v rfl rfl rfl rfl (v_assign rfl rfl) ?_
  refine s_end ?_
  refine q_seq ?_
  refine c_cond1 rfl rfl ?_
  refine c_seq rfl ?_
  refine r_ord (l := [0, 1, 2, 3]) rfl (by kernel_rfl) (by kernel_rfl) ?_
  refine s_v rfl rfl rfl rfl (v_ldA [.slice A l.length c] 4 rfl Try.underlying27 rfl SZ27 rfl rfl rfl rfl) ?_
  refine s_v rfl rfl rfl rfl (v_fa rfl Try.underlying31 rfl SZ29 rfl) ?_
  refine s_v rfl rfl rfl rfl (v_ld 3 rfl Try.underlying29 rfl rfl rfl rfl) ?_
  refine s_e rfl rfl (e_call [] [0, 1, 2, 3, 4, 5] #[.agg #[.slice A l.length c], .int .u64 o1] rfl rfl rfl rfl rfl Try.func25 rfl (by decide) rfl rfl rfl rfl (by decide) (fun w ht => from_con _ _ _ _ w _)) ?_
  intro bm6_ bk7_
  refine s_end ?_
  refine q_seq ?_
  refine c_block rfl ?_
  refine c_range (N := l.length - at_) (S := fun ys => ys = KeysFrom l at_) (Sp := fun pre => pre <+: KeysFrom l at_) (fun x : Int => #[Value.int .u64 x]) (gf := 33) (lb := [.pointer (some ⟨bm6_, 0, none⟩), .pointer (some ⟨bk7_, 0, none⟩)]) (ps := #[53]) [3, 4] [0, 1, 2, 5, 6, 7] (fun pre (s : Option Int) => pre = [] ∧ s = none) (fun pre c s => c = .ret ∧ ∃ x, pre = [x] ∧ s = some x) (fun s : Option Int => match s with | none => [.b b4_ (.cells #[.bool false, .bool false, .int .u64 0, .slice none 0 0] 34 (0, 0)), .b b3_ (.cells #[.slice none 0 0] 27 (0, 0))] | some x => [.b b4_ (.cells #[.bool false, .bool true, .int .u64 x, .slice none 0 0] 34 (0, 0)), .b b3_ (.cells #[.slice A l.length c] 27 (0, 0))]) (fun x => [(9, .int .u64 x), (53, .int .u64 x)]) none rfl rfl rfl (fun _ => rfl) (by decide) Try.func33 rfl (by decide) rfl rfl (by decide) ?_ ⟨rfl, rfl⟩ rfl ?_ ?_ ?_ ?_ ?_
  · rintro (_ | x) e he <;> simp only [List.mem_cons, List.not_mem_nil, or_false] at he <;> rcases he with rfl | rfl <;> exact ⟨_, _, _, rfl⟩
  · intro w ht
    refine from1_stops k _ (by decide) bm6_ bk7_ _ A c l o1 at_ is hp hat hlm w (ht.at_ _ _ (List.mem_of_getElem? (i := 1) rfl)) (ht.at_ _ _ (List.mem_of_getElem? (i := 0) rfl)) ?_ ?_ ((ht.facts _ (List.mem_of_getElem? (i := 7) rfl)).mono ?_)
    · exact tri_disj ht (i := 1) rfl (idx := [3, 4]) rfl (by decide)
    · exact tri_disj ht (i := 0) rfl (idx := [3, 4]) rfl (by decide)
    · exact fun x hx _ => List.mem_append_right _ (pick_ids (idx := [3, 4]) rfl x hx)
  · intro lv x a W K hf hk
    refine assign_one (F1 := [(9, .int .u64 x), (53, .int .u64 x)] ++ _) (fr_params hf rfl) hk ?_
    refine r_ord (l := [0]) rfl (by kernel_rfl) (by kernel_rfl) ?_
    refine s_v rfl rfl rfl rfl (v_assign rfl rfl) ?_
    refine s_end ?_
    exact q_assigned (fun _ _ h => h)
  · intro lv pre x s W hs hlen
    obtain ⟨rfl, rfl⟩ := hs
    refine c_block rfl ?_
    refine c_seq rfl ?_
    refine r_ord (l := [0, 1, 2, 3, 4]) rfl (by kernel_rfl) (by kernel_rfl) ?_
    refine s_v rfl rfl rfl rfl (v_ldAr [.slice A l.length c] 6 rfl Try.underlying27 rfl SZ27 rfl rfl rfl rfl) ?_
    refine s_v rfl rfl rfl rfl (v_move rfl rfl) ?_
    refine s_v rfl rfl rfl rfl (v_build (places := #[(0, 1), (1, 1), (2, 1), (3, 1)]) #[.bool false, .bool true, .int .u64 x, .slice none 0 0] rfl ZR34 Try.underlying34 (by kernel_rfl) rfl rfl) ?_
    refine s_e rfl rfl (e_stA 1 rfl rfl SZ27 rfl rfl rfl rfl rfl rfl) ?_
    refine s_e rfl rfl (e_stA 0 rfl rfl SZ34 rfl rfl rfl rfl rfl rfl) ?_
    refine s_end ?_
    refine q_seq ?_
    refine c_ret rfl ?_
    refine q_block_ret ?_
    exact q_round_ret (some x) [0, 1] rfl rfl (by decide) ⟨rfl, x, rfl, rfl⟩
  · rintro D xs s hS ⟨rfl, rfl⟩
    obtain ⟨rfl, rfl⟩ := hr0 hS.symm
    refine q_block ?_
    refine q_block ?_
    refine q_seq ?_
    refine c_seq rfl ?_
    refine r_any [.b D (.deferred (some [])), .b bk7_ (.cells #[.int .u64 o1] 29 (0, 0)), .b bm6_ (.cells #[.slice A l.length c] 27 (0, 0)), .b b5_ (.cells #[.bool false, .bool false, .int .u64 0, .slice none 0 0] 34 (0, 0)), .b b2_ (.cells #[.int .i64 4, .int .u64 o1, .int .u64 o2, .int .i64 o3, .int .i64 o4] 31 (0, 0)), .b b1_ (.cells #[.slice A l.length c] 27 (0, 0)), .f (KC k52 A c l)] (by kernel_rfl) rfl (by kernel_rfl) (mem_pick (idx := [0, 3, 4, 5, 6, 7, 8]) rfl) ?_
    refine a_v 0 rfl (by kernel_rfl) (by kernel_rfl) (by kernel_rfl) rfl rfl rfl (v_ldA [.slice A l.length c] 5 rfl Try.underlying27 rfl SZ27 rfl rfl rfl rfl) ?_
    refine a_v 1 rfl (by kernel_rfl) (by kernel_rfl) (by kernel_rfl) rfl rfl rfl (v_ldA [.bool false, .bool false, .int .u64 0, .slice none 0 0] 3 rfl Try.underlying34 rfl SZ34 rfl rfl rfl rfl) ?_
    refine a_1 (i := 2) (by kernel_rfl) ?_
    refine i_e rfl rfl (e_stA 2 rfl rfl SZ27 rfl rfl rfl rfl rfl rfl) ?_
    refine ⟨(mem_pick (idx := [0, 3, 4, 5, 6, 7, 8]) rfl), ?_⟩
    refine a_1 (i := 3) (by kernel_rfl) ?_
    refine i_e rfl rfl (e_stA 1 rfl rfl SZ34 rfl rfl rfl rfl rfl rfl) ?_
    refine ⟨(mem_pick (idx := [0, 3, 4, 5, 6, 7, 8]) rfl), ?_⟩
    refine a_end (by kernel_rfl) ?_
    refine q_seq ?_
    refine c_ret rfl ?_
    refine q_know (KC_nil (Kd.int .u64)) ?_
    refine q_take [1, 0, 2, 3, 4, 5, 6, 7, 8, 9] rfl (by decide) ?_
    exact q_retM1 (k := 9) (vs := [.agg #[.slice A l.length c], .agg #[.bool false, .bool false, .int .u64 0, .slice none 0 0]]) (.inl rfl) rfl (.agg [.slice A l.length c] 2 rfl Try.underlying27 rfl SZ27 rfl rfl rfl (.agg [.bool false, .bool false, .int .u64 0, .slice none 0 0] 1 rfl Try.underlying34 rfl SZ34 rfl rfl rfl .nil)) [8, 0] rfl (by decide) (hX _ _)
  · rintro D c pre s hSp ⟨rfl, x, rfl, rfl⟩
    obtain ⟨rfl, rfl⟩ := hr1 x hSp
    refine c_ret rfl ?_
    refine q_block_ret ?_
    refine q_block_ret ?_
    refine q_then_ret ?_
    refine q_know (KC_nil (Kd.int .u64)) ?_
    refine q_take [1, 0, 2, 3, 4, 5, 6, 7, 8, 9] rfl (by decide) ?_
    exact q_retM1 (k := 9) (vs := [.agg #[.slice A l.length c], .agg #[.bool false, .bool true, .int .u64 r4, .slice none 0 0]]) (.inl rfl) rfl (.agg [.slice A l.length c] 2 rfl Try.underlying27 rfl SZ27 rfl rfl rfl (.agg [.bool false, .bool true, .int .u64 r4, .slice none 0 0] 1 rfl Try.underlying34 rfl SZ34 rfl rfl rfl .nil)) [8, 0] rfl (by decide) (hX _ _)
set_option maxRecDepth 100000 in
set_option maxHeartbeats 4000000 in
theorem do_other (k : Nat) (A : Option Addr) (c : Nat) (l : List S52) (o1 o2 o3 o4 : Int) (kd : Int) (hk1 : (kd == 1) = false) (hk2 : (kd == 2) = false) (hk3 : (kd == 3) = false) (hk4 : (kd == 4) = false) (hk5 : (kd == 5) = false) (w0 : World) (H : List Nat) : Con Try.prog 11 #[.agg #[.slice A l.length c], .agg #[.int .i64 kd, .int .u64 o1, .int .u64 o2, .int .i64 o3, .int .i64 o4]] w0 H [.f (KC k52 A c l)] (fun X => ∀ A2 c2, X (.tuple #[.agg #[.slice A l.length c], .agg #[.bool false, .bool false, .int .u64 0, .slice A2 ([] : List Int).length c2]]) [.f (KC k52 A c l), .f (KC (Kd.int .u64) A2 c2 ([] : List Int))]) := by
  refine con_enterM (c := bodyOf Try.f11) (k := 9) Try.func11 rfl (m := 84) rfl rfl rfl ?_
  intro X hX _
  refine c_seq rfl ?_
  refine r_ord (l := [0, 1, 2, 3]) rfl (by kernel_rfl) (by kernel_rfl) ?_
  refine s_e rfl rfl (e_box rfl rfl rfl rfl) ?_
  intro b1_
  refine s_e rfl rfl (e_box rfl rfl rfl rfl) ?_
  intro b2_
  refine s_e rfl rfl (e_alloc rfl rfl rfl ZR27) ?_
  intro b3_
  refine s_e rfl rfl (e_alloc rfl rfl rfl ZR34) ?_
  intro b4_
  refine s_end ?_
  refine q_seq ?_
  refine c_seq rfl ?_
  refine r_ord (l := [0]) rfl (by kernel_rfl) (by kernel_rfl) ?_
  refine s_e rfl rfl (e_alloc rfl rfl rfl ZR34) ?_
  intro b5_
  refine s_end ?_
  refine q_seq ?_
  refine c_seq rfl ?_
  refine c_seq rfl ?_
  refine r_ord (l := [0, 1]) rfl (by kernel_rfl) (by kernel_rfl) ?_
  refine s_v rfl rfl rfl rfl (v_fa rfl Try.underlying31 rfl SZ3 rfl) ?_
  refine s_v rfl rfl rfl rfl (v_ld 3 rfl Try.underlying3 rfl rfl rfl rfl) ?_
  refine s_end ?_
  refine q_seq ?_
  refine c_block rfl ?_
  refine c_seq rfl ?_
  refine r_ord (l := [0, 1]) rfl (by kernel_rfl) (by kernel_rfl) ?_
  refine s_v rfl rfl rfl rfl (v_arith rfl rfl rfl rfl) ?_
  refine s_v rfl rfl rfl rfl (v_assign rfl rfl) ?_
  refine s_end ?_
  refine q_seq ?_
  refine c_cond rfl rfl (fun h => absurd (h.symm.trans hk1) (by decide)) (fun _ => ?_)
  refine c_seq rfl ?_
  refine r_ord (l := [0, 1]) rfl (by kernel_rfl) (by kernel_rfl) ?_
  refine s_v rfl rfl rfl rfl (v_arith rfl rfl rfl rfl) ?_
  refine s_v rfl rfl rfl rfl (v_assign rfl rfl) ?_
  refine s_end ?_
  refine q_seq ?_
  refine c_cond rfl rfl (fun h => absurd (h.symm.trans hk2) (by decide)) (fun _ => ?_)
  refine c_seq rfl ?_
  refine r_ord (l := [0, 1]) rfl (by kernel_rfl) (by kernel_rfl) ?_
  refine s_v rfl rfl rfl rfl (v_arith rfl rfl rfl rfl) ?_
  refine s_v rfl rfl rfl rfl (v_assign rfl rfl) ?_
  refine s_end ?_
  refine q_seq ?_
  refine c_cond rfl rfl (fun h => absurd (h.symm.trans hk3) (by decide)) (fun _ => ?_)
  refine c_seq rfl ?_
  refine r_ord (l := [0, 1]) rfl (by kernel_rfl) (by kernel_rfl) ?_
  refine s_v rfl rfl rfl rfl (v_arith rfl rfl rfl rfl) ?_
  refine s_v rfl rfl rfl rfl (v_assign rfl rfl) ?_
  refine s_end ?_
  refine q_seq ?_
  refine c_cond rfl rfl (fun h => absurd (h.symm.trans hk4) (by decide)) (fun _ => ?_)
  refine c_seq rfl ?_
  refine r_ord (l := [0, 1]) rfl (by kernel_rfl) (by kernel_rfl) ?_
  refine s_v rfl rfl rfl rfl (v_arith rfl rfl rfl rfl) ?_
  refine s_v rfl rfl rfl rfl (v_assign rfl rfl) ?_
  refine s_end ?_
  refine q_seq ?_
  refine c_cond rfl rfl (fun h => absurd (h.symm.trans hk5) (by decide)) (fun _ => ?_)
  refine c_skip rfl ?_
  refine q_block ?_
  refine q_seq ?_
  refine c_seq rfl ?_
  refine r_any [.b b5_ (.cells #[.bool false, .bool false, .int .u64 0, .slice none 0 0] 34 (0, 0)), .b b2_ (.cells #[.int .i64 kd, .int .u64 o1, .int .u64 o2, .int .i64 o3, .int .i64 o4] 31 (0, 0)), .b b1_ (.cells #[.slice A l.length c] 27 (0, 0)), .f (KC k52 A c l)] (by kernel_rfl) rfl (by kernel_rfl) (mem_pick (idx := [0, 3, 4, 5]) rfl) ?_
  refine a_v 0 rfl (by kernel_rfl) (by kernel_rfl) (by kernel_rfl) rfl rfl rfl (v_ldA [.slice A l.length c] 2 rfl Try.underlying27 rfl SZ27 rfl rfl rfl rfl) ?_
  refine a_v 1 rfl (by kernel_rfl) (by kernel_rfl) (by kernel_rfl) rfl rfl rfl (v_ldA [.bool false, .bool false, .int .u64 0, .slice none 0 0] 0 rfl Try.underlying34 rfl SZ34 rfl rfl rfl rfl) ?_
  refine a_1 (i := 2) (by kernel_rfl) ?_
  refine i_e rfl rfl (e_stA 2 rfl rfl SZ27 rfl rfl rfl rfl rfl rfl) ?_
  refine ⟨(mem_pick (idx := [0, 3, 4, 5]) rfl), ?_⟩
  refine a_1 (i := 3) (by kernel_rfl) ?_
  refine i_e rfl rfl (e_stA 1 rfl rfl SZ34 rfl rfl rfl rfl rfl rfl) ?_
  refine ⟨(mem_pick (idx := [0, 3, 4, 5]) rfl), ?_⟩
  refine a_end (by kernel_rfl) ?_
  refine q_seq ?_
  refine c_ret rfl ?_
  refine q_know (KC_nil (Kd.int .u64)) ?_
  exact q_retM (k := 9) (vs := [.agg #[.slice A l.length c], .agg #[.bool false, .bool false, .int .u64 0, .slice none 0 0]]) (.inl rfl) rfl (.agg [.slice A l.length c] 3 rfl Try.underlying27 rfl SZ27 rfl rfl rfl (.agg [.bool false, .bool false, .int .u64 0, .slice none 0 0] 2 rfl Try.underlying34 rfl SZ34 rfl rfl rfl .nil)) [6, 0] rfl (by decide) (hX _ _)
end Go.Eng
